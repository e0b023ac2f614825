/- What these functions of the program and of the plain reference compute, and plain lemmas on it: MatcherRead, MatcherLaw3, MatcherParse, Plaw04Alive. Conditions: as each lemma says. -/
import Derived.Test.YtnbbfjddjmklpaaDoorMLawMatcherHolds5
import Derived.Test.YtnbbfjddjmklpaaDoorMLawMatcherHolds0
import Derived.Maps.RangeWalk
import Derived.Lib.SplitLaws
import Derived.Lib.IndexLaws
/- matcher.Parse: the matcher that a text names. Conditions: the library's variable holds some number. -/
namespace Go.Proofs.YtnbbfjddjmklpaaDoor.P
open Go.RowKit Go.Maps Go.Proofs.YtnbbfjddjmklpaaDoorW.PrintWords Go.Proofs.YtnbbfjddjmklpaaDoorW.PrintLast Go.Proofs.YtnbbfjddjmklpaaDoorW.PrintMore
set_option linter.unusedSimpArgs false
set_option linter.unusedVariables false

def wordsB (b:ByteArray):List ByteArray:=Lib.splitB ⟨#[124]⟩ 0 (Lib.countB b ⟨#[124]⟩) b
def trimB (s p:ByteArray):ByteArray:=⟨(Lib.trimSuffix s.data.toList p.data.toList).toArray⟩
def okW (s head:ByteArray) (ws:List ByteArray) (how:Int):Bool :=
 Lib.hasSuffix head.data.toList (signOf how).data.toList && mrightB (trimB head (signOf how)) how ws && (mtextB (trimB head (signOf how)) how ws).toList == s.toList
theorem trim_size (s p:ByteArray):(trimB s p).size≤s.size:=by
 have h:(Lib.trimSuffix s.data.toList p.data.toList).length≤s.data.toList.length:=by
  unfold Lib.trimSuffix
  split
  ·rw [List.length_take];omega
  ·exact Nat.le_refl _
 rw [data_length] at h
 show (List.toArray _).size≤_
 rw [List.size_toArray]
 exact h
theorem words_length (b:ByteArray):(wordsB b).length=Lib.countB b ⟨#[124]⟩+1:=Lib.splitB_all ⟨#[124]⟩ (by decide) 0 _ b rfl
theorem C_of_cells {w:World} {g:Nat} {xs:List ByteArray} {t:TypeId} (h:w.heap[g]?=some (.cells (xs.map Value.string).toArray t (0,0))) (hl:xs.length≤9223372036854775807):Kd.C Kd.string w (some ⟨g,0,none⟩) xs.length xs:=by
 refine ⟨rfl,hl,fun hn=>⟨_,rfl,fun j p hj=>⟨[.string p],rfl,rfl,fun i u hu=>?_⟩⟩⟩
 cases i with
 | succ i=>simp at hu
 | zero =>
  simp only [List.getElem?_cons_zero,Option.some.injEq] at hu
  subst hu
  rw [add_plain]
  show w.cell? ⟨g,j*1+0,none⟩=_
  rw [Nat.mul_one,Nat.add_zero,blk_cell h j]
  simp [hj]
theorem own_of_cells {w:World} {g base:Nat} {xs:List ByteArray} {t:TypeId} (h:w.heap[g]?=some (.cells (xs.map Value.string).toArray t (0,0))) (hb:base≤g) (hl:xs.length≤maxLen):w.ownsRow base t 1 (.slice (some ⟨g,0,none⟩) xs.length xs.length) xs.length (encs Value.string xs):=by
 refine ⟨by rw [encs_length,Nat.mul_one],.inr ⟨g,xs.length,(xs.map Value.string).toArray,rfl,hb,h,Nat.le_refl _,hl,by simp,?_⟩⟩
 unfold encs
 simpa using List.take_of_length_le (show (List.map Value.string xs).length≤xs.length by simp)
theorem cut_sizes (s:ByteArray) (c:UInt8):(cutAt s c).1.size≤s.size∧(cutAt s c).2.1.size≤s.size:=by
 unfold cutAt
 split
 ·simp only [ByteArray.size_extract]
  omega
 ·exact ⟨Nat.le_refl _,Nat.zero_le _⟩
theorem ranges_below {w w':World} {P:Program} {k:TypeId} {R:Value→Option (DataW Unit×List MemPlace)} {b r n:Nat} {D:DataW Unit} {left:Lit→Bool} {cnt:Nat} (h:w.ranges P k R b r n D left cnt) (hb:Below w.heap.size w w'):w'.ranges P k R b r n D left cnt:=by
 obtain ⟨es,clock,since,seen,c0,h1,F,h3,h4,h5,h6⟩:=h
 exact ⟨es,clock,since,seen,c0,blk_below h1 hb,F,h3,h4,blk_below h5 hb,h6⟩
theorem ranges_iter_ne {w:World} {P:Program} {k:TypeId} {R:Value→Option (DataW Unit×List MemPlace)} {b r n:Nat} {D:DataW Unit} {left:Lit→Bool} {cnt:Nat} (h:w.ranges P k R b r n D left cnt) {g:Nat} {cs:Array Value} {t:TypeId} {fr:Nat×Nat} (hg:w.heap[g]?=some (.cells cs t fr)):some g≠some r:=by
 obtain ⟨es,clock,since,seen,c0,h1,F,h3,h4,h5,h6⟩:=h
 intro e
 cases e
 rw [hg] at h5
 cases h5
theorem ranges_far {w:World} {P:Program} {k:TypeId} {R:Value→Option (DataW Unit×List MemPlace)} {b r n:Nat} {D:DataW Unit} {left:Lit→Bool} {cnt:Nat} (h:w.ranges P k R b r n D left cnt) {g:Nat} {cs:Array Value} {t:TypeId} {fr:Nat×Nat} (hg:w.heap[g]?=some (.cells cs t fr)) (j:Nat) (v:Value):(w.setCell ⟨g,j,none⟩ v).ranges P k R b r n D left cnt:=by
 obtain ⟨es,clock,since,seen,c0,h1,F,h3,h4,h5,h6⟩:=h
 have hb:b≠g:=fun e=>by rw [e,hg] at h1;cases h1
 have hr:r≠g:=fun e=>by rw [e,hg] at h5;cases h5
 exact ⟨es,clock,since,seen,c0,(Below.heap_setCell _ _ _ _ hb).trans h1,F,h3,h4,(Below.heap_setCell _ _ _ _ hr).trans h5,h6⟩
theorem sign_of {x:Int} {c:ByteArray} (h:∀ zd:DataW Unit,signsD.atKey (.int .i64 x) zd=.lit (.string c.data.toList)):(1≤x∧x≤4)∧signOf x=c:=by
 have h1:=h (.lit (.bool true))
 rw [signs_at] at h1
 cases hi:isSign x with
 | false =>
  rw [hi,if_neg (by decide)] at h1
  cases h1
 | true =>
  rw [hi,if_pos rfl] at h1
  injection h1 with h1
  injection h1 with h1
  refine ⟨?_,ByteArray.ext (Array.toList_inj.1 h1)⟩
  unfold isSign at hi
  simpa using hi
theorem put_three {W:World} {B:Nat} {a b c a' b' c':Value} {t:TypeId} (h:W.heap[B]?=some (.cells #[a,b,c] t (0,0))) :
  (((W.setCell ⟨B,0,none⟩ a').setCell ⟨B,1,none⟩ b').setCell ⟨B,2,none⟩ c').heap[B]?=some (.cells #[a',b',c'] t (0,0)):=by
 simp [World.setCell,Array.getElem?_modify,h]
theorem put_three_other {W:World} {B D:Nat} {a' b' c':Value} (h:D≠B):(((W.setCell ⟨B,0,none⟩ a').setCell ⟨B,1,none⟩ b').setCell ⟨B,2,none⟩ c').heap[D]?=W.heap[D]? :=
 (Below.heap_setCell _ _ _ _ h).trans ((Below.heap_setCell _ _ _ _ h).trans (Below.heap_setCell _ _ _ _ h))
theorem split_any (b:ByteArray) (hs:b.size≤1000000) (w:World) (hK:KeysIn w) :
  Calls Tryd.prog 26 #[.string b,.string ⟨#[124]⟩] w fun e w'=>∃ g,e=.returned (.slice (some ⟨g,0,none⟩) (wordsB b).length (wordsB b).length)∧w'.heap[g]?=some (.cells ((wordsB b).map Value.string).toArray 9 (0,0))∧w.heap.size≤g∧Below w.heap.size w w':=by
 obtain ⟨m,hm⟩:=hK
 refine (Tryd.strings_Split b ⟨#[124]⟩ m w (by omega) hm (by decide)).mono ?_
 rintro e w' ⟨rfl,rfl⟩
 exact ⟨w.heap.size,by rw [words_length],blk_new w _,Nat.le_refl _,below_alloc (Below.refl _ _) _⟩
def ParsePost (s head:ByteArray) (ws:List ByteArray) (w:World) (e:Ending) (w':World):Prop :=
 (∃ (how:Int) (v:Value),(1≤how∧how≤4)∧okW s head ws how=true∧e=.returned (.tuple #[.agg #[.string (trimB head (signOf how)),.int .i64 how,v],.int .i64 0])∧Kd.R Kd.string 9 w' w.heap.size (fun _=>True) v ws∧Below w.heap.size w w') ∨
 ((∀ how:Int,1≤how→how≤4→okW s head ws how=false)∧e=.returned (.tuple #[.agg #[.string ⟨#[]⟩,.int .i64 0,.slice none 0 0],.int .i64 6])∧Below w.heap.size w w')
set_option maxHeartbeats 4000000 in
set_option maxRecDepth 100000 in
theorem parse_walk (s:ByteArray) (hs:s.size≤1000000) (w:World) (hK:KeysIn w) :
  Calls Tryd.prog 11 #[.string s] w (ParsePost s (cutAt s 34).1 (wordsB (trimB (cutAt s 34).2.1 ⟨#[34]⟩)) w):=by
 have hcut:=fun W=>cut_any s 34 W (by omega)
 have hz:=cut_sizes s 34
 obtain ⟨head,rest,tb,hq⟩:∃ head rest tb,cutAt s 34=(head,rest,tb):=⟨_,_,_,rfl⟩
 rw [hq] at hcut hz ⊢
 dsimp only at hcut hz ⊢
 have htrim:=fun W=>Tryd.strings_TrimSuffix rest ⟨#[34]⟩ W (by omega)
 have hbz:=trim_size rest ⟨#[34]⟩
 have hbd:(⟨(Lib.trimSuffix rest.data.toList (⟨#[34]⟩:ByteArray).data.toList).toArray⟩:ByteArray)=trimB rest ⟨#[34]⟩:=rfl
 rw [hbd] at htrim
 generalize trimB rest ⟨#[34]⟩=body at *
 have hsplit:=fun W hk=>split_any body (by omega) W hk
 have hwl:(wordsB body).length≤1000001:=by
  have:=Lib.countB_le ⟨#[124]⟩ (by decide) body.size body (Nat.le_refl _)
  rw [words_length]
  omega
 generalize wordsB body=ws at *
 have HWL:Aside0 (ws.length≤9223372036854775807):=⟨by omega⟩
 have HHZ:Aside0 (head.size≤1000000):=⟨by omega⟩
 have HWM:Aside0 (ws.length≤maxLen):=⟨by unfold maxLen;omega⟩
 have HCUT:=Aside0.mk hcut
 have HTRIM:=Aside0.mk htrim
 have HSPLIT:=Aside0.mk hsplit
 have HK:=Aside0.mk hK
 clear hcut htrim hsplit hK hz hbz hbd hwl hq hs
 go_enter Tryd.func11,Tryd.ntmps11
 go_wp2_with (first
  | ((with_reducible refine gate_dst (N:=2) rfl ?_);refine box_event ?hg (N:=2) ?hd (cs:=#[.string ⟨#[]⟩,.int .i64 0,.slice none 0 0]) (t:=24) ?hr ?_;(case hd=>rfl);(case hg=>rfl);(case hr=>first|(go_simp;done)|(go_simp;rfl));intro gR hgR w1 hbox hb;have BR:=Aside0.mk hbox;have HB:=Aside0.mk hb;have GR:Aside0 (w.heap.size≤gR):=⟨by rw [hgR];exact Nat.le_refl _⟩;clear hb hbox hgR)
  | (go_at_call 25;refine (HCUT.out _).mono ?_;rintro e w2 ⟨rfl,hb2⟩;have BR2:=Aside0.mk (blk_below BR.out hb2);have HB2:=Aside0.mk (below_step HB.out hb2);clear hb2)
  | (go_at_call 27;refine (HTRIM.out _).mono ?_;rintro e w' ⟨rfl,rfl⟩)
  | (go_at_call 26;refine (HSPLIT.out _ (keys_step HK.out HB2.out)).mono ?_;rintro e w3 ⟨gS,rfl,hg3,hge3,hb3⟩;have BS3:=Aside0.mk hg3;have BR3:=Aside0.mk (blk_below BR2.out hb3);have GS:Aside0 (w.heap.size≤gS):=⟨Nat.le_trans HB2.out.size hge3⟩;have HB3:=Aside0.mk (below_step HB2.out hb3);clear hb3 hg3 hge3)
  | (go_at_call 23;refine (signs_new _).mono ?_;rintro e w4 ⟨mb,rfl,hsg,hb4⟩;have HSG:=Aside0.mk hsg;have BR4:=Aside0.mk (blk_below BR3.out hb4);have BS4:=Aside0.mk (blk_below BS3.out hb4);have HB4:=Aside0.mk (below_step HB3.out hb4);clear hsg hb4)
  | (at_range;refine wpList_range_own _ rfl _ 50 rfl 3 9 signsLaw Tryd.underlying50 (plainElem Tryd.prog 9) mb 4 signsD rfl HSG.out ?_;intro w5 hrg5 hg5 hs5;have HRG5:=Aside0.mk hrg5;have BR5:=Aside0.mk (blk_grown BR4.out hg5 (by simp));have BS5:=Aside0.mk (blk_grown BS4.out hg5 (by simp));have HB5:=Aside0.mk (HB4.out.grown hg5 HB4.out.size (fun j hj=>by cases hj));clear hrg5 hg5 hs5))
 go_frame
 have HIT:Aside0 (w.heap.size≤w4.heap.size):=⟨HB4.out.size⟩
 generalize w4.heap.size=it at HRG5 HIT ⊢
 go_loopw [26] (fun _ wr=>∃ (left:Lit→Bool) (cnt:Nat),Aside0 (wr.ranges Tryd.prog 3 (plainElem Tryd.prog 9) mb it 4 signsD left cnt)∧Aside0 (∀ how:Int,1≤how→how≤4→left (.int .i64 how)=false→okW s head ws how=false) ∧
   Aside0 (wr.heap[gR]?=some (.cells #[.string ⟨#[]⟩,.int .i64 0,.slice none 0 0] 24 (0,0)))∧Aside0 (wr.heap[gS]?=some (.cells (ws.map Value.string).toArray 9 (0,0)))∧Aside0 (Below w.heap.size w wr))
  (fun _ wr=>wr.rangeLeft mb it)
 case atStart=>exact ⟨_,_,HRG5,⟨fun how h1 h2 hl=>by rw [signs_has] at hl;unfold isSign at hl;rw [decide_eq_true h1,decide_eq_true h2] at hl;cases hl⟩,BR5,BS5,HB5⟩
 case round =>
  obtain ⟨left,cnt,HRG,HNO,BR,BS,HB⟩:=hrel
  go_wp2_with (at_next;refine wpList_next_ranges_is _ rfl _ rfl 3 9 .i64 signsLaw Tryd.underlying3 Tryd.underlying9 mb it 4 signsD left cnt rfl HRG.out ?_ ?_)
  ·intro hc0 hl0
   have HDONE:Aside0 (∀ how:Int,1≤how→how≤4→okW s head ws how=false):=⟨fun how h1 h2=>HNO.out how h1 h2 (hl0 _)⟩
   have r0_:wr.cell? ⟨gR,0,none⟩=some (.string ⟨#[]⟩):=(blk_cell BR.out 0).trans rfl
   have r1_:wr.cell? ⟨gR,1,none⟩=some (.int .i64 0):=(blk_cell BR.out 1).trans rfl
   have r2_:wr.cell? ⟨gR,2,none⟩=some (.slice none 0 0):=(blk_cell BR.out 2).trans rfl
   have q0_:=blk_frozen BR.out 0
   have q1_:=blk_frozen BR.out 1
   have q2_:=blk_frozen BR.out 2
   clear hl0 hc0
   go_wp2
   refine bodyPost_ret (results_ct rfl _ _ gR 24 #[.string ⟨#[]⟩,.int .i64 0,.slice none 0 0] (0,0) _ rfl (put_three BR.out) Tryd.underlying24 rfl (by kernel_rfl)) rfl ?_
   exact .inr ⟨HDONE.out,rfl,below_set (below_set (below_set HB.out GR.out) GR.out) GR.out⟩
  ·intro x c w6 cnt6 hwx hwc hlx hat hrg6 hlt hg6 hs6 hen
   obtain ⟨hx,rfl⟩:=sign_of hat
   have BR6:=Aside0.mk (blk_grown BR.out hg6 (ranges_iter_ne HRG.out BR.out))
   have BS6:=Aside0.mk (blk_grown BS.out hg6 (ranges_iter_ne HRG.out BS.out))
   have HRG6:=Aside0.mk hrg6
   have HB6:=Aside0.mk (HB.out.grown hg6 HB.out.size (fun j hj=>by cases hj;exact HIT.out))
   have HX:=Aside0.mk hx
   have HLT:=Aside0.mk hlt
   have hsuf:=fun W=>Tryd.strings_CutSuffix head (signOf x) W (by have:=HHZ.out;omega)
   have htx:=fun W hr=>mtext_any (trimB head (signOf x)) x ws (some ⟨gS,0,none⟩) ws.length hwx (Nat.le_trans (trim_size _ _) HHZ.out) W hr (Nat.le_refl _)
   have hok:okW s head ws x=(Lib.hasSuffix head.data.toList (signOf x).data.toList && mrightB (trimB head (signOf x)) x ws && (mtextB (trimB head (signOf x)) x ws).toList == s.toList):=rfl
   have hnm:(⟨(Lib.trimSuffix head.data.toList (signOf x).data.toList).toArray⟩:ByteArray)=trimB head (signOf x):=rfl
   rw [hnm] at hsuf
   obtain ⟨nm,hnm2⟩:∃ nm,trimB head (signOf x)=nm:=⟨_,rfl⟩
   rw [hnm2] at hsuf htx hok
   have HNM:=Aside0.mk hnm2
   obtain ⟨sg,hsg⟩:∃ sg,signOf x=sg:=⟨_,rfl⟩
   rw [hsg] at hsuf hen hok
   clear hat hrg6 hg6 hs6 hwx hwc hlx hlt hx hnm hnm2 hsg
   generalize Lib.hasSuffix head.data.toList sg.data.toList=sx at *
   generalize hmr:mrightB nm x ws=mr at *
   generalize mtextB nm x ws=tx at *
   clear hmr
   have HSUF:=Aside0.mk hsuf
   clear hsuf
   cases sx with
   | false =>
    have HBAD:Aside0 (okW s head ws x=false):=⟨by rw [hok];rfl⟩
    have HTX:=Aside0.mk htx
    clear hok htx
    go_upto_region 8 with (first
     | (go_at_call 28;refine (HSUF.out _).mono ?_;rintro e w' ⟨rfl,hw⟩;have hw2:=hw.symm;clear hw;subst hw2)
     | ((with_reducible refine gate_dst (N:=12) rfl ?_);refine box_event ?hg (N:=12) ?hd (cs:=#[.string ⟨#[]⟩,.int .i64 0,.slice none 0 0]) (t:=24) ?hr ?_;(case hd=>rfl);(case hg=>rfl);(case hr=>first|(go_simp;done)|(go_simp;rfl));intro gM hgM w7 hbox hb;have BM:=Aside0.mk hbox;have HB7:=Aside0.mk (below_step HB6.out hb);have BR7:=Aside0.mk (blk_below BR6.out hb);have BS7:=Aside0.mk (blk_below BS6.out hb);have HRG7:=Aside0.mk (ranges_below HRG6.out hb);have GM:Aside0 (w6.heap.size=gM):=⟨hgM.symm⟩;have c0_:w7.cell? ⟨gM,0,none⟩=some (.string ⟨#[]⟩):=(blk_cell BM.out 0).trans rfl;have c1_:w7.cell? ⟨gM,1,none⟩=some (.int .i64 0):=(blk_cell BM.out 1).trans rfl;have c2_:w7.cell? ⟨gM,2,none⟩=some (.slice none 0 0):=(blk_cell BM.out 2).trans rfl;have f0_:=blk_frozen BM.out 0;have f1_:=blk_frozen BM.out 1;have f2_:=blk_frozen BM.out 2;clear hb hbox hgM))
    have hgl:=GM.out
    have hRM:gR≠gM:=by have:=blk_lt BR6.out;omega
    have hSM:gS≠gM:=by have:=blk_lt BS6.out;omega
    have n0:Aside0 ((((w7.setCell ⟨gM,0,none⟩ (.string nm)).setCell ⟨gM,1,none⟩ (.int .i64 x)).setCell ⟨gM,2,none⟩ (.slice (some ⟨gS,0,none⟩) ws.length ws.length)).heap[gM]?=some (.cells #[.string nm,.int .i64 x,.slice (some ⟨gS,0,none⟩) ws.length ws.length] 24 (0,0))):=⟨put_three BM.out⟩
    have n1:Aside0 ((((w7.setCell ⟨gM,0,none⟩ (.string nm)).setCell ⟨gM,1,none⟩ (.int .i64 x)).setCell ⟨gM,2,none⟩ (.slice (some ⟨gS,0,none⟩) ws.length ws.length)).heap[gR]?=some (.cells #[.string ⟨#[]⟩,.int .i64 0,.slice none 0 0] 24 (0,0))):=⟨(put_three_other hRM).trans BR7.out⟩
    have n2:Aside0 ((((w7.setCell ⟨gM,0,none⟩ (.string nm)).setCell ⟨gM,1,none⟩ (.int .i64 x)).setCell ⟨gM,2,none⟩ (.slice (some ⟨gS,0,none⟩) ws.length ws.length)).heap[gS]?=some (.cells (ws.map Value.string).toArray 9 (0,0))):=⟨(put_three_other hSM).trans BS7.out⟩
    have n3:Aside0 ((((w7.setCell ⟨gM,0,none⟩ (.string nm)).setCell ⟨gM,1,none⟩ (.int .i64 x)).setCell ⟨gM,2,none⟩ (.slice (some ⟨gS,0,none⟩) ws.length ws.length)).ranges Tryd.prog 3 (plainElem Tryd.prog 9) mb it 4 signsD (fun z=>left z && !z.sameKey (.int .i64 x)) cnt6):=⟨ranges_far (ranges_far (ranges_far HRG7.out BM.out 0 (.string nm)) (blk_put BM.out 0 _ rfl) 1 (.int .i64 x)) (blk_put (blk_put BM.out 0 _ rfl) 1 _ rfl) 2 _⟩
    have hwM:w.heap.size≤gM:=by have:=HB6.out.size;omega
    have n4:Aside0 (Below w.heap.size w (((w7.setCell ⟨gM,0,none⟩ (.string nm)).setCell ⟨gM,1,none⟩ (.int .i64 x)).setCell ⟨gM,2,none⟩ (.slice (some ⟨gS,0,none⟩) ws.length ws.length))):=⟨below_set (below_set (below_set HB7.out hwM) hwM) hwM⟩
    clear BM BR7 BS7 HRG7 HB7 c0_ c1_ c2_ f0_ f1_ f2_ hgl hRM hSM hwM hen
    generalize ((w7.setCell ⟨gM,0,none⟩ (.string nm)).setCell ⟨gM,1,none⟩ (.int .i64 x)).setCell ⟨gM,2,none⟩ (.slice (some ⟨gS,0,none⟩) ws.length ws.length)=wz at n0 n1 n2 n3 n4 ⊢
    have c0_:wz.cell? ⟨gM,0,none⟩=some (.string nm):=(blk_cell n0.out 0).trans rfl
    have c1_:wz.cell? ⟨gM,1,none⟩=some (.int .i64 x):=(blk_cell n0.out 1).trans rfl
    have c2_:wz.cell? ⟨gM,2,none⟩=some (.slice (some ⟨gS,0,none⟩) ws.length ws.length):=(blk_cell n0.out 2).trans rfl
    go_wp2_with (go_at_call 10;refine (HTX.out _ (C_of_cells n2.out HWL.out)).mono ?_;rintro e w8 ⟨rfl,hb8⟩;have BM8:=Aside0.mk (blk_below n0.out hb8);have BR8:=Aside0.mk (blk_below n1.out hb8);have BS8:=Aside0.mk (blk_below n2.out hb8);have HRG8:=Aside0.mk (ranges_below n3.out hb8);have HB8:=Aside0.mk (below_step n4.out hb8);have m0_:w8.cell? ⟨gM,0,none⟩=some (.string nm):=(blk_cell BM8.out 0).trans rfl;have m1_:w8.cell? ⟨gM,1,none⟩=some (.int .i64 x):=(blk_cell BM8.out 1).trans rfl;have m2_:w8.cell? ⟨gM,2,none⟩=some (.slice (some ⟨gS,0,none⟩) ws.length ws.length):=(blk_cell BM8.out 2).trans rfl;have r0_:w8.cell? ⟨gR,0,none⟩=some (.string ⟨#[]⟩):=(blk_cell BR8.out 0).trans rfl;have r1_:w8.cell? ⟨gR,1,none⟩=some (.int .i64 0):=(blk_cell BR8.out 1).trans rfl;have r2_:w8.cell? ⟨gR,2,none⟩=some (.slice none 0 0):=(blk_cell BR8.out 2).trans rfl;have q0_:=blk_frozen BR8.out 0;have q1_:=blk_frozen BR8.out 1;have q2_:=blk_frozen BR8.out 2;clear hb8)
    go_roundw
    case rel =>
     refine ⟨_,cnt6,HRG8,⟨fun how h1 h2 hl=>?_⟩,BR8,BS8,HB8⟩
     by_cases hx:how=x
     ·rw [hx];exact HBAD.out
     ·refine HNO.out how h1 h2 ?_
      simp only [Lit.sameKey,true_and] at hl
      rw [decide_eq_false hx] at hl
      simpa using hl
    case measure=>rw [HRG8.out.left_eq,HRG.out.left_eq];exact HLT.out
   | true =>
    cases mr with
    | false =>
     have HBAD:Aside0 (okW s head ws x=false):=⟨by rw [hok];rfl⟩
     rw [if_neg (by decide),if_neg (by decide)] at htx
     have HTX:=Aside0.mk htx
     clear hok htx
     go_upto_region 8 with (first
      | (go_at_call 28;refine (HSUF.out _).mono ?_;rintro e w' ⟨rfl,hw⟩;have hw2:=hw.symm;clear hw;subst hw2)
      | ((with_reducible refine gate_dst (N:=12) rfl ?_);refine box_event ?hg (N:=12) ?hd (cs:=#[.string ⟨#[]⟩,.int .i64 0,.slice none 0 0]) (t:=24) ?hr ?_;(case hd=>rfl);(case hg=>rfl);(case hr=>first|(go_simp;done)|(go_simp;rfl));intro gM hgM w7 hbox hb;have BM:=Aside0.mk hbox;have HB7:=Aside0.mk (below_step HB6.out hb);have BR7:=Aside0.mk (blk_below BR6.out hb);have BS7:=Aside0.mk (blk_below BS6.out hb);have HRG7:=Aside0.mk (ranges_below HRG6.out hb);have GM:Aside0 (w6.heap.size=gM):=⟨hgM.symm⟩;have c0_:w7.cell? ⟨gM,0,none⟩=some (.string ⟨#[]⟩):=(blk_cell BM.out 0).trans rfl;have c1_:w7.cell? ⟨gM,1,none⟩=some (.int .i64 0):=(blk_cell BM.out 1).trans rfl;have c2_:w7.cell? ⟨gM,2,none⟩=some (.slice none 0 0):=(blk_cell BM.out 2).trans rfl;have f0_:=blk_frozen BM.out 0;have f1_:=blk_frozen BM.out 1;have f2_:=blk_frozen BM.out 2;clear hb hbox hgM))
     have hgl:=GM.out
     have hRM:gR≠gM:=by have:=blk_lt BR6.out;omega
     have hSM:gS≠gM:=by have:=blk_lt BS6.out;omega
     have n0:Aside0 ((((w7.setCell ⟨gM,0,none⟩ (.string nm)).setCell ⟨gM,1,none⟩ (.int .i64 x)).setCell ⟨gM,2,none⟩ (.slice (some ⟨gS,0,none⟩) ws.length ws.length)).heap[gM]?=some (.cells #[.string nm,.int .i64 x,.slice (some ⟨gS,0,none⟩) ws.length ws.length] 24 (0,0))):=⟨put_three BM.out⟩
     have n1:Aside0 ((((w7.setCell ⟨gM,0,none⟩ (.string nm)).setCell ⟨gM,1,none⟩ (.int .i64 x)).setCell ⟨gM,2,none⟩ (.slice (some ⟨gS,0,none⟩) ws.length ws.length)).heap[gR]?=some (.cells #[.string ⟨#[]⟩,.int .i64 0,.slice none 0 0] 24 (0,0))):=⟨(put_three_other hRM).trans BR7.out⟩
     have n2:Aside0 ((((w7.setCell ⟨gM,0,none⟩ (.string nm)).setCell ⟨gM,1,none⟩ (.int .i64 x)).setCell ⟨gM,2,none⟩ (.slice (some ⟨gS,0,none⟩) ws.length ws.length)).heap[gS]?=some (.cells (ws.map Value.string).toArray 9 (0,0))):=⟨(put_three_other hSM).trans BS7.out⟩
     have n3:Aside0 ((((w7.setCell ⟨gM,0,none⟩ (.string nm)).setCell ⟨gM,1,none⟩ (.int .i64 x)).setCell ⟨gM,2,none⟩ (.slice (some ⟨gS,0,none⟩) ws.length ws.length)).ranges Tryd.prog 3 (plainElem Tryd.prog 9) mb it 4 signsD (fun z=>left z && !z.sameKey (.int .i64 x)) cnt6):=⟨ranges_far (ranges_far (ranges_far HRG7.out BM.out 0 (.string nm)) (blk_put BM.out 0 _ rfl) 1 (.int .i64 x)) (blk_put (blk_put BM.out 0 _ rfl) 1 _ rfl) 2 _⟩
     have hwM:w.heap.size≤gM:=by have:=HB6.out.size;omega
     have n4:Aside0 (Below w.heap.size w (((w7.setCell ⟨gM,0,none⟩ (.string nm)).setCell ⟨gM,1,none⟩ (.int .i64 x)).setCell ⟨gM,2,none⟩ (.slice (some ⟨gS,0,none⟩) ws.length ws.length))):=⟨below_set (below_set (below_set HB7.out hwM) hwM) hwM⟩
     clear BM BR7 BS7 HRG7 HB7 c0_ c1_ c2_ f0_ f1_ f2_ hgl hRM hSM hwM hen
     generalize ((w7.setCell ⟨gM,0,none⟩ (.string nm)).setCell ⟨gM,1,none⟩ (.int .i64 x)).setCell ⟨gM,2,none⟩ (.slice (some ⟨gS,0,none⟩) ws.length ws.length)=wz at n0 n1 n2 n3 n4 ⊢
     have c0_:wz.cell? ⟨gM,0,none⟩=some (.string nm):=(blk_cell n0.out 0).trans rfl
     have c1_:wz.cell? ⟨gM,1,none⟩=some (.int .i64 x):=(blk_cell n0.out 1).trans rfl
     have c2_:wz.cell? ⟨gM,2,none⟩=some (.slice (some ⟨gS,0,none⟩) ws.length ws.length):=(blk_cell n0.out 2).trans rfl
     go_wp2_with (go_at_call 10;refine (HTX.out _ (C_of_cells n2.out HWL.out)).mono ?_;rintro e w8 ⟨rfl,hb8⟩;have BM8:=Aside0.mk (blk_below n0.out hb8);have BR8:=Aside0.mk (blk_below n1.out hb8);have BS8:=Aside0.mk (blk_below n2.out hb8);have HRG8:=Aside0.mk (ranges_below n3.out hb8);have HB8:=Aside0.mk (below_step n4.out hb8);have m0_:w8.cell? ⟨gM,0,none⟩=some (.string nm):=(blk_cell BM8.out 0).trans rfl;have m1_:w8.cell? ⟨gM,1,none⟩=some (.int .i64 x):=(blk_cell BM8.out 1).trans rfl;have m2_:w8.cell? ⟨gM,2,none⟩=some (.slice (some ⟨gS,0,none⟩) ws.length ws.length):=(blk_cell BM8.out 2).trans rfl;have r0_:w8.cell? ⟨gR,0,none⟩=some (.string ⟨#[]⟩):=(blk_cell BR8.out 0).trans rfl;have r1_:w8.cell? ⟨gR,1,none⟩=some (.int .i64 0):=(blk_cell BR8.out 1).trans rfl;have r2_:w8.cell? ⟨gR,2,none⟩=some (.slice none 0 0):=(blk_cell BR8.out 2).trans rfl;have q0_:=blk_frozen BR8.out 0;have q1_:=blk_frozen BR8.out 1;have q2_:=blk_frozen BR8.out 2;clear hb8)
     go_roundw
     case rel =>
      refine ⟨_,cnt6,HRG8,⟨fun how h1 h2 hl=>?_⟩,BR8,BS8,HB8⟩
      by_cases hx:how=x
      ·rw [hx];exact HBAD.out
      ·refine HNO.out how h1 h2 ?_
       simp only [Lit.sameKey,true_and] at hl
       rw [decide_eq_false hx] at hl
       simpa using hl
     case measure=>rw [HRG8.out.left_eq,HRG.out.left_eq];exact HLT.out
    | true =>
     rw [if_pos rfl,if_pos rfl] at htx
     cases hts:(tx.toList == s.toList) with
     | false =>
      have HBAD:Aside0 (okW s head ws x=false):=⟨by rw [hok,hts];rfl⟩
      have HTX:=Aside0.mk htx
      clear hok htx
      go_upto_region 8 with (first
       | (go_at_call 28;refine (HSUF.out _).mono ?_;rintro e w' ⟨rfl,hw⟩;have hw2:=hw.symm;clear hw;subst hw2)
       | ((with_reducible refine gate_dst (N:=12) rfl ?_);refine box_event ?hg (N:=12) ?hd (cs:=#[.string ⟨#[]⟩,.int .i64 0,.slice none 0 0]) (t:=24) ?hr ?_;(case hd=>rfl);(case hg=>rfl);(case hr=>first|(go_simp;done)|(go_simp;rfl));intro gM hgM w7 hbox hb;have BM:=Aside0.mk hbox;have HB7:=Aside0.mk (below_step HB6.out hb);have BR7:=Aside0.mk (blk_below BR6.out hb);have BS7:=Aside0.mk (blk_below BS6.out hb);have HRG7:=Aside0.mk (ranges_below HRG6.out hb);have GM:Aside0 (w6.heap.size=gM):=⟨hgM.symm⟩;have c0_:w7.cell? ⟨gM,0,none⟩=some (.string ⟨#[]⟩):=(blk_cell BM.out 0).trans rfl;have c1_:w7.cell? ⟨gM,1,none⟩=some (.int .i64 0):=(blk_cell BM.out 1).trans rfl;have c2_:w7.cell? ⟨gM,2,none⟩=some (.slice none 0 0):=(blk_cell BM.out 2).trans rfl;have f0_:=blk_frozen BM.out 0;have f1_:=blk_frozen BM.out 1;have f2_:=blk_frozen BM.out 2;clear hb hbox hgM))
      have hgl:=GM.out
      have hRM:gR≠gM:=by have:=blk_lt BR6.out;omega
      have hSM:gS≠gM:=by have:=blk_lt BS6.out;omega
      have n0:Aside0 ((((w7.setCell ⟨gM,0,none⟩ (.string nm)).setCell ⟨gM,1,none⟩ (.int .i64 x)).setCell ⟨gM,2,none⟩ (.slice (some ⟨gS,0,none⟩) ws.length ws.length)).heap[gM]?=some (.cells #[.string nm,.int .i64 x,.slice (some ⟨gS,0,none⟩) ws.length ws.length] 24 (0,0))):=⟨put_three BM.out⟩
      have n1:Aside0 ((((w7.setCell ⟨gM,0,none⟩ (.string nm)).setCell ⟨gM,1,none⟩ (.int .i64 x)).setCell ⟨gM,2,none⟩ (.slice (some ⟨gS,0,none⟩) ws.length ws.length)).heap[gR]?=some (.cells #[.string ⟨#[]⟩,.int .i64 0,.slice none 0 0] 24 (0,0))):=⟨(put_three_other hRM).trans BR7.out⟩
      have n2:Aside0 ((((w7.setCell ⟨gM,0,none⟩ (.string nm)).setCell ⟨gM,1,none⟩ (.int .i64 x)).setCell ⟨gM,2,none⟩ (.slice (some ⟨gS,0,none⟩) ws.length ws.length)).heap[gS]?=some (.cells (ws.map Value.string).toArray 9 (0,0))):=⟨(put_three_other hSM).trans BS7.out⟩
      have n3:Aside0 ((((w7.setCell ⟨gM,0,none⟩ (.string nm)).setCell ⟨gM,1,none⟩ (.int .i64 x)).setCell ⟨gM,2,none⟩ (.slice (some ⟨gS,0,none⟩) ws.length ws.length)).ranges Tryd.prog 3 (plainElem Tryd.prog 9) mb it 4 signsD (fun z=>left z && !z.sameKey (.int .i64 x)) cnt6):=⟨ranges_far (ranges_far (ranges_far HRG7.out BM.out 0 (.string nm)) (blk_put BM.out 0 _ rfl) 1 (.int .i64 x)) (blk_put (blk_put BM.out 0 _ rfl) 1 _ rfl) 2 _⟩
      have hwM:w.heap.size≤gM:=by have:=HB6.out.size;omega
      have n4:Aside0 (Below w.heap.size w (((w7.setCell ⟨gM,0,none⟩ (.string nm)).setCell ⟨gM,1,none⟩ (.int .i64 x)).setCell ⟨gM,2,none⟩ (.slice (some ⟨gS,0,none⟩) ws.length ws.length))):=⟨below_set (below_set (below_set HB7.out hwM) hwM) hwM⟩
      clear BM BR7 BS7 HRG7 HB7 c0_ c1_ c2_ f0_ f1_ f2_ hgl hRM hSM hwM hen
      generalize ((w7.setCell ⟨gM,0,none⟩ (.string nm)).setCell ⟨gM,1,none⟩ (.int .i64 x)).setCell ⟨gM,2,none⟩ (.slice (some ⟨gS,0,none⟩) ws.length ws.length)=wz at n0 n1 n2 n3 n4 ⊢
      have c0_:wz.cell? ⟨gM,0,none⟩=some (.string nm):=(blk_cell n0.out 0).trans rfl
      have c1_:wz.cell? ⟨gM,1,none⟩=some (.int .i64 x):=(blk_cell n0.out 1).trans rfl
      have c2_:wz.cell? ⟨gM,2,none⟩=some (.slice (some ⟨gS,0,none⟩) ws.length ws.length):=(blk_cell n0.out 2).trans rfl
      go_wp2_with (go_at_call 10;refine (HTX.out _ (C_of_cells n2.out HWL.out)).mono ?_;rintro e w8 ⟨rfl,hb8⟩;have BM8:=Aside0.mk (blk_below n0.out hb8);have BR8:=Aside0.mk (blk_below n1.out hb8);have BS8:=Aside0.mk (blk_below n2.out hb8);have HRG8:=Aside0.mk (ranges_below n3.out hb8);have HB8:=Aside0.mk (below_step n4.out hb8);have m0_:w8.cell? ⟨gM,0,none⟩=some (.string nm):=(blk_cell BM8.out 0).trans rfl;have m1_:w8.cell? ⟨gM,1,none⟩=some (.int .i64 x):=(blk_cell BM8.out 1).trans rfl;have m2_:w8.cell? ⟨gM,2,none⟩=some (.slice (some ⟨gS,0,none⟩) ws.length ws.length):=(blk_cell BM8.out 2).trans rfl;have r0_:w8.cell? ⟨gR,0,none⟩=some (.string ⟨#[]⟩):=(blk_cell BR8.out 0).trans rfl;have r1_:w8.cell? ⟨gR,1,none⟩=some (.int .i64 0):=(blk_cell BR8.out 1).trans rfl;have r2_:w8.cell? ⟨gR,2,none⟩=some (.slice none 0 0):=(blk_cell BR8.out 2).trans rfl;have q0_:=blk_frozen BR8.out 0;have q1_:=blk_frozen BR8.out 1;have q2_:=blk_frozen BR8.out 2;clear hb8)
      go_roundw
      case rel =>
       refine ⟨_,cnt6,HRG8,⟨fun how h1 h2 hl=>?_⟩,BR8,BS8,HB8⟩
       by_cases hx:how=x
       ·rw [hx];exact HBAD.out
       ·refine HNO.out how h1 h2 ?_
        simp only [Lit.sameKey,true_and] at hl
        rw [decide_eq_false hx] at hl
        simpa using hl
      case measure=>rw [HRG8.out.left_eq,HRG.out.left_eq];exact HLT.out
     | true =>
      have HGOOD:Aside0 (okW s head ws x=true):=⟨by rw [hok,hts];rfl⟩
      have HTX:=Aside0.mk htx
      clear hok htx
      go_upto_region 8 with (first
       | (go_at_call 28;refine (HSUF.out _).mono ?_;rintro e w' ⟨rfl,hw⟩;have hw2:=hw.symm;clear hw;subst hw2)
       | ((with_reducible refine gate_dst (N:=12) rfl ?_);refine box_event ?hg (N:=12) ?hd (cs:=#[.string ⟨#[]⟩,.int .i64 0,.slice none 0 0]) (t:=24) ?hr ?_;(case hd=>rfl);(case hg=>rfl);(case hr=>first|(go_simp;done)|(go_simp;rfl));intro gM hgM w7 hbox hb;have BM:=Aside0.mk hbox;have HB7:=Aside0.mk (below_step HB6.out hb);have BR7:=Aside0.mk (blk_below BR6.out hb);have BS7:=Aside0.mk (blk_below BS6.out hb);have HRG7:=Aside0.mk (ranges_below HRG6.out hb);have GM:Aside0 (w6.heap.size=gM):=⟨hgM.symm⟩;have c0_:w7.cell? ⟨gM,0,none⟩=some (.string ⟨#[]⟩):=(blk_cell BM.out 0).trans rfl;have c1_:w7.cell? ⟨gM,1,none⟩=some (.int .i64 0):=(blk_cell BM.out 1).trans rfl;have c2_:w7.cell? ⟨gM,2,none⟩=some (.slice none 0 0):=(blk_cell BM.out 2).trans rfl;have f0_:=blk_frozen BM.out 0;have f1_:=blk_frozen BM.out 1;have f2_:=blk_frozen BM.out 2;clear hb hbox hgM))
      have hgl:=GM.out
      have hRM:gR≠gM:=by have:=blk_lt BR6.out;omega
      have hSM:gS≠gM:=by have:=blk_lt BS6.out;omega
      have n0:Aside0 ((((w7.setCell ⟨gM,0,none⟩ (.string nm)).setCell ⟨gM,1,none⟩ (.int .i64 x)).setCell ⟨gM,2,none⟩ (.slice (some ⟨gS,0,none⟩) ws.length ws.length)).heap[gM]?=some (.cells #[.string nm,.int .i64 x,.slice (some ⟨gS,0,none⟩) ws.length ws.length] 24 (0,0))):=⟨put_three BM.out⟩
      have n1:Aside0 ((((w7.setCell ⟨gM,0,none⟩ (.string nm)).setCell ⟨gM,1,none⟩ (.int .i64 x)).setCell ⟨gM,2,none⟩ (.slice (some ⟨gS,0,none⟩) ws.length ws.length)).heap[gR]?=some (.cells #[.string ⟨#[]⟩,.int .i64 0,.slice none 0 0] 24 (0,0))):=⟨(put_three_other hRM).trans BR7.out⟩
      have n2:Aside0 ((((w7.setCell ⟨gM,0,none⟩ (.string nm)).setCell ⟨gM,1,none⟩ (.int .i64 x)).setCell ⟨gM,2,none⟩ (.slice (some ⟨gS,0,none⟩) ws.length ws.length)).heap[gS]?=some (.cells (ws.map Value.string).toArray 9 (0,0))):=⟨(put_three_other hSM).trans BS7.out⟩
      have n3:Aside0 ((((w7.setCell ⟨gM,0,none⟩ (.string nm)).setCell ⟨gM,1,none⟩ (.int .i64 x)).setCell ⟨gM,2,none⟩ (.slice (some ⟨gS,0,none⟩) ws.length ws.length)).ranges Tryd.prog 3 (plainElem Tryd.prog 9) mb it 4 signsD (fun z=>left z && !z.sameKey (.int .i64 x)) cnt6):=⟨ranges_far (ranges_far (ranges_far HRG7.out BM.out 0 (.string nm)) (blk_put BM.out 0 _ rfl) 1 (.int .i64 x)) (blk_put (blk_put BM.out 0 _ rfl) 1 _ rfl) 2 _⟩
      have hwM:w.heap.size≤gM:=by have:=HB6.out.size;omega
      have n4:Aside0 (Below w.heap.size w (((w7.setCell ⟨gM,0,none⟩ (.string nm)).setCell ⟨gM,1,none⟩ (.int .i64 x)).setCell ⟨gM,2,none⟩ (.slice (some ⟨gS,0,none⟩) ws.length ws.length))):=⟨below_set (below_set (below_set HB7.out hwM) hwM) hwM⟩
      clear BM BR7 BS7 HRG7 HB7 c0_ c1_ c2_ f0_ f1_ f2_ hgl hRM hSM hwM hen
      generalize ((w7.setCell ⟨gM,0,none⟩ (.string nm)).setCell ⟨gM,1,none⟩ (.int .i64 x)).setCell ⟨gM,2,none⟩ (.slice (some ⟨gS,0,none⟩) ws.length ws.length)=wz at n0 n1 n2 n3 n4 ⊢
      have c0_:wz.cell? ⟨gM,0,none⟩=some (.string nm):=(blk_cell n0.out 0).trans rfl
      have c1_:wz.cell? ⟨gM,1,none⟩=some (.int .i64 x):=(blk_cell n0.out 1).trans rfl
      have c2_:wz.cell? ⟨gM,2,none⟩=some (.slice (some ⟨gS,0,none⟩) ws.length ws.length):=(blk_cell n0.out 2).trans rfl
      go_wp2_with (go_at_call 10;refine (HTX.out _ (C_of_cells n2.out HWL.out)).mono ?_;rintro e w8 ⟨rfl,hb8⟩;have BM8:=Aside0.mk (blk_below n0.out hb8);have BR8:=Aside0.mk (blk_below n1.out hb8);have BS8:=Aside0.mk (blk_below n2.out hb8);have HRG8:=Aside0.mk (ranges_below n3.out hb8);have HB8:=Aside0.mk (below_step n4.out hb8);have m0_:w8.cell? ⟨gM,0,none⟩=some (.string nm):=(blk_cell BM8.out 0).trans rfl;have m1_:w8.cell? ⟨gM,1,none⟩=some (.int .i64 x):=(blk_cell BM8.out 1).trans rfl;have m2_:w8.cell? ⟨gM,2,none⟩=some (.slice (some ⟨gS,0,none⟩) ws.length ws.length):=(blk_cell BM8.out 2).trans rfl;have r0_:w8.cell? ⟨gR,0,none⟩=some (.string ⟨#[]⟩):=(blk_cell BR8.out 0).trans rfl;have r1_:w8.cell? ⟨gR,1,none⟩=some (.int .i64 0):=(blk_cell BR8.out 1).trans rfl;have r2_:w8.cell? ⟨gR,2,none⟩=some (.slice none 0 0):=(blk_cell BR8.out 2).trans rfl;have q0_:=blk_frozen BR8.out 0;have q1_:=blk_frozen BR8.out 1;have q2_:=blk_frozen BR8.out 2;clear hb8)
      refine bodyPost_ret (results_ct rfl _ _ gR 24 #[.string nm,.int .i64 x,.slice (some ⟨gS,0,none⟩) ws.length ws.length] (0,0) _ rfl (put_three BR8.out) Tryd.underlying24 rfl (by kernel_rfl)) rfl ?_
      have hSR:gS≠gR:=by
       intro e
       have h1:=BS8.out
       rw [e,BR8.out] at h1
       injection h1 with h1
       injection h1 with _ h1
       exact absurd h1 (by decide)
      refine .inl ⟨x,.slice (some ⟨gS,0,none⟩) ws.length ws.length,HX.out,HGOOD.out,by rw [HNM.out];rfl,?_,below_set (below_set (below_set HB8.out GR.out) GR.out) GR.out⟩
      exact Kd.R_of_own (own_of_cells ((put_three_other hSR).trans BS8.out) GS.out HWM.out) (fun _ _=>trivial)
end Go.Proofs.YtnbbfjddjmklpaaDoor.P

/- A matcher's text and its parts, in plain words: what is written is read. Conditions: as each lemma says. -/
set_option linter.unusedVariables false
set_option linter.unusedSimpArgs false
namespace Go.Proofs.YtnbbfjddjmklpaaDoor.P
open Go.RowKit Go.Proofs.YtnbbfjddjmklpaaDoorW.PrintWords Go.Proofs.YtnbbfjddjmklpaaDoorW.PrintLast Go.Proofs.YtnbbfjddjmklpaaDoorW.PrintMore

abbrev lst (s:ByteArray):List UInt8:=s.data.toList
theorem lst_inj {a b:ByteArray} (h:lst a=lst b):a=b:=ByteArray.ext (Array.toList_inj.1 h)
theorem lst_len (s:ByteArray):(lst s).length=s.size:=data_length s
theorem suffix_split {s p:ByteArray} (h:Lib.hasSuffix (lst s) (lst p)=true):lst s=lst (trimB s p)++lst p:=by
 have h2:=h
 unfold Lib.hasSuffix at h2
 rw [List.isSuffixOf_iff_suffix] at h2
 obtain ⟨t,ht⟩:=h2
 have e:lst (trimB s p)=t:=by
  unfold trimB Lib.trimSuffix
  show (if Lib.hasSuffix (lst s) (lst p) then (lst s).take ((lst s).length-(lst p).length) else lst s)=t
  rw [h,if_pos rfl,← ht]
  simp
 rw [e,ht]
theorem bt_of_mem {s:ByteArray} {c:UInt8} (h:c∈lst s):∃ i:Nat,i<s.size∧bt s (i:Int)=(c.toNat:Int):=by
 obtain ⟨i,hi,rfl⟩:=List.getElem_of_mem h
 rw [lst_len] at hi
 refine ⟨i,hi,?_⟩
 unfold bt
 rw [Int.toNat_natCast,dif_pos hi]
 rfl
theorem name_byte {s:ByteArray} (h:nameB s=true) {c:UInt8} (hc:c∈lst s):c≠33∧c≠34∧c≠61∧c≠126∧c≠124:=by
 obtain ⟨i,hi,he⟩:=bt_of_mem hc
 unfold nameB at h
 rw [Bool.and_eq_true,Bool.and_eq_true] at h
 have h2:=(allFrom_iff _ s.size 0).1 h.1.1 i (Nat.zero_le _) (by omega)
 rw [he] at h2
 refine ⟨?_,?_,?_,?_,?_⟩<;>(rintro rfl;revert h2;unfold nmB letB;simp<;>decide)
def endB (c:UInt8):Bool:=c == 33 || c == 61 || c == 126
theorem sign_end {nm:List UInt8} (h:∀ c∈nm,c≠33∧c≠61∧c≠126) (how:Int):((nm++lst (signOf how)).reverse.takeWhile endB).reverse=lst (signOf how):=by
 have hs:∀ c∈(lst (signOf how)).reverse,endB c=true:=by
  have h2:∀ c∈lst (signOf how),endB c=true:=by
   unfold signOf
   repeat' split
   all_goals decide
  intro c hc
  exact h2 c (List.mem_reverse.1 hc)
 rw [List.reverse_append,List.takeWhile_append_of_pos hs]
 have h0:nm.reverse.takeWhile endB=[]:=by
  cases hr:nm.reverse with
  | nil=>rfl
  | cons x t =>
   have hx:=h x (List.mem_reverse.1 (by rw [hr];exact List.mem_cons_self))
   have:endB x=false:=by unfold endB;simp [hx.1,hx.2.1,hx.2.2]
   rw [List.takeWhile_cons,this]
   rfl
 rw [h0,List.append_nil,List.reverse_reverse]
theorem sign_inj {a b:Int} (ha:1≤a∧a≤4) (hb:1≤b∧b≤4) (h:signOf a=signOf b):a=b:=by
 have h1:a=1∨a=2∨a=3∨a=4:=by omega
 have h2:b=1∨b=2∨b=3∨b=4:=by omega
 rcases h1 with rfl|rfl|rfl|rfl<;>rcases h2 with rfl|rfl|rfl|rfl<;>first|rfl|(exfalso;revert h;decide)
theorem okW_parts {s head:ByteArray} {ws:List ByteArray} {how:Int} (h:okW s head ws how=true) :
  lst head=lst (trimB head (signOf how))++lst (signOf how)∧mrightB (trimB head (signOf how)) how ws=true∧mtextB (trimB head (signOf how)) how ws=s:=by
 unfold okW at h
 rw [Bool.and_eq_true,Bool.and_eq_true,beq_iff_eq] at h
 exact ⟨suffix_split h.1.1,h.1.2,lst_inj (by have e:=h.2;rw [ByteArray.toList_eq,ByteArray.toList_eq] at e;exact e)⟩
theorem okW_one {s head:ByteArray} {ws:List ByteArray} {a b:Int} (ha:okW s head ws a=true) (hb:okW s head ws b=true):a=b:=by
 obtain ⟨a1,a2,a3⟩:=okW_parts ha
 obtain ⟨b1,b2,b3⟩:=okW_parts hb
 have pa:=mright_parts a2
 have pb:=mright_parts b2
 have ea:=sign_end (nm:=lst (trimB head (signOf a))) (fun c hc=>by have:=name_byte pa.2.1 hc;exact ⟨this.1,this.2.2.1,this.2.2.2.1⟩) a
 have eb:=sign_end (nm:=lst (trimB head (signOf b))) (fun c hc=>by have:=name_byte pb.2.1 hc;exact ⟨this.1,this.2.2.1,this.2.2.2.1⟩) b
 rw [← a1] at ea
 rw [← b1] at eb
 exact sign_inj pa.2.2.1 pb.2.2.1 (lst_inj (ea.symm.trans eb))
def parseB (s:ByteArray):ByteArray×Int×List ByteArray×Int :=
 let head:=(cutAt s 34).1
 let ws:=wordsB (trimB (cutAt s 34).2.1 ⟨#[34]⟩)
 if okW s head ws 1=true then (trimB head (signOf 1),1,ws,0) else if okW s head ws 2=true then (trimB head (signOf 2),2,ws,0)
 else if okW s head ws 3=true then (trimB head (signOf 3),3,ws,0) else if okW s head ws 4=true then (trimB head (signOf 4),4,ws,0) else (⟨#[]⟩,0,[],6)
theorem parse_ok {s:ByteArray} {how:Int} (hh:1≤how∧how≤4) (h:okW s (cutAt s 34).1 (wordsB (trimB (cutAt s 34).2.1 ⟨#[34]⟩)) how=true) :
  parseB s=(trimB (cutAt s 34).1 (signOf how),how,wordsB (trimB (cutAt s 34).2.1 ⟨#[34]⟩),0):=by
 unfold parseB
 dsimp only
 generalize (cutAt s 34).1=head at *
 generalize wordsB (trimB (cutAt s 34).2.1 ⟨#[34]⟩)=ws at *
 have no:∀ b,b≠how→¬ okW s head ws b=true:=fun b hb h2=>hb (okW_one h2 h)
 have h1:how=1∨how=2∨how=3∨how=4:=by omega
 rcases h1 with rfl|rfl|rfl|rfl
 ·rw [if_pos h]
 ·rw [if_neg (no 1 (by decide)),if_pos h]
 ·rw [if_neg (no 1 (by decide)),if_neg (no 2 (by decide)),if_pos h]
 ·rw [if_neg (no 1 (by decide)),if_neg (no 2 (by decide)),if_neg (no 3 (by decide)),if_pos h]
theorem parse_no {s:ByteArray} (h:∀ how:Int,1≤how→how≤4→okW s (cutAt s 34).1 (wordsB (trimB (cutAt s 34).2.1 ⟨#[34]⟩)) how=false):parseB s=(⟨#[]⟩,0,[],6):=by
 unfold parseB
 dsimp only
 rw [h 1 (by decide) (by decide),h 2 (by decide) (by decide),h 3 (by decide) (by decide),h 4 (by decide) (by decide)]
 rfl
end Go.Proofs.YtnbbfjddjmklpaaDoor.P

/- matcher.Parse: its contract. Conditions: the text is short, and the library's variable holds some number. -/
set_option linter.unusedVariables false
namespace Go.Proofs.YtnbbfjddjmklpaaDoor.P
open Go.RowKit Go.Proofs.YtnbbfjddjmklpaaDoorW.PrintWords Go.Proofs.YtnbbfjddjmklpaaDoorW.PrintLast Go.Proofs.YtnbbfjddjmklpaaDoorW.PrintMore

def matcher_Parse.f (a0:ByteArray):Option (ByteArray×Int×List ByteArray×Int):=if a0.size≤1000000 then some (parseB a0) else none
theorem matcher_Parse.calls (a0 r1:ByteArray) (r2:Int) (r3:List ByteArray) (r4:Int) (w:World) (h:matcher_Parse.f a0=some (r1,r2,r3,r4)) (hK:KeysIn w) :
  Calls Tryd.prog 11 #[.string a0] w fun e w'=>∃ v2_,e=.returned (.tuple #[.agg #[.string r1,.int .i64 r2,v2_],.int .i64 r4])∧Kd.R Kd.string 9 w' w.heap.size (fun _=>True) v2_ r3∧Below w.heap.size w w':=by
 unfold matcher_Parse.f at h
 split at h
 ·rename_i hs
  have h:=Option.some.inj h
  refine (parse_walk a0 hs w hK).mono ?_
  rintro e w' (⟨how,v,hh,hk,rfl,ho,hb⟩|⟨hno,rfl,hb⟩)
  ·rw [parse_ok hh hk] at h
   simp only [Prod.mk.injEq] at h
   obtain ⟨e1,e2,e3,e4⟩:=h
   subst e1 e2 e3 e4
   exact ⟨v,rfl,ho,hb⟩
  ·rw [parse_no hno] at h
   simp only [Prod.mk.injEq] at h
   obtain ⟨e1,e2,e3,e4⟩:=h
   subst e1 e2 e3 e4
   exact ⟨_,rfl,Kd.R_nil _ _ _ _ _,hb⟩
 ·cases h
end Go.Proofs.YtnbbfjddjmklpaaDoor.P

/- What one function of the program computes, as a Lean function, and a proof that its call comes to just that. Conditions: none. Written by wip/ownprint.py. -/
namespace Go.Proofs.YtnbbfjddjmklpaaDoor.P
open Go.RowKit Go.Proofs.YtnbbfjddjmklpaaDoorW.PrintWords Go.Proofs.YtnbbfjddjmklpaaDoorW.PrintLast Go.Proofs.YtnbbfjddjmklpaaDoorW.PrintMore
attribute [local go_sem] max2_int min2_int max_two min_two max_three min_three max_four min_four   -- for this text's walks alone
set_option linter.unusedVariables false
set_option linter.unusedSimpArgs false

def transhipmentlaw04_alive.f :Option (Bool):=(matcher_Parse.f (⟨#[97,61,126,34,98,124,99,34]⟩:ByteArray)).bind fun bt148=>((matcher_Holds.f (([(⟨(⟨#[97]⟩:ByteArray),(⟨#[98]⟩:ByteArray)⟩:S46)]:List (S46))) (([(⟨bt148.1,bt148.2.1,bt148.2.2.1⟩:S24)]:List (S24)))).bind fun bt161=>(if bt148.2.2.2=0 then (if bt161.2=0 then (if bt161.1=true then (some ((bt148.2.2.1.length:Int) == 2)) else (some false)) else (some false)) else (some false)))
set_option maxHeartbeats 8000000 in
set_option maxRecDepth 100000 in
theorem transhipmentlaw04_alive.calls  (r:Bool) (w:World) (h:transhipmentlaw04_alive.f =some r) (hK:KeysIn w) :
  Calls Tryd.prog 14 #[] w fun e w'=>e=.returned (.bool r)∧Below w.heap.size w w':=by
 have hu24:=Tryd.underlying24
 have hu46:=Tryd.underlying46
 have HB:=Aside0.mk (Below.refl w.heap.size w)
 have HK:=Aside0.mk hK
 clear hK
 have H:((matcher_Parse.f (⟨#[97,61,126,34,98,124,99,34]⟩:ByteArray)).bind fun bt148=>((matcher_Holds.f (([(⟨(⟨#[97]⟩:ByteArray),(⟨#[98]⟩:ByteArray)⟩:S46)]:List (S46))) (([(⟨bt148.1,bt148.2.1,bt148.2.2.1⟩:S24)]:List (S24)))).bind fun bt161=>(if bt148.2.2.2=0 then (if bt161.2=0 then (if bt161.1=true then (some ((bt148.2.2.1.length:Int) == 2)) else (some false)) else (some false)) else (some false))))=some r:=h
 clear h
 replace H:=Option.bind_eq_some_iff.mp H
 obtain ⟨⟨t148,t149,t150,t153⟩,A10,H⟩:=H
 replace H:((matcher_Holds.f (([(⟨(⟨#[97]⟩:ByteArray),(⟨#[98]⟩:ByteArray)⟩:S46)]:List (S46))) (([(⟨t148,t149,t150⟩:S24)]:List (S24)))).bind fun bt161=>(if t153=0 then (if bt161.2=0 then (if bt161.1=true then (some ((t150.length:Int) == 2)) else (some false)) else (some false)) else (some false)))=some r:=H
 have A1:=Aside0.mk A10
 clear A10
 obtain ⟨y155,hy155⟩:∃ y_:List (S46),y_=(([(⟨(⟨#[97]⟩:ByteArray),(⟨#[98]⟩:ByteArray)⟩:S46)]:List (S46))):=⟨_,rfl⟩
 replace H:((matcher_Holds.f y155 (([(⟨t148,t149,t150⟩:S24)]:List (S24)))).bind fun bt161=>(if t153=0 then (if bt161.2=0 then (if bt161.1=true then (some ((t150.length:Int) == 2)) else (some false)) else (some false)) else (some false)))=some r:=by first|(rw [hy155];with_reducible exact H)|(have H2_:=(Option.bind_some _ _).symm.trans H;rw [hy155];with_reducible exact H2_)|(have H2_:=(Option.bind_some _ _).symm.trans H;with_reducible exact H2_)|with_reducible exact H|(rw [hy155];exact H)|exact H
 have Ny155:=Aside0.mk hy155
 clear hy155
 obtain ⟨y158,hy158⟩:∃ y_:List (S24),y_=(([(⟨t148,t149,t150⟩:S24)]:List (S24))):=⟨_,rfl⟩
 replace H:((matcher_Holds.f y155 y158).bind fun bt161=>(if t153=0 then (if bt161.2=0 then (if bt161.1=true then (some ((t150.length:Int) == 2)) else (some false)) else (some false)) else (some false)))=some r:=by first|(rw [hy158];with_reducible exact H)|(have H2_:=(Option.bind_some _ _).symm.trans H;rw [hy158];with_reducible exact H2_)|(have H2_:=(Option.bind_some _ _).symm.trans H;with_reducible exact H2_)|with_reducible exact H|(rw [hy158];exact H)|exact H
 have Ny158:=Aside0.mk hy158
 clear hy158
 replace H:=Option.bind_eq_some_iff.mp H
 obtain ⟨⟨t161,t162⟩,A20,H⟩:=H
 replace H:(if t153=0 then (if t162=0 then (if t161=true then (some ((t150.length:Int) == 2)) else (some false)) else (some false)) else (some false))=some r:=H
 have A2:=Aside0.mk A20
 clear A20
 by_cases c3:t153=0
 ·rw [if_pos c3] at H
  have c3b0:(t153 == 0)=true:=beq_iff_eq.mpr c3
  have c3b1:(t153 != 0)=false:=bne_eq_false_iff_eq.mpr c3
  clear c3
  by_cases c4:t162=0
  ·rw [if_pos c4] at H
   have c4b0:(t162 == 0)=true:=beq_iff_eq.mpr c4
   have c4b1:(t162 != 0)=false:=bne_eq_false_iff_eq.mpr c4
   clear c4
   by_cases c5:t161=true
   ·subst c5
    have H1:(some ((t150.length:Int) == 2))=some r:=by rw [if_pos rfl] at H;exact H
    clear H
    have H:=H1
    clear H1
    obtain rfl:=Option.some.inj H
    go_enter Tryd.func14,Tryd.ntmps14
    go_wp2_with (first|((with_reducible refine gate_callee (f:=11) rfl ?_);refine goesL_ (some 6) rfl rfl Tryd.func11 (by kernel_rfl) rfl #[.string (⟨#[97,61,126,34,98,124,99,34]⟩:ByteArray)] rfl (by (try simp only [List.map_toArray,List.map_cons,List.map_nil]);first|done|rfl|(simp only [List.length_drop,List.length_take];rfl)) ?_;(with_reducible refine (matcher_Parse.calls (⟨#[97,61,126,34,98,124,99,34]⟩:ByteArray) t148 t149 t150 t153 _ A1.out ?keys_).mono ?_);(case keys_=>exact (keys_step HK.out (by repeat (first|(with_reducible first|exact HB.out|apply below_alloc|apply pw_below_drewN|apply below_drew1|refine below_set ?_ GE154.out)|exact HB.out))));rintro e w6 ⟨v151,rfl,ho0,hb⟩;refine ⟨_,rfl,?_⟩;have n0_:=Aside0.mk (Kd.R_lower ho0 (below_size (by repeat (first|(with_reducible first|exact HB.out|apply below_alloc|apply pw_below_drewN|apply below_drew1)|exact HB.out))));have n1_:=Aside0.mk (below_step (by repeat (first|(with_reducible first|exact HB.out|apply below_alloc|apply pw_below_drewN|apply below_drew1)|exact HB.out)) hb);clear HB;have HO152:=n0_;have HB:=n1_;clear n0_ n1_;(try clear hb);(try clear hb2);(try clear hk);(try clear hi);(try clear ho0))|((with_reducible refine gate_dst (N:=1) rfl ?_);(try (refine gate_guard (by rfl) ?_;dsimp only));refine box_event ?hg (N:=1) ?hd (cs:=#[.string (⟨#[]⟩:ByteArray),.int .i64 0,.slice none 0 0]) (t:=24) ?hr ?_;(case hd=>rfl);(case hg=>rfl);(case hr=>first|(go_simp;done)|(go_simp;rfl)|(go_simp;simp [IntKind.wrap_u32]));intro gb154 hg w7 hbox hb;have n0_:=Aside0.mk (Kd.R_below (by (with_reducible repeat (first|apply Kd.R_alloc|apply Kd.R_drewN|apply Kd.R_drew));exact HO152.out) hb);have n1_:=Aside0.mk (below_step (by repeat (first|(with_reducible first|exact HB.out|apply below_alloc|apply pw_below_drewN|apply below_drew1)|exact HB.out)) hb);have n2_:=Aside0.mk (hbox);have n3_:=Aside0.mk ((by rw [hg];exact (below_size (by repeat (first|(with_reducible first|exact HB.out|apply below_alloc|apply pw_below_drewN|apply below_drew1)|exact HB.out))):w.heap.size≤gb154));have n4_:=Aside0.mk ((by rw [hg];exact (below_size (by repeat (first|(with_reducible first|exact HB.out|apply below_alloc|apply pw_below_drewN|apply below_drew1)|exact HB.out))):w.heap.size≤gb154));clear HO152;clear HB;have HO152:=n0_;have HB:=n1_;have BK154:=n2_;have GW154:=n3_;have GE154:=n4_;clear n0_ n1_ n2_ n3_ n4_;clear hb hbox hg;have hcz8_0:w7.cell? ⟨gb154,0,none⟩=some (.string (⟨#[]⟩:ByteArray)):=(blk_cell BK154.out 0).trans rfl;have hcz8_1:w7.cell? ⟨gb154,1,none⟩=some (.int .i64 0):=(blk_cell BK154.out 1).trans rfl;have hcz8_2:w7.cell? ⟨gb154,2,none⟩=some (.slice none 0 0):=(blk_cell BK154.out 2).trans rfl;have hfz8_0:=blk_frozen BK154.out 0;have hfz8_1:=blk_frozen BK154.out 1;have hfz8_2:=blk_frozen BK154.out 2;obtain ⟨Ao9,co9,eo9⟩:=Kd.R_slice HO152.out;subst eo9)|((with_reducible refine gate_dst (N:=11) rfl ?_);(try (refine gate_guard (by rfl) ?_;dsimp only));refine Kd.R_lit k46 _ 46 ?hg (N:=11) ?hd (xs:=([(⟨(⟨#[97]⟩:ByteArray),(⟨#[98]⟩:ByteArray)⟩:S46)]:List (S46))) (inner:=[.string (⟨#[97]⟩:ByteArray),.string (⟨#[98]⟩:ByteArray)]) (ok:=fun _=>True) (okp:=fun _=>True) ?hr ?hp (fun _ hk=>hk) trivial (Below.refl _ _) (Nat.le_refl _) (by simp) ?_;(case hd=>rfl);(case hg=>rfl);(case hr=>first|(go_simp;done)|(go_simp;rfl)|(go_simp;simp [IntKind.wrap_u32]));(case hp=>exact (Reps.c2 (show Kd.M k46 _ _ _ (⟨(⟨#[97]⟩:ByteArray),(⟨#[98]⟩:ByteArray)⟩:S46) [.string (⟨#[97]⟩:ByteArray),.string (⟨#[98]⟩:ByteArray)] from (k46_mkM _ _ _ (⟨(⟨#[97]⟩:ByteArray),(⟨#[98]⟩:ByteArray)⟩:S46) )) (Reps.none _ _)));intro v156 w10 ho11 hb hg_ hnew_;clear hg_ hnew_;(first|rw [← Ny155.out] at ho11|(simp only [Int.reduceToNat] at ho11;rw [← Ny155.out] at ho11));have n0_:=Aside0.mk (Kd.R_below (by (with_reducible repeat (first|apply Kd.R_alloc|apply Kd.R_drewN|apply Kd.R_drew));exact (Kd.R_mono (Kd.R_far (p:=⟨gb154,2,none⟩) (Kd.R_far (p:=⟨gb154,1,none⟩) (Kd.R_far (p:=⟨gb154,0,none⟩) (Kd.R_types HO152.out BK154.out (by decide)) (fun _ hk=>hk.2) (.string t148)) (fun _ hk=>hk.2) (.int .i64 t149)) (fun _ hk=>hk.2) (.slice Ao9 t150.length co9)) (fun _ h_=>h_.1))) hb);have n1_:=Aside0.mk (Kd.R_lower ho11 (below_size (by repeat (first|(with_reducible first|exact HB.out|apply below_alloc|apply pw_below_drewN|apply below_drew1|refine below_set ?_ GE154.out)|exact HB.out))));have n2_:=Aside0.mk (blk_below (g:=gb154) (o:=.cells #[.string t148,.int .i64 t149,.slice Ao9 t150.length co9] 24 (0,0)) (by (with_reducible repeat (first|refine blk_drewN ?_ _|refine blk_drew ?_|refine blk_alloc ?_ _));refine blk_put (cs:=#[.string t148,.int .i64 t149,.slice none 0 0]) ?_ 2 _ rfl;(with_reducible repeat (first|refine blk_drewN ?_ _|refine blk_drew ?_|refine blk_alloc ?_ _));refine blk_put (cs:=#[.string t148,.int .i64 0,.slice none 0 0]) ?_ 1 _ rfl;(with_reducible repeat (first|refine blk_drewN ?_ _|refine blk_drew ?_|refine blk_alloc ?_ _));refine blk_put (cs:=#[.string (⟨#[]⟩:ByteArray),.int .i64 0,.slice none 0 0]) ?_ 0 _ rfl;(with_reducible repeat (first|refine blk_drewN ?_ _|refine blk_drew ?_|refine blk_alloc ?_ _));exact BK154.out) hb);have n3_:=Aside0.mk (below_step (by repeat (first|(with_reducible first|exact HB.out|apply below_alloc|apply pw_below_drewN|apply below_drew1|refine below_set ?_ GE154.out)|exact HB.out)) hb);clear HO152;clear BK154;clear HB;have HO152:=n0_;have HO157:=n1_;have BK154:=n2_;have HB:=n3_;clear n0_ n1_ n2_ n3_;clear hb ho11;have hcz12_0:w10.cell? ⟨gb154,0,none⟩=some (.string t148):=(blk_cell BK154.out 0).trans rfl;have hcz12_1:w10.cell? ⟨gb154,1,none⟩=some (.int .i64 t149):=(blk_cell BK154.out 1).trans rfl;have hcz12_2:w10.cell? ⟨gb154,2,none⟩=some (.slice Ao9 t150.length co9):=(blk_cell BK154.out 2).trans rfl;have hfz12_0:=blk_frozen BK154.out 0;have hfz12_1:=blk_frozen BK154.out 1;have hfz12_2:=blk_frozen BK154.out 2)|((with_reducible refine gate_dst (N:=13) rfl ?_);(try (refine gate_guard (by rfl) ?_;dsimp only));refine Kd.N_lit k24 _ 24 ?hg (N':=13) ?hd (xs:=([(⟨t148,t149,t150⟩:S24)]:List (S24))) (inner:=[.string t148,.int .i64 t149,.slice Ao9 t150.length co9]) (ok:=(fun k_=>some k_≠(v156:Value).ownBlock∧k_≠gb154)) (okp:=(fun k_=>some k_≠(v156:Value).ownBlock∧k_≠gb154)) ?hr ?hp (fun _ hk=>hk) ((show ∀ k_,w10.heap.size≤k_→(fun k_=>some k_≠(v156:Value).ownBlock∧k_≠gb154) k_ from fun k_ hk=>⟨Kd.fresh' (Kd.R_lt (by (with_reducible repeat (first|apply Kd.R_alloc|apply Kd.R_drewN|apply Kd.R_drew));exact HO157.out)) k_ hk,Kd.freshB (g:=gb154) (o:=.cells #[.string t148,.int .i64 t149,.slice Ao9 t150.length co9] 24 (0,0)) (by (with_reducible repeat (first|refine blk_drewN ?_ _|refine blk_drew ?_|refine blk_alloc ?_ _));exact BK154.out) k_ hk⟩) _ (Nat.le_refl _)) (Below.refl _ _) (Nat.le_refl _) (by simp) ?_;(case hd=>rfl);(case hg=>rfl);(case hr=>first|(go_simp;done)|(go_simp;rfl)|(go_simp;simp [IntKind.wrap_u32]));(case hp=>exact (Reps.c3 (show Kd.FK k24 _ _ (⟨t148,t149,t150⟩:S24) [.string t148,.int .i64 t149,.slice Ao9 t150.length co9] from (k24_mkF _ _ (⟨t148,t149,t150⟩:S24) (Kd.R_reads' (Kd.R_mono (ok':=(fun k_=>some k_≠(v156:Value).ownBlock∧k_≠gb154)) (Kd.R_types (Kd.R_apart' (HO152.out) (Kd.R_typed HO157.out) (by decide)) BK154.out (by decide)) (fun k_ hk=>⟨hk.1.2,hk.2⟩))).2.1 (Kd.R_F (Kd.R_mono (ok':=(fun k_=>some k_≠(v156:Value).ownBlock∧k_≠gb154)) (Kd.R_types (Kd.R_apart' (HO152.out) (Kd.R_typed HO157.out) (by decide)) BK154.out (by decide)) (fun k_ hk=>⟨hk.1.2,hk.2⟩))))) (Reps.none _ _)));intro v159 w13 ho14 hb hg_ hnew_;clear hg_ hnew_;(first|rw [← Ny158.out] at ho14|(simp only [Int.reduceToNat] at ho14;rw [← Ny158.out] at ho14));have n0_:=Aside0.mk (Kd.R_below (by (with_reducible repeat (first|apply Kd.R_alloc|apply Kd.R_drewN|apply Kd.R_drew));exact HO157.out) hb);have n1_:=Aside0.mk (Kd.N_lower ho14 (below_size (by repeat (first|(with_reducible first|exact HB.out|apply below_alloc|apply pw_below_drewN|apply below_drew1|refine below_set ?_ GE154.out)|exact HB.out))));have n2_:=Aside0.mk (blk_below (g:=gb154) (o:=.cells #[.string t148,.int .i64 t149,.slice Ao9 t150.length co9] 24 (0,0)) (by (with_reducible repeat (first|refine blk_drewN ?_ _|refine blk_drew ?_|refine blk_alloc ?_ _));exact BK154.out) hb);have n3_:=Aside0.mk (below_step (by repeat (first|(with_reducible first|exact HB.out|apply below_alloc|apply pw_below_drewN|apply below_drew1|refine below_set ?_ GE154.out)|exact HB.out)) hb);clear HO157;clear BK154;clear HB;clear HO152;have HO157:=n0_;have HO160:=n1_;have BK154:=n2_;have HB:=n3_;clear n0_ n1_ n2_ n3_;clear hb ho14;obtain ⟨Ao15,co15,eo15⟩:=Kd.R_slice HO157.out;subst eo15;obtain ⟨Ao16,co16,eo16⟩:=Kd.N_slice HO160.out;subst eo16)|((with_reducible refine gate_callee (f:=18) rfl ?_);refine goesL_ (some 14) rfl rfl Tryd.func18 (by kernel_rfl) rfl #[.slice Ao15 y155.length co15,.slice Ao16 y158.length co16] rfl (by (try simp only [List.map_toArray,List.map_cons,List.map_nil]);first|done|rfl|(simp only [List.length_drop,List.length_take];rfl)) ?_;(with_reducible refine (matcher_Holds.calls _ _ y155 _ _ y158 true t162 _ ?side1 ?side2 ?side3 ?side4 A2.out).mono ?_);(case side1=>repeat (first|exact (Kd.R_reads' HO157.out).2.2|(with_reducible refine Kd.C_alloc ?_ _)|(with_reducible refine Kd.C_drewN ?_ _)|(with_reducible refine Kd.C_drew ?_)));(case side2=>exact (Kd.R_reads' HO157.out).2.1);(case side3=>repeat (first|exact (Kd.N_reads' HO160.out).2.2|(with_reducible refine Kd.C_alloc ?_ _)|(with_reducible refine Kd.C_drewN ?_ _)|(with_reducible refine Kd.C_drew ?_)));(case side4=>exact (Kd.N_reads' HO160.out).2.1);rintro e w17 ⟨rfl,hb⟩;refine ⟨_,rfl,?_⟩;have n0_:=Aside0.mk (Kd.R_below (by (with_reducible repeat (first|apply Kd.R_alloc|apply Kd.R_drewN|apply Kd.R_drew));exact HO157.out) hb);have n1_:=Aside0.mk (Kd.N_below (by (with_reducible repeat (first|apply Kd.N_alloc|apply Kd.N_drewN|apply Kd.N_drew));exact HO160.out) hb);have n2_:=Aside0.mk (blk_below (g:=gb154) (o:=.cells #[.string t148,.int .i64 t149,.slice Ao9 t150.length co9] 24 (0,0)) (by (with_reducible repeat (first|refine blk_drewN ?_ _|refine blk_drew ?_|refine blk_alloc ?_ _));exact BK154.out) hb);have n3_:=Aside0.mk (below_step (by repeat (first|(with_reducible first|exact HB.out|apply below_alloc|apply pw_below_drewN|apply below_drew1|refine below_set ?_ GE154.out)|exact HB.out)) hb);clear HO157;clear HO160;clear BK154;clear HB;have HO157:=n0_;have HO160:=n1_;have BK154:=n2_;have HB:=n3_;clear n0_ n1_ n2_ n3_;(try clear hb);(try clear hb2);(try clear hk);(try clear hi);have hcz18_0:w17.cell? ⟨gb154,0,none⟩=some (.string t148):=(blk_cell BK154.out 0).trans rfl;have hcz18_1:w17.cell? ⟨gb154,1,none⟩=some (.int .i64 t149):=(blk_cell BK154.out 1).trans rfl;have hcz18_2:w17.cell? ⟨gb154,2,none⟩=some (.slice Ao9 t150.length co9):=(blk_cell BK154.out 2).trans rfl;have hfz18_0:=blk_frozen BK154.out 0;have hfz18_1:=blk_frozen BK154.out 1;have hfz18_2:=blk_frozen BK154.out 2))
    (first|go_ret|go_ret2)
    exact ⟨by first|rfl|(simp [errW_none,errW_some]<;>rfl)|(simp [*,errW_none,errW_some]<;>rfl),by repeat (first|(with_reducible first|exact HB.out|apply below_alloc|apply pw_below_drewN|apply below_drew1|refine below_set ?_ GE154.out)|exact HB.out)⟩
   ·replace c5:=Bool.eq_false_iff.mpr c5
    subst c5
    have H1:(some false)=some r:=by rw [if_neg (show ¬ (false=true) by decide)] at H;exact H
    clear H
    have H:=H1
    clear H1
    obtain rfl:=Option.some.inj H
    go_enter Tryd.func14,Tryd.ntmps14
    go_wp2_with (first|((with_reducible refine gate_callee (f:=11) rfl ?_);refine goesL_ (some 6) rfl rfl Tryd.func11 (by kernel_rfl) rfl #[.string (⟨#[97,61,126,34,98,124,99,34]⟩:ByteArray)] rfl (by (try simp only [List.map_toArray,List.map_cons,List.map_nil]);first|done|rfl|(simp only [List.length_drop,List.length_take];rfl)) ?_;(with_reducible refine (matcher_Parse.calls (⟨#[97,61,126,34,98,124,99,34]⟩:ByteArray) t148 t149 t150 t153 _ A1.out ?keys_).mono ?_);(case keys_=>exact (keys_step HK.out (by repeat (first|(with_reducible first|exact HB.out|apply below_alloc|apply pw_below_drewN|apply below_drew1|refine below_set ?_ GE154.out)|exact HB.out))));rintro e w19 ⟨v151,rfl,ho0,hb⟩;refine ⟨_,rfl,?_⟩;have n0_:=Aside0.mk (Kd.R_lower ho0 (below_size (by repeat (first|(with_reducible first|exact HB.out|apply below_alloc|apply pw_below_drewN|apply below_drew1)|exact HB.out))));have n1_:=Aside0.mk (below_step (by repeat (first|(with_reducible first|exact HB.out|apply below_alloc|apply pw_below_drewN|apply below_drew1)|exact HB.out)) hb);clear HB;have HO152:=n0_;have HB:=n1_;clear n0_ n1_;(try clear hb);(try clear hb2);(try clear hk);(try clear hi);(try clear ho0))|((with_reducible refine gate_dst (N:=1) rfl ?_);(try (refine gate_guard (by rfl) ?_;dsimp only));refine box_event ?hg (N:=1) ?hd (cs:=#[.string (⟨#[]⟩:ByteArray),.int .i64 0,.slice none 0 0]) (t:=24) ?hr ?_;(case hd=>rfl);(case hg=>rfl);(case hr=>first|(go_simp;done)|(go_simp;rfl)|(go_simp;simp [IntKind.wrap_u32]));intro gb154 hg w20 hbox hb;have n0_:=Aside0.mk (Kd.R_below (by (with_reducible repeat (first|apply Kd.R_alloc|apply Kd.R_drewN|apply Kd.R_drew));exact HO152.out) hb);have n1_:=Aside0.mk (below_step (by repeat (first|(with_reducible first|exact HB.out|apply below_alloc|apply pw_below_drewN|apply below_drew1)|exact HB.out)) hb);have n2_:=Aside0.mk (hbox);have n3_:=Aside0.mk ((by rw [hg];exact (below_size (by repeat (first|(with_reducible first|exact HB.out|apply below_alloc|apply pw_below_drewN|apply below_drew1)|exact HB.out))):w.heap.size≤gb154));have n4_:=Aside0.mk ((by rw [hg];exact (below_size (by repeat (first|(with_reducible first|exact HB.out|apply below_alloc|apply pw_below_drewN|apply below_drew1)|exact HB.out))):w.heap.size≤gb154));clear HO152;clear HB;have HO152:=n0_;have HB:=n1_;have BK154:=n2_;have GW154:=n3_;have GE154:=n4_;clear n0_ n1_ n2_ n3_ n4_;clear hb hbox hg;have hcz21_0:w20.cell? ⟨gb154,0,none⟩=some (.string (⟨#[]⟩:ByteArray)):=(blk_cell BK154.out 0).trans rfl;have hcz21_1:w20.cell? ⟨gb154,1,none⟩=some (.int .i64 0):=(blk_cell BK154.out 1).trans rfl;have hcz21_2:w20.cell? ⟨gb154,2,none⟩=some (.slice none 0 0):=(blk_cell BK154.out 2).trans rfl;have hfz21_0:=blk_frozen BK154.out 0;have hfz21_1:=blk_frozen BK154.out 1;have hfz21_2:=blk_frozen BK154.out 2;obtain ⟨Ao22,co22,eo22⟩:=Kd.R_slice HO152.out;subst eo22)|((with_reducible refine gate_dst (N:=11) rfl ?_);(try (refine gate_guard (by rfl) ?_;dsimp only));refine Kd.R_lit k46 _ 46 ?hg (N:=11) ?hd (xs:=([(⟨(⟨#[97]⟩:ByteArray),(⟨#[98]⟩:ByteArray)⟩:S46)]:List (S46))) (inner:=[.string (⟨#[97]⟩:ByteArray),.string (⟨#[98]⟩:ByteArray)]) (ok:=fun _=>True) (okp:=fun _=>True) ?hr ?hp (fun _ hk=>hk) trivial (Below.refl _ _) (Nat.le_refl _) (by simp) ?_;(case hd=>rfl);(case hg=>rfl);(case hr=>first|(go_simp;done)|(go_simp;rfl)|(go_simp;simp [IntKind.wrap_u32]));(case hp=>exact (Reps.c2 (show Kd.M k46 _ _ _ (⟨(⟨#[97]⟩:ByteArray),(⟨#[98]⟩:ByteArray)⟩:S46) [.string (⟨#[97]⟩:ByteArray),.string (⟨#[98]⟩:ByteArray)] from (k46_mkM _ _ _ (⟨(⟨#[97]⟩:ByteArray),(⟨#[98]⟩:ByteArray)⟩:S46) )) (Reps.none _ _)));intro v156 w23 ho24 hb hg_ hnew_;clear hg_ hnew_;(first|rw [← Ny155.out] at ho24|(simp only [Int.reduceToNat] at ho24;rw [← Ny155.out] at ho24));have n0_:=Aside0.mk (Kd.R_below (by (with_reducible repeat (first|apply Kd.R_alloc|apply Kd.R_drewN|apply Kd.R_drew));exact (Kd.R_mono (Kd.R_far (p:=⟨gb154,2,none⟩) (Kd.R_far (p:=⟨gb154,1,none⟩) (Kd.R_far (p:=⟨gb154,0,none⟩) (Kd.R_types HO152.out BK154.out (by decide)) (fun _ hk=>hk.2) (.string t148)) (fun _ hk=>hk.2) (.int .i64 t149)) (fun _ hk=>hk.2) (.slice Ao22 t150.length co22)) (fun _ h_=>h_.1))) hb);have n1_:=Aside0.mk (Kd.R_lower ho24 (below_size (by repeat (first|(with_reducible first|exact HB.out|apply below_alloc|apply pw_below_drewN|apply below_drew1|refine below_set ?_ GE154.out)|exact HB.out))));have n2_:=Aside0.mk (blk_below (g:=gb154) (o:=.cells #[.string t148,.int .i64 t149,.slice Ao22 t150.length co22] 24 (0,0)) (by (with_reducible repeat (first|refine blk_drewN ?_ _|refine blk_drew ?_|refine blk_alloc ?_ _));refine blk_put (cs:=#[.string t148,.int .i64 t149,.slice none 0 0]) ?_ 2 _ rfl;(with_reducible repeat (first|refine blk_drewN ?_ _|refine blk_drew ?_|refine blk_alloc ?_ _));refine blk_put (cs:=#[.string t148,.int .i64 0,.slice none 0 0]) ?_ 1 _ rfl;(with_reducible repeat (first|refine blk_drewN ?_ _|refine blk_drew ?_|refine blk_alloc ?_ _));refine blk_put (cs:=#[.string (⟨#[]⟩:ByteArray),.int .i64 0,.slice none 0 0]) ?_ 0 _ rfl;(with_reducible repeat (first|refine blk_drewN ?_ _|refine blk_drew ?_|refine blk_alloc ?_ _));exact BK154.out) hb);have n3_:=Aside0.mk (below_step (by repeat (first|(with_reducible first|exact HB.out|apply below_alloc|apply pw_below_drewN|apply below_drew1|refine below_set ?_ GE154.out)|exact HB.out)) hb);clear HO152;clear BK154;clear HB;have HO152:=n0_;have HO157:=n1_;have BK154:=n2_;have HB:=n3_;clear n0_ n1_ n2_ n3_;clear hb ho24;have hcz25_0:w23.cell? ⟨gb154,0,none⟩=some (.string t148):=(blk_cell BK154.out 0).trans rfl;have hcz25_1:w23.cell? ⟨gb154,1,none⟩=some (.int .i64 t149):=(blk_cell BK154.out 1).trans rfl;have hcz25_2:w23.cell? ⟨gb154,2,none⟩=some (.slice Ao22 t150.length co22):=(blk_cell BK154.out 2).trans rfl;have hfz25_0:=blk_frozen BK154.out 0;have hfz25_1:=blk_frozen BK154.out 1;have hfz25_2:=blk_frozen BK154.out 2)|((with_reducible refine gate_dst (N:=13) rfl ?_);(try (refine gate_guard (by rfl) ?_;dsimp only));refine Kd.N_lit k24 _ 24 ?hg (N':=13) ?hd (xs:=([(⟨t148,t149,t150⟩:S24)]:List (S24))) (inner:=[.string t148,.int .i64 t149,.slice Ao22 t150.length co22]) (ok:=(fun k_=>some k_≠(v156:Value).ownBlock∧k_≠gb154)) (okp:=(fun k_=>some k_≠(v156:Value).ownBlock∧k_≠gb154)) ?hr ?hp (fun _ hk=>hk) ((show ∀ k_,w23.heap.size≤k_→(fun k_=>some k_≠(v156:Value).ownBlock∧k_≠gb154) k_ from fun k_ hk=>⟨Kd.fresh' (Kd.R_lt (by (with_reducible repeat (first|apply Kd.R_alloc|apply Kd.R_drewN|apply Kd.R_drew));exact HO157.out)) k_ hk,Kd.freshB (g:=gb154) (o:=.cells #[.string t148,.int .i64 t149,.slice Ao22 t150.length co22] 24 (0,0)) (by (with_reducible repeat (first|refine blk_drewN ?_ _|refine blk_drew ?_|refine blk_alloc ?_ _));exact BK154.out) k_ hk⟩) _ (Nat.le_refl _)) (Below.refl _ _) (Nat.le_refl _) (by simp) ?_;(case hd=>rfl);(case hg=>rfl);(case hr=>first|(go_simp;done)|(go_simp;rfl)|(go_simp;simp [IntKind.wrap_u32]));(case hp=>exact (Reps.c3 (show Kd.FK k24 _ _ (⟨t148,t149,t150⟩:S24) [.string t148,.int .i64 t149,.slice Ao22 t150.length co22] from (k24_mkF _ _ (⟨t148,t149,t150⟩:S24) (Kd.R_reads' (Kd.R_mono (ok':=(fun k_=>some k_≠(v156:Value).ownBlock∧k_≠gb154)) (Kd.R_types (Kd.R_apart' (HO152.out) (Kd.R_typed HO157.out) (by decide)) BK154.out (by decide)) (fun k_ hk=>⟨hk.1.2,hk.2⟩))).2.1 (Kd.R_F (Kd.R_mono (ok':=(fun k_=>some k_≠(v156:Value).ownBlock∧k_≠gb154)) (Kd.R_types (Kd.R_apart' (HO152.out) (Kd.R_typed HO157.out) (by decide)) BK154.out (by decide)) (fun k_ hk=>⟨hk.1.2,hk.2⟩))))) (Reps.none _ _)));intro v159 w26 ho27 hb hg_ hnew_;clear hg_ hnew_;(first|rw [← Ny158.out] at ho27|(simp only [Int.reduceToNat] at ho27;rw [← Ny158.out] at ho27));have n0_:=Aside0.mk (Kd.R_below (by (with_reducible repeat (first|apply Kd.R_alloc|apply Kd.R_drewN|apply Kd.R_drew));exact HO157.out) hb);have n1_:=Aside0.mk (Kd.N_lower ho27 (below_size (by repeat (first|(with_reducible first|exact HB.out|apply below_alloc|apply pw_below_drewN|apply below_drew1|refine below_set ?_ GE154.out)|exact HB.out))));have n2_:=Aside0.mk (blk_below (g:=gb154) (o:=.cells #[.string t148,.int .i64 t149,.slice Ao22 t150.length co22] 24 (0,0)) (by (with_reducible repeat (first|refine blk_drewN ?_ _|refine blk_drew ?_|refine blk_alloc ?_ _));exact BK154.out) hb);have n3_:=Aside0.mk (below_step (by repeat (first|(with_reducible first|exact HB.out|apply below_alloc|apply pw_below_drewN|apply below_drew1|refine below_set ?_ GE154.out)|exact HB.out)) hb);clear HO157;clear BK154;clear HB;clear HO152;have HO157:=n0_;have HO160:=n1_;have BK154:=n2_;have HB:=n3_;clear n0_ n1_ n2_ n3_;clear hb ho27;obtain ⟨Ao28,co28,eo28⟩:=Kd.R_slice HO157.out;subst eo28;obtain ⟨Ao29,co29,eo29⟩:=Kd.N_slice HO160.out;subst eo29)|((with_reducible refine gate_callee (f:=18) rfl ?_);refine goesL_ (some 14) rfl rfl Tryd.func18 (by kernel_rfl) rfl #[.slice Ao28 y155.length co28,.slice Ao29 y158.length co29] rfl (by (try simp only [List.map_toArray,List.map_cons,List.map_nil]);first|done|rfl|(simp only [List.length_drop,List.length_take];rfl)) ?_;(with_reducible refine (matcher_Holds.calls _ _ y155 _ _ y158 false t162 _ ?side1 ?side2 ?side3 ?side4 A2.out).mono ?_);(case side1=>repeat (first|exact (Kd.R_reads' HO157.out).2.2|(with_reducible refine Kd.C_alloc ?_ _)|(with_reducible refine Kd.C_drewN ?_ _)|(with_reducible refine Kd.C_drew ?_)));(case side2=>exact (Kd.R_reads' HO157.out).2.1);(case side3=>repeat (first|exact (Kd.N_reads' HO160.out).2.2|(with_reducible refine Kd.C_alloc ?_ _)|(with_reducible refine Kd.C_drewN ?_ _)|(with_reducible refine Kd.C_drew ?_)));(case side4=>exact (Kd.N_reads' HO160.out).2.1);rintro e w30 ⟨rfl,hb⟩;refine ⟨_,rfl,?_⟩;have n0_:=Aside0.mk (Kd.R_below (by (with_reducible repeat (first|apply Kd.R_alloc|apply Kd.R_drewN|apply Kd.R_drew));exact HO157.out) hb);have n1_:=Aside0.mk (Kd.N_below (by (with_reducible repeat (first|apply Kd.N_alloc|apply Kd.N_drewN|apply Kd.N_drew));exact HO160.out) hb);have n2_:=Aside0.mk (blk_below (g:=gb154) (o:=.cells #[.string t148,.int .i64 t149,.slice Ao22 t150.length co22] 24 (0,0)) (by (with_reducible repeat (first|refine blk_drewN ?_ _|refine blk_drew ?_|refine blk_alloc ?_ _));exact BK154.out) hb);have n3_:=Aside0.mk (below_step (by repeat (first|(with_reducible first|exact HB.out|apply below_alloc|apply pw_below_drewN|apply below_drew1|refine below_set ?_ GE154.out)|exact HB.out)) hb);clear HO157;clear HO160;clear BK154;clear HB;have HO157:=n0_;have HO160:=n1_;have BK154:=n2_;have HB:=n3_;clear n0_ n1_ n2_ n3_;(try clear hb);(try clear hb2);(try clear hk);(try clear hi)))
    (first|go_ret|go_ret2)
    exact ⟨by first|rfl|(simp [errW_none,errW_some]<;>rfl)|(simp [*,errW_none,errW_some]<;>rfl),by repeat (first|(with_reducible first|exact HB.out|apply below_alloc|apply pw_below_drewN|apply below_drew1|refine below_set ?_ GE154.out)|exact HB.out)⟩
  ·rw [if_neg c4] at H
   have c4b0:(t162 == 0)=false:=beq_eq_false_iff_ne.mpr c4
   have c4b1:(t162 != 0)=true:=bne_iff_ne.mpr c4
   obtain rfl:=Option.some.inj H
   go_enter Tryd.func14,Tryd.ntmps14
   go_wp2_with (first|((with_reducible refine gate_callee (f:=11) rfl ?_);refine goesL_ (some 6) rfl rfl Tryd.func11 (by kernel_rfl) rfl #[.string (⟨#[97,61,126,34,98,124,99,34]⟩:ByteArray)] rfl (by (try simp only [List.map_toArray,List.map_cons,List.map_nil]);first|done|rfl|(simp only [List.length_drop,List.length_take];rfl)) ?_;(with_reducible refine (matcher_Parse.calls (⟨#[97,61,126,34,98,124,99,34]⟩:ByteArray) t148 t149 t150 t153 _ A1.out ?keys_).mono ?_);(case keys_=>exact (keys_step HK.out (by repeat (first|(with_reducible first|exact HB.out|apply below_alloc|apply pw_below_drewN|apply below_drew1|refine below_set ?_ GE154.out)|exact HB.out))));rintro e w31 ⟨v151,rfl,ho0,hb⟩;refine ⟨_,rfl,?_⟩;have n0_:=Aside0.mk (Kd.R_lower ho0 (below_size (by repeat (first|(with_reducible first|exact HB.out|apply below_alloc|apply pw_below_drewN|apply below_drew1)|exact HB.out))));have n1_:=Aside0.mk (below_step (by repeat (first|(with_reducible first|exact HB.out|apply below_alloc|apply pw_below_drewN|apply below_drew1)|exact HB.out)) hb);clear HB;have HO152:=n0_;have HB:=n1_;clear n0_ n1_;(try clear hb);(try clear hb2);(try clear hk);(try clear hi);(try clear ho0))|((with_reducible refine gate_dst (N:=1) rfl ?_);(try (refine gate_guard (by rfl) ?_;dsimp only));refine box_event ?hg (N:=1) ?hd (cs:=#[.string (⟨#[]⟩:ByteArray),.int .i64 0,.slice none 0 0]) (t:=24) ?hr ?_;(case hd=>rfl);(case hg=>rfl);(case hr=>first|(go_simp;done)|(go_simp;rfl)|(go_simp;simp [IntKind.wrap_u32]));intro gb154 hg w32 hbox hb;have n0_:=Aside0.mk (Kd.R_below (by (with_reducible repeat (first|apply Kd.R_alloc|apply Kd.R_drewN|apply Kd.R_drew));exact HO152.out) hb);have n1_:=Aside0.mk (below_step (by repeat (first|(with_reducible first|exact HB.out|apply below_alloc|apply pw_below_drewN|apply below_drew1)|exact HB.out)) hb);have n2_:=Aside0.mk (hbox);have n3_:=Aside0.mk ((by rw [hg];exact (below_size (by repeat (first|(with_reducible first|exact HB.out|apply below_alloc|apply pw_below_drewN|apply below_drew1)|exact HB.out))):w.heap.size≤gb154));have n4_:=Aside0.mk ((by rw [hg];exact (below_size (by repeat (first|(with_reducible first|exact HB.out|apply below_alloc|apply pw_below_drewN|apply below_drew1)|exact HB.out))):w.heap.size≤gb154));clear HO152;clear HB;have HO152:=n0_;have HB:=n1_;have BK154:=n2_;have GW154:=n3_;have GE154:=n4_;clear n0_ n1_ n2_ n3_ n4_;clear hb hbox hg;have hcz33_0:w32.cell? ⟨gb154,0,none⟩=some (.string (⟨#[]⟩:ByteArray)):=(blk_cell BK154.out 0).trans rfl;have hcz33_1:w32.cell? ⟨gb154,1,none⟩=some (.int .i64 0):=(blk_cell BK154.out 1).trans rfl;have hcz33_2:w32.cell? ⟨gb154,2,none⟩=some (.slice none 0 0):=(blk_cell BK154.out 2).trans rfl;have hfz33_0:=blk_frozen BK154.out 0;have hfz33_1:=blk_frozen BK154.out 1;have hfz33_2:=blk_frozen BK154.out 2;obtain ⟨Ao34,co34,eo34⟩:=Kd.R_slice HO152.out;subst eo34)|((with_reducible refine gate_dst (N:=11) rfl ?_);(try (refine gate_guard (by rfl) ?_;dsimp only));refine Kd.R_lit k46 _ 46 ?hg (N:=11) ?hd (xs:=([(⟨(⟨#[97]⟩:ByteArray),(⟨#[98]⟩:ByteArray)⟩:S46)]:List (S46))) (inner:=[.string (⟨#[97]⟩:ByteArray),.string (⟨#[98]⟩:ByteArray)]) (ok:=fun _=>True) (okp:=fun _=>True) ?hr ?hp (fun _ hk=>hk) trivial (Below.refl _ _) (Nat.le_refl _) (by simp) ?_;(case hd=>rfl);(case hg=>rfl);(case hr=>first|(go_simp;done)|(go_simp;rfl)|(go_simp;simp [IntKind.wrap_u32]));(case hp=>exact (Reps.c2 (show Kd.M k46 _ _ _ (⟨(⟨#[97]⟩:ByteArray),(⟨#[98]⟩:ByteArray)⟩:S46) [.string (⟨#[97]⟩:ByteArray),.string (⟨#[98]⟩:ByteArray)] from (k46_mkM _ _ _ (⟨(⟨#[97]⟩:ByteArray),(⟨#[98]⟩:ByteArray)⟩:S46) )) (Reps.none _ _)));intro v156 w35 ho36 hb hg_ hnew_;clear hg_ hnew_;(first|rw [← Ny155.out] at ho36|(simp only [Int.reduceToNat] at ho36;rw [← Ny155.out] at ho36));have n0_:=Aside0.mk (Kd.R_below (by (with_reducible repeat (first|apply Kd.R_alloc|apply Kd.R_drewN|apply Kd.R_drew));exact (Kd.R_mono (Kd.R_far (p:=⟨gb154,2,none⟩) (Kd.R_far (p:=⟨gb154,1,none⟩) (Kd.R_far (p:=⟨gb154,0,none⟩) (Kd.R_types HO152.out BK154.out (by decide)) (fun _ hk=>hk.2) (.string t148)) (fun _ hk=>hk.2) (.int .i64 t149)) (fun _ hk=>hk.2) (.slice Ao34 t150.length co34)) (fun _ h_=>h_.1))) hb);have n1_:=Aside0.mk (Kd.R_lower ho36 (below_size (by repeat (first|(with_reducible first|exact HB.out|apply below_alloc|apply pw_below_drewN|apply below_drew1|refine below_set ?_ GE154.out)|exact HB.out))));have n2_:=Aside0.mk (blk_below (g:=gb154) (o:=.cells #[.string t148,.int .i64 t149,.slice Ao34 t150.length co34] 24 (0,0)) (by (with_reducible repeat (first|refine blk_drewN ?_ _|refine blk_drew ?_|refine blk_alloc ?_ _));refine blk_put (cs:=#[.string t148,.int .i64 t149,.slice none 0 0]) ?_ 2 _ rfl;(with_reducible repeat (first|refine blk_drewN ?_ _|refine blk_drew ?_|refine blk_alloc ?_ _));refine blk_put (cs:=#[.string t148,.int .i64 0,.slice none 0 0]) ?_ 1 _ rfl;(with_reducible repeat (first|refine blk_drewN ?_ _|refine blk_drew ?_|refine blk_alloc ?_ _));refine blk_put (cs:=#[.string (⟨#[]⟩:ByteArray),.int .i64 0,.slice none 0 0]) ?_ 0 _ rfl;(with_reducible repeat (first|refine blk_drewN ?_ _|refine blk_drew ?_|refine blk_alloc ?_ _));exact BK154.out) hb);have n3_:=Aside0.mk (below_step (by repeat (first|(with_reducible first|exact HB.out|apply below_alloc|apply pw_below_drewN|apply below_drew1|refine below_set ?_ GE154.out)|exact HB.out)) hb);clear HO152;clear BK154;clear HB;have HO152:=n0_;have HO157:=n1_;have BK154:=n2_;have HB:=n3_;clear n0_ n1_ n2_ n3_;clear hb ho36;have hcz37_0:w35.cell? ⟨gb154,0,none⟩=some (.string t148):=(blk_cell BK154.out 0).trans rfl;have hcz37_1:w35.cell? ⟨gb154,1,none⟩=some (.int .i64 t149):=(blk_cell BK154.out 1).trans rfl;have hcz37_2:w35.cell? ⟨gb154,2,none⟩=some (.slice Ao34 t150.length co34):=(blk_cell BK154.out 2).trans rfl;have hfz37_0:=blk_frozen BK154.out 0;have hfz37_1:=blk_frozen BK154.out 1;have hfz37_2:=blk_frozen BK154.out 2)|((with_reducible refine gate_dst (N:=13) rfl ?_);(try (refine gate_guard (by rfl) ?_;dsimp only));refine Kd.N_lit k24 _ 24 ?hg (N':=13) ?hd (xs:=([(⟨t148,t149,t150⟩:S24)]:List (S24))) (inner:=[.string t148,.int .i64 t149,.slice Ao34 t150.length co34]) (ok:=(fun k_=>some k_≠(v156:Value).ownBlock∧k_≠gb154)) (okp:=(fun k_=>some k_≠(v156:Value).ownBlock∧k_≠gb154)) ?hr ?hp (fun _ hk=>hk) ((show ∀ k_,w35.heap.size≤k_→(fun k_=>some k_≠(v156:Value).ownBlock∧k_≠gb154) k_ from fun k_ hk=>⟨Kd.fresh' (Kd.R_lt (by (with_reducible repeat (first|apply Kd.R_alloc|apply Kd.R_drewN|apply Kd.R_drew));exact HO157.out)) k_ hk,Kd.freshB (g:=gb154) (o:=.cells #[.string t148,.int .i64 t149,.slice Ao34 t150.length co34] 24 (0,0)) (by (with_reducible repeat (first|refine blk_drewN ?_ _|refine blk_drew ?_|refine blk_alloc ?_ _));exact BK154.out) k_ hk⟩) _ (Nat.le_refl _)) (Below.refl _ _) (Nat.le_refl _) (by simp) ?_;(case hd=>rfl);(case hg=>rfl);(case hr=>first|(go_simp;done)|(go_simp;rfl)|(go_simp;simp [IntKind.wrap_u32]));(case hp=>exact (Reps.c3 (show Kd.FK k24 _ _ (⟨t148,t149,t150⟩:S24) [.string t148,.int .i64 t149,.slice Ao34 t150.length co34] from (k24_mkF _ _ (⟨t148,t149,t150⟩:S24) (Kd.R_reads' (Kd.R_mono (ok':=(fun k_=>some k_≠(v156:Value).ownBlock∧k_≠gb154)) (Kd.R_types (Kd.R_apart' (HO152.out) (Kd.R_typed HO157.out) (by decide)) BK154.out (by decide)) (fun k_ hk=>⟨hk.1.2,hk.2⟩))).2.1 (Kd.R_F (Kd.R_mono (ok':=(fun k_=>some k_≠(v156:Value).ownBlock∧k_≠gb154)) (Kd.R_types (Kd.R_apart' (HO152.out) (Kd.R_typed HO157.out) (by decide)) BK154.out (by decide)) (fun k_ hk=>⟨hk.1.2,hk.2⟩))))) (Reps.none _ _)));intro v159 w38 ho39 hb hg_ hnew_;clear hg_ hnew_;(first|rw [← Ny158.out] at ho39|(simp only [Int.reduceToNat] at ho39;rw [← Ny158.out] at ho39));have n0_:=Aside0.mk (Kd.R_below (by (with_reducible repeat (first|apply Kd.R_alloc|apply Kd.R_drewN|apply Kd.R_drew));exact HO157.out) hb);have n1_:=Aside0.mk (Kd.N_lower ho39 (below_size (by repeat (first|(with_reducible first|exact HB.out|apply below_alloc|apply pw_below_drewN|apply below_drew1|refine below_set ?_ GE154.out)|exact HB.out))));have n2_:=Aside0.mk (blk_below (g:=gb154) (o:=.cells #[.string t148,.int .i64 t149,.slice Ao34 t150.length co34] 24 (0,0)) (by (with_reducible repeat (first|refine blk_drewN ?_ _|refine blk_drew ?_|refine blk_alloc ?_ _));exact BK154.out) hb);have n3_:=Aside0.mk (below_step (by repeat (first|(with_reducible first|exact HB.out|apply below_alloc|apply pw_below_drewN|apply below_drew1|refine below_set ?_ GE154.out)|exact HB.out)) hb);clear HO157;clear BK154;clear HB;clear HO152;have HO157:=n0_;have HO160:=n1_;have BK154:=n2_;have HB:=n3_;clear n0_ n1_ n2_ n3_;clear hb ho39;obtain ⟨Ao40,co40,eo40⟩:=Kd.R_slice HO157.out;subst eo40;obtain ⟨Ao41,co41,eo41⟩:=Kd.N_slice HO160.out;subst eo41)|((with_reducible refine gate_callee (f:=18) rfl ?_);refine goesL_ (some 14) rfl rfl Tryd.func18 (by kernel_rfl) rfl #[.slice Ao40 y155.length co40,.slice Ao41 y158.length co41] rfl (by (try simp only [List.map_toArray,List.map_cons,List.map_nil]);first|done|rfl|(simp only [List.length_drop,List.length_take];rfl)) ?_;(with_reducible refine (matcher_Holds.calls _ _ y155 _ _ y158 t161 t162 _ ?side1 ?side2 ?side3 ?side4 A2.out).mono ?_);(case side1=>repeat (first|exact (Kd.R_reads' HO157.out).2.2|(with_reducible refine Kd.C_alloc ?_ _)|(with_reducible refine Kd.C_drewN ?_ _)|(with_reducible refine Kd.C_drew ?_)));(case side2=>exact (Kd.R_reads' HO157.out).2.1);(case side3=>repeat (first|exact (Kd.N_reads' HO160.out).2.2|(with_reducible refine Kd.C_alloc ?_ _)|(with_reducible refine Kd.C_drewN ?_ _)|(with_reducible refine Kd.C_drew ?_)));(case side4=>exact (Kd.N_reads' HO160.out).2.1);rintro e w42 ⟨rfl,hb⟩;refine ⟨_,rfl,?_⟩;have n0_:=Aside0.mk (Kd.R_below (by (with_reducible repeat (first|apply Kd.R_alloc|apply Kd.R_drewN|apply Kd.R_drew));exact HO157.out) hb);have n1_:=Aside0.mk (Kd.N_below (by (with_reducible repeat (first|apply Kd.N_alloc|apply Kd.N_drewN|apply Kd.N_drew));exact HO160.out) hb);have n2_:=Aside0.mk (blk_below (g:=gb154) (o:=.cells #[.string t148,.int .i64 t149,.slice Ao34 t150.length co34] 24 (0,0)) (by (with_reducible repeat (first|refine blk_drewN ?_ _|refine blk_drew ?_|refine blk_alloc ?_ _));exact BK154.out) hb);have n3_:=Aside0.mk (below_step (by repeat (first|(with_reducible first|exact HB.out|apply below_alloc|apply pw_below_drewN|apply below_drew1|refine below_set ?_ GE154.out)|exact HB.out)) hb);clear HO157;clear HO160;clear BK154;clear HB;have HO157:=n0_;have HO160:=n1_;have BK154:=n2_;have HB:=n3_;clear n0_ n1_ n2_ n3_;(try clear hb);(try clear hb2);(try clear hk);(try clear hi)))
   (first|go_ret|go_ret2)
   exact ⟨by first|rfl|(simp [errW_none,errW_some]<;>rfl)|(simp [*,errW_none,errW_some]<;>rfl),by repeat (first|(with_reducible first|exact HB.out|apply below_alloc|apply pw_below_drewN|apply below_drew1|refine below_set ?_ GE154.out)|exact HB.out)⟩
 ·rw [if_neg c3] at H
  have c3b0:(t153 == 0)=false:=beq_eq_false_iff_ne.mpr c3
  have c3b1:(t153 != 0)=true:=bne_iff_ne.mpr c3
  obtain rfl:=Option.some.inj H
  go_enter Tryd.func14,Tryd.ntmps14
  go_wp2_with (first|((with_reducible refine gate_callee (f:=11) rfl ?_);refine goesL_ (some 6) rfl rfl Tryd.func11 (by kernel_rfl) rfl #[.string (⟨#[97,61,126,34,98,124,99,34]⟩:ByteArray)] rfl (by (try simp only [List.map_toArray,List.map_cons,List.map_nil]);first|done|rfl|(simp only [List.length_drop,List.length_take];rfl)) ?_;(with_reducible refine (matcher_Parse.calls (⟨#[97,61,126,34,98,124,99,34]⟩:ByteArray) t148 t149 t150 t153 _ A1.out ?keys_).mono ?_);(case keys_=>exact (keys_step HK.out (by repeat (first|(with_reducible first|exact HB.out|apply below_alloc|apply pw_below_drewN|apply below_drew1|refine below_set ?_ GE154.out)|exact HB.out))));rintro e w43 ⟨v151,rfl,ho0,hb⟩;refine ⟨_,rfl,?_⟩;have n0_:=Aside0.mk (Kd.R_lower ho0 (below_size (by repeat (first|(with_reducible first|exact HB.out|apply below_alloc|apply pw_below_drewN|apply below_drew1)|exact HB.out))));have n1_:=Aside0.mk (below_step (by repeat (first|(with_reducible first|exact HB.out|apply below_alloc|apply pw_below_drewN|apply below_drew1)|exact HB.out)) hb);clear HB;have HO152:=n0_;have HB:=n1_;clear n0_ n1_;(try clear hb);(try clear hb2);(try clear hk);(try clear hi);(try clear ho0))|((with_reducible refine gate_dst (N:=1) rfl ?_);(try (refine gate_guard (by rfl) ?_;dsimp only));refine box_event ?hg (N:=1) ?hd (cs:=#[.string (⟨#[]⟩:ByteArray),.int .i64 0,.slice none 0 0]) (t:=24) ?hr ?_;(case hd=>rfl);(case hg=>rfl);(case hr=>first|(go_simp;done)|(go_simp;rfl)|(go_simp;simp [IntKind.wrap_u32]));intro gb154 hg w44 hbox hb;have n0_:=Aside0.mk (Kd.R_below (by (with_reducible repeat (first|apply Kd.R_alloc|apply Kd.R_drewN|apply Kd.R_drew));exact HO152.out) hb);have n1_:=Aside0.mk (below_step (by repeat (first|(with_reducible first|exact HB.out|apply below_alloc|apply pw_below_drewN|apply below_drew1)|exact HB.out)) hb);have n2_:=Aside0.mk (hbox);have n3_:=Aside0.mk ((by rw [hg];exact (below_size (by repeat (first|(with_reducible first|exact HB.out|apply below_alloc|apply pw_below_drewN|apply below_drew1)|exact HB.out))):w.heap.size≤gb154));have n4_:=Aside0.mk ((by rw [hg];exact (below_size (by repeat (first|(with_reducible first|exact HB.out|apply below_alloc|apply pw_below_drewN|apply below_drew1)|exact HB.out))):w.heap.size≤gb154));clear HO152;clear HB;have HO152:=n0_;have HB:=n1_;have BK154:=n2_;have GW154:=n3_;have GE154:=n4_;clear n0_ n1_ n2_ n3_ n4_;clear hb hbox hg;have hcz45_0:w44.cell? ⟨gb154,0,none⟩=some (.string (⟨#[]⟩:ByteArray)):=(blk_cell BK154.out 0).trans rfl;have hcz45_1:w44.cell? ⟨gb154,1,none⟩=some (.int .i64 0):=(blk_cell BK154.out 1).trans rfl;have hcz45_2:w44.cell? ⟨gb154,2,none⟩=some (.slice none 0 0):=(blk_cell BK154.out 2).trans rfl;have hfz45_0:=blk_frozen BK154.out 0;have hfz45_1:=blk_frozen BK154.out 1;have hfz45_2:=blk_frozen BK154.out 2;obtain ⟨Ao46,co46,eo46⟩:=Kd.R_slice HO152.out;subst eo46)|((with_reducible refine gate_dst (N:=11) rfl ?_);(try (refine gate_guard (by rfl) ?_;dsimp only));refine Kd.R_lit k46 _ 46 ?hg (N:=11) ?hd (xs:=([(⟨(⟨#[97]⟩:ByteArray),(⟨#[98]⟩:ByteArray)⟩:S46)]:List (S46))) (inner:=[.string (⟨#[97]⟩:ByteArray),.string (⟨#[98]⟩:ByteArray)]) (ok:=fun _=>True) (okp:=fun _=>True) ?hr ?hp (fun _ hk=>hk) trivial (Below.refl _ _) (Nat.le_refl _) (by simp) ?_;(case hd=>rfl);(case hg=>rfl);(case hr=>first|(go_simp;done)|(go_simp;rfl)|(go_simp;simp [IntKind.wrap_u32]));(case hp=>exact (Reps.c2 (show Kd.M k46 _ _ _ (⟨(⟨#[97]⟩:ByteArray),(⟨#[98]⟩:ByteArray)⟩:S46) [.string (⟨#[97]⟩:ByteArray),.string (⟨#[98]⟩:ByteArray)] from (k46_mkM _ _ _ (⟨(⟨#[97]⟩:ByteArray),(⟨#[98]⟩:ByteArray)⟩:S46) )) (Reps.none _ _)));intro v156 w47 ho48 hb hg_ hnew_;clear hg_ hnew_;(first|rw [← Ny155.out] at ho48|(simp only [Int.reduceToNat] at ho48;rw [← Ny155.out] at ho48));have n0_:=Aside0.mk (Kd.R_below (by (with_reducible repeat (first|apply Kd.R_alloc|apply Kd.R_drewN|apply Kd.R_drew));exact (Kd.R_mono (Kd.R_far (p:=⟨gb154,2,none⟩) (Kd.R_far (p:=⟨gb154,1,none⟩) (Kd.R_far (p:=⟨gb154,0,none⟩) (Kd.R_types HO152.out BK154.out (by decide)) (fun _ hk=>hk.2) (.string t148)) (fun _ hk=>hk.2) (.int .i64 t149)) (fun _ hk=>hk.2) (.slice Ao46 t150.length co46)) (fun _ h_=>h_.1))) hb);have n1_:=Aside0.mk (Kd.R_lower ho48 (below_size (by repeat (first|(with_reducible first|exact HB.out|apply below_alloc|apply pw_below_drewN|apply below_drew1|refine below_set ?_ GE154.out)|exact HB.out))));have n2_:=Aside0.mk (blk_below (g:=gb154) (o:=.cells #[.string t148,.int .i64 t149,.slice Ao46 t150.length co46] 24 (0,0)) (by (with_reducible repeat (first|refine blk_drewN ?_ _|refine blk_drew ?_|refine blk_alloc ?_ _));refine blk_put (cs:=#[.string t148,.int .i64 t149,.slice none 0 0]) ?_ 2 _ rfl;(with_reducible repeat (first|refine blk_drewN ?_ _|refine blk_drew ?_|refine blk_alloc ?_ _));refine blk_put (cs:=#[.string t148,.int .i64 0,.slice none 0 0]) ?_ 1 _ rfl;(with_reducible repeat (first|refine blk_drewN ?_ _|refine blk_drew ?_|refine blk_alloc ?_ _));refine blk_put (cs:=#[.string (⟨#[]⟩:ByteArray),.int .i64 0,.slice none 0 0]) ?_ 0 _ rfl;(with_reducible repeat (first|refine blk_drewN ?_ _|refine blk_drew ?_|refine blk_alloc ?_ _));exact BK154.out) hb);have n3_:=Aside0.mk (below_step (by repeat (first|(with_reducible first|exact HB.out|apply below_alloc|apply pw_below_drewN|apply below_drew1|refine below_set ?_ GE154.out)|exact HB.out)) hb);clear HO152;clear BK154;clear HB;have HO152:=n0_;have HO157:=n1_;have BK154:=n2_;have HB:=n3_;clear n0_ n1_ n2_ n3_;clear hb ho48;have hcz49_0:w47.cell? ⟨gb154,0,none⟩=some (.string t148):=(blk_cell BK154.out 0).trans rfl;have hcz49_1:w47.cell? ⟨gb154,1,none⟩=some (.int .i64 t149):=(blk_cell BK154.out 1).trans rfl;have hcz49_2:w47.cell? ⟨gb154,2,none⟩=some (.slice Ao46 t150.length co46):=(blk_cell BK154.out 2).trans rfl;have hfz49_0:=blk_frozen BK154.out 0;have hfz49_1:=blk_frozen BK154.out 1;have hfz49_2:=blk_frozen BK154.out 2)|((with_reducible refine gate_dst (N:=13) rfl ?_);(try (refine gate_guard (by rfl) ?_;dsimp only));refine Kd.N_lit k24 _ 24 ?hg (N':=13) ?hd (xs:=([(⟨t148,t149,t150⟩:S24)]:List (S24))) (inner:=[.string t148,.int .i64 t149,.slice Ao46 t150.length co46]) (ok:=(fun k_=>some k_≠(v156:Value).ownBlock∧k_≠gb154)) (okp:=(fun k_=>some k_≠(v156:Value).ownBlock∧k_≠gb154)) ?hr ?hp (fun _ hk=>hk) ((show ∀ k_,w47.heap.size≤k_→(fun k_=>some k_≠(v156:Value).ownBlock∧k_≠gb154) k_ from fun k_ hk=>⟨Kd.fresh' (Kd.R_lt (by (with_reducible repeat (first|apply Kd.R_alloc|apply Kd.R_drewN|apply Kd.R_drew));exact HO157.out)) k_ hk,Kd.freshB (g:=gb154) (o:=.cells #[.string t148,.int .i64 t149,.slice Ao46 t150.length co46] 24 (0,0)) (by (with_reducible repeat (first|refine blk_drewN ?_ _|refine blk_drew ?_|refine blk_alloc ?_ _));exact BK154.out) k_ hk⟩) _ (Nat.le_refl _)) (Below.refl _ _) (Nat.le_refl _) (by simp) ?_;(case hd=>rfl);(case hg=>rfl);(case hr=>first|(go_simp;done)|(go_simp;rfl)|(go_simp;simp [IntKind.wrap_u32]));(case hp=>exact (Reps.c3 (show Kd.FK k24 _ _ (⟨t148,t149,t150⟩:S24) [.string t148,.int .i64 t149,.slice Ao46 t150.length co46] from (k24_mkF _ _ (⟨t148,t149,t150⟩:S24) (Kd.R_reads' (Kd.R_mono (ok':=(fun k_=>some k_≠(v156:Value).ownBlock∧k_≠gb154)) (Kd.R_types (Kd.R_apart' (HO152.out) (Kd.R_typed HO157.out) (by decide)) BK154.out (by decide)) (fun k_ hk=>⟨hk.1.2,hk.2⟩))).2.1 (Kd.R_F (Kd.R_mono (ok':=(fun k_=>some k_≠(v156:Value).ownBlock∧k_≠gb154)) (Kd.R_types (Kd.R_apart' (HO152.out) (Kd.R_typed HO157.out) (by decide)) BK154.out (by decide)) (fun k_ hk=>⟨hk.1.2,hk.2⟩))))) (Reps.none _ _)));intro v159 w50 ho51 hb hg_ hnew_;clear hg_ hnew_;(first|rw [← Ny158.out] at ho51|(simp only [Int.reduceToNat] at ho51;rw [← Ny158.out] at ho51));have n0_:=Aside0.mk (Kd.R_below (by (with_reducible repeat (first|apply Kd.R_alloc|apply Kd.R_drewN|apply Kd.R_drew));exact HO157.out) hb);have n1_:=Aside0.mk (Kd.N_lower ho51 (below_size (by repeat (first|(with_reducible first|exact HB.out|apply below_alloc|apply pw_below_drewN|apply below_drew1|refine below_set ?_ GE154.out)|exact HB.out))));have n2_:=Aside0.mk (blk_below (g:=gb154) (o:=.cells #[.string t148,.int .i64 t149,.slice Ao46 t150.length co46] 24 (0,0)) (by (with_reducible repeat (first|refine blk_drewN ?_ _|refine blk_drew ?_|refine blk_alloc ?_ _));exact BK154.out) hb);have n3_:=Aside0.mk (below_step (by repeat (first|(with_reducible first|exact HB.out|apply below_alloc|apply pw_below_drewN|apply below_drew1|refine below_set ?_ GE154.out)|exact HB.out)) hb);clear HO157;clear BK154;clear HB;clear HO152;have HO157:=n0_;have HO160:=n1_;have BK154:=n2_;have HB:=n3_;clear n0_ n1_ n2_ n3_;clear hb ho51;obtain ⟨Ao52,co52,eo52⟩:=Kd.R_slice HO157.out;subst eo52;obtain ⟨Ao53,co53,eo53⟩:=Kd.N_slice HO160.out;subst eo53)|((with_reducible refine gate_callee (f:=18) rfl ?_);refine goesL_ (some 14) rfl rfl Tryd.func18 (by kernel_rfl) rfl #[.slice Ao52 y155.length co52,.slice Ao53 y158.length co53] rfl (by (try simp only [List.map_toArray,List.map_cons,List.map_nil]);first|done|rfl|(simp only [List.length_drop,List.length_take];rfl)) ?_;(with_reducible refine (matcher_Holds.calls _ _ y155 _ _ y158 t161 t162 _ ?side1 ?side2 ?side3 ?side4 A2.out).mono ?_);(case side1=>repeat (first|exact (Kd.R_reads' HO157.out).2.2|(with_reducible refine Kd.C_alloc ?_ _)|(with_reducible refine Kd.C_drewN ?_ _)|(with_reducible refine Kd.C_drew ?_)));(case side2=>exact (Kd.R_reads' HO157.out).2.1);(case side3=>repeat (first|exact (Kd.N_reads' HO160.out).2.2|(with_reducible refine Kd.C_alloc ?_ _)|(with_reducible refine Kd.C_drewN ?_ _)|(with_reducible refine Kd.C_drew ?_)));(case side4=>exact (Kd.N_reads' HO160.out).2.1);rintro e w54 ⟨rfl,hb⟩;refine ⟨_,rfl,?_⟩;have n0_:=Aside0.mk (Kd.R_below (by (with_reducible repeat (first|apply Kd.R_alloc|apply Kd.R_drewN|apply Kd.R_drew));exact HO157.out) hb);have n1_:=Aside0.mk (Kd.N_below (by (with_reducible repeat (first|apply Kd.N_alloc|apply Kd.N_drewN|apply Kd.N_drew));exact HO160.out) hb);have n2_:=Aside0.mk (blk_below (g:=gb154) (o:=.cells #[.string t148,.int .i64 t149,.slice Ao46 t150.length co46] 24 (0,0)) (by (with_reducible repeat (first|refine blk_drewN ?_ _|refine blk_drew ?_|refine blk_alloc ?_ _));exact BK154.out) hb);have n3_:=Aside0.mk (below_step (by repeat (first|(with_reducible first|exact HB.out|apply below_alloc|apply pw_below_drewN|apply below_drew1|refine below_set ?_ GE154.out)|exact HB.out)) hb);clear HO157;clear HO160;clear BK154;clear HB;have HO157:=n0_;have HO160:=n1_;have BK154:=n2_;have HB:=n3_;clear n0_ n1_ n2_ n3_;(try clear hb);(try clear hb2);(try clear hk);(try clear hi)))
  (first|go_ret|go_ret2)
  exact ⟨by first|rfl|(simp [errW_none,errW_some]<;>rfl)|(simp [*,errW_none,errW_some]<;>rfl),by repeat (first|(with_reducible first|exact HB.out|apply below_alloc|apply pw_below_drewN|apply below_drew1|refine below_set ?_ GE154.out)|exact HB.out)⟩
end Go.Proofs.YtnbbfjddjmklpaaDoor.P
