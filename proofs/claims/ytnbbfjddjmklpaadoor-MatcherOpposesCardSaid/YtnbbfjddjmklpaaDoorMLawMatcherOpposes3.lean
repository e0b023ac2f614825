/- What these functions of the program and of the plain reference compute, and plain lemmas on it: MatcherLaw2, LabelGet, MatcherHolds, HoursCut, MatcherRead, MatcherLaw3, MatcherParse. Conditions: as each lemma says. -/
import Derived.Test.YtnbbfjddjmklpaaDoorMLawMatcherOpposes2
import Derived.Test.YtnbbfjddjmklpaaDoorMLawMatcherOpposes0
import Derived.Deep.QuietTactic
import Derived.BigQuiet
import Derived.Lib.IndexLaws
import Derived.Maps.RangeWalk
import Derived.Lib.SplitLaws
/- What matcher.Right and matcher.Text come to, in plain words. Conditions: as each lemma says. -/
set_option linter.unusedVariables false
set_option linter.unusedSimpArgs false
namespace Go.Proofs.YtnbbfjddjmklpaaDoor.P
open Go.RowKit Go.Proofs.YtnbbfjddjmklpaaDoorW.PrintWords Go.Proofs.YtnbbfjddjmklpaaDoorW.PrintLast Go.Proofs.YtnbbfjddjmklpaaDoorW.PrintMore

def wd (ws:List ByteArray) (i:Nat):ByteArray:=ws.getD i ByteArray.empty
theorem rd_wd (ws:List ByteArray) (i:Nat):rdOf ByteArray.empty ws (i:Int)=wd ws i:=by unfold rdOf wd;rw [Int.toNat_natCast]
def wordAt (ws:List ByteArray) (i:Nat):Bool:=wordB (wd ws i) && (decide (i=0) || ltB (wd ws (i-1)) (wd ws i))
def mostB (how:Int):Nat:=if 2<how then 8 else 1
def mrightB (nm:ByteArray) (how:Int) (ws:List ByteArray):Bool :=
 allFrom (wordAt ws) 0 ws.length && (isSign how && nameB nm && decide (1≤ws.length) && decide (ws.length≤mostB how))
theorem one_set (nm:ByteArray):setB [⟨nm,⟨#[120]⟩⟩]=nameB nm:=by
 have hv:valB ⟨#[120]⟩=true:=by decide +kernel
 simp [setB,setAt,allFrom,lab,hv]
theorem one_small (nm:ByteArray) (hs:nm.size≤1000000):SetSmall [⟨nm,⟨#[120]⟩⟩] 1000000:=by
 intro i
 match i with
 | 0=>exact ⟨hs,by show (1:Nat)≤_;omega⟩
 | i+1 =>
  have e:lab [⟨nm,⟨#[120]⟩⟩] (i+1)=z46:=by simp [lab]
  rw [e]
  exact ⟨Nat.zero_le _,Nat.zero_le _⟩
theorem mright_from (nm:ByteArray) (how:Int) (ws:List ByteArray) (hw:(Lit.int .i64 how).wf=true) (hs:nm.size≤1000000) (hl:ws.length≤maxLen) (m:Nat) (hm:m=mostB how) (d:Nat):∀ (k i:Nat),i+d=ws.length→1000010+d<k →
  matcher_Right.l0 k (m:Int) ws (ws.length:Int) (i:Int) nm how ws=some (allFrom (wordAt ws) i d && (isSign how && nameB nm && decide (1≤ws.length) && decide (ws.length≤mostB how))):=by
 unfold maxLen at hl
 induction d with
 | zero =>
  intro k i hi hk
  obtain ⟨k,rfl⟩:∃ j,k=j+1:=⟨k-1,by omega⟩
  have hset:=set_eq [⟨nm,⟨#[120]⟩⟩] 1000000 (Nat.le_refl _) (one_small nm hs) (by unfold maxLen;simp) k (by simp;omega)
  simp only [matcher_Right.l0]
  unfold matcher_signs.f signsAt.f
  rw [if_neg (by omega),Option.bind_some,if_pos hw,Option.bind_some]
  dsimp only
  show _=some (true && _)
  rw [Bool.true_and]
  cases isSign how with
  | false=>simp
  | true =>
   rw [if_pos rfl,hset,one_set,Option.bind_some]
   cases nameB nm with
   | false=>simp
   | true =>
    rw [if_pos rfl]
    by_cases h1:1≤ws.length
    ·rw [if_pos (by omega),decide_eq_true h1,← hm,len_end]
     simp
    ·rw [if_neg (by omega),decide_eq_false h1]
     simp
 | succ d ih =>
  intro k i hi hk
  obtain ⟨k,rfl⟩:∃ j,k=j+1:=⟨k-1,by omega⟩
  have hr:=ih k (i+1) (by omega) (by omega)
  rw [Int.natCast_succ] at hr
  simp only [matcher_Right.l0]
  rw [if_pos (by omega),if_pos (by omega),if_pos (by omega),wrap_id (n:=(i:Int)+1) (by omega) (by omega),hr,rd_wd]
  show _=some (wordAt ws i && allFrom _ (i+1) d && _)
  generalize allFrom (wordAt ws) (i+1) d=z
  generalize (isSign how && nameB nm && decide (1≤ws.length) && decide (ws.length≤mostB how))=y
  unfold matcher_word.f wordAt
  rw [Option.bind_some]
  cases hn:wordB (wd ws i) with
  | false=>simp
  | true =>
   rw [if_pos rfl]
   by_cases h0:i=0
   ·subst h0
    rw [if_neg (by omega)]
    simp
   ·rw [if_pos (by omega),wrap_id (by omega) (by omega),if_pos (by omega),if_pos (by omega),show (i:Int)-1=((i-1:Nat):Int) by omega,rd_wd,decide_eq_false h0]
    unfold ltB
    cases Op.bytesLess (wd ws (i-1)).toList (wd ws i).toList<;>simp
theorem mright_eq (nm:ByteArray) (how:Int) (ws:List ByteArray) (hw:(Lit.int .i64 how).wf=true) (hs:nm.size≤1000000) (hl:ws.length≤maxLen) (k:Nat) (hk:1000020+ws.length<k):matcher_Right.f k nm how ws=some (mrightB nm how ws):=by
 obtain ⟨k,rfl⟩:∃ j,k=j+1:=⟨k-1,by omega⟩
 unfold matcher_Right.f mrightB
 by_cases h:how>2
 ·rw [if_pos h]
  simp only [matcher_Right.j0]
  exact mright_from nm how ws hw hs hl 8 (by unfold mostB;rw [if_pos h]) ws.length k 0 (by omega) (by omega)
 ·rw [if_neg h]
  simp only [matcher_Right.j0]
  exact mright_from nm how ws hw hs hl 1 (by unfold mostB;rw [if_neg h]) ws.length k 0 (by omega) (by omega)
theorem mright_any (nm:ByteArray) (how:Int) (ws:List ByteArray) (A:Option Addr) (c:Nat) (hw:(Lit.int .i64 how).wf=true) (hs:nm.size≤1000000) (w:World) (hr:Kd.C Kd.string w A ws.length ws) (hc:ws.length≤c) :
  Calls Tryd.prog 19 #[.agg #[.string nm,.int .i64 how,.slice A ws.length c]] w fun e w'=>e=.returned (.bool (mrightB nm how ws))∧Below w.heap.size w w' :=
 matcher_Right.calls _ nm how A c ws _ w hr hc (mright_eq nm how ws hw hs (by have:=hr.2.1;unfold maxLen;omega) (1000021+ws.length) (by omega))
theorem word_size {s:ByteArray} (h:wordB s=true):s.size≤64:=by
 unfold wordB at h
 simp only [Bool.and_eq_true,decide_eq_true_eq] at h
 exact h.1
theorem mright_parts {nm:ByteArray} {how:Int} {ws:List ByteArray} (h:mrightB nm how ws=true) :
  nm.size≤64∧nameB nm=true∧(1≤how∧how≤4)∧1≤ws.length∧ws.length≤8∧(∀ i,i<ws.length→wordB (wd ws i)=true)∧(how≤2→ws.length=1):=by
 unfold mrightB at h
 simp only [Bool.and_eq_true,decide_eq_true_eq] at h
 obtain ⟨h1,⟨⟨h2,h3⟩,h4⟩,h5⟩:=h
 have hsg:1≤how∧how≤4:=by unfold isSign at h2;simpa using h2
 have hn:nm.size≤64:=by unfold nameB at h3;simp only [Bool.and_eq_true,decide_eq_true_eq] at h3;exact h3.2
 have hm:mostB how≤8:=by unfold mostB;split<;>omega
 refine ⟨hn,h3,hsg,h4,by omega,fun i hi=>?_,fun h6=>?_⟩
 ·have:=(allFrom_iff (wordAt ws) ws.length 0).1 h1 i (Nat.zero_le _) (by omega)
  unfold wordAt at this
  rw [Bool.and_eq_true] at this
  exact this.1
 ·unfold mostB at h5
  rw [if_neg (by omega)] at h5
  omega
theorem joinTail_len (sep:List UInt8) (N:Nat):∀ (r:List (List UInt8)),(∀ x∈r,x.length≤N)→(Lib.joinTail sep r).length≤r.length*(sep.length+N)
 | [],_=>by simp [Lib.joinTail]
 | x::r,h=>by
  have ih:=joinTail_len sep N r (fun y hy=>h y (List.mem_cons_of_mem _ hy))
  have hx:=h x List.mem_cons_self
  have e:Lib.joinTail sep (x::r)=sep++x++Lib.joinTail sep r:=by simp [Lib.joinTail]
  rw [e,List.length_append,List.length_append,List.length_cons,Nat.succ_mul]
  omega
theorem join_len (sep:List UInt8) (N:Nat) (r:List (List UInt8)) (h:∀ x∈r,x.length≤N):(Lib.join r sep).length≤r.length*(sep.length+N):=by
 cases r with
 | nil=>simp [Lib.join,List.intercalate]
 | cons x r =>
  have hx:=h x List.mem_cons_self
  have ih:=joinTail_len sep N r (fun y hy=>h y (List.mem_cons_of_mem _ hy))
  rw [Lib.join_cons,List.length_append,List.length_cons,Nat.succ_mul]
  omega
theorem joinT_size (ws:List ByteArray) (N:Nat) (h:∀ i,i<ws.length→(wd ws i).size≤N):(joinT ws ⟨#[124]⟩).size≤ws.length*(1+N):=by
 have h2:=join_len [124] N (ws.map (·.data.toList)) (by
  intro x hx
  obtain ⟨s,hs,rfl⟩:=List.mem_map.1 hx
  obtain ⟨i,hi,he⟩:=List.getElem_of_mem hs
  have:=h i hi
  unfold wd at this
  rw [List.getD_eq_getElem?_getD,List.getElem?_eq_getElem hi] at this
  rw [data_length,← he]
  exact this)
 rw [List.length_map] at h2
 have e:(joinT ws ⟨#[124]⟩).size=(Lib.join (ws.map (·.data.toList)) [124]).length:=by simp [joinT,ByteArray.size]
 rw [e]
 exact h2
def mtextB (nm:ByteArray) (how:Int) (ws:List ByteArray):ByteArray:=nm++signOf how++⟨#[34]⟩++joinT ws ⟨#[124]⟩++⟨#[34]⟩
theorem sign_size (how:Int):(signOf how).size≤2:=by
 unfold signOf
 (repeat' split)<;>decide
theorem mtext_eq (nm:ByteArray) (how:Int) (ws:List ByteArray) (hw:(Lit.int .i64 how).wf=true) (hs:nm.size≤1000000) (hl:ws.length≤maxLen) (k:Nat) (hk:1000020+ws.length<k) :
  matcher_Text.f k nm how ws=some (if mrightB nm how ws=true then (mtextB nm how ws,(0:Int)) else (⟨#[]⟩,1)):=by
 unfold matcher_Text.f
 rw [mright_eq nm how ws hw hs hl k hk,Option.bind_some]
 cases hr:mrightB nm how ws with
 | false=>rw [if_neg (by decide),if_neg (by decide)]
 | true =>
  obtain ⟨p1,p2,p3,p4,p5,p6,p7⟩:=mright_parts hr
  have hj:=joinT_size ws 64 (fun i hi=>word_size (p6 i hi))
  have hj2:(joinT ws ⟨#[124]⟩).size≤520:=Nat.le_trans hj (by have:=Nat.mul_le_mul_right (1+64) p5;omega)
  have hg:=sign_size how
  have e1:(⟨#[34]⟩:ByteArray).size=1:=rfl
  rw [if_pos rfl,if_pos rfl]
  unfold matcher_signs.f signAt.f strings_Join.f
  rw [Option.bind_some,if_pos hw,Option.bind_some,if_pos (by omega),if_pos (by rw [ByteArray.size_append];omega),if_pos ⟨by omega,by omega⟩,Option.bind_some,if_pos (by simp only [ByteArray.size_append,e1];omega),if_pos (by simp only [ByteArray.size_append,e1];omega)]
  rfl
theorem mtext_any (nm:ByteArray) (how:Int) (ws:List ByteArray) (A:Option Addr) (c:Nat) (hw:(Lit.int .i64 how).wf=true) (hs:nm.size≤1000000) (w:World) (hr:Kd.C Kd.string w A ws.length ws) (hc:ws.length≤c) :
  Calls Tryd.prog 10 #[.agg #[.string nm,.int .i64 how,.slice A ws.length c]] w fun e w'=>e=.returned (.tuple #[.string (if mrightB nm how ws=true then mtextB nm how ws else ⟨#[]⟩),.int .i64 (if mrightB nm how ws=true then 0 else 1)])∧Below w.heap.size w w':=by
 have h:=mtext_eq nm how ws hw hs (by have:=hr.2.1;unfold maxLen;omega) (1000021+ws.length) (by omega)
 refine matcher_Text.calls _ nm how A c ws _ _ w hr hc (h.trans ?_)
 split<;>rfl
end Go.Proofs.YtnbbfjddjmklpaaDoor.P

/- label.Get: a name's value. Conditions: as each lemma says. -/
namespace Go.Proofs.YtnbbfjddjmklpaaDoor.P
open Go.RowKit Go.Proofs.YtnbbfjddjmklpaaDoorW.PrintWords Go.Proofs.YtnbbfjddjmklpaaDoorW.PrintLast Go.Proofs.YtnbbfjddjmklpaaDoorW.PrintMore
set_option linter.unusedSimpArgs false
set_option linter.unusedVariables false

def idxP {α:Type} (p:α→Bool):List α→Nat→Int
 | [],_=>-1
 | x::l,i=>if p x=true then (i:Int) else idxP p l (i+1)
theorem idxP_none {α:Type} (p:α→Bool):∀ (l:List α) (i:Nat),l.any p=false→idxP p l i = -1
 | [],_,_=>rfl
 | x::l,i,h=>by
  rw [List.any_cons,Bool.or_eq_false_iff] at h
  unfold idxP
  rw [if_neg (by rw [h.1];decide)]
  exact idxP_none p l (i+1) h.2
theorem idxP_at {α:Type} (p:α→Bool) (d:α):∀ (l:List α) (k i:Nat),(l.take k).any p=false→k<l.length→p (l.getD k d)=true→idxP p l i=((i+k:Nat):Int)
 | [],k,i,_,h,_=>by simp at h
 | x::l,0,i,_,_,h=>by
  unfold idxP
  rw [if_pos (by simpa using h)]
  simp
 | x::l,k+1,i,h0,h1,h2=>by
  rw [List.take_succ_cons,List.any_cons,Bool.or_eq_false_iff] at h0
  unfold idxP
  rw [if_neg (by rw [h0.1];decide),idxP_at p d l k (i+1) h0.2 (by simpa using h1) (by simpa using h2)]
  congr 1
  omega
theorem idxP_pos {α:Type} (p:α→Bool):∀ (l:List α) (i:Nat),decide (0≤idxP p l i)=l.any p
 | [],_=>rfl
 | x::l,i=>by
  unfold idxP
  rw [List.any_cons]
  cases hx:p x with
  | true=>rw [if_pos rfl];simp
  | false=>rw [if_neg (by decide),idxP_pos p l (i+1)];simp
theorem take_none {α:Type} (p:α→Bool) (d:α) (l:List α) (k:Nat) (hk:k<l.length) (h:(l.take k).any p=false) (h2:p (l.getD k d)=false):(l.take (k+1)).any p=false:=by
 rw [List.take_succ_eq_append_getElem hk,List.any_append,h]
 rw [List.getD_eq_getElem?_getD,List.getElem?_eq_getElem hk] at h2
 simpa using h2
def isName (nm:ByteArray) (x:S46):Bool:=x.f0.toList == nm.toList
set_option maxHeartbeats 1000000 in
theorem get1_any (x:S46) (nm:ByteArray) (g:Nat) (w:World) (hg:w.heap[g]?=some (.cells #[.string nm] 9 (0,0))) :
  Calls Tryd.prog 55 #[.agg #[.string x.f0,.string x.f1],.pointer (some ⟨g,0,none⟩)] w fun e w'=>e=.returned (.bool (isName nm x))∧Below w.heap.size w w':=by
 have HG:=Aside0.mk hg
 clear hg
 unfold isName
 go_enter Tryd.func55,Tryd.ntmps55
 go_wp2_with ((with_reducible refine gate_dst (N:=2) rfl ?_);refine box_event ?hg (N:=2) ?hd (cs:=#[.string x.f0,.string x.f1]) (t:=46) ?hr ?_;(case hd=>rfl);(case hg=>rfl);(case hr=>first|(go_simp;done)|(go_simp;rfl));intro gb hgb w1 hbox hb;have y1:w1.cell? ⟨g,0,none⟩=some (.string nm):=(blk_cell (blk_below HG.out hb) 0).trans rfl;have y2:w1.cell? ⟨gb,0,none⟩=some (.string x.f0):=(blk_cell hbox 0).trans rfl;have HB:=Aside0.mk hb;clear hb hbox hgb)
 go_ret
 exact ⟨rfl,HB.out⟩
set_option maxHeartbeats 1000000 in
theorem index_label (A:Option Addr) (c:Nat) (l:List S46) (nm:ByteArray) (g:Nat) (w:World) (hr:Kd.C k46 w A l.length l) (hg:w.heap[g]?=some (.cells #[.string nm] 9 (0,0))) :
  Calls Tryd.prog 54 #[.slice A l.length c,.func (.func 55) #[] #[.pointer (some ⟨g,0,none⟩)]] w fun e w'=>e=.returned (.int .i64 (idxP (isName nm) l 0))∧Below w.heap.size w w':=by
 have hm:(l.length:Int)≤9223372036854775807:=by have:=hr.2.1;omega
 have HR:=Aside0.mk hr
 have HG:=Aside0.mk hg
 have HM:=Aside0.mk hm
 clear hr hg
 go_enter Tryd.func54,Tryd.ntmps54
 go_wp2
 go_loopw [8] (fun i wr=>∃ x:Int,i=.int .i64 x∧Aside0 (0≤x∧x≤(l.length:Int))∧Aside0 ((l.take x.toNat).any (isName nm)=false)∧Aside0 (Below w.heap.size w wr)) (fun i _=>l.length-(intOf i).toNat)
 case atStart=>exact ⟨0,rfl,⟨by omega⟩,⟨rfl⟩,⟨Below.refl _ _⟩⟩
 case round =>
  obtain ⟨x,rfl,HX,HNO,HB⟩:=hrel
  by_cases hlt:x<(l.length:Int)
  ·have hx:=HX.out
   obtain ⟨ad,e,hx0,hx1⟩:=at_T46 HR.out x hx.1 hlt
   cases e
   replace hx0:=(HB.out.cell (World.block_lt_of_cell? w _ hx0)).trans hx0
   replace hx1:=(HB.out.cell (World.block_lt_of_cell? w _ hx1)).trans hx1
   have b1:=decide_eq_true hlt
   have b2:=eq_true hx.1
   have b3:=eq_true hlt
   have hw1:wrap64 (x+1)=x+1:=by unfold wrap64;omega
   have HW:=Aside0.mk hw1
   have hcall:=fun W hW=>get1_any (rd_T46 l x) nm g W hW
   have hgr:=blk_below HG.out HB.out
   have HGR:=Aside0.mk hgr
   have hk:x.toNat<l.length:=by omega
   have HK:=Aside0.mk hk
   cases hp:isName nm (rd_T46 l x) with
   | true =>
    rw [hp] at hcall
    have HC:=Aside0.mk hcall
    have HP:=Aside0.mk hp
    clear hcall hp hgr hk hw1 hx hlt
    go_wp2_with (go_at_call 55;refine (HC.out _ HGR.out).mono ?_;rintro e w2 ⟨rfl,hb2⟩;have HB2:=Aside0.mk hb2;clear hb2)
    go_ret
    have e:=idxP_at (isName nm) z46 l x.toNat 0 HNO.out HK.out HP.out
    rw [Nat.zero_add,Int.toNat_of_nonneg HX.out.1] at e
    exact ⟨congrArg (fun z:Int=>Ending.returned (.int .i64 z)) e.symm,below_step HB.out HB2.out⟩
   | false =>
    rw [hp] at hcall
    have HC:=Aside0.mk hcall
    have HP:=Aside0.mk hp
    clear hcall hp hgr hk hw1 hx hlt
    go_wp2_with (go_at_call 55;refine (HC.out _ HGR.out).mono ?_;rintro e w2 ⟨rfl,hb2⟩;have HB2:=Aside0.mk hb2;clear hb2)
    go_roundw
    case rel =>
     have hx:=HX.out
     have hk:=HK.out
     refine ⟨x+1,?_,⟨by omega⟩,⟨?_⟩,⟨below_step HB.out HB2.out⟩⟩
     ·first|rfl|(simp only [HW.out])|(rw [HW.out])
     ·rw [show (x+1).toNat=x.toNat+1 by omega]
      exact take_none (isName nm) z46 l x.toNat hk HNO.out HP.out
    case measure =>
     have hx:=HX.out
     have hk:=HK.out
     have hw:=HW.out
     simp only [intOf]
     omega
  ·have b1:=decide_eq_false hlt
   have hx:=HX.out
   have hno:=HNO.out
   rw [List.take_of_length_le (by omega)] at hno
   have HE:=Aside0.mk (idxP_none (isName nm) l 0 hno)
   clear hno hx hlt
   go_wp2
   go_ret
   exact ⟨congrArg (fun z:Int=>Ending.returned (.int .i64 z)) HE.out.symm,HB.out⟩
def getL (l:List S46) (nm:ByteArray):ByteArray:=if 0≤idxP (isName nm) l 0 then (l.getD (idxP (isName nm) l 0).toNat z46).f1 else ⟨#[]⟩
theorem idxP_lt {α:Type} (p:α→Bool):∀ (l:List α) (i:Nat),idxP p l i<(i:Int)+(l.length:Int) ∨idxP p l i = -1
 | [],_=>.inr rfl
 | x::l,i=>by
  unfold idxP
  cases hx:p x with
  | true=>rw [if_pos rfl];left;simp;omega
  | false =>
   rw [if_neg (by decide)]
   rcases idxP_lt p l (i+1) with h|h
   ·left;simp at *;omega
   ·right;exact h
set_option maxHeartbeats 1000000 in
theorem get_any (A:Option Addr) (c:Nat) (l:List S46) (nm:ByteArray) (w:World) (hr:Kd.C k46 w A l.length l) :
  Calls Tryd.prog 39 #[.slice A l.length c,.string nm] w fun e w'=>e=.returned (.string (getL l nm))∧Below w.heap.size w w':=by
 have hcall:=fun W g h1 h2=>index_label A c l nm g W h1 h2
 have hlt:=idxP_lt (isName nm) l 0
 unfold getL
 generalize idxP (isName nm) l 0=x at *
 have HCALL:=Aside0.mk hcall
 have HR:=Aside0.mk hr
 clear hcall hr
 by_cases h0:0≤x
 ·rw [if_pos h0]
  have hx:x<(l.length:Int):=by omega
  obtain ⟨ad,e,hx0,hx1⟩:=at_T46 HR.out x h0 hx
  cases e
  have he:(rd_T46 l x).f1=(l.getD x.toNat z46).f1:=rfl
  rw [← he]
  have b0:decide (x<0)=false:=decide_eq_false (by omega)
  have b2:=eq_true h0
  have b3:=eq_true hx
  have HX0:=Aside0.mk hx0
  have HX1:=Aside0.mk hx1
  clear he hlt hx0 hx1 h0 hx
  go_enter Tryd.func39,Tryd.ntmps39
  go_wp2_with (first
   | ((with_reducible refine gate_dst (N:=3) rfl ?_);refine box_event ?hg (N:=3) ?hd (cs:=#[.string nm]) (t:=9) ?hr ?_;(case hd=>rfl);(case hg=>rfl);(case hr=>first|(go_simp;done)|(go_simp;rfl));intro gb hgb w1 hbox hb;have HBOX:=Aside0.mk hbox;have HB:=Aside0.mk hb;clear hb hbox hgb)
   | (go_at_call 54;refine (HCALL.out _ _ (Kd.C_below HR.out HB.out) HBOX.out).mono ?_;rintro e w2 ⟨rfl,hb2⟩;have HB2:=Aside0.mk (below_step HB.out hb2);clear hb2;have y0:=(HB2.out.cell (World.block_lt_of_cell? w _ HX0.out)).trans HX0.out;have y1:=(HB2.out.cell (World.block_lt_of_cell? w _ HX1.out)).trans HX1.out))
  go_ret
  exact ⟨rfl,HB2.out⟩
 ·rw [if_neg h0]
  have b0:decide (x<0)=true:=decide_eq_true (by omega)
  clear hlt h0
  go_enter Tryd.func39,Tryd.ntmps39
  go_wp2_with (first
   | ((with_reducible refine gate_dst (N:=3) rfl ?_);refine box_event ?hg (N:=3) ?hd (cs:=#[.string nm]) (t:=9) ?hr ?_;(case hd=>rfl);(case hg=>rfl);(case hr=>first|(go_simp;done)|(go_simp;rfl));intro gb hgb w1 hbox hb;have HBOX:=Aside0.mk hbox;have HB:=Aside0.mk hb;clear hb hbox hgb)
   | (go_at_call 54;refine (HCALL.out _ _ (Kd.C_below HR.out HB.out) HBOX.out).mono ?_;rintro e w2 ⟨rfl,hb2⟩;have HB2:=Aside0.mk (below_step HB.out hb2);clear hb2))
  go_ret
  exact ⟨rfl,HB2.out⟩
end Go.Proofs.YtnbbfjddjmklpaaDoor.P

/- matcher.Holds: do all of some hold of a set? Conditions: as each lemma says. -/
namespace Go.Proofs.YtnbbfjddjmklpaaDoor.P
open Go.RowKit Go.Proofs.YtnbbfjddjmklpaaDoorW.PrintWords Go.Proofs.YtnbbfjddjmklpaaDoorW.PrintLast Go.Proofs.YtnbbfjddjmklpaaDoorW.PrintMore
set_option linter.unusedSimpArgs false
set_option linter.unusedVariables false

set_option maxHeartbeats 1000000 in
theorem wrong_any (x:S24) (A:Option Addr) (c:Nat) (hw:(Lit.int .i64 x.f1).wf=true) (hs:x.f0.size≤1000000) (w:World) (hr:Kd.C Kd.string w A x.f2.length x.f2) (hc:x.f2.length≤c) :
  Calls Tryd.prog 34 #[.agg #[.string x.f0,.int .i64 x.f1,.slice A x.f2.length c]] w fun e w'=>e=.returned (.bool (!mrightB x.f0 x.f1 x.f2))∧Below w.heap.size w w':=by
 have hcall:=fun W hr=>mright_any x.f0 x.f1 x.f2 A c hw hs W hr hc
 generalize mrightB x.f0 x.f1 x.f2=q at *
 have HCALL:=Aside0.mk hcall
 have HR:=Aside0.mk hr
 clear hcall hr
 go_enter Tryd.func34,Tryd.ntmps34
 go_wp2_with (first
  | ((with_reducible refine gate_dst (N:=1) rfl ?_);refine box_event ?hg (N:=1) ?hd (cs:=#[.string x.f0,.int .i64 x.f1,.slice A x.f2.length c]) (t:=24) ?hr ?_;(case hd=>rfl);(case hg=>rfl);(case hr=>first|(go_simp;done)|(go_simp;rfl));intro gb hgb w1 hbox hb;have y0:w1.cell? ⟨gb,0,none⟩=some (.string x.f0):=(blk_cell hbox 0).trans rfl;have y1:w1.cell? ⟨gb,1,none⟩=some (.int .i64 x.f1):=(blk_cell hbox 1).trans rfl;have y2:w1.cell? ⟨gb,2,none⟩=some (.slice A x.f2.length c):=(blk_cell hbox 2).trans rfl;have HB:=Aside0.mk hb;clear hb hbox hgb)
  | (go_at_call 19;refine (HCALL.out _ (Kd.C_below HR.out HB.out)).mono ?_;rintro e w2 ⟨rfl,hb2⟩;have HB2:=Aside0.mk (below_step HB.out hb2);clear hb2))
 go_ret
 exact ⟨rfl,HB2.out⟩
def failsB (l:List S46) (x:S24):Bool:=Lib.containsS x.f2 (getL l x.f0) == (x.f1 == 2 || x.f1 == 4)
theorem held4 {W W':World} {b g:Nat} {x y z u:Value} (h:W.cell? ⟨b,0,none⟩=some x∧W.cell? ⟨b,1,none⟩=some y∧W.cell? ⟨b,2,none⟩=some z∧W.cell? ⟨g,0,none⟩=some u) (hb:Below W.heap.size W W') :
  W'.cell? ⟨b,0,none⟩=some x∧W'.cell? ⟨b,1,none⟩=some y∧W'.cell? ⟨b,2,none⟩=some z∧W'.cell? ⟨g,0,none⟩=some u :=
 ⟨(hb.cell (World.block_lt_of_cell? W _ h.1)).trans h.1,(hb.cell (World.block_lt_of_cell? W _ h.2.1)).trans h.2.1,(hb.cell (World.block_lt_of_cell? W _ h.2.2.1)).trans h.2.2.1,(hb.cell (World.block_lt_of_cell? W _ h.2.2.2)).trans h.2.2.2⟩
set_option maxHeartbeats 2000000 in
theorem fails_any (l:List S46) (A0:Option Addr) (c0:Nat) (g:Nat) (x:S24) (A:Option Addr) (c:Nat) (w:World) (hg:w.heap[g]?=some (.cells #[.slice A0 l.length c0] 38 (0,0)))
  (hl:Kd.C k46 w A0 l.length l) (hr:Kd.C Kd.string w A x.f2.length x.f2) (hc:x.f2.length≤c) :
  Calls Tryd.prog 37 #[.agg #[.string x.f0,.int .i64 x.f1,.slice A x.f2.length c],.pointer (some ⟨g,0,none⟩)] w fun e w'=>e=.returned (.bool (failsB l x))∧Below w.heap.size w w':=by
 have hget:=fun W hr=>get_any A0 c0 l x.f0 W hr
 have hcont:=fun W hr=>slices_Contains.calls A c x.f2 (getL l x.f0) _ W hr hc rfl
 unfold failsB
 generalize getL l x.f0=v at *
 generalize Lib.containsS x.f2 v=q at *
 have HGET:=Aside0.mk hget
 have HCONT:=Aside0.mk hcont
 have HL:=Aside0.mk hl
 have HR:=Aside0.mk hr
 have HG:=Aside0.mk hg
 clear hget hcont hl hr hg
 have hcase:(x.f1=2)∨(x.f1≠2∧x.f1=4)∨(x.f1≠2∧x.f1≠4):=by omega
 have HPOST:Aside0 ((x.f1=2→(q == (x.f1 == 2 || x.f1 == 4))=q)∧(x.f1≠2∧x.f1=4→(q == (x.f1 == 2 || x.f1 == 4))=q)∧(x.f1≠2∧x.f1≠4→(q == (x.f1 == 2 || x.f1 == 4))=!q)):=⟨⟨fun h=>by rw [h];cases q<;>rfl,fun h=>by rw [h.2];cases q<;>rfl,fun h=>by rw [beq_eq_false_iff_ne.2 h.1,beq_eq_false_iff_ne.2 h.2];cases q<;>rfl⟩⟩
 rcases hcase with h|h|h
 ·have hp:=HPOST.out.1 h
  rw [hp]
  have d1:(x.f1 == 2)=true:=beq_iff_eq.2 h
  clear hp HPOST h
  go_enter Tryd.func37,Tryd.ntmps37
  go_wp2_with ((with_reducible refine gate_dst (N:=2) rfl ?_);refine box_event ?hg (N:=2) ?hd (cs:=#[.string x.f0,.int .i64 x.f1,.slice A x.f2.length c]) (t:=24) ?hr ?_;(case hd=>rfl);(case hg=>rfl);(case hr=>first|(go_simp;done)|(go_simp;rfl));intro gb hgb w1 hbox hb;have y0:w1.cell? ⟨gb,0,none⟩=some (.string x.f0):=(blk_cell hbox 0).trans rfl;have y1:w1.cell? ⟨gb,1,none⟩=some (.int .i64 x.f1):=(blk_cell hbox 1).trans rfl;have y2:w1.cell? ⟨gb,2,none⟩=some (.slice A x.f2.length c):=(blk_cell hbox 2).trans rfl;have y3:w1.cell? ⟨g,0,none⟩=some (.slice A0 l.length c0):=(blk_cell (blk_below HG.out hb) 0).trans rfl;have HB:=Aside0.mk hb;clear hb hbox hgb)
  refine start_ (n:=8) (S:=fun w'=>w'.cell? ⟨gb,0,none⟩=some (.string x.f0)∧w'.cell? ⟨gb,1,none⟩=some (.int .i64 x.f1)∧w'.cell? ⟨gb,2,none⟩=some (.slice A x.f2.length c)∧w'.cell? ⟨g,0,none⟩=some (.slice A0 l.length c0)) (ds:=[]) #[false,false,false,false,false,false,false,false] (by kernel_rfl) rfl rfl ⟨y0,y1,y2,y3⟩ (fun hHeld=>?_)
  have HBD:=Aside0.mk (below_drew1 HB.out)
  refine pure_ (i:=0) (N:=some 5) (v:=?_) (a':=?_) #[true,false,false,false,false,false,false,false] rfl rfl (by kernel_rfl) (fun _ _ _ h=>h) (Or.inl ⟨by rfl,?_⟩) ?_ ?_
  rotate_left
  ·intro w'
   go_simp
   with_reducible rfl
  rotate_left
  ·simp only [Act.put,List.setIfInBounds_toArray,List.set_cons_zero,List.set_cons_succ,i64_w,i32_w]
   rfl
  refine pure_ (i:=3) (N:=some 8) (v:=?_) (a':=?_) #[true,false,false,true,false,false,false,false] rfl rfl (by kernel_rfl) (fun _ _ _ h=>h) (Or.inl ⟨by rfl,?_⟩) ?_ ?_
  rotate_left
  ·intro w'
   go_simp
   with_reducible rfl
  rotate_left
  ·simp only [Act.put,List.setIfInBounds_toArray,List.set_cons_zero,List.set_cons_succ,i64_w,i32_w]
   rfl
  refine take_ (i:=1) (N:=some 6) (v:=?_) (a':=?_) #[true,true,false,true,false,false,false,false] rfl rfl (by kernel_rfl) (fun _ _ _ h=>h) (Or.inl ⟨by rfl,?_⟩) hHeld ?_ ?_
  rotate_left
  ·rintro w' ⟨s0,s1,s2,s3⟩
   go_simp
   with_reducible rfl
  rotate_left
  ·simp only [Act.put,List.setIfInBounds_toArray,List.set_cons_zero,List.set_cons_succ,i64_w,i32_w]
   rfl
  refine take_ (i:=2) (N:=some 7) (v:=?_) (a':=?_) #[true,true,true,true,false,false,false,false] rfl rfl (by kernel_rfl) (fun _ _ _ h=>h) (Or.inl ⟨by rfl,?_⟩) hHeld ?_ ?_
  rotate_left
  ·rintro w' ⟨s0,s1,s2,s3⟩
   go_simp
   with_reducible rfl
  rotate_left
  ·simp only [Act.put,List.setIfInBounds_toArray,List.set_cons_zero,List.set_cons_succ,i64_w,i32_w]
   rfl
  refine take_ (i:=4) (N:=some 9) (v:=?_) (a':=?_) #[true,true,true,true,true,false,false,false] rfl rfl (by kernel_rfl) (fun _ _ _ h=>h) (Or.inl ⟨by rfl,?_⟩) hHeld ?_ ?_
  rotate_left
  ·rintro w' ⟨s0,s1,s2,s3⟩
   go_simp
   with_reducible rfl
  rotate_left
  ·simp only [Act.put,List.setIfInBounds_toArray,List.set_cons_zero,List.set_cons_succ,i64_w,i32_w]
   rfl
  refine one_ (i:=5) (N:=some 10) #[true,true,true,true,true,true,false,false] rfl rfl (by kernel_rfl) (by decide) (fun K hK=>?_)
  refine goes_ Tryd.func39 (by kernel_rfl) rfl #[.slice A0 l.length c0,.string x.f0] (by rfl) rfl rfl (by (try simp only [List.map_toArray,List.map_cons,List.map_nil]);first|done|rfl) ?_
  with_reducible refine (HGET.out _ (Kd.C_below HL.out HBD.out)).mono ?_
  rintro e w' ⟨rfl,hb6⟩
  refine ⟨_,rfl,?_⟩
  have HB1:=Aside0.mk (below_step HBD.out hb6)
  refine hK.out _ _ (held4 hHeld hb6) (fun hHeld=>?_)
  clear hK K
  refine norm_ (a':=?_) ?_ ?_
  rotate_left
  ·show Act.put _ (some 10) _=_
   simp only [Act.put,List.setIfInBounds_toArray,List.set_cons_zero,List.set_cons_succ,i64_w,i32_w]
   rfl
  refine one_ (i:=6) (N:=some 11) #[true,true,true,true,true,true,true,false] rfl rfl (by kernel_rfl) (by decide) (fun K hK=>?_)
  refine goes_ Tryd.func38 (by kernel_rfl) rfl #[.slice A x.f2.length c,.string v] (by rfl) rfl rfl (by (try simp only [List.map_toArray,List.map_cons,List.map_nil]);first|done|rfl) ?_
  with_reducible refine (HCONT.out _ (Kd.C_below HR.out HB1.out)).mono ?_
  rintro e w' ⟨rfl,hb6⟩
  refine ⟨_,rfl,?_⟩
  have HB2:=Aside0.mk (below_step HB1.out hb6)
  refine hK.out _ _ (held4 hHeld hb6) (fun hHeld=>?_)
  clear hK K
  refine norm_ (a':=?_) ?_ ?_
  rotate_left
  ·show Act.put _ (some 11) _=_
   simp only [Act.put,List.setIfInBounds_toArray,List.set_cons_zero,List.set_cons_succ,i64_w,i32_w]
   rfl
  refine pure_ (i:=7) (N:=some 4) (v:=?_) (a':=?_) #[true,true,true,true,true,true,true,true] rfl rfl (by kernel_rfl) (fun _ _ _ h=>h) (Or.inl ⟨by rfl,?_⟩) ?_ ?_
  rotate_left
  ·intro w'
   go_simp
   with_reducible rfl
  rotate_left
  ·simp only [Act.put,List.setIfInBounds_toArray,List.set_cons_zero,List.set_cons_succ,i64_w,i32_w]
   rfl
  refine done_ (by kernel_rfl) ?_
  obtain ⟨z0,z1,z2,z3⟩:=hHeld
  go_wp2
  go_ret
  exact ⟨rfl,HB2.out⟩
 ·have hp:=HPOST.out.2.1 h
  rw [hp]
  have d1:(x.f1 == 2)=false:=beq_eq_false_iff_ne.2 h.1
  have d2:(x.f1 == 4)=true:=beq_iff_eq.2 h.2
  clear hp HPOST h
  go_enter Tryd.func37,Tryd.ntmps37
  go_wp2_with ((with_reducible refine gate_dst (N:=2) rfl ?_);refine box_event ?hg (N:=2) ?hd (cs:=#[.string x.f0,.int .i64 x.f1,.slice A x.f2.length c]) (t:=24) ?hr ?_;(case hd=>rfl);(case hg=>rfl);(case hr=>first|(go_simp;done)|(go_simp;rfl));intro gb hgb w1 hbox hb;have y0:w1.cell? ⟨gb,0,none⟩=some (.string x.f0):=(blk_cell hbox 0).trans rfl;have y1:w1.cell? ⟨gb,1,none⟩=some (.int .i64 x.f1):=(blk_cell hbox 1).trans rfl;have y2:w1.cell? ⟨gb,2,none⟩=some (.slice A x.f2.length c):=(blk_cell hbox 2).trans rfl;have y3:w1.cell? ⟨g,0,none⟩=some (.slice A0 l.length c0):=(blk_cell (blk_below HG.out hb) 0).trans rfl;have HB:=Aside0.mk hb;clear hb hbox hgb)
  refine start_ (n:=8) (S:=fun w'=>w'.cell? ⟨gb,0,none⟩=some (.string x.f0)∧w'.cell? ⟨gb,1,none⟩=some (.int .i64 x.f1)∧w'.cell? ⟨gb,2,none⟩=some (.slice A x.f2.length c)∧w'.cell? ⟨g,0,none⟩=some (.slice A0 l.length c0)) (ds:=[]) #[false,false,false,false,false,false,false,false] (by kernel_rfl) rfl rfl ⟨y0,y1,y2,y3⟩ (fun hHeld=>?_)
  have HBD:=Aside0.mk (below_drew1 HB.out)
  refine pure_ (i:=0) (N:=some 5) (v:=?_) (a':=?_) #[true,false,false,false,false,false,false,false] rfl rfl (by kernel_rfl) (fun _ _ _ h=>h) (Or.inl ⟨by rfl,?_⟩) ?_ ?_
  rotate_left
  ·intro w'
   go_simp
   with_reducible rfl
  rotate_left
  ·simp only [Act.put,List.setIfInBounds_toArray,List.set_cons_zero,List.set_cons_succ,i64_w,i32_w]
   rfl
  refine pure_ (i:=3) (N:=some 8) (v:=?_) (a':=?_) #[true,false,false,true,false,false,false,false] rfl rfl (by kernel_rfl) (fun _ _ _ h=>h) (Or.inl ⟨by rfl,?_⟩) ?_ ?_
  rotate_left
  ·intro w'
   go_simp
   with_reducible rfl
  rotate_left
  ·simp only [Act.put,List.setIfInBounds_toArray,List.set_cons_zero,List.set_cons_succ,i64_w,i32_w]
   rfl
  refine take_ (i:=1) (N:=some 6) (v:=?_) (a':=?_) #[true,true,false,true,false,false,false,false] rfl rfl (by kernel_rfl) (fun _ _ _ h=>h) (Or.inl ⟨by rfl,?_⟩) hHeld ?_ ?_
  rotate_left
  ·rintro w' ⟨s0,s1,s2,s3⟩
   go_simp
   with_reducible rfl
  rotate_left
  ·simp only [Act.put,List.setIfInBounds_toArray,List.set_cons_zero,List.set_cons_succ,i64_w,i32_w]
   rfl
  refine take_ (i:=2) (N:=some 7) (v:=?_) (a':=?_) #[true,true,true,true,false,false,false,false] rfl rfl (by kernel_rfl) (fun _ _ _ h=>h) (Or.inl ⟨by rfl,?_⟩) hHeld ?_ ?_
  rotate_left
  ·rintro w' ⟨s0,s1,s2,s3⟩
   go_simp
   with_reducible rfl
  rotate_left
  ·simp only [Act.put,List.setIfInBounds_toArray,List.set_cons_zero,List.set_cons_succ,i64_w,i32_w]
   rfl
  refine take_ (i:=4) (N:=some 9) (v:=?_) (a':=?_) #[true,true,true,true,true,false,false,false] rfl rfl (by kernel_rfl) (fun _ _ _ h=>h) (Or.inl ⟨by rfl,?_⟩) hHeld ?_ ?_
  rotate_left
  ·rintro w' ⟨s0,s1,s2,s3⟩
   go_simp
   with_reducible rfl
  rotate_left
  ·simp only [Act.put,List.setIfInBounds_toArray,List.set_cons_zero,List.set_cons_succ,i64_w,i32_w]
   rfl
  refine one_ (i:=5) (N:=some 10) #[true,true,true,true,true,true,false,false] rfl rfl (by kernel_rfl) (by decide) (fun K hK=>?_)
  refine goes_ Tryd.func39 (by kernel_rfl) rfl #[.slice A0 l.length c0,.string x.f0] (by rfl) rfl rfl (by (try simp only [List.map_toArray,List.map_cons,List.map_nil]);first|done|rfl) ?_
  with_reducible refine (HGET.out _ (Kd.C_below HL.out HBD.out)).mono ?_
  rintro e w' ⟨rfl,hb6⟩
  refine ⟨_,rfl,?_⟩
  have HB1:=Aside0.mk (below_step HBD.out hb6)
  refine hK.out _ _ (held4 hHeld hb6) (fun hHeld=>?_)
  clear hK K
  refine norm_ (a':=?_) ?_ ?_
  rotate_left
  ·show Act.put _ (some 10) _=_
   simp only [Act.put,List.setIfInBounds_toArray,List.set_cons_zero,List.set_cons_succ,i64_w,i32_w]
   rfl
  refine one_ (i:=6) (N:=some 11) #[true,true,true,true,true,true,true,false] rfl rfl (by kernel_rfl) (by decide) (fun K hK=>?_)
  refine goes_ Tryd.func38 (by kernel_rfl) rfl #[.slice A x.f2.length c,.string v] (by rfl) rfl rfl (by (try simp only [List.map_toArray,List.map_cons,List.map_nil]);first|done|rfl) ?_
  with_reducible refine (HCONT.out _ (Kd.C_below HR.out HB1.out)).mono ?_
  rintro e w' ⟨rfl,hb6⟩
  refine ⟨_,rfl,?_⟩
  have HB2:=Aside0.mk (below_step HB1.out hb6)
  refine hK.out _ _ (held4 hHeld hb6) (fun hHeld=>?_)
  clear hK K
  refine norm_ (a':=?_) ?_ ?_
  rotate_left
  ·show Act.put _ (some 11) _=_
   simp only [Act.put,List.setIfInBounds_toArray,List.set_cons_zero,List.set_cons_succ,i64_w,i32_w]
   rfl
  refine pure_ (i:=7) (N:=some 4) (v:=?_) (a':=?_) #[true,true,true,true,true,true,true,true] rfl rfl (by kernel_rfl) (fun _ _ _ h=>h) (Or.inl ⟨by rfl,?_⟩) ?_ ?_
  rotate_left
  ·intro w'
   go_simp
   with_reducible rfl
  rotate_left
  ·simp only [Act.put,List.setIfInBounds_toArray,List.set_cons_zero,List.set_cons_succ,i64_w,i32_w]
   rfl
  refine done_ (by kernel_rfl) ?_
  obtain ⟨z0,z1,z2,z3⟩:=hHeld
  go_wp2
  go_ret
  exact ⟨rfl,HB2.out⟩
 ·have hp:=HPOST.out.2.2 h
  rw [hp]
  have d1:(x.f1 == 2)=false:=beq_eq_false_iff_ne.2 h.1
  have d2:(x.f1 == 4)=false:=beq_eq_false_iff_ne.2 h.2
  clear hp HPOST h
  go_enter Tryd.func37,Tryd.ntmps37
  go_wp2_with ((with_reducible refine gate_dst (N:=2) rfl ?_);refine box_event ?hg (N:=2) ?hd (cs:=#[.string x.f0,.int .i64 x.f1,.slice A x.f2.length c]) (t:=24) ?hr ?_;(case hd=>rfl);(case hg=>rfl);(case hr=>first|(go_simp;done)|(go_simp;rfl));intro gb hgb w1 hbox hb;have y0:w1.cell? ⟨gb,0,none⟩=some (.string x.f0):=(blk_cell hbox 0).trans rfl;have y1:w1.cell? ⟨gb,1,none⟩=some (.int .i64 x.f1):=(blk_cell hbox 1).trans rfl;have y2:w1.cell? ⟨gb,2,none⟩=some (.slice A x.f2.length c):=(blk_cell hbox 2).trans rfl;have y3:w1.cell? ⟨g,0,none⟩=some (.slice A0 l.length c0):=(blk_cell (blk_below HG.out hb) 0).trans rfl;have HB:=Aside0.mk hb;clear hb hbox hgb)
  refine start_ (n:=8) (S:=fun w'=>w'.cell? ⟨gb,0,none⟩=some (.string x.f0)∧w'.cell? ⟨gb,1,none⟩=some (.int .i64 x.f1)∧w'.cell? ⟨gb,2,none⟩=some (.slice A x.f2.length c)∧w'.cell? ⟨g,0,none⟩=some (.slice A0 l.length c0)) (ds:=[]) #[false,false,false,false,false,false,false,false] (by kernel_rfl) rfl rfl ⟨y0,y1,y2,y3⟩ (fun hHeld=>?_)
  have HBD:=Aside0.mk (below_drew1 HB.out)
  refine pure_ (i:=0) (N:=some 5) (v:=?_) (a':=?_) #[true,false,false,false,false,false,false,false] rfl rfl (by kernel_rfl) (fun _ _ _ h=>h) (Or.inl ⟨by rfl,?_⟩) ?_ ?_
  rotate_left
  ·intro w'
   go_simp
   with_reducible rfl
  rotate_left
  ·simp only [Act.put,List.setIfInBounds_toArray,List.set_cons_zero,List.set_cons_succ,i64_w,i32_w]
   rfl
  refine pure_ (i:=3) (N:=some 8) (v:=?_) (a':=?_) #[true,false,false,true,false,false,false,false] rfl rfl (by kernel_rfl) (fun _ _ _ h=>h) (Or.inl ⟨by rfl,?_⟩) ?_ ?_
  rotate_left
  ·intro w'
   go_simp
   with_reducible rfl
  rotate_left
  ·simp only [Act.put,List.setIfInBounds_toArray,List.set_cons_zero,List.set_cons_succ,i64_w,i32_w]
   rfl
  refine take_ (i:=1) (N:=some 6) (v:=?_) (a':=?_) #[true,true,false,true,false,false,false,false] rfl rfl (by kernel_rfl) (fun _ _ _ h=>h) (Or.inl ⟨by rfl,?_⟩) hHeld ?_ ?_
  rotate_left
  ·rintro w' ⟨s0,s1,s2,s3⟩
   go_simp
   with_reducible rfl
  rotate_left
  ·simp only [Act.put,List.setIfInBounds_toArray,List.set_cons_zero,List.set_cons_succ,i64_w,i32_w]
   rfl
  refine take_ (i:=2) (N:=some 7) (v:=?_) (a':=?_) #[true,true,true,true,false,false,false,false] rfl rfl (by kernel_rfl) (fun _ _ _ h=>h) (Or.inl ⟨by rfl,?_⟩) hHeld ?_ ?_
  rotate_left
  ·rintro w' ⟨s0,s1,s2,s3⟩
   go_simp
   with_reducible rfl
  rotate_left
  ·simp only [Act.put,List.setIfInBounds_toArray,List.set_cons_zero,List.set_cons_succ,i64_w,i32_w]
   rfl
  refine take_ (i:=4) (N:=some 9) (v:=?_) (a':=?_) #[true,true,true,true,true,false,false,false] rfl rfl (by kernel_rfl) (fun _ _ _ h=>h) (Or.inl ⟨by rfl,?_⟩) hHeld ?_ ?_
  rotate_left
  ·rintro w' ⟨s0,s1,s2,s3⟩
   go_simp
   with_reducible rfl
  rotate_left
  ·simp only [Act.put,List.setIfInBounds_toArray,List.set_cons_zero,List.set_cons_succ,i64_w,i32_w]
   rfl
  refine one_ (i:=5) (N:=some 10) #[true,true,true,true,true,true,false,false] rfl rfl (by kernel_rfl) (by decide) (fun K hK=>?_)
  refine goes_ Tryd.func39 (by kernel_rfl) rfl #[.slice A0 l.length c0,.string x.f0] (by rfl) rfl rfl (by (try simp only [List.map_toArray,List.map_cons,List.map_nil]);first|done|rfl) ?_
  with_reducible refine (HGET.out _ (Kd.C_below HL.out HBD.out)).mono ?_
  rintro e w' ⟨rfl,hb6⟩
  refine ⟨_,rfl,?_⟩
  have HB1:=Aside0.mk (below_step HBD.out hb6)
  refine hK.out _ _ (held4 hHeld hb6) (fun hHeld=>?_)
  clear hK K
  refine norm_ (a':=?_) ?_ ?_
  rotate_left
  ·show Act.put _ (some 10) _=_
   simp only [Act.put,List.setIfInBounds_toArray,List.set_cons_zero,List.set_cons_succ,i64_w,i32_w]
   rfl
  refine one_ (i:=6) (N:=some 11) #[true,true,true,true,true,true,true,false] rfl rfl (by kernel_rfl) (by decide) (fun K hK=>?_)
  refine goes_ Tryd.func38 (by kernel_rfl) rfl #[.slice A x.f2.length c,.string v] (by rfl) rfl rfl (by (try simp only [List.map_toArray,List.map_cons,List.map_nil]);first|done|rfl) ?_
  with_reducible refine (HCONT.out _ (Kd.C_below HR.out HB1.out)).mono ?_
  rintro e w' ⟨rfl,hb6⟩
  refine ⟨_,rfl,?_⟩
  have HB2:=Aside0.mk (below_step HB1.out hb6)
  refine hK.out _ _ (held4 hHeld hb6) (fun hHeld=>?_)
  clear hK K
  refine norm_ (a':=?_) ?_ ?_
  rotate_left
  ·show Act.put _ (some 11) _=_
   simp only [Act.put,List.setIfInBounds_toArray,List.set_cons_zero,List.set_cons_succ,i64_w,i32_w]
   rfl
  refine pure_ (i:=7) (N:=some 4) (v:=?_) (a':=?_) #[true,true,true,true,true,true,true,true] rfl rfl (by kernel_rfl) (fun _ _ _ h=>h) (Or.inl ⟨by rfl,?_⟩) ?_ ?_
  rotate_left
  ·intro w'
   go_simp
   with_reducible rfl
  rotate_left
  ·simp only [Act.put,List.setIfInBounds_toArray,List.set_cons_zero,List.set_cons_succ,i64_w,i32_w]
   rfl
  refine done_ (by kernel_rfl) ?_
  obtain ⟨z0,z1,z2,z3⟩:=hHeld
  go_wp2
  go_ret
  exact ⟨rfl,HB2.out⟩
def badB (x:S24):Bool:=!mrightB x.f0 x.f1 x.f2
set_option maxHeartbeats 1000000 in
theorem index_wrong (A:Option Addr) (c:Nat) (ms:List S24)  (w:World) (hr:Kd.C k24 w A ms.length ms) (hs:∀ i:Nat,(Lit.int .i64 (ms.getD i z24).f1).wf=true∧(ms.getD i z24).f0.size≤1000000) :
  Calls Tryd.prog 52 #[.slice A ms.length c,.func (.func 34) #[] #[]] w fun e w'=>e=.returned (.int .i64 (idxP badB ms 0))∧Below w.heap.size w w':=by
 have hm:(ms.length:Int)≤9223372036854775807:=by have:=hr.2.1;omega
 have HR:=Aside0.mk hr
 have HH:=Aside0.mk hs
 have HM:=Aside0.mk hm
 clear hr hs
 go_enter Tryd.func52,Tryd.ntmps52
 go_wp2
 go_loopw [8] (fun i wr=>∃ x:Int,i=.int .i64 x∧Aside0 (0≤x∧x≤(ms.length:Int))∧Aside0 ((ms.take x.toNat).any badB=false)∧Aside0 (Below w.heap.size w wr)) (fun i _=>ms.length-(intOf i).toNat)
 case atStart=>exact ⟨0,rfl,⟨by omega⟩,⟨rfl⟩,⟨Below.refl _ _⟩⟩
 case round =>
  obtain ⟨x,rfl,HX,HNO,HB⟩:=hrel
  by_cases hlt:x<(ms.length:Int)
  ·have hx:=HX.out
   obtain ⟨ad,A2,c2,e,hx0,hx1,hx2,hl2,hg2⟩:=at_T24 HR.out x hx.1 hlt
   cases e
   replace hx0:=(HB.out.cell (World.block_lt_of_cell? w _ hx0)).trans hx0
   replace hx1:=(HB.out.cell (World.block_lt_of_cell? w _ hx1)).trans hx1
   replace hx2:=(HB.out.cell (World.block_lt_of_cell? w _ hx2)).trans hx2
   replace hg2:=Kd.C_below hg2 HB.out
   have b1:=decide_eq_true hlt
   have b2:=eq_true hx.1
   have b3:=eq_true hlt
   have hw1:wrap64 (x+1)=x+1:=by unfold wrap64;omega
   have HW:=Aside0.mk hw1
   have hk:x.toNat<ms.length:=by omega
   have HK:=Aside0.mk hk
   have HG2:=Aside0.mk hg2
   have hcall:=wrong_any (rd_T24 ms x) A2 c2 (HH.out x.toNat).1 (HH.out x.toNat).2 wr HG2.out hl2
   cases hp:badB (rd_T24 ms x) with
   | true =>
    have hp':(!mrightB (rd_T24 ms x).f0 (rd_T24 ms x).f1 (rd_T24 ms x).f2)=_:=hp;rw [hp'] at hcall;clear hp'
    have HC:=Aside0.mk hcall
    have HP:=Aside0.mk hp
    clear hcall hp hg2 hl2 hk hw1 hx hlt
    go_wp2_with (go_at_call 34;refine HC.out.mono ?_;rintro e w2 ⟨rfl,hb2⟩;have HB2:=Aside0.mk hb2;clear hb2)
    go_ret
    have e:=idxP_at badB z24 ms x.toNat 0 HNO.out HK.out HP.out
    rw [Nat.zero_add,Int.toNat_of_nonneg HX.out.1] at e
    exact ⟨congrArg (fun z:Int=>Ending.returned (.int .i64 z)) e.symm,below_step HB.out HB2.out⟩
   | false =>
    have hp':(!mrightB (rd_T24 ms x).f0 (rd_T24 ms x).f1 (rd_T24 ms x).f2)=_:=hp;rw [hp'] at hcall;clear hp'
    have HC:=Aside0.mk hcall
    have HP:=Aside0.mk hp
    clear hcall hp hg2 hl2 hk hw1 hx hlt
    go_wp2_with (go_at_call 34;refine HC.out.mono ?_;rintro e w2 ⟨rfl,hb2⟩;have HB2:=Aside0.mk hb2;clear hb2)
    go_roundw
    case rel =>
     have hx:=HX.out
     have hk:=HK.out
     refine ⟨x+1,?_,⟨by omega⟩,⟨?_⟩,⟨below_step HB.out HB2.out⟩⟩
     ·first|rfl|(simp only [HW.out])|(rw [HW.out])
     ·rw [show (x+1).toNat=x.toNat+1 by omega]
      exact take_none badB z24 ms x.toNat hk HNO.out HP.out
    case measure =>
     have hx:=HX.out
     have hk:=HK.out
     have hw:=HW.out
     simp only [intOf]
     omega
  ·have b1:=decide_eq_false hlt
   have hx:=HX.out
   have hno:=HNO.out
   rw [List.take_of_length_le (by omega)] at hno
   have HE:=Aside0.mk (idxP_none badB ms 0 hno)
   clear hno hx hlt
   go_wp2
   go_ret
   exact ⟨congrArg (fun z:Int=>Ending.returned (.int .i64 z)) HE.out.symm,HB.out⟩
theorem contains_wrong (A:Option Addr) (c:Nat) (ms:List S24)  (w:World) (hr:Kd.C k24 w A ms.length ms) (hs:∀ i:Nat,(Lit.int .i64 (ms.getD i z24).f1).wf=true∧(ms.getD i z24).f0.size≤1000000) :
  Calls Tryd.prog 36 #[.slice A ms.length c,.func (.func 34) #[] #[]] w fun e w'=>e=.returned (.bool (ms.any badB))∧Below w.heap.size w w':=by
 have hi:=index_wrong A c ms  w hr hs
 rw [← idxP_pos badB ms 0]
 generalize idxP badB ms 0=q at *
 have HI:=Aside0.mk hi
 clear hi hr hs
 go_enter Tryd.func36,Tryd.ntmps36
 go_wp2_with (go_at_call 52;refine HI.out.mono ?_;rintro e w' ⟨rfl,hb⟩;have HB:=Aside0.mk hb;clear hb)
 go_ret
 exact ⟨rfl,HB.out⟩
set_option maxHeartbeats 1000000 in
theorem index_fails (A:Option Addr) (c:Nat) (ms:List S24) (l:List S46) (A0:Option Addr) (c0 g:Nat) (w:World) (hr:Kd.C k24 w A ms.length ms) (hg:w.heap[g]?=some (.cells #[.slice A0 l.length c0] 38 (0,0))) (hl:Kd.C k46 w A0 l.length l) :
  Calls Tryd.prog 52 #[.slice A ms.length c,.func (.func 37) #[] #[.pointer (some ⟨g,0,none⟩)]] w fun e w'=>e=.returned (.int .i64 (idxP (failsB l) ms 0))∧Below w.heap.size w w':=by
 have hm:(ms.length:Int)≤9223372036854775807:=by have:=hr.2.1;omega
 have HR:=Aside0.mk hr
 have HH:=Aside0.mk (And.intro hg hl)
 have HM:=Aside0.mk hm
 clear hr hg hl
 go_enter Tryd.func52,Tryd.ntmps52
 go_wp2
 go_loopw [8] (fun i wr=>∃ x:Int,i=.int .i64 x∧Aside0 (0≤x∧x≤(ms.length:Int))∧Aside0 ((ms.take x.toNat).any (failsB l)=false)∧Aside0 (Below w.heap.size w wr)) (fun i _=>ms.length-(intOf i).toNat)
 case atStart=>exact ⟨0,rfl,⟨by omega⟩,⟨rfl⟩,⟨Below.refl _ _⟩⟩
 case round =>
  obtain ⟨x,rfl,HX,HNO,HB⟩:=hrel
  by_cases hlt:x<(ms.length:Int)
  ·have hx:=HX.out
   obtain ⟨ad,A2,c2,e,hx0,hx1,hx2,hl2,hg2⟩:=at_T24 HR.out x hx.1 hlt
   cases e
   replace hx0:=(HB.out.cell (World.block_lt_of_cell? w _ hx0)).trans hx0
   replace hx1:=(HB.out.cell (World.block_lt_of_cell? w _ hx1)).trans hx1
   replace hx2:=(HB.out.cell (World.block_lt_of_cell? w _ hx2)).trans hx2
   replace hg2:=Kd.C_below hg2 HB.out
   have b1:=decide_eq_true hlt
   have b2:=eq_true hx.1
   have b3:=eq_true hlt
   have hw1:wrap64 (x+1)=x+1:=by unfold wrap64;omega
   have HW:=Aside0.mk hw1
   have hk:x.toNat<ms.length:=by omega
   have HK:=Aside0.mk hk
   have HG2:=Aside0.mk hg2
   have hcall:=fails_any l A0 c0 g (rd_T24 ms x) A2 c2 wr (blk_below HH.out.1 HB.out) (Kd.C_below HH.out.2 HB.out) HG2.out hl2
   cases hp:(failsB l) (rd_T24 ms x) with
   | true =>
    skip
    rw [hp] at hcall
    have HC:=Aside0.mk hcall
    have HP:=Aside0.mk hp
    clear hcall hp hg2 hl2 hk hw1 hx hlt
    go_wp2_with (go_at_call 37;refine HC.out.mono ?_;rintro e w2 ⟨rfl,hb2⟩;have HB2:=Aside0.mk hb2;clear hb2)
    go_ret
    have e:=idxP_at (failsB l) z24 ms x.toNat 0 HNO.out HK.out HP.out
    rw [Nat.zero_add,Int.toNat_of_nonneg HX.out.1] at e
    exact ⟨congrArg (fun z:Int=>Ending.returned (.int .i64 z)) e.symm,below_step HB.out HB2.out⟩
   | false =>
    skip
    rw [hp] at hcall
    have HC:=Aside0.mk hcall
    have HP:=Aside0.mk hp
    clear hcall hp hg2 hl2 hk hw1 hx hlt
    go_wp2_with (go_at_call 37;refine HC.out.mono ?_;rintro e w2 ⟨rfl,hb2⟩;have HB2:=Aside0.mk hb2;clear hb2)
    go_roundw
    case rel =>
     have hx:=HX.out
     have hk:=HK.out
     refine ⟨x+1,?_,⟨by omega⟩,⟨?_⟩,⟨below_step HB.out HB2.out⟩⟩
     ·first|rfl|(simp only [HW.out])|(rw [HW.out])
     ·rw [show (x+1).toNat=x.toNat+1 by omega]
      exact take_none (failsB l) z24 ms x.toNat hk HNO.out HP.out
    case measure =>
     have hx:=HX.out
     have hk:=HK.out
     have hw:=HW.out
     simp only [intOf]
     omega
  ·have b1:=decide_eq_false hlt
   have hx:=HX.out
   have hno:=HNO.out
   rw [List.take_of_length_le (by omega)] at hno
   have HE:=Aside0.mk (idxP_none (failsB l) ms 0 hno)
   clear hno hx hlt
   go_wp2
   go_ret
   exact ⟨congrArg (fun z:Int=>Ending.returned (.int .i64 z)) HE.out.symm,HB.out⟩
theorem contains_fails (A:Option Addr) (c:Nat) (ms:List S24) (l:List S46) (A0:Option Addr) (c0 g:Nat) (w:World) (hr:Kd.C k24 w A ms.length ms) (hg:w.heap[g]?=some (.cells #[.slice A0 l.length c0] 38 (0,0))) (hl:Kd.C k46 w A0 l.length l) :
  Calls Tryd.prog 36 #[.slice A ms.length c,.func (.func 37) #[] #[.pointer (some ⟨g,0,none⟩)]] w fun e w'=>e=.returned (.bool (ms.any (failsB l)))∧Below w.heap.size w w':=by
 have hi:=index_fails A c ms l A0 c0 g w hr hg hl
 rw [← idxP_pos (failsB l) ms 0]
 generalize idxP (failsB l) ms 0=q at *
 have HI:=Aside0.mk hi
 clear hi hr hg hl
 go_enter Tryd.func36,Tryd.ntmps36
 go_wp2_with (go_at_call 52;refine HI.out.mono ?_;rintro e w' ⟨rfl,hb⟩;have HB:=Aside0.mk hb;clear hb)
 go_ret
 exact ⟨rfl,HB.out⟩
def holdsB (l:List S46) (ms:List S24):Bool×Int:=if setB l=true∧ms.any (fun x=>!mrightB x.f0 x.f1 x.f2)=false then (!ms.any (failsB l),0) else (false,1)
def MsSmall (ms:List S24):Prop:=∀ i:Nat,(Lit.int .i64 (ms.getD i z24).f1).wf=true∧(ms.getD i z24).f0.size≤1000000
def smallSet (l:List S46):Bool:=l.all fun x=>decide (x.f0.size≤1000000) && decide (x.f1.size≤1000000)
def smallMs (ms:List S24):Bool:=ms.all fun x=>(Lit.int .i64 x.f1).wf && decide (x.f0.size≤1000000)
theorem small_set {l:List S46} (h:smallSet l=true):SetSmall l 1000000:=by
 intro i
 unfold lab
 rw [List.getD_eq_getElem?_getD]
 cases hi:l[i]? with
 | none=>exact ⟨Nat.zero_le _,Nat.zero_le _⟩
 | some x =>
  have:=List.all_eq_true.1 h x (List.mem_of_getElem? hi)
  simpa using this
theorem small_ms {ms:List S24} (h:smallMs ms=true):MsSmall ms:=by
 intro i
 rw [List.getD_eq_getElem?_getD]
 cases hi:ms[i]? with
 | none=>exact ⟨by decide,Nat.zero_le _⟩
 | some x =>
  have:=List.all_eq_true.1 h x (List.mem_of_getElem? hi)
  simpa using this
set_option maxHeartbeats 2000000 in
theorem holds_any (A0:Option Addr) (c0:Nat) (l0:List S46) (A1:Option Addr) (c1:Nat) (l1:List S24) (w:World) (hr0:Kd.C k46 w A0 l0.length l0) (hc0:l0.length≤c0) (hr1:Kd.C k24 w A1 l1.length l1) (hc1:l1.length≤c1) (hs0:SetSmall l0 1000000) (hs1:MsSmall l1) :
  Calls Tryd.prog 18 #[.slice A0 l0.length c0,.slice A1 l1.length c1] w fun e w'=>e=.returned (.tuple #[.bool (holdsB l0 l1).1,.int .i64 (holdsB l0 l1).2])∧Below w.heap.size w w':=by
 have hset:=fun W hr=>label_Right.calls _ A0 c0 l0 _ W hr hc0 (set_eq l0 1000000 (Nat.le_refl _) hs0 (by have:=hr0.2.1;unfold maxLen;omega) (1000003+l0.length) (by omega))
 have hbad:=fun W hr=>contains_wrong A1 c1 l1 W hr hs1
 have hfl:=fun W g hr hg hl=>contains_fails A1 c1 l1 l0 A0 c0 g W hr hg hl
 have hbe:l1.any (fun x=>!mrightB x.f0 x.f1 x.f2)=l1.any badB:=rfl
 unfold holdsB
 rw [hbe]
 generalize l1.any badB=bad at *
 generalize l1.any (failsB l0)=fl at *
 have HSET:=Aside0.mk hset
 have HBAD:=Aside0.mk hbad
 have HFL:=Aside0.mk hfl
 have HR0:=Aside0.mk hr0
 have HR1:=Aside0.mk hr1
 clear hbe hr0 hr1 hs0 hs1
 cases hq:setB l0 with
 | false =>
  rw [hq] at hset
  have HS:=Aside0.mk hset
  rw [if_neg (fun h=>by cases h.1)]
  clear hset hbad hfl hq
  go_enter Tryd.func18,Tryd.ntmps18
  go_wp2_with (first
   | ((with_reducible refine gate_dst (N:=2) rfl ?_);refine box_event ?hg (N:=2) ?hd (cs:=#[.slice A0 l0.length c0]) (t:=38) ?hr ?_;(case hd=>rfl);(case hg=>rfl);(case hr=>first|(go_simp;done)|(go_simp;rfl));intro gb hgb w1 hbox hb;have y0:w1.cell? ⟨gb,0,none⟩=some (.slice A0 l0.length c0):=(blk_cell hbox 0).trans rfl;have HBX:=Aside0.mk hbox;have HB:=Aside0.mk hb;clear hb hbox hgb)
   | (go_at_call 35;refine (HS.out _ (Kd.C_below HR0.out HB.out)).mono ?_;rintro e w2 ⟨rfl,hb2⟩;have HB2:=Aside0.mk (below_step HB.out hb2);clear hb2))
  go_ret2
  exact ⟨rfl,HB2.out⟩
 | true =>
  rw [hq] at hset
  have HS:=Aside0.mk hset
  clear hset hq
  cases bad with
  | true =>
   have HBD:=Aside0.mk hbad
   rw [if_neg (fun h=>by cases h.2)]
   clear hbad hfl
   go_enter Tryd.func18,Tryd.ntmps18
   go_wp2_with (first
    | ((with_reducible refine gate_dst (N:=2) rfl ?_);refine box_event ?hg (N:=2) ?hd (cs:=#[.slice A0 l0.length c0]) (t:=38) ?hr ?_;(case hd=>rfl);(case hg=>rfl);(case hr=>first|(go_simp;done)|(go_simp;rfl));intro gb hgb w1 hbox hb;have y0:w1.cell? ⟨gb,0,none⟩=some (.slice A0 l0.length c0):=(blk_cell hbox 0).trans rfl;have HBX:=Aside0.mk hbox;have HB:=Aside0.mk hb;clear hb hbox hgb)
    | (go_at_call 35;refine (HS.out _ (Kd.C_below HR0.out HB.out)).mono ?_;rintro e w2 ⟨rfl,hb2⟩;have HB2:=Aside0.mk (below_step HB.out hb2);clear hb2)
    | (go_at_call 36;refine (HBD.out _ (Kd.C_below HR1.out HB2.out)).mono ?_;rintro e w3 ⟨rfl,hb3⟩;have HB3:=Aside0.mk (below_step HB2.out hb3);clear hb3))
   go_ret2
   exact ⟨rfl,HB3.out⟩
  | false =>
   have HBD:=Aside0.mk hbad
   rw [if_pos ⟨rfl,rfl⟩]
   clear hbad hfl
   go_enter Tryd.func18,Tryd.ntmps18
   go_wp2_with (first
    | ((with_reducible refine gate_dst (N:=2) rfl ?_);refine box_event ?hg (N:=2) ?hd (cs:=#[.slice A0 l0.length c0]) (t:=38) ?hr ?_;(case hd=>rfl);(case hg=>rfl);(case hr=>first|(go_simp;done)|(go_simp;rfl));intro gb hgb w1 hbox hb;have y0:w1.cell? ⟨gb,0,none⟩=some (.slice A0 l0.length c0):=(blk_cell hbox 0).trans rfl;have HBX:=Aside0.mk hbox;have HB:=Aside0.mk hb;clear hb hbox hgb)
    | (go_at_call 35;refine (HS.out _ (Kd.C_below HR0.out HB.out)).mono ?_;rintro e w2 ⟨rfl,hb2⟩;have HB2:=Aside0.mk (below_step HB.out hb2);have HBX2:=Aside0.mk (blk_below HBX.out hb2);clear hb2)
    | (go_at_call 36;with_reducible refine (HBD.out _ (Kd.C_below HR1.out HB2.out)).mono ?_;rintro e w3 ⟨rfl,hb3⟩;have HB3:=Aside0.mk (below_step HB2.out hb3);have HBX3:=Aside0.mk (blk_below HBX2.out hb3);clear HBD hb3)
    | (go_at_call 36;with_reducible refine (HFL.out _ _ (Kd.C_below HR1.out HB3.out) HBX3.out (Kd.C_below HR0.out HB3.out)).mono ?_;rintro e w4 ⟨rfl,hb4⟩;have HB4:=Aside0.mk (below_step HB3.out hb4);clear hb4))
   go_ret2
   exact ⟨rfl,HB4.out⟩
def matcher_Holds.f (l0:List S46) (l1:List S24):Option (Bool×Int):=if smallSet l0=true∧smallMs l1=true then some (holdsB l0 l1) else none
theorem matcher_Holds.calls (A0:Option Addr) (c0:Nat) (l0:List S46) (A1:Option Addr) (c1:Nat) (l1:List S24) (r0:Bool) (r1:Int) (w:World) (hr0:Kd.C k46 w A0 l0.length l0) (hc0:l0.length≤c0) (hr1:Kd.C k24 w A1 l1.length l1) (hc1:l1.length≤c1) (h:matcher_Holds.f l0 l1=some (r0,r1)) :
  Calls Tryd.prog 18 #[.slice A0 l0.length c0,.slice A1 l1.length c1] w fun e w'=>e=.returned (.tuple #[.bool r0,.int .i64 r1])∧Below w.heap.size w w':=by
 unfold matcher_Holds.f at h
 split at h
 ·rename_i hs
  have h:=Option.some.inj h
  have e0:(holdsB l0 l1).1=r0:=by rw [h]
  have e1:(holdsB l0 l1).2=r1:=by rw [h]
  rw [← e0,← e1]
  exact holds_any A0 c0 l0 A1 c1 l1 w hr0 hc0 hr1 hc1 (small_set hs.1) (small_ms hs.2)
 ·cases h
end Go.Proofs.YtnbbfjddjmklpaaDoor.P

/- A text cut at the first of a byte. Conditions: as each lemma says. -/
namespace Go.Proofs.YtnbbfjddjmklpaaDoor.P
open Go.RowKit Go.Proofs.YtnbbfjddjmklpaaDoorW.PrintWords Go.Proofs.YtnbbfjddjmklpaaDoorW.PrintLast Go.Proofs.YtnbbfjddjmklpaaDoorW.PrintMore
set_option linter.unusedSimpArgs false
set_option linter.unusedVariables false

theorem index_lt (s:ByteArray) (c:UInt8) (n:Nat) (h:Lib.indexByte s.data.toList c=(n:Int)):n<s.size:=by
 have:=(Lib.indexByte_some h).1
 have h2:=(List.getElem?_eq_some_iff.1 this).1
 rw [data_length] at h2
 exact h2
set_option maxHeartbeats 1000000 in
theorem cut_found (s:ByteArray) (c:UInt8) (n:Nat) (w:World) (hn:Lib.indexByte s.data.toList c=(n:Int)) (hs:s.size≤4611686018427387904) :
  Calls Tryd.prog 47 #[.string s,.string ⟨#[c]⟩] w fun e w'=>e=.returned (.tuple #[.string (s.extract 0 n),.string (s.extract (n+1) s.size),.bool true])∧Below w.heap.size w w':=by
 have hlt:=index_lt s c n hn
 have hi:=Tryd.stringslite_Index_one s c w
 rw [hn] at hi
 have HI:=Aside0.mk hi
 obtain ⟨p,hp⟩:∃ p,p=n+1:=⟨_,rfl⟩
 have hw:IntKind.i64.wrap ((n:Int)+1)=(p:Int):=(i64_w _).trans (by unfold wrap64;omega)
 have h0:(0:Int)≤(p:Int):=by omega
 have h1:(p:Int)≤(s.size:Int):=by omega
 have h2:(0:Int)≤(n:Int):=by omega
 have h3:(n:Int)≤(s.size:Int):=by omega
 rw [← hp]
 clear hi hn hp
 go_enter Tryd.func47,Tryd.ntmps47
 go_wp2_with (go_at_call 61;refine HI.out.mono ?_;rintro e w' ⟨rfl,rfl⟩)
 go_quiet (fail)
 go_wp2
 go_ret3
 exact ⟨rfl,pw_below_drewN (Below.refl _ _) _⟩
set_option maxHeartbeats 1000000 in
theorem cut_none (s:ByteArray) (c:UInt8) (w:World) (hn:Lib.indexByte s.data.toList c = -1) :
  Calls Tryd.prog 47 #[.string s,.string ⟨#[c]⟩] w fun e w'=>e=.returned (.tuple #[.string s,.string ⟨#[]⟩,.bool false])∧Below w.heap.size w w':=by
 have hi:=Tryd.stringslite_Index_one s c w
 rw [hn] at hi
 have HI:=Aside0.mk hi
 clear hi hn
 go_enter Tryd.func47,Tryd.ntmps47
 go_wp2_with (go_at_call 61;refine HI.out.mono ?_;rintro e w' ⟨rfl,rfl⟩)
 go_ret3
 exact ⟨rfl,Below.refl _ _⟩
def cutAt (s:ByteArray) (c:UInt8):ByteArray×ByteArray×Bool :=
 if 0≤Lib.indexByte s.data.toList c then (s.extract 0 (Lib.indexByte s.data.toList c).toNat,s.extract ((Lib.indexByte s.data.toList c).toNat+1) s.size,true) else (s,⟨#[]⟩,false)
theorem cut_lite (s:ByteArray) (c:UInt8) (w:World) (hs:s.size≤4611686018427387904) :
  Calls Tryd.prog 47 #[.string s,.string ⟨#[c]⟩] w fun e w'=>e=.returned (.tuple #[.string (cutAt s c).1,.string (cutAt s c).2.1,.bool (cutAt s c).2.2])∧Below w.heap.size w w':=by
 unfold cutAt
 have hge:=Lib.indexByte_ge s.data.toList c
 by_cases h:0≤Lib.indexByte s.data.toList c
 ·rw [if_pos h]
  obtain ⟨n,hn⟩:=Int.eq_ofNat_of_zero_le h
  rw [hn]
  exact cut_found s c n w hn hs
 ·rw [if_neg h]
  exact cut_none s c w (by omega)
set_option maxHeartbeats 1000000 in
theorem cut_any (s:ByteArray) (c:UInt8) (w:World) (hs:s.size≤4611686018427387904) :
  Calls Tryd.prog 25 #[.string s,.string ⟨#[c]⟩] w fun e w'=>e=.returned (.tuple #[.string (cutAt s c).1,.string (cutAt s c).2.1,.bool (cutAt s c).2.2])∧Below w.heap.size w w':=by
 have hc:=cut_lite s c w hs
 generalize cutAt s c=q at *
 obtain ⟨a,b,t⟩:=q
 have HC:=Aside0.mk hc
 clear hc
 go_enter Tryd.func25,Tryd.ntmps25
 go_wp2_with (go_at_call 47;refine HC.out.mono ?_;rintro e w' ⟨rfl,hb⟩;have HB:=Aside0.mk hb;clear hb)
 go_ret3
 exact ⟨rfl,HB.out⟩
end Go.Proofs.YtnbbfjddjmklpaaDoor.P

/- matcher.Parse: the matcher that a text names. Conditions: the library's variable holds some number. -/
namespace Go.Proofs.YtnbbfjddjmklpaaDoor.P
open Go.RowKit Go.Maps Go.Proofs.YtnbbfjddjmklpaaDoorW.PrintWords Go.Proofs.YtnbbfjddjmklpaaDoorW.PrintLast Go.Proofs.YtnbbfjddjmklpaaDoorW.PrintMore
set_option linter.unusedSimpArgs false
set_option linter.unusedVariables false

def wordsB (b:ByteArray):List ByteArray:=Lib.splitB ⟨#[124]⟩ 0 (Lib.countB b ⟨#[124]⟩) b
def trimB (s p:ByteArray):ByteArray:=⟨(Lib.trimSuffix s.data.toList p.data.toList).toArray⟩
def okW (s head:ByteArray) (ws:List ByteArray) (how:Int):Bool :=
 Lib.hasSuffix head.data.toList (signOf how).data.toList && mrightB (trimB head (signOf how)) how ws && (mtextB (trimB head (signOf how)) how ws).toList == s.toList
theorem trim_size (s p:ByteArray):(trimB s p).size≤s.size:=by
 have h:(Lib.trimSuffix s.data.toList p.data.toList).length≤s.data.toList.length:=by
  unfold Lib.trimSuffix
  split
  ·rw [List.length_take];omega
  ·exact Nat.le_refl _
 rw [data_length] at h
 show (List.toArray _).size≤_
 rw [List.size_toArray]
 exact h
theorem words_length (b:ByteArray):(wordsB b).length=Lib.countB b ⟨#[124]⟩+1:=Lib.splitB_all ⟨#[124]⟩ (by decide) 0 _ b rfl
theorem C_of_cells {w:World} {g:Nat} {xs:List ByteArray} {t:TypeId} (h:w.heap[g]?=some (.cells (xs.map Value.string).toArray t (0,0))) (hl:xs.length≤9223372036854775807):Kd.C Kd.string w (some ⟨g,0,none⟩) xs.length xs:=by
 refine ⟨rfl,hl,fun hn=>⟨_,rfl,fun j p hj=>⟨[.string p],rfl,rfl,fun i u hu=>?_⟩⟩⟩
 cases i with
 | succ i=>simp at hu
 | zero =>
  simp only [List.getElem?_cons_zero,Option.some.injEq] at hu
  subst hu
  rw [add_plain]
  show w.cell? ⟨g,j*1+0,none⟩=_
  rw [Nat.mul_one,Nat.add_zero,blk_cell h j]
  simp [hj]
theorem own_of_cells {w:World} {g base:Nat} {xs:List ByteArray} {t:TypeId} (h:w.heap[g]?=some (.cells (xs.map Value.string).toArray t (0,0))) (hb:base≤g) (hl:xs.length≤maxLen):w.ownsRow base t 1 (.slice (some ⟨g,0,none⟩) xs.length xs.length) xs.length (encs Value.string xs):=by
 refine ⟨by rw [encs_length,Nat.mul_one],.inr ⟨g,xs.length,(xs.map Value.string).toArray,rfl,hb,h,Nat.le_refl _,hl,by simp,?_⟩⟩
 unfold encs
 simpa using List.take_of_length_le (show (List.map Value.string xs).length≤xs.length by simp)
theorem cut_sizes (s:ByteArray) (c:UInt8):(cutAt s c).1.size≤s.size∧(cutAt s c).2.1.size≤s.size:=by
 unfold cutAt
 split
 ·simp only [ByteArray.size_extract]
  omega
 ·exact ⟨Nat.le_refl _,Nat.zero_le _⟩
theorem ranges_below {w w':World} {P:Program} {k:TypeId} {R:Value→Option (DataW Unit×List MemPlace)} {b r n:Nat} {D:DataW Unit} {left:Lit→Bool} {cnt:Nat} (h:w.ranges P k R b r n D left cnt) (hb:Below w.heap.size w w'):w'.ranges P k R b r n D left cnt:=by
 obtain ⟨es,clock,since,seen,c0,h1,F,h3,h4,h5,h6⟩:=h
 exact ⟨es,clock,since,seen,c0,blk_below h1 hb,F,h3,h4,blk_below h5 hb,h6⟩
theorem ranges_iter_ne {w:World} {P:Program} {k:TypeId} {R:Value→Option (DataW Unit×List MemPlace)} {b r n:Nat} {D:DataW Unit} {left:Lit→Bool} {cnt:Nat} (h:w.ranges P k R b r n D left cnt) {g:Nat} {cs:Array Value} {t:TypeId} {fr:Nat×Nat} (hg:w.heap[g]?=some (.cells cs t fr)):some g≠some r:=by
 obtain ⟨es,clock,since,seen,c0,h1,F,h3,h4,h5,h6⟩:=h
 intro e
 cases e
 rw [hg] at h5
 cases h5
theorem ranges_far {w:World} {P:Program} {k:TypeId} {R:Value→Option (DataW Unit×List MemPlace)} {b r n:Nat} {D:DataW Unit} {left:Lit→Bool} {cnt:Nat} (h:w.ranges P k R b r n D left cnt) {g:Nat} {cs:Array Value} {t:TypeId} {fr:Nat×Nat} (hg:w.heap[g]?=some (.cells cs t fr)) (j:Nat) (v:Value):(w.setCell ⟨g,j,none⟩ v).ranges P k R b r n D left cnt:=by
 obtain ⟨es,clock,since,seen,c0,h1,F,h3,h4,h5,h6⟩:=h
 have hb:b≠g:=fun e=>by rw [e,hg] at h1;cases h1
 have hr:r≠g:=fun e=>by rw [e,hg] at h5;cases h5
 exact ⟨es,clock,since,seen,c0,(Below.heap_setCell _ _ _ _ hb).trans h1,F,h3,h4,(Below.heap_setCell _ _ _ _ hr).trans h5,h6⟩
theorem sign_of {x:Int} {c:ByteArray} (h:∀ zd:DataW Unit,signsD.atKey (.int .i64 x) zd=.lit (.string c.data.toList)):(1≤x∧x≤4)∧signOf x=c:=by
 have h1:=h (.lit (.bool true))
 rw [signs_at] at h1
 cases hi:isSign x with
 | false =>
  rw [hi,if_neg (by decide)] at h1
  cases h1
 | true =>
  rw [hi,if_pos rfl] at h1
  injection h1 with h1
  injection h1 with h1
  refine ⟨?_,ByteArray.ext (Array.toList_inj.1 h1)⟩
  unfold isSign at hi
  simpa using hi
theorem put_three {W:World} {B:Nat} {a b c a' b' c':Value} {t:TypeId} (h:W.heap[B]?=some (.cells #[a,b,c] t (0,0))) :
  (((W.setCell ⟨B,0,none⟩ a').setCell ⟨B,1,none⟩ b').setCell ⟨B,2,none⟩ c').heap[B]?=some (.cells #[a',b',c'] t (0,0)):=by
 simp [World.setCell,Array.getElem?_modify,h]
theorem put_three_other {W:World} {B D:Nat} {a' b' c':Value} (h:D≠B):(((W.setCell ⟨B,0,none⟩ a').setCell ⟨B,1,none⟩ b').setCell ⟨B,2,none⟩ c').heap[D]?=W.heap[D]? :=
 (Below.heap_setCell _ _ _ _ h).trans ((Below.heap_setCell _ _ _ _ h).trans (Below.heap_setCell _ _ _ _ h))
theorem split_any (b:ByteArray) (hs:b.size≤1000000) (w:World) (hK:KeysIn w) :
  Calls Tryd.prog 26 #[.string b,.string ⟨#[124]⟩] w fun e w'=>∃ g,e=.returned (.slice (some ⟨g,0,none⟩) (wordsB b).length (wordsB b).length)∧w'.heap[g]?=some (.cells ((wordsB b).map Value.string).toArray 9 (0,0))∧w.heap.size≤g∧Below w.heap.size w w':=by
 obtain ⟨m,hm⟩:=hK
 refine (Tryd.strings_Split b ⟨#[124]⟩ m w (by omega) hm (by decide)).mono ?_
 rintro e w' ⟨rfl,rfl⟩
 exact ⟨w.heap.size,by rw [words_length],blk_new w _,Nat.le_refl _,below_alloc (Below.refl _ _) _⟩
def ParsePost (s head:ByteArray) (ws:List ByteArray) (w:World) (e:Ending) (w':World):Prop :=
 (∃ (how:Int) (v:Value),(1≤how∧how≤4)∧okW s head ws how=true∧e=.returned (.tuple #[.agg #[.string (trimB head (signOf how)),.int .i64 how,v],.int .i64 0])∧Kd.R Kd.string 9 w' w.heap.size (fun _=>True) v ws∧Below w.heap.size w w') ∨
 ((∀ how:Int,1≤how→how≤4→okW s head ws how=false)∧e=.returned (.tuple #[.agg #[.string ⟨#[]⟩,.int .i64 0,.slice none 0 0],.int .i64 6])∧Below w.heap.size w w')
set_option maxHeartbeats 4000000 in
set_option maxRecDepth 100000 in
theorem parse_walk (s:ByteArray) (hs:s.size≤1000000) (w:World) (hK:KeysIn w) :
  Calls Tryd.prog 11 #[.string s] w (ParsePost s (cutAt s 34).1 (wordsB (trimB (cutAt s 34).2.1 ⟨#[34]⟩)) w):=by
 have hcut:=fun W=>cut_any s 34 W (by omega)
 have hz:=cut_sizes s 34
 obtain ⟨head,rest,tb,hq⟩:∃ head rest tb,cutAt s 34=(head,rest,tb):=⟨_,_,_,rfl⟩
 rw [hq] at hcut hz ⊢
 dsimp only at hcut hz ⊢
 have htrim:=fun W=>Tryd.strings_TrimSuffix rest ⟨#[34]⟩ W (by omega)
 have hbz:=trim_size rest ⟨#[34]⟩
 have hbd:(⟨(Lib.trimSuffix rest.data.toList (⟨#[34]⟩:ByteArray).data.toList).toArray⟩:ByteArray)=trimB rest ⟨#[34]⟩:=rfl
 rw [hbd] at htrim
 generalize trimB rest ⟨#[34]⟩=body at *
 have hsplit:=fun W hk=>split_any body (by omega) W hk
 have hwl:(wordsB body).length≤1000001:=by
  have:=Lib.countB_le ⟨#[124]⟩ (by decide) body.size body (Nat.le_refl _)
  rw [words_length]
  omega
 generalize wordsB body=ws at *
 have HWL:Aside0 (ws.length≤9223372036854775807):=⟨by omega⟩
 have HHZ:Aside0 (head.size≤1000000):=⟨by omega⟩
 have HWM:Aside0 (ws.length≤maxLen):=⟨by unfold maxLen;omega⟩
 have HCUT:=Aside0.mk hcut
 have HTRIM:=Aside0.mk htrim
 have HSPLIT:=Aside0.mk hsplit
 have HK:=Aside0.mk hK
 clear hcut htrim hsplit hK hz hbz hbd hwl hq hs
 go_enter Tryd.func11,Tryd.ntmps11
 go_wp2_with (first
  | ((with_reducible refine gate_dst (N:=2) rfl ?_);refine box_event ?hg (N:=2) ?hd (cs:=#[.string ⟨#[]⟩,.int .i64 0,.slice none 0 0]) (t:=24) ?hr ?_;(case hd=>rfl);(case hg=>rfl);(case hr=>first|(go_simp;done)|(go_simp;rfl));intro gR hgR w1 hbox hb;have BR:=Aside0.mk hbox;have HB:=Aside0.mk hb;have GR:Aside0 (w.heap.size≤gR):=⟨by rw [hgR];exact Nat.le_refl _⟩;clear hb hbox hgR)
  | (go_at_call 25;refine (HCUT.out _).mono ?_;rintro e w2 ⟨rfl,hb2⟩;have BR2:=Aside0.mk (blk_below BR.out hb2);have HB2:=Aside0.mk (below_step HB.out hb2);clear hb2)
  | (go_at_call 27;refine (HTRIM.out _).mono ?_;rintro e w' ⟨rfl,rfl⟩)
  | (go_at_call 26;refine (HSPLIT.out _ (keys_step HK.out HB2.out)).mono ?_;rintro e w3 ⟨gS,rfl,hg3,hge3,hb3⟩;have BS3:=Aside0.mk hg3;have BR3:=Aside0.mk (blk_below BR2.out hb3);have GS:Aside0 (w.heap.size≤gS):=⟨Nat.le_trans HB2.out.size hge3⟩;have HB3:=Aside0.mk (below_step HB2.out hb3);clear hb3 hg3 hge3)
  | (go_at_call 23;refine (signs_new _).mono ?_;rintro e w4 ⟨mb,rfl,hsg,hb4⟩;have HSG:=Aside0.mk hsg;have BR4:=Aside0.mk (blk_below BR3.out hb4);have BS4:=Aside0.mk (blk_below BS3.out hb4);have HB4:=Aside0.mk (below_step HB3.out hb4);clear hsg hb4)
  | (at_range;refine wpList_range_own _ rfl _ 50 rfl 3 9 signsLaw Tryd.underlying50 (plainElem Tryd.prog 9) mb 4 signsD rfl HSG.out ?_;intro w5 hrg5 hg5 hs5;have HRG5:=Aside0.mk hrg5;have BR5:=Aside0.mk (blk_grown BR4.out hg5 (by simp));have BS5:=Aside0.mk (blk_grown BS4.out hg5 (by simp));have HB5:=Aside0.mk (HB4.out.grown hg5 HB4.out.size (fun j hj=>by cases hj));clear hrg5 hg5 hs5))
 go_frame
 have HIT:Aside0 (w.heap.size≤w4.heap.size):=⟨HB4.out.size⟩
 generalize w4.heap.size=it at HRG5 HIT ⊢
 go_loopw [26] (fun _ wr=>∃ (left:Lit→Bool) (cnt:Nat),Aside0 (wr.ranges Tryd.prog 3 (plainElem Tryd.prog 9) mb it 4 signsD left cnt)∧Aside0 (∀ how:Int,1≤how→how≤4→left (.int .i64 how)=false→okW s head ws how=false) ∧
   Aside0 (wr.heap[gR]?=some (.cells #[.string ⟨#[]⟩,.int .i64 0,.slice none 0 0] 24 (0,0)))∧Aside0 (wr.heap[gS]?=some (.cells (ws.map Value.string).toArray 9 (0,0)))∧Aside0 (Below w.heap.size w wr))
  (fun _ wr=>wr.rangeLeft mb it)
 case atStart=>exact ⟨_,_,HRG5,⟨fun how h1 h2 hl=>by rw [signs_has] at hl;unfold isSign at hl;rw [decide_eq_true h1,decide_eq_true h2] at hl;cases hl⟩,BR5,BS5,HB5⟩
 case round =>
  obtain ⟨left,cnt,HRG,HNO,BR,BS,HB⟩:=hrel
  go_wp2_with (at_next;refine wpList_next_ranges_is _ rfl _ rfl 3 9 .i64 signsLaw Tryd.underlying3 Tryd.underlying9 mb it 4 signsD left cnt rfl HRG.out ?_ ?_)
  ·intro hc0 hl0
   have HDONE:Aside0 (∀ how:Int,1≤how→how≤4→okW s head ws how=false):=⟨fun how h1 h2=>HNO.out how h1 h2 (hl0 _)⟩
   have r0_:wr.cell? ⟨gR,0,none⟩=some (.string ⟨#[]⟩):=(blk_cell BR.out 0).trans rfl
   have r1_:wr.cell? ⟨gR,1,none⟩=some (.int .i64 0):=(blk_cell BR.out 1).trans rfl
   have r2_:wr.cell? ⟨gR,2,none⟩=some (.slice none 0 0):=(blk_cell BR.out 2).trans rfl
   have q0_:=blk_frozen BR.out 0
   have q1_:=blk_frozen BR.out 1
   have q2_:=blk_frozen BR.out 2
   clear hl0 hc0
   go_wp2
   refine bodyPost_ret (results_ct rfl _ _ gR 24 #[.string ⟨#[]⟩,.int .i64 0,.slice none 0 0] (0,0) _ rfl (put_three BR.out) Tryd.underlying24 rfl (by kernel_rfl)) rfl ?_
   exact .inr ⟨HDONE.out,rfl,below_set (below_set (below_set HB.out GR.out) GR.out) GR.out⟩
  ·intro x c w6 cnt6 hwx hwc hlx hat hrg6 hlt hg6 hs6 hen
   obtain ⟨hx,rfl⟩:=sign_of hat
   have BR6:=Aside0.mk (blk_grown BR.out hg6 (ranges_iter_ne HRG.out BR.out))
   have BS6:=Aside0.mk (blk_grown BS.out hg6 (ranges_iter_ne HRG.out BS.out))
   have HRG6:=Aside0.mk hrg6
   have HB6:=Aside0.mk (HB.out.grown hg6 HB.out.size (fun j hj=>by cases hj;exact HIT.out))
   have HX:=Aside0.mk hx
   have HLT:=Aside0.mk hlt
   have hsuf:=fun W=>Tryd.strings_CutSuffix head (signOf x) W (by have:=HHZ.out;omega)
   have htx:=fun W hr=>mtext_any (trimB head (signOf x)) x ws (some ⟨gS,0,none⟩) ws.length hwx (Nat.le_trans (trim_size _ _) HHZ.out) W hr (Nat.le_refl _)
   have hok:okW s head ws x=(Lib.hasSuffix head.data.toList (signOf x).data.toList && mrightB (trimB head (signOf x)) x ws && (mtextB (trimB head (signOf x)) x ws).toList == s.toList):=rfl
   have hnm:(⟨(Lib.trimSuffix head.data.toList (signOf x).data.toList).toArray⟩:ByteArray)=trimB head (signOf x):=rfl
   rw [hnm] at hsuf
   obtain ⟨nm,hnm2⟩:∃ nm,trimB head (signOf x)=nm:=⟨_,rfl⟩
   rw [hnm2] at hsuf htx hok
   have HNM:=Aside0.mk hnm2
   obtain ⟨sg,hsg⟩:∃ sg,signOf x=sg:=⟨_,rfl⟩
   rw [hsg] at hsuf hen hok
   clear hat hrg6 hg6 hs6 hwx hwc hlx hlt hx hnm hnm2 hsg
   generalize Lib.hasSuffix head.data.toList sg.data.toList=sx at *
   generalize hmr:mrightB nm x ws=mr at *
   generalize mtextB nm x ws=tx at *
   clear hmr
   have HSUF:=Aside0.mk hsuf
   clear hsuf
   cases sx with
   | false =>
    have HBAD:Aside0 (okW s head ws x=false):=⟨by rw [hok];rfl⟩
    have HTX:=Aside0.mk htx
    clear hok htx
    go_upto_region 8 with (first
     | (go_at_call 28;refine (HSUF.out _).mono ?_;rintro e w' ⟨rfl,hw⟩;have hw2:=hw.symm;clear hw;subst hw2)
     | ((with_reducible refine gate_dst (N:=12) rfl ?_);refine box_event ?hg (N:=12) ?hd (cs:=#[.string ⟨#[]⟩,.int .i64 0,.slice none 0 0]) (t:=24) ?hr ?_;(case hd=>rfl);(case hg=>rfl);(case hr=>first|(go_simp;done)|(go_simp;rfl));intro gM hgM w7 hbox hb;have BM:=Aside0.mk hbox;have HB7:=Aside0.mk (below_step HB6.out hb);have BR7:=Aside0.mk (blk_below BR6.out hb);have BS7:=Aside0.mk (blk_below BS6.out hb);have HRG7:=Aside0.mk (ranges_below HRG6.out hb);have GM:Aside0 (w6.heap.size=gM):=⟨hgM.symm⟩;have c0_:w7.cell? ⟨gM,0,none⟩=some (.string ⟨#[]⟩):=(blk_cell BM.out 0).trans rfl;have c1_:w7.cell? ⟨gM,1,none⟩=some (.int .i64 0):=(blk_cell BM.out 1).trans rfl;have c2_:w7.cell? ⟨gM,2,none⟩=some (.slice none 0 0):=(blk_cell BM.out 2).trans rfl;have f0_:=blk_frozen BM.out 0;have f1_:=blk_frozen BM.out 1;have f2_:=blk_frozen BM.out 2;clear hb hbox hgM))
    have hgl:=GM.out
    have hRM:gR≠gM:=by have:=blk_lt BR6.out;omega
    have hSM:gS≠gM:=by have:=blk_lt BS6.out;omega
    have n0:Aside0 ((((w7.setCell ⟨gM,0,none⟩ (.string nm)).setCell ⟨gM,1,none⟩ (.int .i64 x)).setCell ⟨gM,2,none⟩ (.slice (some ⟨gS,0,none⟩) ws.length ws.length)).heap[gM]?=some (.cells #[.string nm,.int .i64 x,.slice (some ⟨gS,0,none⟩) ws.length ws.length] 24 (0,0))):=⟨put_three BM.out⟩
    have n1:Aside0 ((((w7.setCell ⟨gM,0,none⟩ (.string nm)).setCell ⟨gM,1,none⟩ (.int .i64 x)).setCell ⟨gM,2,none⟩ (.slice (some ⟨gS,0,none⟩) ws.length ws.length)).heap[gR]?=some (.cells #[.string ⟨#[]⟩,.int .i64 0,.slice none 0 0] 24 (0,0))):=⟨(put_three_other hRM).trans BR7.out⟩
    have n2:Aside0 ((((w7.setCell ⟨gM,0,none⟩ (.string nm)).setCell ⟨gM,1,none⟩ (.int .i64 x)).setCell ⟨gM,2,none⟩ (.slice (some ⟨gS,0,none⟩) ws.length ws.length)).heap[gS]?=some (.cells (ws.map Value.string).toArray 9 (0,0))):=⟨(put_three_other hSM).trans BS7.out⟩
    have n3:Aside0 ((((w7.setCell ⟨gM,0,none⟩ (.string nm)).setCell ⟨gM,1,none⟩ (.int .i64 x)).setCell ⟨gM,2,none⟩ (.slice (some ⟨gS,0,none⟩) ws.length ws.length)).ranges Tryd.prog 3 (plainElem Tryd.prog 9) mb it 4 signsD (fun z=>left z && !z.sameKey (.int .i64 x)) cnt6):=⟨ranges_far (ranges_far (ranges_far HRG7.out BM.out 0 (.string nm)) (blk_put BM.out 0 _ rfl) 1 (.int .i64 x)) (blk_put (blk_put BM.out 0 _ rfl) 1 _ rfl) 2 _⟩
    have hwM:w.heap.size≤gM:=by have:=HB6.out.size;omega
    have n4:Aside0 (Below w.heap.size w (((w7.setCell ⟨gM,0,none⟩ (.string nm)).setCell ⟨gM,1,none⟩ (.int .i64 x)).setCell ⟨gM,2,none⟩ (.slice (some ⟨gS,0,none⟩) ws.length ws.length))):=⟨below_set (below_set (below_set HB7.out hwM) hwM) hwM⟩
    clear BM BR7 BS7 HRG7 HB7 c0_ c1_ c2_ f0_ f1_ f2_ hgl hRM hSM hwM hen
    generalize ((w7.setCell ⟨gM,0,none⟩ (.string nm)).setCell ⟨gM,1,none⟩ (.int .i64 x)).setCell ⟨gM,2,none⟩ (.slice (some ⟨gS,0,none⟩) ws.length ws.length)=wz at n0 n1 n2 n3 n4 ⊢
    have c0_:wz.cell? ⟨gM,0,none⟩=some (.string nm):=(blk_cell n0.out 0).trans rfl
    have c1_:wz.cell? ⟨gM,1,none⟩=some (.int .i64 x):=(blk_cell n0.out 1).trans rfl
    have c2_:wz.cell? ⟨gM,2,none⟩=some (.slice (some ⟨gS,0,none⟩) ws.length ws.length):=(blk_cell n0.out 2).trans rfl
    go_wp2_with (go_at_call 10;refine (HTX.out _ (C_of_cells n2.out HWL.out)).mono ?_;rintro e w8 ⟨rfl,hb8⟩;have BM8:=Aside0.mk (blk_below n0.out hb8);have BR8:=Aside0.mk (blk_below n1.out hb8);have BS8:=Aside0.mk (blk_below n2.out hb8);have HRG8:=Aside0.mk (ranges_below n3.out hb8);have HB8:=Aside0.mk (below_step n4.out hb8);have m0_:w8.cell? ⟨gM,0,none⟩=some (.string nm):=(blk_cell BM8.out 0).trans rfl;have m1_:w8.cell? ⟨gM,1,none⟩=some (.int .i64 x):=(blk_cell BM8.out 1).trans rfl;have m2_:w8.cell? ⟨gM,2,none⟩=some (.slice (some ⟨gS,0,none⟩) ws.length ws.length):=(blk_cell BM8.out 2).trans rfl;have r0_:w8.cell? ⟨gR,0,none⟩=some (.string ⟨#[]⟩):=(blk_cell BR8.out 0).trans rfl;have r1_:w8.cell? ⟨gR,1,none⟩=some (.int .i64 0):=(blk_cell BR8.out 1).trans rfl;have r2_:w8.cell? ⟨gR,2,none⟩=some (.slice none 0 0):=(blk_cell BR8.out 2).trans rfl;have q0_:=blk_frozen BR8.out 0;have q1_:=blk_frozen BR8.out 1;have q2_:=blk_frozen BR8.out 2;clear hb8)
    go_roundw
    case rel =>
     refine ⟨_,cnt6,HRG8,⟨fun how h1 h2 hl=>?_⟩,BR8,BS8,HB8⟩
     by_cases hx:how=x
     ·rw [hx];exact HBAD.out
     ·refine HNO.out how h1 h2 ?_
      simp only [Lit.sameKey,true_and] at hl
      rw [decide_eq_false hx] at hl
      simpa using hl
    case measure=>rw [HRG8.out.left_eq,HRG.out.left_eq];exact HLT.out
   | true =>
    cases mr with
    | false =>
     have HBAD:Aside0 (okW s head ws x=false):=⟨by rw [hok];rfl⟩
     rw [if_neg (by decide),if_neg (by decide)] at htx
     have HTX:=Aside0.mk htx
     clear hok htx
     go_upto_region 8 with (first
      | (go_at_call 28;refine (HSUF.out _).mono ?_;rintro e w' ⟨rfl,hw⟩;have hw2:=hw.symm;clear hw;subst hw2)
      | ((with_reducible refine gate_dst (N:=12) rfl ?_);refine box_event ?hg (N:=12) ?hd (cs:=#[.string ⟨#[]⟩,.int .i64 0,.slice none 0 0]) (t:=24) ?hr ?_;(case hd=>rfl);(case hg=>rfl);(case hr=>first|(go_simp;done)|(go_simp;rfl));intro gM hgM w7 hbox hb;have BM:=Aside0.mk hbox;have HB7:=Aside0.mk (below_step HB6.out hb);have BR7:=Aside0.mk (blk_below BR6.out hb);have BS7:=Aside0.mk (blk_below BS6.out hb);have HRG7:=Aside0.mk (ranges_below HRG6.out hb);have GM:Aside0 (w6.heap.size=gM):=⟨hgM.symm⟩;have c0_:w7.cell? ⟨gM,0,none⟩=some (.string ⟨#[]⟩):=(blk_cell BM.out 0).trans rfl;have c1_:w7.cell? ⟨gM,1,none⟩=some (.int .i64 0):=(blk_cell BM.out 1).trans rfl;have c2_:w7.cell? ⟨gM,2,none⟩=some (.slice none 0 0):=(blk_cell BM.out 2).trans rfl;have f0_:=blk_frozen BM.out 0;have f1_:=blk_frozen BM.out 1;have f2_:=blk_frozen BM.out 2;clear hb hbox hgM))
     have hgl:=GM.out
     have hRM:gR≠gM:=by have:=blk_lt BR6.out;omega
     have hSM:gS≠gM:=by have:=blk_lt BS6.out;omega
     have n0:Aside0 ((((w7.setCell ⟨gM,0,none⟩ (.string nm)).setCell ⟨gM,1,none⟩ (.int .i64 x)).setCell ⟨gM,2,none⟩ (.slice (some ⟨gS,0,none⟩) ws.length ws.length)).heap[gM]?=some (.cells #[.string nm,.int .i64 x,.slice (some ⟨gS,0,none⟩) ws.length ws.length] 24 (0,0))):=⟨put_three BM.out⟩
     have n1:Aside0 ((((w7.setCell ⟨gM,0,none⟩ (.string nm)).setCell ⟨gM,1,none⟩ (.int .i64 x)).setCell ⟨gM,2,none⟩ (.slice (some ⟨gS,0,none⟩) ws.length ws.length)).heap[gR]?=some (.cells #[.string ⟨#[]⟩,.int .i64 0,.slice none 0 0] 24 (0,0))):=⟨(put_three_other hRM).trans BR7.out⟩
     have n2:Aside0 ((((w7.setCell ⟨gM,0,none⟩ (.string nm)).setCell ⟨gM,1,none⟩ (.int .i64 x)).setCell ⟨gM,2,none⟩ (.slice (some ⟨gS,0,none⟩) ws.length ws.length)).heap[gS]?=some (.cells (ws.map Value.string).toArray 9 (0,0))):=⟨(put_three_other hSM).trans BS7.out⟩
     have n3:Aside0 ((((w7.setCell ⟨gM,0,none⟩ (.string nm)).setCell ⟨gM,1,none⟩ (.int .i64 x)).setCell ⟨gM,2,none⟩ (.slice (some ⟨gS,0,none⟩) ws.length ws.length)).ranges Tryd.prog 3 (plainElem Tryd.prog 9) mb it 4 signsD (fun z=>left z && !z.sameKey (.int .i64 x)) cnt6):=⟨ranges_far (ranges_far (ranges_far HRG7.out BM.out 0 (.string nm)) (blk_put BM.out 0 _ rfl) 1 (.int .i64 x)) (blk_put (blk_put BM.out 0 _ rfl) 1 _ rfl) 2 _⟩
     have hwM:w.heap.size≤gM:=by have:=HB6.out.size;omega
     have n4:Aside0 (Below w.heap.size w (((w7.setCell ⟨gM,0,none⟩ (.string nm)).setCell ⟨gM,1,none⟩ (.int .i64 x)).setCell ⟨gM,2,none⟩ (.slice (some ⟨gS,0,none⟩) ws.length ws.length))):=⟨below_set (below_set (below_set HB7.out hwM) hwM) hwM⟩
     clear BM BR7 BS7 HRG7 HB7 c0_ c1_ c2_ f0_ f1_ f2_ hgl hRM hSM hwM hen
     generalize ((w7.setCell ⟨gM,0,none⟩ (.string nm)).setCell ⟨gM,1,none⟩ (.int .i64 x)).setCell ⟨gM,2,none⟩ (.slice (some ⟨gS,0,none⟩) ws.length ws.length)=wz at n0 n1 n2 n3 n4 ⊢
     have c0_:wz.cell? ⟨gM,0,none⟩=some (.string nm):=(blk_cell n0.out 0).trans rfl
     have c1_:wz.cell? ⟨gM,1,none⟩=some (.int .i64 x):=(blk_cell n0.out 1).trans rfl
     have c2_:wz.cell? ⟨gM,2,none⟩=some (.slice (some ⟨gS,0,none⟩) ws.length ws.length):=(blk_cell n0.out 2).trans rfl
     go_wp2_with (go_at_call 10;refine (HTX.out _ (C_of_cells n2.out HWL.out)).mono ?_;rintro e w8 ⟨rfl,hb8⟩;have BM8:=Aside0.mk (blk_below n0.out hb8);have BR8:=Aside0.mk (blk_below n1.out hb8);have BS8:=Aside0.mk (blk_below n2.out hb8);have HRG8:=Aside0.mk (ranges_below n3.out hb8);have HB8:=Aside0.mk (below_step n4.out hb8);have m0_:w8.cell? ⟨gM,0,none⟩=some (.string nm):=(blk_cell BM8.out 0).trans rfl;have m1_:w8.cell? ⟨gM,1,none⟩=some (.int .i64 x):=(blk_cell BM8.out 1).trans rfl;have m2_:w8.cell? ⟨gM,2,none⟩=some (.slice (some ⟨gS,0,none⟩) ws.length ws.length):=(blk_cell BM8.out 2).trans rfl;have r0_:w8.cell? ⟨gR,0,none⟩=some (.string ⟨#[]⟩):=(blk_cell BR8.out 0).trans rfl;have r1_:w8.cell? ⟨gR,1,none⟩=some (.int .i64 0):=(blk_cell BR8.out 1).trans rfl;have r2_:w8.cell? ⟨gR,2,none⟩=some (.slice none 0 0):=(blk_cell BR8.out 2).trans rfl;have q0_:=blk_frozen BR8.out 0;have q1_:=blk_frozen BR8.out 1;have q2_:=blk_frozen BR8.out 2;clear hb8)
     go_roundw
     case rel =>
      refine ⟨_,cnt6,HRG8,⟨fun how h1 h2 hl=>?_⟩,BR8,BS8,HB8⟩
      by_cases hx:how=x
      ·rw [hx];exact HBAD.out
      ·refine HNO.out how h1 h2 ?_
       simp only [Lit.sameKey,true_and] at hl
       rw [decide_eq_false hx] at hl
       simpa using hl
     case measure=>rw [HRG8.out.left_eq,HRG.out.left_eq];exact HLT.out
    | true =>
     rw [if_pos rfl,if_pos rfl] at htx
     cases hts:(tx.toList == s.toList) with
     | false =>
      have HBAD:Aside0 (okW s head ws x=false):=⟨by rw [hok,hts];rfl⟩
      have HTX:=Aside0.mk htx
      clear hok htx
      go_upto_region 8 with (first
       | (go_at_call 28;refine (HSUF.out _).mono ?_;rintro e w' ⟨rfl,hw⟩;have hw2:=hw.symm;clear hw;subst hw2)
       | ((with_reducible refine gate_dst (N:=12) rfl ?_);refine box_event ?hg (N:=12) ?hd (cs:=#[.string ⟨#[]⟩,.int .i64 0,.slice none 0 0]) (t:=24) ?hr ?_;(case hd=>rfl);(case hg=>rfl);(case hr=>first|(go_simp;done)|(go_simp;rfl));intro gM hgM w7 hbox hb;have BM:=Aside0.mk hbox;have HB7:=Aside0.mk (below_step HB6.out hb);have BR7:=Aside0.mk (blk_below BR6.out hb);have BS7:=Aside0.mk (blk_below BS6.out hb);have HRG7:=Aside0.mk (ranges_below HRG6.out hb);have GM:Aside0 (w6.heap.size=gM):=⟨hgM.symm⟩;have c0_:w7.cell? ⟨gM,0,none⟩=some (.string ⟨#[]⟩):=(blk_cell BM.out 0).trans rfl;have c1_:w7.cell? ⟨gM,1,none⟩=some (.int .i64 0):=(blk_cell BM.out 1).trans rfl;have c2_:w7.cell? ⟨gM,2,none⟩=some (.slice none 0 0):=(blk_cell BM.out 2).trans rfl;have f0_:=blk_frozen BM.out 0;have f1_:=blk_frozen BM.out 1;have f2_:=blk_frozen BM.out 2;clear hb hbox hgM))
      have hgl:=GM.out
      have hRM:gR≠gM:=by have:=blk_lt BR6.out;omega
      have hSM:gS≠gM:=by have:=blk_lt BS6.out;omega
      have n0:Aside0 ((((w7.setCell ⟨gM,0,none⟩ (.string nm)).setCell ⟨gM,1,none⟩ (.int .i64 x)).setCell ⟨gM,2,none⟩ (.slice (some ⟨gS,0,none⟩) ws.length ws.length)).heap[gM]?=some (.cells #[.string nm,.int .i64 x,.slice (some ⟨gS,0,none⟩) ws.length ws.length] 24 (0,0))):=⟨put_three BM.out⟩
      have n1:Aside0 ((((w7.setCell ⟨gM,0,none⟩ (.string nm)).setCell ⟨gM,1,none⟩ (.int .i64 x)).setCell ⟨gM,2,none⟩ (.slice (some ⟨gS,0,none⟩) ws.length ws.length)).heap[gR]?=some (.cells #[.string ⟨#[]⟩,.int .i64 0,.slice none 0 0] 24 (0,0))):=⟨(put_three_other hRM).trans BR7.out⟩
      have n2:Aside0 ((((w7.setCell ⟨gM,0,none⟩ (.string nm)).setCell ⟨gM,1,none⟩ (.int .i64 x)).setCell ⟨gM,2,none⟩ (.slice (some ⟨gS,0,none⟩) ws.length ws.length)).heap[gS]?=some (.cells (ws.map Value.string).toArray 9 (0,0))):=⟨(put_three_other hSM).trans BS7.out⟩
      have n3:Aside0 ((((w7.setCell ⟨gM,0,none⟩ (.string nm)).setCell ⟨gM,1,none⟩ (.int .i64 x)).setCell ⟨gM,2,none⟩ (.slice (some ⟨gS,0,none⟩) ws.length ws.length)).ranges Tryd.prog 3 (plainElem Tryd.prog 9) mb it 4 signsD (fun z=>left z && !z.sameKey (.int .i64 x)) cnt6):=⟨ranges_far (ranges_far (ranges_far HRG7.out BM.out 0 (.string nm)) (blk_put BM.out 0 _ rfl) 1 (.int .i64 x)) (blk_put (blk_put BM.out 0 _ rfl) 1 _ rfl) 2 _⟩
      have hwM:w.heap.size≤gM:=by have:=HB6.out.size;omega
      have n4:Aside0 (Below w.heap.size w (((w7.setCell ⟨gM,0,none⟩ (.string nm)).setCell ⟨gM,1,none⟩ (.int .i64 x)).setCell ⟨gM,2,none⟩ (.slice (some ⟨gS,0,none⟩) ws.length ws.length))):=⟨below_set (below_set (below_set HB7.out hwM) hwM) hwM⟩
      clear BM BR7 BS7 HRG7 HB7 c0_ c1_ c2_ f0_ f1_ f2_ hgl hRM hSM hwM hen
      generalize ((w7.setCell ⟨gM,0,none⟩ (.string nm)).setCell ⟨gM,1,none⟩ (.int .i64 x)).setCell ⟨gM,2,none⟩ (.slice (some ⟨gS,0,none⟩) ws.length ws.length)=wz at n0 n1 n2 n3 n4 ⊢
      have c0_:wz.cell? ⟨gM,0,none⟩=some (.string nm):=(blk_cell n0.out 0).trans rfl
      have c1_:wz.cell? ⟨gM,1,none⟩=some (.int .i64 x):=(blk_cell n0.out 1).trans rfl
      have c2_:wz.cell? ⟨gM,2,none⟩=some (.slice (some ⟨gS,0,none⟩) ws.length ws.length):=(blk_cell n0.out 2).trans rfl
      go_wp2_with (go_at_call 10;refine (HTX.out _ (C_of_cells n2.out HWL.out)).mono ?_;rintro e w8 ⟨rfl,hb8⟩;have BM8:=Aside0.mk (blk_below n0.out hb8);have BR8:=Aside0.mk (blk_below n1.out hb8);have BS8:=Aside0.mk (blk_below n2.out hb8);have HRG8:=Aside0.mk (ranges_below n3.out hb8);have HB8:=Aside0.mk (below_step n4.out hb8);have m0_:w8.cell? ⟨gM,0,none⟩=some (.string nm):=(blk_cell BM8.out 0).trans rfl;have m1_:w8.cell? ⟨gM,1,none⟩=some (.int .i64 x):=(blk_cell BM8.out 1).trans rfl;have m2_:w8.cell? ⟨gM,2,none⟩=some (.slice (some ⟨gS,0,none⟩) ws.length ws.length):=(blk_cell BM8.out 2).trans rfl;have r0_:w8.cell? ⟨gR,0,none⟩=some (.string ⟨#[]⟩):=(blk_cell BR8.out 0).trans rfl;have r1_:w8.cell? ⟨gR,1,none⟩=some (.int .i64 0):=(blk_cell BR8.out 1).trans rfl;have r2_:w8.cell? ⟨gR,2,none⟩=some (.slice none 0 0):=(blk_cell BR8.out 2).trans rfl;have q0_:=blk_frozen BR8.out 0;have q1_:=blk_frozen BR8.out 1;have q2_:=blk_frozen BR8.out 2;clear hb8)
      go_roundw
      case rel =>
       refine ⟨_,cnt6,HRG8,⟨fun how h1 h2 hl=>?_⟩,BR8,BS8,HB8⟩
       by_cases hx:how=x
       ·rw [hx];exact HBAD.out
       ·refine HNO.out how h1 h2 ?_
        simp only [Lit.sameKey,true_and] at hl
        rw [decide_eq_false hx] at hl
        simpa using hl
      case measure=>rw [HRG8.out.left_eq,HRG.out.left_eq];exact HLT.out
     | true =>
      have HGOOD:Aside0 (okW s head ws x=true):=⟨by rw [hok,hts];rfl⟩
      have HTX:=Aside0.mk htx
      clear hok htx
      go_upto_region 8 with (first
       | (go_at_call 28;refine (HSUF.out _).mono ?_;rintro e w' ⟨rfl,hw⟩;have hw2:=hw.symm;clear hw;subst hw2)
       | ((with_reducible refine gate_dst (N:=12) rfl ?_);refine box_event ?hg (N:=12) ?hd (cs:=#[.string ⟨#[]⟩,.int .i64 0,.slice none 0 0]) (t:=24) ?hr ?_;(case hd=>rfl);(case hg=>rfl);(case hr=>first|(go_simp;done)|(go_simp;rfl));intro gM hgM w7 hbox hb;have BM:=Aside0.mk hbox;have HB7:=Aside0.mk (below_step HB6.out hb);have BR7:=Aside0.mk (blk_below BR6.out hb);have BS7:=Aside0.mk (blk_below BS6.out hb);have HRG7:=Aside0.mk (ranges_below HRG6.out hb);have GM:Aside0 (w6.heap.size=gM):=⟨hgM.symm⟩;have c0_:w7.cell? ⟨gM,0,none⟩=some (.string ⟨#[]⟩):=(blk_cell BM.out 0).trans rfl;have c1_:w7.cell? ⟨gM,1,none⟩=some (.int .i64 0):=(blk_cell BM.out 1).trans rfl;have c2_:w7.cell? ⟨gM,2,none⟩=some (.slice none 0 0):=(blk_cell BM.out 2).trans rfl;have f0_:=blk_frozen BM.out 0;have f1_:=blk_frozen BM.out 1;have f2_:=blk_frozen BM.out 2;clear hb hbox hgM))
      have hgl:=GM.out
      have hRM:gR≠gM:=by have:=blk_lt BR6.out;omega
      have hSM:gS≠gM:=by have:=blk_lt BS6.out;omega
      have n0:Aside0 ((((w7.setCell ⟨gM,0,none⟩ (.string nm)).setCell ⟨gM,1,none⟩ (.int .i64 x)).setCell ⟨gM,2,none⟩ (.slice (some ⟨gS,0,none⟩) ws.length ws.length)).heap[gM]?=some (.cells #[.string nm,.int .i64 x,.slice (some ⟨gS,0,none⟩) ws.length ws.length] 24 (0,0))):=⟨put_three BM.out⟩
      have n1:Aside0 ((((w7.setCell ⟨gM,0,none⟩ (.string nm)).setCell ⟨gM,1,none⟩ (.int .i64 x)).setCell ⟨gM,2,none⟩ (.slice (some ⟨gS,0,none⟩) ws.length ws.length)).heap[gR]?=some (.cells #[.string ⟨#[]⟩,.int .i64 0,.slice none 0 0] 24 (0,0))):=⟨(put_three_other hRM).trans BR7.out⟩
      have n2:Aside0 ((((w7.setCell ⟨gM,0,none⟩ (.string nm)).setCell ⟨gM,1,none⟩ (.int .i64 x)).setCell ⟨gM,2,none⟩ (.slice (some ⟨gS,0,none⟩) ws.length ws.length)).heap[gS]?=some (.cells (ws.map Value.string).toArray 9 (0,0))):=⟨(put_three_other hSM).trans BS7.out⟩
      have n3:Aside0 ((((w7.setCell ⟨gM,0,none⟩ (.string nm)).setCell ⟨gM,1,none⟩ (.int .i64 x)).setCell ⟨gM,2,none⟩ (.slice (some ⟨gS,0,none⟩) ws.length ws.length)).ranges Tryd.prog 3 (plainElem Tryd.prog 9) mb it 4 signsD (fun z=>left z && !z.sameKey (.int .i64 x)) cnt6):=⟨ranges_far (ranges_far (ranges_far HRG7.out BM.out 0 (.string nm)) (blk_put BM.out 0 _ rfl) 1 (.int .i64 x)) (blk_put (blk_put BM.out 0 _ rfl) 1 _ rfl) 2 _⟩
      have hwM:w.heap.size≤gM:=by have:=HB6.out.size;omega
      have n4:Aside0 (Below w.heap.size w (((w7.setCell ⟨gM,0,none⟩ (.string nm)).setCell ⟨gM,1,none⟩ (.int .i64 x)).setCell ⟨gM,2,none⟩ (.slice (some ⟨gS,0,none⟩) ws.length ws.length))):=⟨below_set (below_set (below_set HB7.out hwM) hwM) hwM⟩
      clear BM BR7 BS7 HRG7 HB7 c0_ c1_ c2_ f0_ f1_ f2_ hgl hRM hSM hwM hen
      generalize ((w7.setCell ⟨gM,0,none⟩ (.string nm)).setCell ⟨gM,1,none⟩ (.int .i64 x)).setCell ⟨gM,2,none⟩ (.slice (some ⟨gS,0,none⟩) ws.length ws.length)=wz at n0 n1 n2 n3 n4 ⊢
      have c0_:wz.cell? ⟨gM,0,none⟩=some (.string nm):=(blk_cell n0.out 0).trans rfl
      have c1_:wz.cell? ⟨gM,1,none⟩=some (.int .i64 x):=(blk_cell n0.out 1).trans rfl
      have c2_:wz.cell? ⟨gM,2,none⟩=some (.slice (some ⟨gS,0,none⟩) ws.length ws.length):=(blk_cell n0.out 2).trans rfl
      go_wp2_with (go_at_call 10;refine (HTX.out _ (C_of_cells n2.out HWL.out)).mono ?_;rintro e w8 ⟨rfl,hb8⟩;have BM8:=Aside0.mk (blk_below n0.out hb8);have BR8:=Aside0.mk (blk_below n1.out hb8);have BS8:=Aside0.mk (blk_below n2.out hb8);have HRG8:=Aside0.mk (ranges_below n3.out hb8);have HB8:=Aside0.mk (below_step n4.out hb8);have m0_:w8.cell? ⟨gM,0,none⟩=some (.string nm):=(blk_cell BM8.out 0).trans rfl;have m1_:w8.cell? ⟨gM,1,none⟩=some (.int .i64 x):=(blk_cell BM8.out 1).trans rfl;have m2_:w8.cell? ⟨gM,2,none⟩=some (.slice (some ⟨gS,0,none⟩) ws.length ws.length):=(blk_cell BM8.out 2).trans rfl;have r0_:w8.cell? ⟨gR,0,none⟩=some (.string ⟨#[]⟩):=(blk_cell BR8.out 0).trans rfl;have r1_:w8.cell? ⟨gR,1,none⟩=some (.int .i64 0):=(blk_cell BR8.out 1).trans rfl;have r2_:w8.cell? ⟨gR,2,none⟩=some (.slice none 0 0):=(blk_cell BR8.out 2).trans rfl;have q0_:=blk_frozen BR8.out 0;have q1_:=blk_frozen BR8.out 1;have q2_:=blk_frozen BR8.out 2;clear hb8)
      refine bodyPost_ret (results_ct rfl _ _ gR 24 #[.string nm,.int .i64 x,.slice (some ⟨gS,0,none⟩) ws.length ws.length] (0,0) _ rfl (put_three BR8.out) Tryd.underlying24 rfl (by kernel_rfl)) rfl ?_
      have hSR:gS≠gR:=by
       intro e
       have h1:=BS8.out
       rw [e,BR8.out] at h1
       injection h1 with h1
       injection h1 with _ h1
       exact absurd h1 (by decide)
      refine .inl ⟨x,.slice (some ⟨gS,0,none⟩) ws.length ws.length,HX.out,HGOOD.out,by rw [HNM.out];rfl,?_,below_set (below_set (below_set HB8.out GR.out) GR.out) GR.out⟩
      exact Kd.R_of_own (own_of_cells ((put_three_other hSR).trans BS8.out) GS.out HWM.out) (fun _ _=>trivial)
end Go.Proofs.YtnbbfjddjmklpaaDoor.P

/- A matcher's text and its parts, in plain words: what is written is read. Conditions: as each lemma says. -/
set_option linter.unusedVariables false
set_option linter.unusedSimpArgs false
namespace Go.Proofs.YtnbbfjddjmklpaaDoor.P
open Go.RowKit Go.Proofs.YtnbbfjddjmklpaaDoorW.PrintWords Go.Proofs.YtnbbfjddjmklpaaDoorW.PrintLast Go.Proofs.YtnbbfjddjmklpaaDoorW.PrintMore

abbrev lst (s:ByteArray):List UInt8:=s.data.toList
theorem lst_inj {a b:ByteArray} (h:lst a=lst b):a=b:=ByteArray.ext (Array.toList_inj.1 h)
theorem lst_len (s:ByteArray):(lst s).length=s.size:=data_length s
theorem suffix_split {s p:ByteArray} (h:Lib.hasSuffix (lst s) (lst p)=true):lst s=lst (trimB s p)++lst p:=by
 have h2:=h
 unfold Lib.hasSuffix at h2
 rw [List.isSuffixOf_iff_suffix] at h2
 obtain ⟨t,ht⟩:=h2
 have e:lst (trimB s p)=t:=by
  unfold trimB Lib.trimSuffix
  show (if Lib.hasSuffix (lst s) (lst p) then (lst s).take ((lst s).length-(lst p).length) else lst s)=t
  rw [h,if_pos rfl,← ht]
  simp
 rw [e,ht]
theorem bt_of_mem {s:ByteArray} {c:UInt8} (h:c∈lst s):∃ i:Nat,i<s.size∧bt s (i:Int)=(c.toNat:Int):=by
 obtain ⟨i,hi,rfl⟩:=List.getElem_of_mem h
 rw [lst_len] at hi
 refine ⟨i,hi,?_⟩
 unfold bt
 rw [Int.toNat_natCast,dif_pos hi]
 rfl
theorem name_byte {s:ByteArray} (h:nameB s=true) {c:UInt8} (hc:c∈lst s):c≠33∧c≠34∧c≠61∧c≠126∧c≠124:=by
 obtain ⟨i,hi,he⟩:=bt_of_mem hc
 unfold nameB at h
 rw [Bool.and_eq_true,Bool.and_eq_true] at h
 have h2:=(allFrom_iff _ s.size 0).1 h.1.1 i (Nat.zero_le _) (by omega)
 rw [he] at h2
 refine ⟨?_,?_,?_,?_,?_⟩<;>(rintro rfl;revert h2;unfold nmB letB;simp<;>decide)
def endB (c:UInt8):Bool:=c == 33 || c == 61 || c == 126
theorem sign_end {nm:List UInt8} (h:∀ c∈nm,c≠33∧c≠61∧c≠126) (how:Int):((nm++lst (signOf how)).reverse.takeWhile endB).reverse=lst (signOf how):=by
 have hs:∀ c∈(lst (signOf how)).reverse,endB c=true:=by
  have h2:∀ c∈lst (signOf how),endB c=true:=by
   unfold signOf
   repeat' split
   all_goals decide
  intro c hc
  exact h2 c (List.mem_reverse.1 hc)
 rw [List.reverse_append,List.takeWhile_append_of_pos hs]
 have h0:nm.reverse.takeWhile endB=[]:=by
  cases hr:nm.reverse with
  | nil=>rfl
  | cons x t =>
   have hx:=h x (List.mem_reverse.1 (by rw [hr];exact List.mem_cons_self))
   have:endB x=false:=by unfold endB;simp [hx.1,hx.2.1,hx.2.2]
   rw [List.takeWhile_cons,this]
   rfl
 rw [h0,List.append_nil,List.reverse_reverse]
theorem sign_inj {a b:Int} (ha:1≤a∧a≤4) (hb:1≤b∧b≤4) (h:signOf a=signOf b):a=b:=by
 have h1:a=1∨a=2∨a=3∨a=4:=by omega
 have h2:b=1∨b=2∨b=3∨b=4:=by omega
 rcases h1 with rfl|rfl|rfl|rfl<;>rcases h2 with rfl|rfl|rfl|rfl<;>first|rfl|(exfalso;revert h;decide)
theorem okW_parts {s head:ByteArray} {ws:List ByteArray} {how:Int} (h:okW s head ws how=true) :
  lst head=lst (trimB head (signOf how))++lst (signOf how)∧mrightB (trimB head (signOf how)) how ws=true∧mtextB (trimB head (signOf how)) how ws=s:=by
 unfold okW at h
 rw [Bool.and_eq_true,Bool.and_eq_true,beq_iff_eq] at h
 exact ⟨suffix_split h.1.1,h.1.2,lst_inj (by have e:=h.2;rw [ByteArray.toList_eq,ByteArray.toList_eq] at e;exact e)⟩
theorem okW_one {s head:ByteArray} {ws:List ByteArray} {a b:Int} (ha:okW s head ws a=true) (hb:okW s head ws b=true):a=b:=by
 obtain ⟨a1,a2,a3⟩:=okW_parts ha
 obtain ⟨b1,b2,b3⟩:=okW_parts hb
 have pa:=mright_parts a2
 have pb:=mright_parts b2
 have ea:=sign_end (nm:=lst (trimB head (signOf a))) (fun c hc=>by have:=name_byte pa.2.1 hc;exact ⟨this.1,this.2.2.1,this.2.2.2.1⟩) a
 have eb:=sign_end (nm:=lst (trimB head (signOf b))) (fun c hc=>by have:=name_byte pb.2.1 hc;exact ⟨this.1,this.2.2.1,this.2.2.2.1⟩) b
 rw [← a1] at ea
 rw [← b1] at eb
 exact sign_inj pa.2.2.1 pb.2.2.1 (lst_inj (ea.symm.trans eb))
def parseB (s:ByteArray):ByteArray×Int×List ByteArray×Int :=
 let head:=(cutAt s 34).1
 let ws:=wordsB (trimB (cutAt s 34).2.1 ⟨#[34]⟩)
 if okW s head ws 1=true then (trimB head (signOf 1),1,ws,0) else if okW s head ws 2=true then (trimB head (signOf 2),2,ws,0)
 else if okW s head ws 3=true then (trimB head (signOf 3),3,ws,0) else if okW s head ws 4=true then (trimB head (signOf 4),4,ws,0) else (⟨#[]⟩,0,[],6)
theorem parse_ok {s:ByteArray} {how:Int} (hh:1≤how∧how≤4) (h:okW s (cutAt s 34).1 (wordsB (trimB (cutAt s 34).2.1 ⟨#[34]⟩)) how=true) :
  parseB s=(trimB (cutAt s 34).1 (signOf how),how,wordsB (trimB (cutAt s 34).2.1 ⟨#[34]⟩),0):=by
 unfold parseB
 dsimp only
 generalize (cutAt s 34).1=head at *
 generalize wordsB (trimB (cutAt s 34).2.1 ⟨#[34]⟩)=ws at *
 have no:∀ b,b≠how→¬ okW s head ws b=true:=fun b hb h2=>hb (okW_one h2 h)
 have h1:how=1∨how=2∨how=3∨how=4:=by omega
 rcases h1 with rfl|rfl|rfl|rfl
 ·rw [if_pos h]
 ·rw [if_neg (no 1 (by decide)),if_pos h]
 ·rw [if_neg (no 1 (by decide)),if_neg (no 2 (by decide)),if_pos h]
 ·rw [if_neg (no 1 (by decide)),if_neg (no 2 (by decide)),if_neg (no 3 (by decide)),if_pos h]
theorem parse_no {s:ByteArray} (h:∀ how:Int,1≤how→how≤4→okW s (cutAt s 34).1 (wordsB (trimB (cutAt s 34).2.1 ⟨#[34]⟩)) how=false):parseB s=(⟨#[]⟩,0,[],6):=by
 unfold parseB
 dsimp only
 rw [h 1 (by decide) (by decide),h 2 (by decide) (by decide),h 3 (by decide) (by decide),h 4 (by decide) (by decide)]
 rfl
end Go.Proofs.YtnbbfjddjmklpaaDoor.P

/- matcher.Parse: its contract. Conditions: the text is short, and the library's variable holds some number. -/
set_option linter.unusedVariables false
namespace Go.Proofs.YtnbbfjddjmklpaaDoor.P
open Go.RowKit Go.Proofs.YtnbbfjddjmklpaaDoorW.PrintWords Go.Proofs.YtnbbfjddjmklpaaDoorW.PrintLast Go.Proofs.YtnbbfjddjmklpaaDoorW.PrintMore

def matcher_Parse.f (a0:ByteArray):Option (ByteArray×Int×List ByteArray×Int):=if a0.size≤1000000 then some (parseB a0) else none
theorem matcher_Parse.calls (a0 r1:ByteArray) (r2:Int) (r3:List ByteArray) (r4:Int) (w:World) (h:matcher_Parse.f a0=some (r1,r2,r3,r4)) (hK:KeysIn w) :
  Calls Tryd.prog 11 #[.string a0] w fun e w'=>∃ v2_,e=.returned (.tuple #[.agg #[.string r1,.int .i64 r2,v2_],.int .i64 r4])∧Kd.R Kd.string 9 w' w.heap.size (fun _=>True) v2_ r3∧Below w.heap.size w w':=by
 unfold matcher_Parse.f at h
 split at h
 ·rename_i hs
  have h:=Option.some.inj h
  refine (parse_walk a0 hs w hK).mono ?_
  rintro e w' (⟨how,v,hh,hk,rfl,ho,hb⟩|⟨hno,rfl,hb⟩)
  ·rw [parse_ok hh hk] at h
   simp only [Prod.mk.injEq] at h
   obtain ⟨e1,e2,e3,e4⟩:=h
   subst e1 e2 e3 e4
   exact ⟨v,rfl,ho,hb⟩
  ·rw [parse_no hno] at h
   simp only [Prod.mk.injEq] at h
   obtain ⟨e1,e2,e3,e4⟩:=h
   subst e1 e2 e3 e4
   exact ⟨_,rfl,Kd.R_nil _ _ _ _ _,hb⟩
 ·cases h
end Go.Proofs.YtnbbfjddjmklpaaDoor.P
