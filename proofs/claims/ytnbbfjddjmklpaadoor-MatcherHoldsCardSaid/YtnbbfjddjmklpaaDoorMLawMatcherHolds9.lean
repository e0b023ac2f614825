/- What these functions of the program and of the plain reference compute, and plain lemmas on it: MatcherLaw4, MatcherLaw5, MatcherLaw8, PureMatcherHolds. Conditions: as each lemma says. -/
import Derived.Test.YtnbbfjddjmklpaaDoorMLawMatcherHolds6
import Derived.Test.YtnbbfjddjmklpaaDoorMLawMatcherHolds5
import Derived.Test.YtnbbfjddjmklpaaDoorMLawMatcherHolds0
import Derived.Test.YtnbbfjddjmklpaaDoorMLawMatcherHolds7
import Derived.Test.YtnbbfjddjmklpaaDoorMLawMatcherHolds8
/- What the law functions' helpers come to, in plain words. Conditions: as each lemma says. -/
set_option linter.unusedVariables false
set_option linter.unusedSimpArgs false
namespace Go.Proofs.YtnbbfjddjmklpaaDoor.P
open Go.RowKit Go.Proofs.YtnbbfjddjmklpaaDoorW.PrintWords Go.Proofs.YtnbbfjddjmklpaaDoorW.PrintLast Go.Proofs.YtnbbfjddjmklpaaDoorW.PrintMore

def cut70 (s:ByteArray):ByteArray:=s.extract 0 (mn (s.size:Int) 70).toNat
def cutW (ws:List ByteArray):List ByteArray:=(ws.take 10).map cut70
def few1 (x:S46):S46:=⟨cut70 x.f0,cut70 x.f1⟩
def fewL (l:List S46):List S46:=(l.take 10).map few1
theorem mn_le (a b:Nat):0≤mn (a:Int) (b:Int)∧mn (a:Int) (b:Int)≤(a:Int)∧(mn (a:Int) (b:Int)).toNat=min a b:=by
 rw [mn_nat]
 omega
theorem cut70_size (s:ByteArray):(cut70 s).size≤70:=by
 unfold cut70
 have:=(mn_le s.size 70).2.2
 rw [ByteArray.size_extract]
 have e:(mn (s.size:Int) 70).toNat=min s.size 70:=this
 omega
theorem cutW_length (ws:List ByteArray):(cutW ws).length≤10:=by unfold cutW;rw [List.length_map,List.length_take];omega
theorem fewL_length (l:List S46):(fewL l).length≤10:=by unfold fewL;rw [List.length_map,List.length_take];omega
theorem drop_wd {ws:List ByteArray} {i:Nat} (h:i<ws.length):ws.drop i=wd ws i::ws.drop (i+1):=by
 rw [List.drop_eq_getElem_cons h]
 unfold wd
 rw [List.getD_eq_getElem?_getD,List.getElem?_eq_getElem h]
 rfl
theorem drop_lab {l:List S46} {i:Nat} (h:i<l.length):l.drop i=lab l i::l.drop (i+1):=by
 rw [List.drop_eq_getElem_cons h]
 unfold lab
 rw [List.getD_eq_getElem?_getD,List.getElem?_eq_getElem h]
 rfl
theorem cut_from (y:List ByteArray) (nm:ByteArray) (how:Int) (hy:y.length≤10) (d:Nat):∀ (k i:Nat) (out:List ByteArray),i+d=y.length→out.length≤i→d<k →
  transhipmentlaw04_cut.l0 k y (y.length:Int) (i:Int) nm how out=some (nm,how,out++(y.drop i).map cut70):=by
 induction d with
 | zero =>
  intro k i out hi ho hk
  obtain ⟨k,rfl⟩:∃ j,k=j+1:=⟨k-1,by omega⟩
  simp only [transhipmentlaw04_cut.l0]
  rw [if_neg (by omega),List.drop_eq_nil_of_le (by omega),List.map_nil,List.append_nil]
 | succ d ih =>
  intro k i out hi ho hk
  obtain ⟨k,rfl⟩:∃ j,k=j+1:=⟨k-1,by omega⟩
  obtain ⟨m1,m2,m3⟩:=mn_le (wd y i).size 70
  have hr:=ih k (i+1) (out++[cut70 (wd y i)]) (by omega) (by rw [List.length_append,List.length_singleton];omega) (by omega)
  rw [Int.natCast_succ] at hr
  simp only [transhipmentlaw04_cut.l0]
  rw [rd_wd,if_pos (by omega),if_pos (by omega),if_pos (by omega),if_pos (by exact m1),if_pos (by exact m2),if_pos (by omega),wrap_id (n:=(i:Int)+1) (by omega) (by omega)]
  refine hr.trans ?_
  rw [drop_wd (i:=i) (by omega),List.map_cons,List.append_assoc]
  rfl
theorem cut_eq (nm:ByteArray) (how:Int) (ws:List ByteArray) (k:Nat) (hk:11<k):transhipmentlaw04_cut.f k nm how ws=some (cut70 nm,how,cutW ws):=by
 unfold transhipmentlaw04_cut.f
 obtain ⟨m1,m2,m3⟩:=mn_le nm.size 70
 obtain ⟨n1,n2,n3⟩:=mn_le ws.length 10
 have h3:(mn (ws.length:Int) 10).toNat=min ws.length 10:=n3
 rw [if_pos (by exact m1),if_pos (by exact m2),if_pos (by exact n1),if_pos (by exact n2),Option.bind_some]
 have hr:=cut_from (ws.take (mn (ws.length:Int) 10).toNat) (nm.extract 0 (mn (nm.size:Int) 70).toNat) how (by rw [List.length_take];omega) _ k 0 [] (Nat.zero_add _) (Nat.le_refl _) (by rw [List.length_take];omega)
 refine hr.trans ?_
 rw [List.drop_zero,List.nil_append]
 have e:ws.take (mn (ws.length:Int) 10).toNat=ws.take 10:=by
  rw [h3]
  by_cases h:ws.length≤10
  ·rw [Nat.min_eq_left h,List.take_of_length_le (Nat.le_refl _),List.take_of_length_le h]
  ·rw [Nat.min_eq_right (by omega)]
 rw [e]
 rfl
theorem few_from (y:List S46) (hy:y.length≤10) (d:Nat):∀ (k i:Nat) (out:List S46),i+d=y.length→out.length≤i→d<k →
  transhipmentlaw04_few.l0 k out y (y.length:Int) (i:Int)=some (out++(y.drop i).map few1):=by
 induction d with
 | zero =>
  intro k i out hi ho hk
  obtain ⟨k,rfl⟩:∃ j,k=j+1:=⟨k-1,by omega⟩
  simp only [transhipmentlaw04_few.l0]
  rw [if_neg (by omega),List.drop_eq_nil_of_le (by omega),List.map_nil,List.append_nil]
 | succ d ih =>
  intro k i out hi ho hk
  obtain ⟨k,rfl⟩:∃ j,k=j+1:=⟨k-1,by omega⟩
  obtain ⟨m1,m2,m3⟩:=mn_le (lab y i).f0.size 70
  obtain ⟨n1,n2,n3⟩:=mn_le (lab y i).f1.size 70
  have hr:=ih k (i+1) (out++[few1 (lab y i)]) (by omega) (by rw [List.length_append,List.length_singleton];omega) (by omega)
  rw [Int.natCast_succ] at hr
  simp only [transhipmentlaw04_few.l0]
  rw [rd_lab,if_pos (by omega),if_pos (by omega),if_pos (by omega),if_pos (by exact m1),if_pos (by exact m2),if_pos (by exact n1),if_pos (by exact n2),if_pos (by omega),wrap_id (n:=(i:Int)+1) (by omega) (by omega)]
  refine hr.trans ?_
  rw [drop_lab (i:=i) (by omega),List.map_cons,List.append_assoc]
  rfl
theorem few_eq (l:List S46) (k:Nat) (hk:11<k):transhipmentlaw04_few.f k l=some (fewL l):=by
 unfold transhipmentlaw04_few.f
 obtain ⟨n1,n2,n3⟩:=mn_le l.length 10
 have h3:(mn (l.length:Int) 10).toNat=min l.length 10:=n3
 rw [if_pos (by exact n1),if_pos (by exact n2),Option.bind_some]
 have hr:=few_from (l.take (mn (l.length:Int) 10).toNat) (by rw [List.length_take];omega) _ k 0 [] (Nat.zero_add _) (Nat.le_refl _) (by rw [List.length_take];omega)
 refine hr.trans ?_
 rw [List.drop_zero,List.nil_append]
 have e:l.take (mn (l.length:Int) 10).toNat=l.take 10:=by
  rw [h3]
  by_cases h:l.length≤10
  ·rw [Nat.min_eq_left h,List.take_of_length_le (Nat.le_refl _),List.take_of_length_le h]
  ·rw [Nat.min_eq_right (by omega)]
 rw [e]
 rfl
theorem alive_eq:transhipmentlaw04_alive.f=some true:=by decide +kernel
theorem tl_eq {a b:ByteArray}:a.toList=b.toList↔a=b:=by
 rw [ByteArray.toList_eq,ByteArray.toList_eq]
 exact ⟨fun h=>lst_inj h,fun h=>by rw [h]⟩
theorem equal_from (a b:List ByteArray) (hl:a.length=b.length) (hs:a.length≤maxLen) (d:Nat):∀ (k i:Nat),i+d=a.length→d<k →
  slices_Equal_string_string.l0 k a b (a.length:Int) (i:Int)=some (decide (a.drop i=b.drop i)):=by
 unfold maxLen at hs
 induction d with
 | zero =>
  intro k i hi hk
  obtain ⟨k,rfl⟩:∃ j,k=j+1:=⟨k-1,by omega⟩
  simp only [slices_Equal_string_string.l0]
  rw [if_neg (by omega),List.drop_eq_nil_of_le (by omega),List.drop_eq_nil_of_le (by omega)]
  rfl
 | succ d ih =>
  intro k i hi hk
  obtain ⟨k,rfl⟩:∃ j,k=j+1:=⟨k-1,by omega⟩
  have hr:=ih k (i+1) (by omega) (by omega)
  rw [Int.natCast_succ] at hr
  simp only [slices_Equal_string_string.l0]
  rw [rd_wd,rd_wd,if_pos (by omega),if_pos (by omega),if_pos (by omega),if_pos (by omega),wrap_id (n:=(i:Int)+1) (by omega) (by omega),hr,drop_wd (ws:=a) (i:=i) (by omega),drop_wd (ws:=b) (i:=i) (by omega)]
  by_cases h:wd a i=wd b i
  ·rw [if_pos (tl_eq.2 h),h]
   simp
  ·rw [if_neg (fun h2=>h (tl_eq.1 h2))]
   simp [h]
theorem equal_eq (a b:List ByteArray) (hs:a.length≤maxLen) (k:Nat) (hk:a.length<k):slices_Equal_string_string.f k a b=some (decide (a=b)):=by
 unfold slices_Equal_string_string.f
 by_cases h:a.length=b.length
 ·rw [if_pos (by omega)]
  have:=equal_from a b h hs a.length k 0 (by omega) hk
  rw [List.drop_zero,List.drop_zero] at this
  exact this
 ·rw [if_neg (by omega)]
  have:¬ a=b:=fun e=>h (by rw [e])
  simp [this]
theorem like_eq (n1:ByteArray) (h1:Int) (w1:List ByteArray) (n2:ByteArray) (h2:Int) (w2:List ByteArray) (hs:w1.length≤maxLen) (k:Nat) (hk:w1.length<k) :
  matcher_Like.f k n1 h1 w1 n2 h2 w2=some (decide (n1=n2∧h1=h2∧w1=w2)):=by
 unfold matcher_Like.f
 rw [equal_eq w1 w2 hs k hk,Option.bind_some]
 by_cases a:n1=n2
 ·rw [if_pos (tl_eq.2 a)]
  by_cases b:h1=h2
  ·rw [if_pos b];simp [a,b]
  ·rw [if_neg b];simp [b]
 ·rw [if_neg (fun h=>a (tl_eq.1 h))];simp [a]
end Go.Proofs.YtnbbfjddjmklpaaDoor.P

/- The reference's answers for matchers, but its reading of a text, in plain words. Conditions: as each lemma says. -/
set_option linter.unusedVariables false
set_option linter.unusedSimpArgs false
namespace Go.Proofs.YtnbbfjddjmklpaaDoor.P
open Go.RowKit Go.Proofs.YtnbbfjddjmklpaaDoorW.PrintWords Go.Proofs.YtnbbfjddjmklpaaDoorW.PrintLast Go.Proofs.YtnbbfjddjmklpaaDoorW.PrintMore

theorem wd_size {ws:List ByteArray} {N:Nat} (h:∀ x∈ws,x.size≤N) (i:Nat):(wd ws i).size≤N:=by
 unfold wd
 rw [List.getD_eq_getElem?_getD]
 cases hi:ws[i]? with
 | none=>exact Nat.zero_le _
 | some x=>exact h x (List.mem_of_getElem? hi)
theorem refright_from (nm:ByteArray) (how:Int) (ws:List ByteArray) (N:Nat) (hN:N≤1000000) (hn:nm.size≤N) (hw:∀ x∈ws,x.size≤N) (hl:ws.length≤1000000) (d:Nat):∀ (k i:Nat),i+d=ws.length→2*N+4+d<k →
  transhipmentref04_Right.l0 k ws (ws.length:Int) (i:Int) nm how ws=some (allFrom (wordAt ws) i d && (isSign how && nameB nm && decide (1≤ws.length) && decide (ws.length≤mostB how))):=by
 induction d with
 | zero =>
  intro k i hi hk
  obtain ⟨k,rfl⟩:∃ j,k=j+1:=⟨k-1,by omega⟩
  simp only [transhipmentref04_Right.l0]
  rw [if_neg (by omega),refname_eq nm (by unfold maxLen;omega) k (by omega),Option.bind_some]
  show _=some (true && _)
  rw [Bool.true_and]
  cases nameB nm with
  | false=>simp
  | true =>
   rw [if_pos rfl]
   unfold isSign mostB
   by_cases h1:how<1
   ·rw [if_pos h1,decide_eq_false (by omega:¬ 1≤how)];simp
   ·rw [if_neg h1,decide_eq_true (by omega:1≤how)]
    by_cases h2:how>4
    ·rw [if_pos h2,decide_eq_false (by omega:¬ how≤4)];simp
    ·rw [if_neg h2,decide_eq_true (by omega:how≤4)]
     by_cases h3:(ws.length:Int)<1
     ·rw [if_pos h3,decide_eq_false (by omega:¬ 1≤ws.length)];simp
     ·rw [if_neg h3,decide_eq_true (by omega:1≤ws.length)]
      by_cases h4:(ws.length:Int)>8
      ·rw [if_pos h4]
       have:¬ ws.length≤(if 2<how then 8 else 1):=by split<;>omega
       simp [this]
      ·rw [if_neg h4]
       by_cases h5:how>2
       ·rw [if_pos h5]
        have:ws.length≤(if 2<how then 8 else 1):=by rw [if_pos h5];omega
        simp [this]
       ·rw [if_neg h5,if_neg h5]
        have e:((ws.length:Int) == 1)=decide (ws.length≤1):=by
         rw [Bool.eq_iff_iff,beq_iff_eq,decide_eq_true_eq]
         omega
        rw [e]
        simp
 | succ d ih =>
  intro k i hi hk
  obtain ⟨k,rfl⟩:∃ j,k=j+1:=⟨k-1,by omega⟩
  have hr:=ih k (i+1) (by omega) (by omega)
  rw [Int.natCast_succ] at hr
  have hz:=wd_size hw i
  have hz1:=wd_size hw (i-1)
  simp only [transhipmentref04_Right.l0]
  rw [if_pos (by omega),if_pos (by omega),if_pos (by omega),wrap_id (n:=(i:Int)+1) (by omega) (by omega),hr,rd_wd,refword_eq (wd ws i) (by unfold maxLen;omega) k (by omega),Option.bind_some]
  show _=some (wordAt ws i && allFrom _ (i+1) d && _)
  generalize allFrom (wordAt ws) (i+1) d=z
  generalize (isSign how && nameB nm && decide (1≤ws.length) && decide (ws.length≤mostB how))=y
  unfold wordAt
  cases hn:wordB (wd ws i) with
  | false=>simp
  | true =>
   rw [if_pos rfl]
   by_cases h0:i=0
   ·subst h0
    rw [if_neg (by omega)]
    simp
   ·rw [if_pos (by omega),wrap_id (by omega) (by omega),if_pos (by omega),if_pos (by omega),show (i:Int)-1=((i-1:Nat):Int) by omega,rd_wd,less_eq (wd ws (i-1)) (wd ws i) (by unfold maxLen;omega) k (by omega),Option.bind_some,decide_eq_false h0]
    cases ltB (wd ws (i-1)) (wd ws i)<;>simp
theorem refright_eq4 (nm:ByteArray) (how:Int) (ws:List ByteArray) (N:Nat) (hN:N≤1000000) (hn:nm.size≤N) (hw:∀ x∈ws,x.size≤N) (hl:ws.length≤1000000) (k:Nat) (hk:2*N+4+ws.length<k) :
  transhipmentref04_Right.f k nm how ws=some (mrightB nm how ws) :=
 refright_from nm how ws N hN hn hw hl ws.length k 0 (by omega) hk
theorem same_from (a b:List ByteArray) (hl:a.length=b.length) (hs:a.length≤maxLen) (d:Nat):∀ (k i:Nat),i+d=a.length→d<k →
  transhipmentref01_Same.l0 k a b (a.length:Int) (i:Int)=some (decide (a.drop i=b.drop i)):=by
 unfold maxLen at hs
 induction d with
 | zero =>
  intro k i hi hk
  obtain ⟨k,rfl⟩:∃ j,k=j+1:=⟨k-1,by omega⟩
  simp only [transhipmentref01_Same.l0]
  rw [if_neg (by omega),List.drop_eq_nil_of_le (by omega),List.drop_eq_nil_of_le (by omega)]
  rfl
 | succ d ih =>
  intro k i hi hk
  obtain ⟨k,rfl⟩:∃ j,k=j+1:=⟨k-1,by omega⟩
  have hr:=ih k (i+1) (by omega) (by omega)
  rw [Int.natCast_succ] at hr
  simp only [transhipmentref01_Same.l0]
  rw [rd_wd,rd_wd,if_pos (by omega),if_pos (by omega),if_pos (by omega),if_pos (by omega),wrap_id (n:=(i:Int)+1) (by omega) (by omega),hr,drop_wd (ws:=a) (i:=i) (by omega),drop_wd (ws:=b) (i:=i) (by omega)]
  by_cases h:wd a i=wd b i
  ·rw [if_pos (tl_eq.2 h),h]
   simp
  ·rw [if_neg (fun h2=>h (tl_eq.1 h2))]
   simp [h]
theorem same_eq (a b:List ByteArray) (hs:a.length≤maxLen) (k:Nat) (hk:a.length<k):transhipmentref01_Same.f k a b=some (decide (a=b)):=by
 unfold transhipmentref01_Same.f
 by_cases h:a.length=b.length
 ·rw [if_pos (by omega)]
  have:=same_from a b h hs a.length k 0 (by omega) hk
  rw [List.drop_zero,List.drop_zero] at this
  exact this
 ·rw [if_neg (by omega)]
  have:¬ a=b:=fun e=>h (by rw [e])
  simp [this]
theorem reflike_eq (n1:ByteArray) (h1:Int) (w1:List ByteArray) (n2:ByteArray) (h2:Int) (w2:List ByteArray) (hs:w1.length≤maxLen) (k:Nat) (hk:w1.length<k) :
  transhipmentref04_Like.f k n1 h1 w1 n2 h2 w2=some (decide (n1=n2∧h1=h2∧w1=w2)):=by
 unfold transhipmentref04_Like.f
 rw [same_eq w1 w2 hs k hk,Option.bind_some]
 by_cases a:n1=n2
 ·rw [if_pos (tl_eq.2 a)]
  by_cases b:h1=h2
  ·rw [if_pos b];simp [a,b]
  ·rw [if_neg b];simp [b]
 ·rw [if_neg (fun h=>a (tl_eq.1 h))];simp [a]
end Go.Proofs.YtnbbfjddjmklpaaDoor.P

/- The reference's answer for what holds of a set: the program's. Conditions: as each lemma says. -/
set_option linter.unusedVariables false
set_option linter.unusedSimpArgs false
namespace Go.Proofs.YtnbbfjddjmklpaaDoor.P
open Go.RowKit Go.Proofs.YtnbbfjddjmklpaaDoorW.PrintWords Go.Proofs.YtnbbfjddjmklpaaDoorW.PrintLast Go.Proofs.YtnbbfjddjmklpaaDoorW.PrintMore

theorem refget_from (l:List S46) (nm:ByteArray) (hl:l.length≤1000000) (d:Nat):∀ (k i:Nat),i+d=l.length→d<k →
  transhipmentref03_Get.l0 k nm l (l.length:Int) (i:Int)=some (if 0≤idxP (isName nm) (l.drop i) i then (lab l (idxP (isName nm) (l.drop i) i).toNat).f1 else ⟨#[]⟩):=by
 induction d with
 | zero =>
  intro k i hi hk
  obtain ⟨k,rfl⟩:∃ j,k=j+1:=⟨k-1,by omega⟩
  simp only [transhipmentref03_Get.l0]
  rw [if_neg (by omega),List.drop_eq_nil_of_le (by omega)]
  rfl
 | succ d ih =>
  intro k i hi hk
  obtain ⟨k,rfl⟩:∃ j,k=j+1:=⟨k-1,by omega⟩
  have hr:=ih k (i+1) (by omega) (by omega)
  rw [Int.natCast_succ] at hr
  simp only [transhipmentref03_Get.l0]
  rw [if_pos (by omega),if_pos (by omega),if_pos (by omega),wrap_id (n:=(i:Int)+1) (by omega) (by omega),hr,rd_lab,drop_lab (l:=l) (i:=i) (by omega)]
  have hx:idxP (isName nm) (lab l i::l.drop (i+1)) i=if isName nm (lab l i)=true then (i:Int) else idxP (isName nm) (l.drop (i+1)) (i+1):=rfl
  rw [hx]
  by_cases h:(lab l i).f0.toList=nm.toList
  ·have e:isName nm (lab l i)=true:=by unfold isName;rw [beq_iff_eq];exact h
   rw [if_pos h,if_pos e,if_pos (by omega),Int.toNat_natCast]
  ·have e:¬ isName nm (lab l i)=true:=by unfold isName;rw [beq_iff_eq];exact h
   rw [if_neg h,if_neg e]
theorem refget_eq (l:List S46) (nm:ByteArray) (hl:l.length≤1000000) (k:Nat) (hk:l.length<k):transhipmentref03_Get.f k l nm=some (getL l nm):=by
 have h:=refget_from l nm hl l.length k 0 (by omega) hk
 rw [List.drop_zero] at h
 exact h
def anyW (v:ByteArray) (ws:List ByteArray):Bool:=ws.any fun w=>decide (w=v)
theorem any_contains (v:ByteArray) (ws:List ByteArray):anyW v ws=Lib.containsS ws v:=by
 unfold anyW
 rw [Bool.eq_iff_iff,Lib.containsS_iff,List.any_eq_true]
 exact ⟨fun ⟨x,hx,h⟩=>by rw [decide_eq_true_eq] at h;rw [← h];exact hx,fun h=>⟨v,h,by simp⟩⟩
theorem refholds_from (v nm:ByteArray) (how:Int) (ws:List ByteArray) (hh:1≤how∧how≤4) (hl:ws.length≤1000000) (d:Nat):∀ (k i:Nat) (x:Bool),i+d=ws.length→d<k →
  transhipmentref04_Holds.l0 k v x ws (ws.length:Int) (i:Int) nm how ws=some (!((x || anyW v (ws.drop i)) == (how == 2 || how == 4))):=by
 induction d with
 | zero =>
  intro k i x hi hk
  obtain ⟨k,rfl⟩:∃ j,k=j+1:=⟨k-1,by omega⟩
  simp only [transhipmentref04_Holds.l0]
  rw [if_neg (by omega),List.drop_eq_nil_of_le (by omega)]
  have h4:how=1∨how=2∨how=3∨how=4:=by omega
  rcases h4 with rfl|rfl|rfl|rfl<;>cases x<;>rfl
 | succ d ih =>
  intro k i x hi hk
  obtain ⟨k,rfl⟩:∃ j,k=j+1:=⟨k-1,by omega⟩
  have hr:=fun b=>ih k (i+1) b (by omega) (by omega)
  rw [Int.natCast_succ] at hr
  simp only [transhipmentref04_Holds.l0]
  rw [if_pos (by omega),if_pos (by omega),if_pos (by omega),wrap_id (n:=(i:Int)+1) (by omega) (by omega),hr,hr,rd_wd,drop_wd (ws:=ws) (i:=i) (by omega)]
  cases x with
  | true=>rw [if_pos rfl];simp
  | false =>
   rw [if_neg (by decide)]
   have e:((wd ws i).toList == v.toList)=decide (wd ws i=v):=by
    rw [Bool.eq_iff_iff,beq_iff_eq,decide_eq_true_eq]
    exact tl_eq
   rw [e]
   simp [anyW]
theorem refholds_eq (l:List S46) (nm:ByteArray) (how:Int) (ws:List ByteArray) (hh:1≤how∧how≤4) (hn:l.length≤1000000) (hl:ws.length≤1000000) (k:Nat) (hk:l.length+ws.length<k) :
  transhipmentref04_Holds.f k l nm how ws=some (!failsB l ⟨nm,how,ws⟩):=by
 have h:=refholds_from (getL l nm) nm how ws hh hl ws.length k 0 false (by omega) (by omega)
 rw [List.drop_zero,Bool.false_or,any_contains] at h
 unfold transhipmentref04_Holds.f
 rw [refget_eq l nm hn k (by omega),Option.bind_some]
 exact h
end Go.Proofs.YtnbbfjddjmklpaaDoor.P

/- Which matchers may be, whether all of some hold of any set, and which are the same, is as the document says: in plain Lean. Conditions: none. -/
set_option linter.unusedVariables false
namespace Go.Proofs.YtnbbfjddjmklpaaDoor.Pure
open Go.Proofs.YtnbbfjddjmklpaaDoor.P Go.RowKit Go.Proofs.YtnbbfjddjmklpaaDoorW.PrintWords Go.Proofs.YtnbbfjddjmklpaaDoorW.PrintLast Go.Proofs.YtnbbfjddjmklpaaDoorW.PrintMore

theorem few_small3 (l:List S46):smallSet (fewL l)=true∧SetSmall (fewL l) 70:=by
 have h:∀ x∈fewL l,x.f0.size≤70∧x.f1.size≤70:=by
  intro x hx
  unfold fewL at hx
  obtain ⟨y,_,rfl⟩:=List.mem_map.1 hx
  exact ⟨cut70_size y.f0,cut70_size y.f1⟩
 constructor
 ·unfold smallSet
  rw [List.all_eq_true]
  intro x hx
  have:=h x hx
  rw [Bool.and_eq_true,decide_eq_true_eq,decide_eq_true_eq]
  omega
 ·intro i
  unfold lab
  rw [List.getD_eq_getElem?_getD]
  cases hi:(fewL l)[i]? with
  | none=>exact ⟨Nat.zero_le _,Nat.zero_le _⟩
  | some x=>exact h x (List.mem_of_getElem? hi)
theorem cutW_size3 {ws:List ByteArray}:∀ x∈cutW ws,x.size≤70:=by
 intro x hx
 unfold cutW at hx
 obtain ⟨y,_,rfl⟩:=List.mem_map.1 hx
 exact cut70_size y
theorem MatcherHolds (l:List S46) (na:ByteArray) (ha:Int) (wa:List ByteArray) (nb:ByteArray) (hb:Int) (wb:List ByteArray) (hwa:(Lit.int .i64 ha).wf=true) (hwb:(Lit.int .i64 hb).wf=true) :
  ∃ k,transhipmentlaw04_MatcherHolds.f k l na ha wa nb hb wb=some true:=by
 refine ⟨1200000,?_⟩
 unfold transhipmentlaw04_MatcherHolds.f
 rw [few_eq l 1200000 (by decide),Option.bind_some,cut_eq na ha wa 1200000 (by decide),Option.bind_some,cut_eq nb hb wb 1200000 (by decide),Option.bind_some]
 dsimp only
 obtain ⟨hs,hs2⟩:=few_small3 l
 have hna:=cut70_size na
 have hla:=cutW_length wa
 have hza:=cutW_size3 (ws:=wa)
 have hnb:=cut70_size nb
 have hlb:=cutW_length wb
 have hzb:=cutW_size3 (ws:=wb)
 have hf:=fewL_length l
 generalize cut70 na=na' at *
 generalize cutW wa=wa' at *
 generalize cut70 nb=nb' at *
 generalize cutW wb=wb' at *
 generalize fewL l=l' at *
 have hm:smallMs [⟨na',ha,wa'⟩,⟨nb',hb,wb'⟩]=true:=by
  simp [smallMs,hwa,hwb]
  omega
 have h2:matcher_Holds.f l' [⟨na',ha,wa'⟩,⟨nb',hb,wb'⟩]=some (if setB l'=true∧mrightB na' ha wa'=true∧mrightB nb' hb wb'=true then (!(failsB l' ⟨na',ha,wa'⟩ || failsB l' ⟨nb',hb,wb'⟩),0) else (false,1)):=by
  unfold matcher_Holds.f holdsB
  rw [if_pos ⟨hs,hm⟩]
  refine congrArg some ?_
  cases setB l'<;>cases h1:mrightB na' ha wa'<;>cases h2:mrightB nb' hb wb'<;>simp [h1,h2]
 have h1:matcher_Holds.f l' []=some (if setB l'=true then (true,0) else (false,1)):=by
  unfold matcher_Holds.f holdsB
  rw [if_pos ⟨hs,rfl⟩]
  refine congrArg some ?_
  cases setB l'<;>rfl
 rw [h2,Option.bind_some,h1,Option.bind_some,mright_eq na' ha wa' hwa (by omega) (by unfold maxLen;omega) 1200000 (by omega),Option.bind_some,
  refright_eq4 na' ha wa' 70 (by decide) hna hza (by omega) 1200000 (by omega),Option.bind_some,if_neg (by simp),
  like_eq _ _ _ _ _ _ (by unfold maxLen;omega) 1200000 (by omega),Option.bind_some,reflike_eq _ _ _ _ _ _ (by unfold maxLen;omega) 1200000 (by omega),Option.bind_some,if_neg (by simp),
  like_eq _ _ _ _ _ _ (by unfold maxLen;omega) 1200000 (by omega),Option.bind_some,if_pos (by simp),alive_eq,Option.bind_some]
 rw [show (1200000:Nat)=1199999+1 from rfl]
 simp only [transhipmentlaw04_MatcherHolds.j0]
 rw [if_neg (by decide),refsetB_eq l' 70 (by decide) hs2 (by unfold maxLen;omega) 1199999 (by omega),Option.bind_some]
 cases hsb:setB l' with
 | false=>simp
 | true =>
  rw [show (1199999:Nat)=1199998+1 from rfl]
  simp only [transhipmentlaw04_MatcherHolds.j1]
  rw [refright_eq4 na' ha wa' 70 (by decide) hna hza (by omega) 1199998 (by omega),refright_eq4 nb' hb wb' 70 (by decide) hnb hzb (by omega) 1199998 (by omega),Option.bind_some,Option.bind_some,show (1199998:Nat)=1199997+1 from rfl]
  simp only [transhipmentlaw04_MatcherHolds.j2]
  cases hra:mrightB na' ha wa' with
  | false=>simp
  | true =>
   cases hrb:mrightB nb' hb wb' with
   | false=>simp
   | true =>
    obtain ⟨p1,p2,p3,p4⟩:=mright_parts hra
    obtain ⟨q1,q2,q3,q4⟩:=mright_parts hrb
    rw [refholds_eq l' na' ha wa' p3 (by omega) (by omega) 1199997 (by omega),refholds_eq l' nb' hb wb' q3 (by omega) (by omega) 1199997 (by omega)]
    cases failsB l' ⟨na',ha,wa'⟩<;>cases failsB l' ⟨nb',hb,wb'⟩<;>simp
end Go.Proofs.YtnbbfjddjmklpaaDoor.Pure
