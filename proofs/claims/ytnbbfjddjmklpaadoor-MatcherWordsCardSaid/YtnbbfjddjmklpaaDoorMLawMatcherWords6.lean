/- What these functions of the program and of the plain reference compute, and plain lemmas on it: MatcherLaw4, MatcherLaw7, PureMatcherWords. Conditions: as each lemma says. -/
import Derived.Test.YtnbbfjddjmklpaaDoorMLawMatcherWords3
import Derived.Test.YtnbbfjddjmklpaaDoorMLawMatcherWords0
import Derived.Test.YtnbbfjddjmklpaaDoorMLawMatcherWords4
import Derived.Test.YtnbbfjddjmklpaaDoorMLawMatcherWords5
/- What the law functions' helpers come to, in plain words. Conditions: as each lemma says. -/
set_option linter.unusedVariables false
set_option linter.unusedSimpArgs false
namespace Go.Proofs.YtnbbfjddjmklpaaDoor.P
open Go.RowKit Go.Proofs.YtnbbfjddjmklpaaDoorW.PrintWords Go.Proofs.YtnbbfjddjmklpaaDoorW.PrintLast Go.Proofs.YtnbbfjddjmklpaaDoorW.PrintMore

def cut70 (s:ByteArray):ByteArray:=s.extract 0 (mn (s.size:Int) 70).toNat
def cutW (ws:List ByteArray):List ByteArray:=(ws.take 10).map cut70
def few1 (x:S46):S46:=⟨cut70 x.f0,cut70 x.f1⟩
def fewL (l:List S46):List S46:=(l.take 10).map few1
theorem mn_le (a b:Nat):0≤mn (a:Int) (b:Int)∧mn (a:Int) (b:Int)≤(a:Int)∧(mn (a:Int) (b:Int)).toNat=min a b:=by
 rw [mn_nat]
 omega
theorem cut70_size (s:ByteArray):(cut70 s).size≤70:=by
 unfold cut70
 have:=(mn_le s.size 70).2.2
 rw [ByteArray.size_extract]
 have e:(mn (s.size:Int) 70).toNat=min s.size 70:=this
 omega
theorem cutW_length (ws:List ByteArray):(cutW ws).length≤10:=by unfold cutW;rw [List.length_map,List.length_take];omega
theorem drop_wd {ws:List ByteArray} {i:Nat} (h:i<ws.length):ws.drop i=wd ws i::ws.drop (i+1):=by
 rw [List.drop_eq_getElem_cons h]
 unfold wd
 rw [List.getD_eq_getElem?_getD,List.getElem?_eq_getElem h]
 rfl
theorem drop_lab {l:List S46} {i:Nat} (h:i<l.length):l.drop i=lab l i::l.drop (i+1):=by
 rw [List.drop_eq_getElem_cons h]
 unfold lab
 rw [List.getD_eq_getElem?_getD,List.getElem?_eq_getElem h]
 rfl
theorem cut_from (y:List ByteArray) (nm:ByteArray) (how:Int) (hy:y.length≤10) (d:Nat):∀ (k i:Nat) (out:List ByteArray),i+d=y.length→out.length≤i→d<k →
  transhipmentlaw04_cut.l0 k y (y.length:Int) (i:Int) nm how out=some (nm,how,out++(y.drop i).map cut70):=by
 induction d with
 | zero =>
  intro k i out hi ho hk
  obtain ⟨k,rfl⟩:∃ j,k=j+1:=⟨k-1,by omega⟩
  simp only [transhipmentlaw04_cut.l0]
  rw [if_neg (by omega),List.drop_eq_nil_of_le (by omega),List.map_nil,List.append_nil]
 | succ d ih =>
  intro k i out hi ho hk
  obtain ⟨k,rfl⟩:∃ j,k=j+1:=⟨k-1,by omega⟩
  obtain ⟨m1,m2,m3⟩:=mn_le (wd y i).size 70
  have hr:=ih k (i+1) (out++[cut70 (wd y i)]) (by omega) (by rw [List.length_append,List.length_singleton];omega) (by omega)
  rw [Int.natCast_succ] at hr
  simp only [transhipmentlaw04_cut.l0]
  rw [rd_wd,if_pos (by omega),if_pos (by omega),if_pos (by omega),if_pos (by exact m1),if_pos (by exact m2),if_pos (by omega),wrap_id (n:=(i:Int)+1) (by omega) (by omega)]
  refine hr.trans ?_
  rw [drop_wd (i:=i) (by omega),List.map_cons,List.append_assoc]
  rfl
theorem cut_eq (nm:ByteArray) (how:Int) (ws:List ByteArray) (k:Nat) (hk:11<k):transhipmentlaw04_cut.f k nm how ws=some (cut70 nm,how,cutW ws):=by
 unfold transhipmentlaw04_cut.f
 obtain ⟨m1,m2,m3⟩:=mn_le nm.size 70
 obtain ⟨n1,n2,n3⟩:=mn_le ws.length 10
 have h3:(mn (ws.length:Int) 10).toNat=min ws.length 10:=n3
 rw [if_pos (by exact m1),if_pos (by exact m2),if_pos (by exact n1),if_pos (by exact n2),Option.bind_some]
 have hr:=cut_from (ws.take (mn (ws.length:Int) 10).toNat) (nm.extract 0 (mn (nm.size:Int) 70).toNat) how (by rw [List.length_take];omega) _ k 0 [] (Nat.zero_add _) (Nat.le_refl _) (by rw [List.length_take];omega)
 refine hr.trans ?_
 rw [List.drop_zero,List.nil_append]
 have e:ws.take (mn (ws.length:Int) 10).toNat=ws.take 10:=by
  rw [h3]
  by_cases h:ws.length≤10
  ·rw [Nat.min_eq_left h,List.take_of_length_le (Nat.le_refl _),List.take_of_length_le h]
  ·rw [Nat.min_eq_right (by omega)]
 rw [e]
 rfl
theorem few_from (y:List S46) (hy:y.length≤10) (d:Nat):∀ (k i:Nat) (out:List S46),i+d=y.length→out.length≤i→d<k →
  transhipmentlaw04_few.l0 k out y (y.length:Int) (i:Int)=some (out++(y.drop i).map few1):=by
 induction d with
 | zero =>
  intro k i out hi ho hk
  obtain ⟨k,rfl⟩:∃ j,k=j+1:=⟨k-1,by omega⟩
  simp only [transhipmentlaw04_few.l0]
  rw [if_neg (by omega),List.drop_eq_nil_of_le (by omega),List.map_nil,List.append_nil]
 | succ d ih =>
  intro k i out hi ho hk
  obtain ⟨k,rfl⟩:∃ j,k=j+1:=⟨k-1,by omega⟩
  obtain ⟨m1,m2,m3⟩:=mn_le (lab y i).f0.size 70
  obtain ⟨n1,n2,n3⟩:=mn_le (lab y i).f1.size 70
  have hr:=ih k (i+1) (out++[few1 (lab y i)]) (by omega) (by rw [List.length_append,List.length_singleton];omega) (by omega)
  rw [Int.natCast_succ] at hr
  simp only [transhipmentlaw04_few.l0]
  rw [rd_lab,if_pos (by omega),if_pos (by omega),if_pos (by omega),if_pos (by exact m1),if_pos (by exact m2),if_pos (by exact n1),if_pos (by exact n2),if_pos (by omega),wrap_id (n:=(i:Int)+1) (by omega) (by omega)]
  refine hr.trans ?_
  rw [drop_lab (i:=i) (by omega),List.map_cons,List.append_assoc]
  rfl
theorem few_eq (l:List S46) (k:Nat) (hk:11<k):transhipmentlaw04_few.f k l=some (fewL l):=by
 unfold transhipmentlaw04_few.f
 obtain ⟨n1,n2,n3⟩:=mn_le l.length 10
 have h3:(mn (l.length:Int) 10).toNat=min l.length 10:=n3
 rw [if_pos (by exact n1),if_pos (by exact n2),Option.bind_some]
 have hr:=few_from (l.take (mn (l.length:Int) 10).toNat) (by rw [List.length_take];omega) _ k 0 [] (Nat.zero_add _) (Nat.le_refl _) (by rw [List.length_take];omega)
 refine hr.trans ?_
 rw [List.drop_zero,List.nil_append]
 have e:l.take (mn (l.length:Int) 10).toNat=l.take 10:=by
  rw [h3]
  by_cases h:l.length≤10
  ·rw [Nat.min_eq_left h,List.take_of_length_le (Nat.le_refl _),List.take_of_length_le h]
  ·rw [Nat.min_eq_right (by omega)]
 rw [e]
 rfl
theorem alive_eq:transhipmentlaw04_alive.f=some true:=by decide +kernel
theorem how_wf {how:Int} (h:1≤how∧how≤4):(Lit.int .i64 how).wf=true:=by
 have h1:how=1∨how=2∨how=3∨how=4:=by omega
 rcases h1 with rfl|rfl|rfl|rfl<;>decide +kernel
end Go.Proofs.YtnbbfjddjmklpaaDoor.P

/- A matcher's words are in order: what leaving one out leaves. Conditions: as each lemma says. -/
set_option linter.unusedVariables false
namespace Go.Proofs.YtnbbfjddjmklpaaDoor.P
open Go.RowKit Go.Proofs.YtnbbfjddjmklpaaDoorW.PrintWords Go.Proofs.YtnbbfjddjmklpaaDoorW.PrintLast Go.Proofs.YtnbbfjddjmklpaaDoorW.PrintMore

theorem bl_irrefl:∀ a:List UInt8,Op.bytesLess a a=false
 | []=>rfl
 | x::a=>by
  have:=bl_irrefl a
  unfold Op.bytesLess
  simp [this]
theorem bl_trans:∀ a b c:List UInt8,Op.bytesLess a b=true→Op.bytesLess b c=true→Op.bytesLess a c=true
 | a,b,[],h1,h2=>by cases b<;>simp [Op.bytesLess] at h2
 | [],b,z::c,h1,h2=>rfl
 | x::a,[],z::c,h1,h2=>by simp [Op.bytesLess] at h1
 | x::a,y::b,z::c,h1,h2=>by
  have ih:=bl_trans a b c
  unfold Op.bytesLess at h1 h2 ⊢
  simp only [Bool.or_eq_true,Bool.and_eq_true,decide_eq_true_eq,beq_iff_eq,UInt8.lt_iff_toNat_lt] at h1 h2 ⊢
  rcases h1 with h1|⟨rfl,h1⟩<;>rcases h2 with h2|⟨rfl,h2⟩
  ·exact .inl (by omega)
  ·exact .inl h1
  ·exact .inl h2
  ·exact .inr ⟨rfl,ih h1 h2⟩
theorem lt_trans {a b c:ByteArray} (h1:ltB a b=true) (h2:ltB b c=true):ltB a c=true:=bl_trans _ _ _ h1 h2
theorem lt_ne {a b:ByteArray} (h:ltB a b=true):a≠b:=by
 rintro rfl
 unfold ltB at h
 rw [bl_irrefl] at h
 cases h
theorem words_iff (ws:List ByteArray):allFrom (wordAt ws) 0 ws.length=true↔(∀ i,i<ws.length→wordB (wd ws i)=true)∧∀ i,i+1<ws.length→ltB (wd ws i) (wd ws (i+1))=true:=by
 rw [allFrom_iff]
 constructor
 ·intro h
  refine ⟨fun i hi=>?_,fun i hi=>?_⟩
  ·have:=h i (Nat.zero_le _) (by omega)
   unfold wordAt at this
   rw [Bool.and_eq_true] at this
   exact this.1
  ·have:=h (i+1) (Nat.zero_le _) (by omega)
   unfold wordAt at this
   rw [Bool.and_eq_true,Bool.or_eq_true,decide_eq_true_eq,Nat.add_sub_cancel] at this
   exact this.2.resolve_left (by omega)
 ·rintro ⟨h1,h2⟩ i _ hi
  unfold wordAt
  rw [h1 i (by omega),Bool.true_and,Bool.or_eq_true,decide_eq_true_eq]
  by_cases h0:i=0
  ·exact .inl h0
  ·have:=h2 (i-1) (by omega)
   rw [Nat.sub_add_cancel (by omega)] at this
   exact .inr this
theorem order_all {ws:List ByteArray} (h:∀ i,i+1<ws.length→ltB (wd ws i) (wd ws (i+1))=true) (i:Nat):∀ d,i+d+1<ws.length→ltB (wd ws i) (wd ws (i+d+1))=true
 | 0,hd=>h i hd
 | d+1,hd=>lt_trans (order_all h i d (by omega)) (h (i+d+1) hd)
def lessW (ws:List ByteArray) (j:Nat):List ByteArray:=ws.take j++ws.drop (j+1)
theorem lessW_length {ws:List ByteArray} {j:Nat} (h:j<ws.length):(lessW ws j).length=ws.length-1:=by
 unfold lessW
 rw [List.length_append,List.length_take,List.length_drop]
 omega
theorem lessW_wd {ws:List ByteArray} {j:Nat} (h:j<ws.length) (i:Nat):wd (lessW ws j) i=if i<j then wd ws i else wd ws (i+1):=by
 unfold wd lessW
 simp only [List.getD_eq_getElem?_getD]
 split
 ·rename_i hi
  rw [List.getElem?_append_left (by rw [List.length_take];omega),List.getElem?_take_of_lt hi]
 ·rename_i hi
  rw [List.getElem?_append_right (by rw [List.length_take];omega),List.length_take,List.getElem?_drop,Nat.min_eq_left (by omega),show j+1+(i-j)=i+1 by omega]
theorem mright_less {nm:ByteArray} {ws:List ByteArray} {j:Nat} (h:mrightB nm 3 ws=true) (hj:j<ws.length) (h2:2≤ws.length):mrightB nm 3 (lessW ws j)=true:=by
 obtain ⟨r1,r2,r3,r4,r5,r6,r7⟩:=mright_parts h
 unfold mrightB at h ⊢
 rw [Bool.and_eq_true] at h
 obtain ⟨w1,w2⟩:=(words_iff ws).1 h.1
 have hw:allFrom (wordAt (lessW ws j)) 0 (lessW ws j).length=true:=by
  rw [words_iff,lessW_length hj]
  refine ⟨fun i hi=>?_,fun i hi=>?_⟩
  ·rw [lessW_wd hj]
   split
   ·exact w1 i (by omega)
   ·exact w1 (i+1) (by omega)
  ·rw [lessW_wd hj,lessW_wd hj]
   by_cases h3:i+1<j
   ·rw [if_pos (by omega),if_pos h3]
    exact w2 i (by omega)
   ·rw [if_neg h3]
    by_cases h4:i<j
    ·rw [if_pos h4]
     exact order_all w2 i 1 (by omega)
    ·rw [if_neg h4]
     exact w2 (i+1) (by omega)
 rw [hw,r2,lessW_length hj]
 have e1:mostB 3=8:=by decide
 have e2:isSign 3=true:=by decide
 rw [e1,e2,decide_eq_true (by omega:1≤ws.length-1),decide_eq_true (by omega:ws.length-1≤8)]
 rfl
theorem mright_one {nm:ByteArray} {how:Int} {ws:List ByteArray} {j:Nat} (h:mrightB nm how ws=true) (hj:j<ws.length):mrightB nm 1 [wd ws j]=true:=by
 obtain ⟨r1,r2,r3,r4,r5,r6,r7⟩:=mright_parts h
 have hw:allFrom (wordAt [wd ws j]) 0 1=true:=by
  have e:wd [wd ws j] 0=wd ws j:=rfl
  unfold allFrom allFrom wordAt
  rw [e,r6 j hj]
  rfl
 unfold mrightB
 rw [show ([wd ws j]:List ByteArray).length=1 from rfl,hw,r2]
 rfl
theorem mem_split {ws:List ByteArray} {j:Nat} (hj:j<ws.length) (v:ByteArray):v∈ws↔v∈lessW ws j∨v=wd ws j:=by
 have e:ws=ws.take j++wd ws j::ws.drop (j+1):=by rw [← drop_wd hj,List.take_append_drop]
 unfold lessW
 constructor
 ·intro h
  rw [e] at h
  rcases List.mem_append.1 h with h|h
  ·exact .inl (List.mem_append_left _ h)
  ·rcases List.mem_cons.1 h with h|h
   ·exact .inr h
   ·exact .inl (List.mem_append_right _ h)
 ·intro h
  rw [e]
  rcases h with h|h
  ·rcases List.mem_append.1 h with h|h
   ·exact List.mem_append_left _ h
   ·exact List.mem_append_right _ (List.mem_cons_of_mem _ h)
  ·rw [h]
   exact List.mem_append_right _ List.mem_cons_self
theorem not_both {nm:ByteArray} {how:Int} {ws:List ByteArray} {j:Nat} (h:mrightB nm how ws=true) (hj:j<ws.length):wd ws j ∉ lessW ws j:=by
 unfold mrightB at h
 rw [Bool.and_eq_true] at h
 obtain ⟨w1,w2⟩:=(words_iff ws).1 h.1
 intro hm
 obtain ⟨i,hi,he⟩:=mem_wd hm
 rw [lessW_length hj] at hi
 rw [lessW_wd hj] at he
 split at he
 ·rename_i h3
  have:=order_all w2 i (j-i-1) (by omega)
  rw [show i+(j-i-1)+1=j by omega] at this
  exact lt_ne this he
 ·rename_i h3
  have:=order_all w2 j (i-j) (by omega)
  rw [show j+(i-j)+1=i+1 by omega] at this
  exact lt_ne this he.symm
theorem contains_split {nm:ByteArray} {how:Int} {ws:List ByteArray} {j:Nat} (h:mrightB nm how ws=true) (hj:j<ws.length) (v:ByteArray) :
  Lib.containsS ws v=(Lib.containsS (lessW ws j) v || Lib.containsS [wd ws j] v)∧(Lib.containsS (lessW ws j) v && Lib.containsS [wd ws j] v)=false:=by
 constructor
 ·rw [Bool.eq_iff_iff,Bool.or_eq_true,Lib.containsS_iff,Lib.containsS_iff,Lib.containsS_iff,List.mem_singleton]
  exact mem_split hj v
 ·rw [← Bool.not_eq_true,Bool.and_eq_true,Lib.containsS_iff,Lib.containsS_iff,List.mem_singleton]
  rintro ⟨h1,rfl⟩
  exact not_both h hj h1
end Go.Proofs.YtnbbfjddjmklpaaDoor.P

/- One of some words holds wherever one of fewer of them does, none of them fails there: in plain Lean. Conditions: none. -/
set_option linter.unusedVariables false
namespace Go.Proofs.YtnbbfjddjmklpaaDoor.Pure
open Go.Proofs.YtnbbfjddjmklpaaDoor.P Go.RowKit Go.Proofs.YtnbbfjddjmklpaaDoorW.PrintWords Go.Proofs.YtnbbfjddjmklpaaDoorW.PrintLast Go.Proofs.YtnbbfjddjmklpaaDoorW.PrintMore

theorem few_small2 (l:List S46):smallSet (fewL l)=true:=by
 unfold smallSet fewL
 rw [List.all_eq_true]
 intro x hx
 obtain ⟨y,_,rfl⟩:=List.mem_map.1 hx
 have h1:=cut70_size y.f0
 have h2:=cut70_size y.f1
 rw [Bool.and_eq_true,decide_eq_true_eq,decide_eq_true_eq]
 show (cut70 y.f0).size≤1000000∧(cut70 y.f1).size≤1000000
 omega
theorem holds_one {l:List S46} {nm:ByteArray} {how:Int} {ws:List ByteArray} (hs:smallSet l=true) (hl:setB l=true) (hr:mrightB nm how ws=true) :
  matcher_Holds.f l [⟨nm,how,ws⟩]=some (!(Lib.containsS ws (getL l nm) == (how == 2 || how == 4)),0):=by
 obtain ⟨r1,r2,r3,r4⟩:=mright_parts hr
 have hm:smallMs [⟨nm,how,ws⟩]=true:=by
  simp [smallMs,how_wf r3]
  omega
 unfold matcher_Holds.f holdsB
 rw [if_pos ⟨hs,hm⟩,if_pos ⟨hl,by simp [hr]⟩,List.any_cons,List.any_nil,Bool.or_false]
 rfl
theorem holds_no {l:List S46} {nm:ByteArray} {how:Int} {ws:List ByteArray} (hs:smallSet l=true) (hm:smallMs [⟨nm,how,ws⟩]=true) (h:¬(setB l=true∧mrightB nm how ws=true)) :
  matcher_Holds.f l [⟨nm,how,ws⟩]=some (false,1):=by
 unfold matcher_Holds.f holdsB
 rw [if_pos ⟨hs,hm⟩,if_neg]
 rintro ⟨h1,h2⟩
 exact h ⟨h1,by simpa using h2⟩
theorem drop_at (x:Int) (n:Nat) (h1:1≤n) (h2:n≤1000):∃ j:Nat,j<n∧Int.tmod (wrap64 (Int.tmod x (n:Int)+(n:Int))) (n:Int)=(j:Int):=by
 have a1:=Int.tmod_lt_of_pos x (show (0:Int)<(n:Int) by omega)
 have a2:=Int.lt_tmod_of_pos x (show (0:Int)<(n:Int) by omega)
 rw [wrap_id (by omega) (by omega)]
 have a3:=Int.tmod_nonneg (n:Int) (show 0≤Int.tmod x (n:Int)+(n:Int) by omega)
 have a4:=Int.tmod_lt_of_pos (Int.tmod x (n:Int)+(n:Int)) (show (0:Int)<(n:Int) by omega)
 exact ⟨(Int.tmod (Int.tmod x (n:Int)+(n:Int)) (n:Int)).toNat,by omega,by omega⟩
theorem take_one {ws:List ByteArray} {j:Nat} (h:j<ws.length):(ws.take (j+1)).drop j=[wd ws j]:=by
 rw [List.drop_take,Nat.add_sub_cancel_left,drop_wd h]
 rfl
theorem words_main (l:List S46) (nm:ByteArray) (ws:List ByteArray) (x2:Int) (k:Nat) (hs:smallSet l=true) (hl:setB l=true) (hr:mrightB nm 3 ws=true) (h2:2≤ws.length) :
  transhipmentlaw04_MatcherWords.j0 (k+1) l x2 (Lib.containsS ws (getL l nm)) false nm 3 ws=some true:=by
 obtain ⟨r1,r2,r3,r4,r5,r6,r7⟩:=mright_parts hr
 obtain ⟨j,hj,e⟩:=drop_at x2 ws.length (by omega) (by omega)
 have hwj:wrap64 ((j:Int)+1)=((j+1:Nat):Int):=(wrap_id (by omega) (by omega)).trans (by omega)
 have hA:=holds_one hs hl (mright_less hr hj h2)
 have hB:=holds_one hs hl (mright_one hr hj)
 obtain ⟨c1,c2⟩:=contains_split hr hj (getL l nm)
 have hz1:(ws.take j).length≤8:=by rw [List.length_take];omega
 have hz2:(ws.drop (j+1)).length≤8:=by rw [List.length_drop];omega
 simp only [transhipmentlaw04_MatcherWords.j0]
 rw [if_neg (by decide),if_neg (by omega),Option.bind_some,e,hwj,Int.toNat_natCast,Int.toNat_natCast,take_one hj,hB,if_pos (by omega),if_pos (by omega),Option.bind_some,if_pos (by simp only [List.length_nil];omega),List.nil_append,Option.bind_some,if_pos (by omega),if_pos (by omega),Option.bind_some,if_pos (by omega)]
 show ((matcher_Holds.f l [⟨nm,3,lessW ws j⟩]).bind _)=_
 rw [hA,Option.bind_some,if_pos (by omega),Option.bind_some,alive_eq,Option.bind_some,if_pos rfl,c1]
 revert c2
 generalize Lib.containsS (lessW ws j) (getL l nm)=a
 generalize Lib.containsS [wd ws j] (getL l nm)=b
 intro c2
 cases a<;>cases b<;>first|rfl|cases c2
theorem MatcherWords (l:List S46) (nm:ByteArray) (how:Int) (ws:List ByteArray) (x2:Int) (hw:(Lit.int .i64 how).wf=true) (h2:(Lit.int .i64 x2).wf=true):∃ k,transhipmentlaw04_MatcherWords.f k l nm how ws x2=some true:=by
 refine ⟨1000,?_⟩
 unfold transhipmentlaw04_MatcherWords.f
 rw [few_eq l 1000 (by decide),Option.bind_some,cut_eq nm how ws 1000 (by decide),Option.bind_some]
 dsimp only
 have hs:=few_small2 l
 have hn:=cut70_size nm
 have hl:=cutW_length ws
 generalize cut70 nm=nm' at *
 generalize cutW ws=ws' at *
 generalize fewL l=l' at *
 have hend:∀ b,transhipmentlaw04_MatcherWords.j0 1000 l' x2 b true nm' 3 ws'=some true:=by
  intro b
  simp only [transhipmentlaw04_MatcherWords.j0]
  rw [if_pos trivial,alive_eq]
  rfl
 by_cases hc:setB l'=true∧mrightB nm' 3 ws'=true
 ·rw [holds_one hs hc.1 hc.2,Option.bind_some]
  dsimp only
  rw [if_pos rfl]
  by_cases h:ws'.length<2
  ·rw [decide_eq_true (by omega:(ws'.length:Int)<2)]
   exact hend _
  ·rw [decide_eq_false (by omega:¬ (ws'.length:Int)<2)]
   have e:(!(Lib.containsS ws' (getL l' nm') == ((3:Int) == 2 || (3:Int) == 4)))=Lib.containsS ws' (getL l' nm'):=by
    cases Lib.containsS ws' (getL l' nm')<;>rfl
   rw [e]
   exact words_main l' nm' ws' x2 999 hs hc.1 hc.2 (by omega)
 ·rw [holds_no hs (by simp [smallMs];exact ⟨by decide +kernel,by omega⟩) hc,Option.bind_some]
  dsimp only
  rw [if_neg (by decide)]
  exact hend _
end Go.Proofs.YtnbbfjddjmklpaaDoor.Pure
