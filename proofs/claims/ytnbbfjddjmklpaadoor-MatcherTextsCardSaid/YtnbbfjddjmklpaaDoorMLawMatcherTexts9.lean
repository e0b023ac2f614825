/- What these functions of the program and of the plain reference compute, and plain lemmas on it: MatcherLaw5, MatcherLaw6, PureMatcherTexts. Conditions: as each lemma says. -/
import Derived.Test.YtnbbfjddjmklpaaDoorMLawMatcherTexts8
import Derived.Test.YtnbbfjddjmklpaaDoorMLawMatcherTexts4
import Derived.Test.YtnbbfjddjmklpaaDoorMLawMatcherTexts6
import Derived.Test.YtnbbfjddjmklpaaDoorMLawMatcherTexts5
/- The reference's answers for matchers, but its reading of a text, in plain words. Conditions: as each lemma says. -/
set_option linter.unusedVariables false
set_option linter.unusedSimpArgs false
namespace Go.Proofs.YtnbbfjddjmklpaaDoor.P
open Go.RowKit Go.Proofs.YtnbbfjddjmklpaaDoorW.PrintWords Go.Proofs.YtnbbfjddjmklpaaDoorW.PrintLast Go.Proofs.YtnbbfjddjmklpaaDoorW.PrintMore

theorem wd_size {ws:List ByteArray} {N:Nat} (h:∀ x∈ws,x.size≤N) (i:Nat):(wd ws i).size≤N:=by
 unfold wd
 rw [List.getD_eq_getElem?_getD]
 cases hi:ws[i]? with
 | none=>exact Nat.zero_le _
 | some x=>exact h x (List.mem_of_getElem? hi)
theorem refright_from (nm:ByteArray) (how:Int) (ws:List ByteArray) (N:Nat) (hN:N≤1000000) (hn:nm.size≤N) (hw:∀ x∈ws,x.size≤N) (hl:ws.length≤1000000) (d:Nat):∀ (k i:Nat),i+d=ws.length→2*N+4+d<k →
  transhipmentref04_Right.l0 k ws (ws.length:Int) (i:Int) nm how ws=some (allFrom (wordAt ws) i d && (isSign how && nameB nm && decide (1≤ws.length) && decide (ws.length≤mostB how))):=by
 induction d with
 | zero =>
  intro k i hi hk
  obtain ⟨k,rfl⟩:∃ j,k=j+1:=⟨k-1,by omega⟩
  simp only [transhipmentref04_Right.l0]
  rw [if_neg (by omega),refname_eq nm (by unfold maxLen;omega) k (by omega),Option.bind_some]
  show _=some (true && _)
  rw [Bool.true_and]
  cases nameB nm with
  | false=>simp
  | true =>
   rw [if_pos rfl]
   unfold isSign mostB
   by_cases h1:how<1
   ·rw [if_pos h1,decide_eq_false (by omega:¬ 1≤how)];simp
   ·rw [if_neg h1,decide_eq_true (by omega:1≤how)]
    by_cases h2:how>4
    ·rw [if_pos h2,decide_eq_false (by omega:¬ how≤4)];simp
    ·rw [if_neg h2,decide_eq_true (by omega:how≤4)]
     by_cases h3:(ws.length:Int)<1
     ·rw [if_pos h3,decide_eq_false (by omega:¬ 1≤ws.length)];simp
     ·rw [if_neg h3,decide_eq_true (by omega:1≤ws.length)]
      by_cases h4:(ws.length:Int)>8
      ·rw [if_pos h4]
       have:¬ ws.length≤(if 2<how then 8 else 1):=by split<;>omega
       simp [this]
      ·rw [if_neg h4]
       by_cases h5:how>2
       ·rw [if_pos h5]
        have:ws.length≤(if 2<how then 8 else 1):=by rw [if_pos h5];omega
        simp [this]
       ·rw [if_neg h5,if_neg h5]
        have e:((ws.length:Int) == 1)=decide (ws.length≤1):=by
         rw [Bool.eq_iff_iff,beq_iff_eq,decide_eq_true_eq]
         omega
        rw [e]
        simp
 | succ d ih =>
  intro k i hi hk
  obtain ⟨k,rfl⟩:∃ j,k=j+1:=⟨k-1,by omega⟩
  have hr:=ih k (i+1) (by omega) (by omega)
  rw [Int.natCast_succ] at hr
  have hz:=wd_size hw i
  have hz1:=wd_size hw (i-1)
  simp only [transhipmentref04_Right.l0]
  rw [if_pos (by omega),if_pos (by omega),if_pos (by omega),wrap_id (n:=(i:Int)+1) (by omega) (by omega),hr,rd_wd,refword_eq (wd ws i) (by unfold maxLen;omega) k (by omega),Option.bind_some]
  show _=some (wordAt ws i && allFrom _ (i+1) d && _)
  generalize allFrom (wordAt ws) (i+1) d=z
  generalize (isSign how && nameB nm && decide (1≤ws.length) && decide (ws.length≤mostB how))=y
  unfold wordAt
  cases hn:wordB (wd ws i) with
  | false=>simp
  | true =>
   rw [if_pos rfl]
   by_cases h0:i=0
   ·subst h0
    rw [if_neg (by omega)]
    simp
   ·rw [if_pos (by omega),wrap_id (by omega) (by omega),if_pos (by omega),if_pos (by omega),show (i:Int)-1=((i-1:Nat):Int) by omega,rd_wd,less_eq (wd ws (i-1)) (wd ws i) (by unfold maxLen;omega) k (by omega),Option.bind_some,decide_eq_false h0]
    cases ltB (wd ws (i-1)) (wd ws i)<;>simp
theorem refright_eq4 (nm:ByteArray) (how:Int) (ws:List ByteArray) (N:Nat) (hN:N≤1000000) (hn:nm.size≤N) (hw:∀ x∈ws,x.size≤N) (hl:ws.length≤1000000) (k:Nat) (hk:2*N+4+ws.length<k) :
  transhipmentref04_Right.f k nm how ws=some (mrightB nm how ws) :=
 refright_from nm how ws N hN hn hw hl ws.length k 0 (by omega) hk
theorem refsign_eq {how:Int} (h:1≤how∧how≤4):transhipmentref04_Sign.f how=some (signOf how):=by
 have h1:how=1∨how=2∨how=3∨how=4:=by omega
 rcases h1 with rfl|rfl|rfl|rfl<;>decide +kernel
def ofL (l:List UInt8):ByteArray:=⟨l.toArray⟩
theorem lst_ofL (l:List UInt8):lst (ofL l)=l:=rfl
theorem text_from (ws:List ByteArray) (N:Nat) (hN:N≤1000000) (hw:∀ x∈ws,x.size≤N) (hl:ws.length≤1000000) (d:Nat):∀ (k i:Nat) (out:ByteArray),0<i→i+d=ws.length→out.size+d*(N+1)≤4611686018427387904→d<k →
  transhipmentref04_Text.l0 k out ws (ws.length:Int) (i:Int)=some (out++ofL (Lib.joinTail [124] ((ws.drop i).map (·.data.toList)))++⟨#[34]⟩):=by
 induction d with
 | zero =>
  intro k i out h0 hi ho hk
  obtain ⟨k,rfl⟩:∃ j,k=j+1:=⟨k-1,by omega⟩
  simp only [transhipmentref04_Text.l0]
  rw [if_neg (by omega),if_pos (by omega),List.drop_eq_nil_of_le (by omega)]
  refine congrArg some (lst_inj ?_)
  simp [lst_append,lst_ofL,Lib.joinTail]
 | succ d ih =>
  intro k i out h0 hi ho hk
  obtain ⟨k,rfl⟩:∃ j,k=j+1:=⟨k-1,by omega⟩
  have hz:=wd_size hw i
  have e1:(⟨#[124]⟩:ByteArray).size=1:=rfl
  rw [Nat.succ_mul] at ho
  have hr:=ih k (i+1) (out++⟨#[124]⟩++wd ws i) (by omega) (by omega) (by rw [ByteArray.size_append,ByteArray.size_append,e1];omega) (by omega)
  rw [Int.natCast_succ] at hr
  simp only [transhipmentref04_Text.l0]
  rw [rd_wd,if_pos (by omega),if_pos (by omega),if_pos (by omega),if_pos (by omega),if_pos (by omega),if_pos (by rw [ByteArray.size_append,e1];omega),wrap_id (n:=(i:Int)+1) (by omega) (by omega),hr,drop_wd (ws:=ws) (i:=i) (by omega)]
  refine congrArg some (lst_inj ?_)
  simp [lst_append,lst_ofL,Lib.joinTail]
theorem reftext_eq (nm:ByteArray) (how:Int) (ws:List ByteArray) (hh:1≤how∧how≤4) (N:Nat) (hN:N≤1000000) (hn:nm.size≤N) (hw:∀ x∈ws,x.size≤N) (hl:ws.length≤1000000) (k:Nat) (hk:ws.length+1<k) :
  transhipmentref04_Text.f k nm how ws=some (mtextB nm how ws):=by
 obtain ⟨k,rfl⟩:∃ j,k=j+1:=⟨k-1,by omega⟩
 have hs:=sign_size how
 have e1:(⟨#[34]⟩:ByteArray).size=1:=rfl
 unfold transhipmentref04_Text.f
 rw [refsign_eq hh,Option.bind_some,if_pos (by omega),if_pos (by rw [ByteArray.size_append];omega)]
 have hm:ws.length*(N+1)≤1000000*1000001:=Nat.mul_le_mul hl (by omega)
 cases ws with
 | nil =>
  simp only [transhipmentref04_Text.l0]
  rw [if_neg (by simp),if_pos (by simp only [ByteArray.size_append,e1];omega)]
  refine congrArg some (lst_inj ?_)
  unfold mtextB
  simp [lst_append,joinT,Lib.join]
 | cons x ws =>
  have hx:=hw x List.mem_cons_self
  have hm2:ws.length*(N+1)≤1000000*1000001:=Nat.mul_le_mul (by simp at hl;omega) (by omega)
  have hr:=text_from (x::ws) N hN hw hl ws.length k 1 (nm++signOf how++⟨#[34]⟩++x) (by decide) (by simp;omega) (by simp only [ByteArray.size_append,e1];omega) (by simp at hk;omega)
  have e0:rdOf ByteArray.empty (x::ws) 0=x:=rfl
  simp only [transhipmentref04_Text.l0]
  rw [e0,if_pos (by simp),if_pos (by omega),if_pos (by simp),if_neg (by omega),if_pos (by simp only [ByteArray.size_append,e1];omega),wrap_id (n:=(0:Int)+1) (by omega) (by omega)]
  refine Eq.trans hr ?_
  refine congrArg some (lst_inj ?_)
  unfold mtextB
  simp [lst_append,lst_ofL,joinT,Lib.join_cons]
theorem same_from (a b:List ByteArray) (hl:a.length=b.length) (hs:a.length≤maxLen) (d:Nat):∀ (k i:Nat),i+d=a.length→d<k →
  transhipmentref01_Same.l0 k a b (a.length:Int) (i:Int)=some (decide (a.drop i=b.drop i)):=by
 unfold maxLen at hs
 induction d with
 | zero =>
  intro k i hi hk
  obtain ⟨k,rfl⟩:∃ j,k=j+1:=⟨k-1,by omega⟩
  simp only [transhipmentref01_Same.l0]
  rw [if_neg (by omega),List.drop_eq_nil_of_le (by omega),List.drop_eq_nil_of_le (by omega)]
  rfl
 | succ d ih =>
  intro k i hi hk
  obtain ⟨k,rfl⟩:∃ j,k=j+1:=⟨k-1,by omega⟩
  have hr:=ih k (i+1) (by omega) (by omega)
  rw [Int.natCast_succ] at hr
  simp only [transhipmentref01_Same.l0]
  rw [rd_wd,rd_wd,if_pos (by omega),if_pos (by omega),if_pos (by omega),if_pos (by omega),wrap_id (n:=(i:Int)+1) (by omega) (by omega),hr,drop_wd (ws:=a) (i:=i) (by omega),drop_wd (ws:=b) (i:=i) (by omega)]
  by_cases h:wd a i=wd b i
  ·rw [if_pos (tl_eq.2 h),h]
   simp
  ·rw [if_neg (fun h2=>h (tl_eq.1 h2))]
   simp [h]
theorem same_eq (a b:List ByteArray) (hs:a.length≤maxLen) (k:Nat) (hk:a.length<k):transhipmentref01_Same.f k a b=some (decide (a=b)):=by
 unfold transhipmentref01_Same.f
 by_cases h:a.length=b.length
 ·rw [if_pos (by omega)]
  have:=same_from a b h hs a.length k 0 (by omega) hk
  rw [List.drop_zero,List.drop_zero] at this
  exact this
 ·rw [if_neg (by omega)]
  have:¬ a=b:=fun e=>h (by rw [e])
  simp [this]
theorem reflike_eq (n1:ByteArray) (h1:Int) (w1:List ByteArray) (n2:ByteArray) (h2:Int) (w2:List ByteArray) (hs:w1.length≤maxLen) (k:Nat) (hk:w1.length<k) :
  transhipmentref04_Like.f k n1 h1 w1 n2 h2 w2=some (decide (n1=n2∧h1=h2∧w1=w2)):=by
 unfold transhipmentref04_Like.f
 rw [same_eq w1 w2 hs k hk,Option.bind_some]
 by_cases a:n1=n2
 ·rw [if_pos (tl_eq.2 a)]
  by_cases b:h1=h2
  ·rw [if_pos b];simp [a,b]
  ·rw [if_neg b];simp [b]
 ·rw [if_neg (fun h=>a (tl_eq.1 h))];simp [a]
end Go.Proofs.YtnbbfjddjmklpaaDoor.P

/- What the reference reads a text as: as the program does. Conditions: the text is short. -/
set_option linter.unusedVariables false
set_option linter.unusedSimpArgs false
namespace Go.Proofs.YtnbbfjddjmklpaaDoor.P
open Go.RowKit Go.Proofs.YtnbbfjddjmklpaaDoorW.PrintWords Go.Proofs.YtnbbfjddjmklpaaDoorW.PrintLast Go.Proofs.YtnbbfjddjmklpaaDoorW.PrintMore

def wsp:ByteArray→List UInt8→List ByteArray
 | now,[]=>[now]
 | now,c::cs=>if c=124 then now::wsp ⟨#[]⟩ cs else wsp (now++ofL [c]) cs
theorem wsp_word:∀ (l:List UInt8) (now:ByteArray) (r:List UInt8),(124:UInt8) ∉ l→wsp now (l++r)=wsp (now++ofL l) r
 | [],now,r,h=>by
  have e:now++ofL []=now:=lst_inj (by simp [lst_append,lst_ofL])
  rw [e,List.nil_append]
 | c::l,now,r,h=>by
  have hc:¬ c=124:=fun e=>h (by rw [e];exact List.mem_cons_self)
  have e:now++ofL (c::l)=now++ofL [c]++ofL l:=lst_inj (by simp [lst_append,lst_ofL])
  rw [List.cons_append,wsp,if_neg hc,wsp_word l _ r (fun h2=>h (List.mem_cons_of_mem _ h2)),e]
theorem wsp_join:∀ (ws:List ByteArray) (x:ByteArray),(∀ w∈x::ws,(124:UInt8) ∉ lst w)→wsp ⟨#[]⟩ (Lib.join ((x::ws).map (·.data.toList)) [124])=x::ws
 | [],x,h=>by
  have e:Lib.join (([x]:List ByteArray).map (·.data.toList)) [124]=lst x++[]:=by simp [Lib.join_cons,Lib.joinTail]
  rw [e,wsp_word _ _ _ (h x List.mem_cons_self),wsp]
  have e2:(⟨#[]⟩:ByteArray)++ofL (lst x)=x:=lst_inj (by simp [lst_append,lst_ofL])
  rw [e2]
 | y::ws,x,h=>by
  have e:Lib.join ((x::y::ws).map (·.data.toList)) [124]=lst x++124::Lib.join ((y::ws).map (·.data.toList)) [124]:=by simp [Lib.join_cons,Lib.joinTail]
  have e2:(⟨#[]⟩:ByteArray)++ofL (lst x)=x:=lst_inj (by simp [lst_append,lst_ofL])
  rw [e,wsp_word _ _ _ (h x List.mem_cons_self),wsp,if_pos rfl,e2,wsp_join ws y (fun w hw=>h w (List.mem_cons_of_mem _ hw))]
def midL (s:ByteArray) (i:Nat):List UInt8:=((lst s).take (s.size-1)).drop i
theorem mid_end {s:ByteArray} {i:Nat} (h:s.size-1≤i):midL s i=[]:=by
 unfold midL
 exact List.drop_eq_nil_of_le (by rw [List.length_take];omega)
theorem mid_cons {s:ByteArray} {i:Nat} (h:i<s.size-1):∃ c:UInt8,bt s (i:Int)=(c.toNat:Int)∧s.extract i (i+1)=ofL [c]∧midL s i=c::midL s (i+1):=by
 have hl:i<((lst s).take (s.size-1)).length:=by rw [List.length_take,lst_len];omega
 have hi:i<s.size:=by omega
 refine ⟨(lst s)[i]'(by rw [lst_len];omega),?_,?_,?_⟩
 ·unfold bt
  rw [Int.toNat_natCast,dif_pos hi]
  rfl
 ·apply lst_inj
  rw [lst_ofL]
  show (s.extract i (i+1)).data.toList=_
  rw [Lib.extract_data,Nat.add_sub_cancel_left,List.drop_eq_getElem_cons (by rw [data_length];exact hi)]
  rfl
 ·unfold midL
  rw [List.drop_eq_getElem_cons hl,List.getElem_take]
abbrev Ans:=ByteArray×Int×List ByteArray×Bool
theorem l2_from (s nm:ByteArray) (n how:Int) (hs:s.size≤700) (hn:nm.size≤700) (hh:1≤how∧how≤4) (R:Ans) (B:Nat) (hB:3000≤B)
  (hnext:∀ k,B<k→transhipmentref04_Parse.l1 k s n (how+1)=some R) (d:Nat):∀ (k i:Nat) (now:ByteArray) (out:List ByteArray),s.size-1-i=d→now.size+d≤700→out.length+d≤701→(∀ x∈out,x.size≤700)→B+d+1<k →
  transhipmentref04_Parse.l2 k s n how now (i:Int) nm how out=some (if mrightB nm how (out++wsp now (midL s i))=true∧mtextB nm how (out++wsp now (midL s i))=s then (nm,how,out++wsp now (midL s i),true) else R):=by
 have hw0:wrap64 ((s.size:Int)-1)=(s.size:Int)-1:=wrap_id (by omega) (by omega)
 have hwh:wrap64 (how+1)=how+1:=wrap_id (by omega) (by omega)
 induction d with
 | zero =>
  intro k i now out hi hz hl ho hk
  obtain ⟨k,rfl⟩:∃ j,k=j+1:=⟨k-1,by omega⟩
  have e1:out++wsp now (midL s i)=out++[now]:=by rw [mid_end (by omega)];rfl
  rw [e1]
  have hsz:∀ x∈out++[now],x.size≤700:=by
   intro x hx
   rcases List.mem_append.1 hx with h|h
   ·exact ho x h
   ·rw [List.mem_singleton] at h
    rw [h]
    omega
  have hln:(out++[now]).length≤702:=by simp;omega
  simp only [transhipmentref04_Parse.l2]
  rw [hw0,if_neg (by omega),if_pos (by omega),Option.bind_some,hwh,hnext k (by omega),refright_eq4 nm how _ 700 (by decide) hn hsz (by omega) k (by omega),reftext_eq nm how _ hh 700 (by decide) hn hsz (by omega) k (by omega),Option.bind_some,Option.bind_some]
  cases hr:mrightB nm how (out++[now]) with
  | false=>rw [if_neg (by decide),if_neg (fun h=>by cases h.1)]
  | true =>
   rw [if_pos rfl]
   by_cases ht:mtextB nm how (out++[now])=s
   ·rw [if_pos (by rw [ht]),if_pos ⟨rfl,ht⟩]
   ·rw [if_neg (fun h=>ht (tl_eq.1 h)),if_neg (fun h=>ht h.2)]
 | succ d ih =>
  intro k i now out hi hz hl ho hk
  obtain ⟨k,rfl⟩:∃ j,k=j+1:=⟨k-1,by omega⟩
  obtain ⟨c,hc1,hc2,hc3⟩:=mid_cons (s:=s) (i:=i) (by omega)
  have e0:(⟨#[]⟩:ByteArray).size=0:=rfl
  have e1:(ofL [c]).size=1:=rfl
  have hwi:wrap64 ((i:Int)+1)=((i+1:Nat):Int):=(wrap_id (by omega) (by omega)).trans (by omega)
  simp only [transhipmentref04_Parse.l2]
  rw [hw0,if_pos (by omega),if_pos (by omega),if_pos (by omega),hc1,hwi,Int.toNat_natCast,Int.toNat_natCast,hc2,hc3,wsp]
  by_cases h:c=124
  ·have hr:=ih k (i+1) ⟨#[]⟩ (out++[now]) (by omega) (by omega) (by simp;omega) (by
    intro x hx
    rcases List.mem_append.1 hx with h|h
    ·exact ho x h
    ·rw [List.mem_singleton] at h
     rw [h]
     omega) (by omega)
   rw [if_pos h,if_pos (by rw [h];rfl),if_pos (by omega),hr,List.append_assoc]
   rfl
  ·have hr:=ih k (i+1) (now++ofL [c]) out (by omega) (by rw [ByteArray.size_append,e1];omega) (by omega) ho (by omega)
   have hc:¬ ((c.toNat:Int)=124):=fun h2=>h (UInt8.toNat_inj.1 (by show c.toNat=124;omega))
   rw [if_neg h,if_neg hc,if_pos (by omega),if_pos (by omega),if_pos (by rw [e1];omega),hr]
def tryW (s:ByteArray) (n:Nat) (how:Int):Option (List ByteArray) :=
 if s.size≤n+(signOf how).size then none else
 if ¬ s.extract n (n+(signOf how).size)=signOf how then none else
 if ¬ bt s ((n+(signOf how).size:Nat):Int)=34 then none else
 if mrightB (s.extract 0 n) how (wsp ⟨#[]⟩ (midL s (n+(signOf how).size+1)))=true∧mtextB (s.extract 0 n) how (wsp ⟨#[]⟩ (midL s (n+(signOf how).size+1)))=s then some (wsp ⟨#[]⟩ (midL s (n+(signOf how).size+1))) else none
def ansW (s:ByteArray) (n:Nat) (how:Int) (R:Ans):Ans:=match tryW s n how with|some ws=>(s.extract 0 n,how,ws,true)|none=>R
theorem ext_size (s:ByteArray) (n N:Nat) (hs:s.size≤N):(s.extract 0 n).size≤N:=by
 rw [ByteArray.size_extract]
 omega
theorem gap0 (s:ByteArray) (N:Nat) (hs:s.size≤N) (e:Nat):(⟨#[]⟩:ByteArray).size+(s.size-1-(e+1))≤N:=by
 show 0+(s.size-1-(e+1))≤N
 omega
theorem gap1 (s:ByteArray) (N:Nat) (hs:s.size≤N) (e:Nat):([]:List ByteArray).length+(s.size-1-(e+1))≤N+1:=by
 show 0+(s.size-1-(e+1))≤N+1
 omega
theorem gap2 (s:ByteArray) (N B k:Nat) (hs:s.size≤N) (h:B+N+1<k) (e:Nat):B+(s.size-1-(e+1))+1<k:=by omega
theorem l1_step (s:ByteArray) (n:Nat) (how:Int) (hs:s.size≤700) (hn:n≤s.size) (hh:1≤how∧how≤4) (R:Ans) (B:Nat) (hB:3000≤B)
  (hnext:∀ k,B<k→transhipmentref04_Parse.l1 k s (n:Int) (how+1)=some R) (k:Nat) (hk:B+710<k):transhipmentref04_Parse.l1 k s (n:Int) how=some (ansW s n how R):=by
 obtain ⟨k,rfl⟩:∃ j,k=j+1:=⟨k-1,by omega⟩
 obtain ⟨k',hk'⟩:∃ j,k=j+1:=⟨k-1,by omega⟩
 have hsg:=sign_size how
 have hwh:wrap64 (how+1)=how+1:=wrap_id (by omega) (by omega)
 have he0:=gap0 s 700 hs
 have he1:=gap1 s 700 hs
 have he2:=gap2 s 700 B k' hs (by omega)
 obtain ⟨e,he⟩:∃ e,e=n+(signOf how).size:=⟨_,rfl⟩
 have HWJ:Aside0 (wrap64 ((e:Int)+1)=((e+1:Nat):Int)):=⟨(wrap_id (by omega) (by omega)).trans (by omega)⟩
 have hwe:wrap64 ((n:Int)+((signOf how).size:Int))=(e:Int):=(wrap_id (by omega) (by omega)).trans (by omega)
 have hj3t:∀ (x7:Int) (a:ByteArray) (b:Int),transhipmentref04_Parse.j3 k s (n:Int) how x7 true a b=some R:=by
  intro x7 a b
  rw [hk']
  simp only [transhipmentref04_Parse.j3]
  rw [if_pos trivial,hwh,hnext k' (by omega)]
 simp only [transhipmentref04_Parse.l1]
 rw [if_pos (by omega),if_pos (by omega),if_pos (by omega),refsign_eq hh,Option.bind_some,hwe,hj3t]
 unfold ansW tryW
 rw [← he]
 by_cases h1:s.size≤e
 ·rw [if_pos (by omega),if_pos h1]
 ·rw [if_neg (by omega),if_neg h1,if_pos (by omega),if_pos (by omega),Option.bind_some,Int.toNat_natCast,Int.toNat_natCast]
  by_cases h2:s.extract n e=signOf how
  ·rw [if_pos (by rw [h2]),if_pos (by omega),if_pos (by omega),if_neg (not_not_intro h2)]
   by_cases h3:bt s (e:Int)=34
   ·have hl:=l2_from s (s.extract 0 n) (n:Int) how hs (ext_size s n 700 hs) hh R B hB hnext (s.size-1-(e+1)) k' (e+1) ⟨#[]⟩ [] rfl (he0 e) (he1 e) (by simp) (he2 e)
    have hb:(bt s (e:Int) != 34)=false:=by simp [h3]
    have hwi:wrap64 ((e:Int)+1)=((e+1:Nat):Int):=HWJ.out
    rw [if_neg (not_not_intro h3),hb,hk']
    simp only [transhipmentref04_Parse.j3]
    rw [if_neg (by decide),hwi,hl,List.nil_append]
    split<;>rfl
   ·have hb:(bt s (e:Int) != 34)=true:=by simp [h3]
    rw [if_pos h3,hb,hj3t]
  ·rw [if_neg (fun h=>h2 (tl_eq.1 h)),if_pos h2]
def ans1 (s:ByteArray) (n:Nat):Ans:=ansW s n 1 (ansW s n 2 (ansW s n 3 (ansW s n 4 (⟨#[]⟩,0,[],false))))
theorem l1_all (s:ByteArray) (n:Nat) (hs:s.size≤700) (hn:n≤s.size) (k:Nat) (hk:6000<k):transhipmentref04_Parse.l1 k s (n:Int) 1=some (ans1 s n):=by
 have h5:∀ k,3000<k→transhipmentref04_Parse.l1 k s (n:Int) (4+1)=some (⟨#[]⟩,0,[],false):=by
  intro k hk
  obtain ⟨k,rfl⟩:∃ j,k=j+1:=⟨k-1,by omega⟩
  simp only [transhipmentref04_Parse.l1]
  rw [if_neg (by decide)]
 have h4:=fun k hk=>l1_step s n 4 hs hn (by decide) _ 3000 (by decide) h5 k hk
 have h3:=fun k hk=>l1_step s n 3 hs hn (by decide) _ 3710 (by decide) h4 k hk
 have h2:=fun k hk=>l1_step s n 2 hs hn (by decide) _ 4420 (by decide) h3 k hk
 exact l1_step s n 1 hs hn (by decide) _ 5130 (by decide) h2 k (by omega)
def endN (s:ByteArray):Nat→Nat→Nat
 | 0,i=>i
 | d+1,i=>if bt s (i:Int)=61∨bt s (i:Int)=33 then i else endN s d (i+1)
theorem l0_from (s:ByteArray) (hs:s.size≤700) (d:Nat):∀ (k i:Nat),i+d=s.size→6010+d<k→transhipmentref04_Parse.l0 k s (i:Int)=some (ans1 s (endN s d i)):=by
 have hj:∀ (k i:Nat),i≤s.size→6001<k→transhipmentref04_Parse.j1 k s (i:Int)=some (ans1 s i):=by
  intro k i hi hk
  obtain ⟨k,rfl⟩:∃ j,k=j+1:=⟨k-1,by omega⟩
  simp only [transhipmentref04_Parse.j1]
  exact l1_all s i hs hi k (by omega)
 induction d with
 | zero =>
  intro k i hi hk
  obtain ⟨k,rfl⟩:∃ j,k=j+1:=⟨k-1,by omega⟩
  simp only [transhipmentref04_Parse.l0]
  rw [if_neg (by omega)]
  exact hj k i (by omega) (by omega)
 | succ d ih =>
  intro k i hi hk
  obtain ⟨k,rfl⟩:∃ j,k=j+1:=⟨k-1,by omega⟩
  have hr:=ih k (i+1) (by omega) (by omega)
  rw [Int.natCast_succ] at hr
  simp only [transhipmentref04_Parse.l0]
  rw [if_pos (by omega),if_pos (by omega),wrap_id (n:=(i:Int)+1) (by omega) (by omega),hr,hj k i (by omega) (by omega)]
  have hE:endN s (d+1) i=if bt s (i:Int)=61∨bt s (i:Int)=33 then i else endN s d (i+1):=rfl
  rw [hE]
  by_cases h1:bt s (i:Int)=61
  ·rw [if_pos h1,if_pos (.inl h1)]
  ·rw [if_neg h1]
   by_cases h2:bt s (i:Int)=33
   ·rw [if_pos h2,if_pos (.inr h2)]
   ·rw [if_neg h2,if_neg (fun h=>h.elim h1 h2)]
theorem try_sound {s:ByteArray} {n:Nat} {how:Int} {ws:List ByteArray} (h:tryW s n how=some ws):parseB s=(s.extract 0 n,how,ws,0):=by
 unfold tryW at h
 split at h
 ·cases h
 ·split at h
  ·cases h
  ·split at h
   ·cases h
   ·split at h
    ·rename_i hc
     obtain rfl:=Option.some.inj h
     have:=parse_text hc.1
     rw [hc.2] at this
     exact this
    ·cases h
theorem bt_lst (s:ByteArray) (i:Nat) (a:List UInt8) (c:UInt8) (b:List UInt8) (hs:lst s=a++c::b) (hi:a.length=i):bt s (i:Int)=(c.toNat:Int):=by
 have hl:i<s.size:=by rw [← lst_len,hs];simp;omega
 unfold bt
 rw [Int.toNat_natCast,dif_pos hl]
 have e:(s[i]'hl)=(lst s)[i]'(by rw [lst_len];exact hl):=rfl
 rw [e]
 have:(lst s)[i]?=some c:=by rw [hs,List.getElem?_append_right (by omega),hi,Nat.sub_self];rfl
 rw [List.getElem?_eq_getElem (by rw [lst_len];exact hl)] at this
 rw [Option.some.inj this]
theorem sign_first {how:Int} (h:1≤how∧how≤4):∃ c t,lst (signOf how)=c::t∧(c=61∨c=33):=by
 have h1:how=1∨how=2∨how=3∨how=4:=by omega
 rcases h1 with rfl|rfl|rfl|rfl
 ·exact ⟨61,[],by decide,.inl rfl⟩
 ·exact ⟨33,[61],by decide,.inr rfl⟩
 ·exact ⟨61,[126],by decide,.inl rfl⟩
 ·exact ⟨33,[126],by decide,.inr rfl⟩
theorem endN_name (s:ByteArray) (a:List UInt8) (c:UInt8) (b:List UInt8) (hs:lst s=a++c::b) (hc:c=61∨c=33) (ha:∀ x∈a,x≠61∧x≠33) (d:Nat):∀ i,i≤a.length→i+d=s.size→endN s d i=a.length:=by
 have hl:s.size=a.length+(b.length+1):=by rw [← lst_len,hs];simp
 induction d with
 | zero=>intro i hi hd;omega
 | succ d ih =>
  intro i hi hd
  unfold endN
  by_cases h:i=a.length
  ·rw [if_pos]
   ·exact h
   ·rw [bt_lst s i a c b hs h.symm]
    rcases hc with rfl|rfl
    ·exact .inl rfl
    ·exact .inr rfl
  ·have hi2:i<a.length:=by omega
   have e:lst s=a.take i++a[i]::(a.drop (i+1)++c::b):=by
    have this:a.take i++a[i]::a.drop (i+1)=a:=by rw [← List.drop_eq_getElem_cons hi2,List.take_append_drop]
    calc lst s=a++c::b:=hs
     _=(a.take i++a[i]::a.drop (i+1))++c::b:=by rw [this]
     _=_:=by simp only [List.append_assoc,List.cons_append]
   rw [if_neg]
   ·exact ih (i+1) (by omega) (by omega)
   ·rw [bt_lst s i (a.take i) _ _ e (by rw [List.length_take];omega)]
    have:=ha _ (List.getElem_mem hi2)
    rintro (h2|h2)
    ·exact this.1 (UInt8.toNat_inj.1 (by show a[i].toNat=61;omega))
    ·exact this.2 (UInt8.toNat_inj.1 (by show a[i].toNat=33;omega))
theorem try_full {nm:ByteArray} {how:Int} {ws:List ByteArray} (h:mrightB nm how ws=true) :
  endN (mtextB nm how ws) (mtextB nm how ws).size 0=nm.size∧(mtextB nm how ws).extract 0 nm.size=nm∧tryW (mtextB nm how ws) nm.size how=some ws:=by
 obtain ⟨h1,h2,h3,h4,h5,h6,h7⟩:=mright_parts h
 obtain ⟨s,hs⟩:∃ s,s=mtextB nm how ws:=⟨_,rfl⟩
 rw [← hs]
 have hl:lst s=lst nm++(lst (signOf how)++34::(lst (joinT ws ⟨#[124]⟩)++[34])):=by
  rw [hs]
  unfold mtextB
  simp [lst_append]
 obtain ⟨c,t,hc,hc2⟩:=sign_first h3
 have hend:endN s s.size 0=nm.size:=by
  rw [← lst_len nm]
  exact endN_name s (lst nm) c (t++34::(lst (joinT ws ⟨#[124]⟩)++[34])) (by rw [hl,hc];rfl) hc2 (fun x hx=>⟨(name_byte h2 hx).2.2.1,(name_byte h2 hx).1⟩) s.size 0 (Nat.zero_le _) (Nat.zero_add _)
 have hnm:s.extract 0 nm.size=nm:=by
  apply lst_inj
  rw [lst_take,hl,← lst_len nm,List.take_left]
 refine ⟨hend,hnm,?_⟩
 have hsz:s.size=nm.size+((signOf how).size+((joinT ws ⟨#[124]⟩).size+2)):=by
  rw [← lst_len s,hl]
  simp only [List.length_append,List.length_cons,lst_len,List.length_nil]
 have hsg:s.extract nm.size (nm.size+(signOf how).size)=signOf how:=by
  apply lst_inj
  show (s.extract nm.size (nm.size+(signOf how).size)).data.toList=_
  rw [Lib.extract_data,Nat.add_sub_cancel_left]
  show ((lst s).drop nm.size).take (signOf how).size=_
  rw [hl,← lst_len nm,List.drop_left,← lst_len (signOf how),List.take_left]
 have hb:bt s ((nm.size+(signOf how).size:Nat):Int)=34 :=
  bt_lst s _ (lst nm++lst (signOf how)) 34 (lst (joinT ws ⟨#[124]⟩)++[34]) (by rw [hl];simp) (by rw [List.length_append,lst_len,lst_len])
 have hm:midL s (nm.size+(signOf how).size+1)=lst (joinT ws ⟨#[124]⟩):=by
  unfold midL
  have e:(lst s).take (s.size-1)=(lst nm++(lst (signOf how)++[34]))++lst (joinT ws ⟨#[124]⟩):=by
   have e2:lst s=((lst nm++(lst (signOf how)++[34]))++lst (joinT ws ⟨#[124]⟩))++[34]:=by rw [hl];simp
   rw [e2]
   exact List.take_left' (by simp only [List.length_append,List.length_cons,lst_len,List.length_nil];omega)
  rw [e]
  exact List.drop_left' (by simp only [List.length_append,List.length_cons,lst_len,List.length_nil];omega)
 have hw:wsp ⟨#[]⟩ (lst (joinT ws ⟨#[124]⟩))=ws:=by
  cases ws with
  | nil=>simp at h4
  | cons x ws =>
   refine wsp_join ws x fun w hw=>?_
   obtain ⟨i,hi,rfl⟩:=mem_wd hw
   intro hc
   exact (word_byte (h6 i hi) hc).2 rfl
 unfold tryW
 rw [if_neg (by omega),if_neg (not_not_intro hsg),if_neg (not_not_intro hb),hm,hw,hnm,if_pos ⟨h,hs.symm⟩]
theorem refparse_eq (s:ByteArray) (hs:s.size≤700) (k:Nat) (hk:7000<k) :
  transhipmentref04_Parse.f k s=some (if (parseB s).2.2.2=0 then ((parseB s).1,(parseB s).2.1,(parseB s).2.2.1,true) else (⟨#[]⟩,0,[],false)):=by
 refine (l0_from s hs s.size k 0 (Nat.zero_add _) (by omega)).trans ?_
 rcases parse_cases s with ⟨h1,h2,h3⟩|h
 ·obtain ⟨nm,how,ws,e,hp⟩:∃ nm how ws e,parseB s=(nm,how,ws,e):=⟨_,_,_,_,rfl⟩
  rw [hp] at h1 h2 h3 ⊢
  dsimp only at h1 h2 h3 ⊢
  rw [if_pos h3]
  obtain ⟨f1,f2,f3⟩:=try_full h1
  rw [h2] at f1 f2 f3
  rw [f1]
  have no:∀ b,b≠how→tryW s nm.size b=none:=by
   intro b hb
   cases ht:tryW s nm.size b with
   | none=>rfl
   | some ws' =>
    have:=try_sound ht
    rw [hp] at this
    simp only [Prod.mk.injEq] at this
    exact absurd this.2.1.symm hb
  obtain ⟨r1,r2,r3,r4⟩:=mright_parts h1
  have h4:how=1∨how=2∨how=3∨how=4:=by omega
  unfold ans1 ansW
  rcases h4 with rfl|rfl|rfl|rfl
  ·rw [f3,f2]
  ·rw [no 1 (by decide),f3,f2]
  ·rw [no 1 (by decide),no 2 (by decide),f3,f2]
  ·rw [no 1 (by decide),no 2 (by decide),no 3 (by decide),f3,f2]
 ·rw [h]
  dsimp only
  rw [if_neg (by decide)]
  have no:∀ n b,tryW s n b=none:=by
   intro n b
   cases ht:tryW s n b with
   | none=>rfl
   | some ws' =>
    have:=try_sound ht
    rw [h] at this
    simp only [Prod.mk.injEq] at this
    exact absurd this.2.2.2 (by decide)
  unfold ans1 ansW
  rw [no,no,no,no]
end Go.Proofs.YtnbbfjddjmklpaaDoor.P

/- Any matcher's text, and what any text is read as, is as the document says: in plain Lean. Conditions: none. -/
set_option linter.unusedVariables false
namespace Go.Proofs.YtnbbfjddjmklpaaDoor.Pure
open Go.Proofs.YtnbbfjddjmklpaaDoor.P Go.RowKit Go.Proofs.YtnbbfjddjmklpaaDoorW.PrintWords Go.Proofs.YtnbbfjddjmklpaaDoorW.PrintLast Go.Proofs.YtnbbfjddjmklpaaDoorW.PrintMore

theorem cutW_size {ws:List ByteArray}:∀ x∈cutW ws,x.size≤70:=by
 intro x hx
 unfold cutW at hx
 obtain ⟨y,_,rfl⟩:=List.mem_map.1 hx
 exact cut70_size y
theorem texts_end (nm:ByteArray) (how:Int) (ws:List ByteArray) (hn:nm.size≤70) (hl:ws.length≤10) (hz:∀ x∈ws,x.size≤70) (k:Nat) (hk:1000<k) (t:ByteArray) (e:Int)
  (h:(if mrightB nm how ws=true then (mtextB nm how ws,(0:Int)) else (⟨#[]⟩,1))=(t,e)):transhipmentlaw04_MatcherTexts.j0 k t e (!true) nm how ws=some true:=by
 obtain ⟨k,rfl⟩:∃ j,k=j+1:=⟨k-1,by omega⟩
 simp only [transhipmentlaw04_MatcherTexts.j0]
 rw [if_neg (by decide),refright_eq4 nm how ws 70 (by decide) hn hz (by omega) k (by omega),Option.bind_some]
 cases hr:mrightB nm how ws with
 | true =>
  rw [hr,if_pos rfl] at h
  simp only [Prod.mk.injEq] at h
  obtain ⟨h1,h2⟩:=h
  obtain ⟨r1,r2,r3,r4⟩:=mright_parts hr
  rw [if_pos rfl,if_pos h2.symm,reftext_eq nm how ws r3 70 (by decide) hn hz (by omega) k (by omega),Option.bind_some,h1]
  simp
 | false =>
  rw [hr,if_neg (by decide)] at h
  simp only [Prod.mk.injEq] at h
  obtain ⟨h1,h2⟩:=h
  have h0:(⟨#[]⟩:ByteArray).toList=([]:List UInt8):=by rw [ByteArray.toList_eq]
  rw [if_neg (by decide),if_pos h2.symm,← h1,h0]
  rfl
theorem MatcherTexts (nm:ByteArray) (how:Int) (ws:List ByteArray) (s:ByteArray) (hw:(Lit.int .i64 how).wf=true):∃ k,transhipmentlaw04_MatcherTexts.f k nm how ws s=some true:=by
 refine ⟨1200000,?_⟩
 obtain ⟨m1,m2,m3⟩:=mn_le s.size 700
 have hz:(s.extract 0 (mn (s.size:Int) 700).toNat).size≤700:=by
  have e:(mn (s.size:Int) 700).toNat=min s.size 700:=m3
  rw [ByteArray.size_extract];omega
 unfold transhipmentlaw04_MatcherTexts.f
 rw [cut_eq nm how ws 1200000 (by decide),Option.bind_some,if_pos (by exact m1),if_pos (by exact m2)]
 dsimp only
 have hn:=cut70_size nm
 have hl:=cutW_length ws
 have hx:=cutW_size (ws:=ws)
 generalize s.extract 0 (mn (s.size:Int) 700).toNat=s' at *
 generalize cut70 nm=nm' at *
 generalize cutW ws=ws' at *
 have hend:=texts_end nm' how ws' hn hl hx 1200000 (by decide)
 rw [mtext_eq nm' how ws' hw (by omega) (by unfold maxLen;omega) 1200000 (by omega),Option.bind_some,parse_f (by omega),Option.bind_some,refparse_eq s' hz 1200000 (by decide),Option.bind_some,alive_eq]
 obtain ⟨t,e,he⟩:∃ t e,(if mrightB nm' how ws'=true then (mtextB nm' how ws',(0:Int)) else (⟨#[]⟩,1))=(t,e):=⟨_,_,rfl⟩
 have hfin:=hend t e he
 rw [he]
 dsimp only
 rcases parse_cases s' with ⟨h1,h2,h3⟩|h
 ·obtain ⟨r1,r2,r3,r4,r5,r6⟩:=mright_parts h1
  rw [if_pos h3]
  dsimp only
  rw [if_pos rfl,if_pos h3,reflike_eq _ _ _ _ _ _ (by unfold maxLen;omega) 1200000 (by omega),Option.bind_some,if_pos (by simp),Option.bind_some]
  exact hfin
 ·rw [h]
  dsimp only
  rw [if_neg (show ¬ ((6:Int)=0) by decide)]
  dsimp only
  rw [if_neg (by decide),if_pos rfl,reflike_eq _ _ _ _ _ _ (by unfold maxLen;simp) 1200000 (by simp),Option.bind_some,if_pos (by simp),Option.bind_some]
  exact hfin
end Go.Proofs.YtnbbfjddjmklpaaDoor.Pure
