/- What these functions of the program and of the plain reference compute, and plain lemmas on it: MatcherLaw4, PureMatcherOpposes. Conditions: as each lemma says. -/
import Derived.Test.YtnbbfjddjmklpaaDoorMLawMatcherOpposes3
import Derived.Test.YtnbbfjddjmklpaaDoorMLawMatcherOpposes0
import Derived.Test.YtnbbfjddjmklpaaDoorMLawMatcherOpposes4
import Derived.Test.YtnbbfjddjmklpaaDoorMLawMatcherOpposes5
/- What the law functions' helpers come to, in plain words. Conditions: as each lemma says. -/
set_option linter.unusedVariables false
set_option linter.unusedSimpArgs false
namespace Go.Proofs.YtnbbfjddjmklpaaDoor.P
open Go.RowKit Go.Proofs.YtnbbfjddjmklpaaDoorW.PrintWords Go.Proofs.YtnbbfjddjmklpaaDoorW.PrintLast Go.Proofs.YtnbbfjddjmklpaaDoorW.PrintMore

def cut70 (s:ByteArray):ByteArray:=s.extract 0 (mn (s.size:Int) 70).toNat
def cutW (ws:List ByteArray):List ByteArray:=(ws.take 10).map cut70
def few1 (x:S46):S46:=⟨cut70 x.f0,cut70 x.f1⟩
def fewL (l:List S46):List S46:=(l.take 10).map few1
theorem mn_le (a b:Nat):0≤mn (a:Int) (b:Int)∧mn (a:Int) (b:Int)≤(a:Int)∧(mn (a:Int) (b:Int)).toNat=min a b:=by
 rw [mn_nat]
 omega
theorem cut70_size (s:ByteArray):(cut70 s).size≤70:=by
 unfold cut70
 have:=(mn_le s.size 70).2.2
 rw [ByteArray.size_extract]
 have e:(mn (s.size:Int) 70).toNat=min s.size 70:=this
 omega
theorem cutW_length (ws:List ByteArray):(cutW ws).length≤10:=by unfold cutW;rw [List.length_map,List.length_take];omega
theorem drop_wd {ws:List ByteArray} {i:Nat} (h:i<ws.length):ws.drop i=wd ws i::ws.drop (i+1):=by
 rw [List.drop_eq_getElem_cons h]
 unfold wd
 rw [List.getD_eq_getElem?_getD,List.getElem?_eq_getElem h]
 rfl
theorem drop_lab {l:List S46} {i:Nat} (h:i<l.length):l.drop i=lab l i::l.drop (i+1):=by
 rw [List.drop_eq_getElem_cons h]
 unfold lab
 rw [List.getD_eq_getElem?_getD,List.getElem?_eq_getElem h]
 rfl
theorem cut_from (y:List ByteArray) (nm:ByteArray) (how:Int) (hy:y.length≤10) (d:Nat):∀ (k i:Nat) (out:List ByteArray),i+d=y.length→out.length≤i→d<k →
  transhipmentlaw04_cut.l0 k y (y.length:Int) (i:Int) nm how out=some (nm,how,out++(y.drop i).map cut70):=by
 induction d with
 | zero =>
  intro k i out hi ho hk
  obtain ⟨k,rfl⟩:∃ j,k=j+1:=⟨k-1,by omega⟩
  simp only [transhipmentlaw04_cut.l0]
  rw [if_neg (by omega),List.drop_eq_nil_of_le (by omega),List.map_nil,List.append_nil]
 | succ d ih =>
  intro k i out hi ho hk
  obtain ⟨k,rfl⟩:∃ j,k=j+1:=⟨k-1,by omega⟩
  obtain ⟨m1,m2,m3⟩:=mn_le (wd y i).size 70
  have hr:=ih k (i+1) (out++[cut70 (wd y i)]) (by omega) (by rw [List.length_append,List.length_singleton];omega) (by omega)
  rw [Int.natCast_succ] at hr
  simp only [transhipmentlaw04_cut.l0]
  rw [rd_wd,if_pos (by omega),if_pos (by omega),if_pos (by omega),if_pos (by exact m1),if_pos (by exact m2),if_pos (by omega),wrap_id (n:=(i:Int)+1) (by omega) (by omega)]
  refine hr.trans ?_
  rw [drop_wd (i:=i) (by omega),List.map_cons,List.append_assoc]
  rfl
theorem cut_eq (nm:ByteArray) (how:Int) (ws:List ByteArray) (k:Nat) (hk:11<k):transhipmentlaw04_cut.f k nm how ws=some (cut70 nm,how,cutW ws):=by
 unfold transhipmentlaw04_cut.f
 obtain ⟨m1,m2,m3⟩:=mn_le nm.size 70
 obtain ⟨n1,n2,n3⟩:=mn_le ws.length 10
 have h3:(mn (ws.length:Int) 10).toNat=min ws.length 10:=n3
 rw [if_pos (by exact m1),if_pos (by exact m2),if_pos (by exact n1),if_pos (by exact n2),Option.bind_some]
 have hr:=cut_from (ws.take (mn (ws.length:Int) 10).toNat) (nm.extract 0 (mn (nm.size:Int) 70).toNat) how (by rw [List.length_take];omega) _ k 0 [] (Nat.zero_add _) (Nat.le_refl _) (by rw [List.length_take];omega)
 refine hr.trans ?_
 rw [List.drop_zero,List.nil_append]
 have e:ws.take (mn (ws.length:Int) 10).toNat=ws.take 10:=by
  rw [h3]
  by_cases h:ws.length≤10
  ·rw [Nat.min_eq_left h,List.take_of_length_le (Nat.le_refl _),List.take_of_length_le h]
  ·rw [Nat.min_eq_right (by omega)]
 rw [e]
 rfl
theorem few_from (y:List S46) (hy:y.length≤10) (d:Nat):∀ (k i:Nat) (out:List S46),i+d=y.length→out.length≤i→d<k →
  transhipmentlaw04_few.l0 k out y (y.length:Int) (i:Int)=some (out++(y.drop i).map few1):=by
 induction d with
 | zero =>
  intro k i out hi ho hk
  obtain ⟨k,rfl⟩:∃ j,k=j+1:=⟨k-1,by omega⟩
  simp only [transhipmentlaw04_few.l0]
  rw [if_neg (by omega),List.drop_eq_nil_of_le (by omega),List.map_nil,List.append_nil]
 | succ d ih =>
  intro k i out hi ho hk
  obtain ⟨k,rfl⟩:∃ j,k=j+1:=⟨k-1,by omega⟩
  obtain ⟨m1,m2,m3⟩:=mn_le (lab y i).f0.size 70
  obtain ⟨n1,n2,n3⟩:=mn_le (lab y i).f1.size 70
  have hr:=ih k (i+1) (out++[few1 (lab y i)]) (by omega) (by rw [List.length_append,List.length_singleton];omega) (by omega)
  rw [Int.natCast_succ] at hr
  simp only [transhipmentlaw04_few.l0]
  rw [rd_lab,if_pos (by omega),if_pos (by omega),if_pos (by omega),if_pos (by exact m1),if_pos (by exact m2),if_pos (by exact n1),if_pos (by exact n2),if_pos (by omega),wrap_id (n:=(i:Int)+1) (by omega) (by omega)]
  refine hr.trans ?_
  rw [drop_lab (i:=i) (by omega),List.map_cons,List.append_assoc]
  rfl
theorem few_eq (l:List S46) (k:Nat) (hk:11<k):transhipmentlaw04_few.f k l=some (fewL l):=by
 unfold transhipmentlaw04_few.f
 obtain ⟨n1,n2,n3⟩:=mn_le l.length 10
 have h3:(mn (l.length:Int) 10).toNat=min l.length 10:=n3
 rw [if_pos (by exact n1),if_pos (by exact n2),Option.bind_some]
 have hr:=few_from (l.take (mn (l.length:Int) 10).toNat) (by rw [List.length_take];omega) _ k 0 [] (Nat.zero_add _) (Nat.le_refl _) (by rw [List.length_take];omega)
 refine hr.trans ?_
 rw [List.drop_zero,List.nil_append]
 have e:l.take (mn (l.length:Int) 10).toNat=l.take 10:=by
  rw [h3]
  by_cases h:l.length≤10
  ·rw [Nat.min_eq_left h,List.take_of_length_le (Nat.le_refl _),List.take_of_length_le h]
  ·rw [Nat.min_eq_right (by omega)]
 rw [e]
 rfl
theorem alive_eq:transhipmentlaw04_alive.f=some true:=by decide +kernel
theorem how_wf {how:Int} (h:1≤how∧how≤4):(Lit.int .i64 how).wf=true:=by
 have h1:how=1∨how=2∨how=3∨how=4:=by omega
 rcases h1 with rfl|rfl|rfl|rfl<;>decide +kernel
end Go.Proofs.YtnbbfjddjmklpaaDoor.P

/- A matcher and its opposite never hold both, and one does; all of some hold just if each does: in plain Lean. Conditions: none. -/
set_option linter.unusedVariables false
namespace Go.Proofs.YtnbbfjddjmklpaaDoor.Pure
open Go.Proofs.YtnbbfjddjmklpaaDoor.P Go.RowKit Go.Proofs.YtnbbfjddjmklpaaDoorW.PrintWords Go.Proofs.YtnbbfjddjmklpaaDoorW.PrintLast Go.Proofs.YtnbbfjddjmklpaaDoorW.PrintMore

theorem few_small4 (l:List S46):smallSet (fewL l)=true:=by
 unfold smallSet fewL
 rw [List.all_eq_true]
 intro x hx
 obtain ⟨y,_,rfl⟩:=List.mem_map.1 hx
 have h1:=cut70_size y.f0
 have h2:=cut70_size y.f1
 rw [Bool.and_eq_true,decide_eq_true_eq,decide_eq_true_eq]
 show (cut70 y.f0).size≤1000000∧(cut70 y.f1).size≤1000000
 omega
def rightM (x:S24):Bool:=mrightB x.f0 x.f1 x.f2
theorem holds_all {l:List S46} {ms:List S24} (hs:smallSet l=true) (hl:setB l=true) (hr:∀ x∈ms,rightM x=true) :
  matcher_Holds.f l ms=some (!ms.any (failsB l),0):=by
 have hm:smallMs ms=true:=by
  unfold smallMs
  rw [List.all_eq_true]
  intro x hx
  obtain ⟨r1,r2,r3,r4⟩:=mright_parts (hr x hx)
  rw [Bool.and_eq_true,decide_eq_true_eq]
  exact ⟨how_wf r3,by omega⟩
 have hn:ms.any (fun x=>!mrightB x.f0 x.f1 x.f2)=false:=by
  rw [List.any_eq_false]
  intro x hx
  have h:mrightB x.f0 x.f1 x.f2=true:=hr x hx
  rw [h]
  decide
 unfold matcher_Holds.f holdsB
 rw [if_pos ⟨hs,hm⟩,if_pos ⟨hl,hn⟩]
theorem holds_none {l:List S46} {nm:ByteArray} {how:Int} {ws:List ByteArray} (hs:smallSet l=true) (hm:smallMs [⟨nm,how,ws⟩]=true) (h:¬(setB l=true∧mrightB nm how ws=true)) :
  matcher_Holds.f l [⟨nm,how,ws⟩]=some (false,1):=by
 unfold matcher_Holds.f holdsB
 rw [if_pos ⟨hs,hm⟩,if_neg]
 rintro ⟨h1,h2⟩
 exact h ⟨h1,by simpa using h2⟩
theorem opp_from (l:List S46) (hs:smallSet l=true) (hl:setB l=true) (y:List S24) (hy:y.length≤4) (hw:∀ x∈y,(Lit.int .i64 x.f1).wf=true) (d:Nat) :
  ∀ (k i:Nat) (all:List S24),i+d=y.length→all.length≤i+1→(∀ x∈all,rightM x=true)→1000100+d<k →
  transhipmentlaw04_MatcherOpposes.l0 k l (!all.any (failsB l)) all y (y.length:Int) (i:Int)=some true:=by
 induction d with
 | zero =>
  intro k i all hi ha hr hk
  obtain ⟨k,rfl⟩:∃ j,k=j+1:=⟨k-1,by omega⟩
  simp only [transhipmentlaw04_MatcherOpposes.l0]
  rw [if_neg (by omega),holds_all hs hl hr,Option.bind_some,if_pos rfl]
  cases all.any (failsB l)<;>rfl
 | succ d ih =>
  intro k i all hi ha hr hk
  obtain ⟨k,rfl⟩:∃ j,k=j+1:=⟨k-1,by omega⟩
  have hx:(Lit.int .i64 (rd_T24 y (i:Int)).f1).wf=true:=by
   unfold rd_T24
   rw [Int.toNat_natCast,List.getD_eq_getElem?_getD,List.getElem?_eq_getElem (by omega)]
   exact hw _ (List.getElem_mem _)
  have hr':=fun al h1 h2=>ih k (i+1) al (by omega) h1 h2 (by omega)
  rw [Int.natCast_succ] at hr'
  simp only [transhipmentlaw04_MatcherOpposes.l0]
  rw [if_pos (by omega),if_pos (by omega),if_pos (by omega),wrap_id (n:=(i:Int)+1) (by omega) (by omega)]
  generalize rd_T24 y (i:Int)=x at *
  have hn:=cut70_size x.f0
  have hc:=cutW_length x.f2
  rw [cut_eq x.f0 x.f1 x.f2 k (by omega),Option.bind_some]
  dsimp only
  rw [mright_eq (cut70 x.f0) x.f1 (cutW x.f2) hx (by omega) (by unfold maxLen;omega) k (by omega),Option.bind_some]
  cases hm:mrightB (cut70 x.f0) x.f1 (cutW x.f2) with
  | false =>
   rw [if_neg (by decide)]
   exact hr' all (by omega) hr
  | true =>
   have h1:∀ z∈[(⟨cut70 x.f0,x.f1,cutW x.f2⟩:S24)],rightM z=true:=by
    intro z hz
    rw [List.mem_singleton] at hz
    subst hz
    exact hm
   rw [if_pos rfl,holds_all hs hl h1,Option.bind_some]
   dsimp only
   rw [if_pos rfl,if_pos (by omega),Option.bind_some]
   generalize (⟨cut70 x.f0,x.f1,cutW x.f2⟩:S24)=z at *
   have h2:=hr' (all++[z]) (by rw [List.length_append,List.length_singleton];omega) (by
    intro u hu
    rcases List.mem_append.1 hu with hu|hu
    ·exact hr u hu
    ·exact h1 u hu)
   rw [List.any_append] at h2
   revert h2
   cases all.any (failsB l)<;>intro h2
   ·exact h2
   ·exact h2
theorem opp_main (l:List S46) (hs:smallSet l=true) (hl:setB l=true) (more:List S24) (hw:∀ x∈more,(Lit.int .i64 x.f1).wf=true)
  (nm:ByteArray) (how other:Int) (ws:List ByteArray) (hr:mrightB nm how ws=true) (ho:mrightB nm other ws=true) (hf:failsB l ⟨nm,other,ws⟩=!failsB l ⟨nm,how,ws⟩) (k:Nat) (hk:1000110<k) :
  transhipmentlaw04_MatcherOpposes.j0 (k+2) l more (!failsB l ⟨nm,how,ws⟩) nm how ws nm other ws=some true:=by
 have one:∀ (h:Int),mrightB nm h ws=true→∀ z∈[(⟨nm,h,ws⟩:S24)],rightM z=true:=by
  intro h hm z hz
  rw [List.mem_singleton] at hz
  subst hz
  exact hm
 have e1:∀ z:S24,[z].any (failsB l)=failsB l z:=by intro z;simp
 obtain ⟨m1,m2,m3⟩:=mn_le more.length 4
 have m3':(mn (more.length:Int) 4).toNat=min more.length 4:=m3
 simp only [transhipmentlaw04_MatcherOpposes.j0]
 rw [holds_all hs hl (one other ho),e1,hf,Option.bind_some]
 dsimp only
 rw [if_pos rfl,if_neg (by cases failsB l ⟨nm,how,ws⟩<;>decide),alive_eq,Option.bind_some]
 simp only [transhipmentlaw04_MatcherOpposes.j1]
 rw [if_neg (by decide),if_pos (by exact m1),if_pos (by exact m2),Option.bind_some]
 have h:=opp_from l hs hl (more.take (mn (more.length:Int) 4).toNat) (by rw [List.length_take];omega) (fun x hx=>hw x (List.mem_of_mem_take hx)) _ k 0 [⟨nm,how,ws⟩] (Nat.zero_add _) (by simp) (one how hr) (by rw [List.length_take];omega)
 rw [e1] at h
 exact h
theorem MatcherOpposes (l:List S46) (nm:ByteArray) (how:Int) (ws:List ByteArray) (more:List S24) (hw:(Lit.int .i64 how).wf=true) (h2:∀ x∈more,(Lit.int .i64 x.f1).wf=true) :
  ∃ k,transhipmentlaw04_MatcherOpposes.f k l nm how ws more=some true:=by
 refine ⟨1000200,?_⟩
 unfold transhipmentlaw04_MatcherOpposes.f
 rw [few_eq l 1000200 (by decide),Option.bind_some,cut_eq nm how ws 1000200 (by decide),Option.bind_some]
 dsimp only
 have hs:=few_small4 l
 have hn:=cut70_size nm
 have hl:=cutW_length ws
 generalize cut70 nm=nm' at *
 generalize cutW ws=ws' at *
 generalize fewL l=l' at *
 by_cases hc:setB l'=true∧mrightB nm' how ws'=true
 ·have one:∀ z∈[(⟨nm',how,ws'⟩:S24)],rightM z=true:=by
   intro z hz
   rw [List.mem_singleton] at hz
   subst hz
   exact hc.2
  have e1:[(⟨nm',how,ws'⟩:S24)].any (failsB l')=failsB l' ⟨nm',how,ws'⟩:=by simp
  obtain ⟨r1,r2,r3,r4⟩:=mright_parts hc.2
  rw [holds_all hs hc.1 one,e1,Option.bind_some]
  dsimp only
  rw [if_pos rfl]
  have hr:=hc.2
  have sw:∀ a b:Int,mostB a=mostB b→isSign a=true→isSign b=true→mrightB nm' a ws'=true→mrightB nm' b ws'=true:=by
   intro a b e1 e2 e3 h
   unfold mrightB at h ⊢
   rw [← e1,e3]
   rw [e2] at h
   exact h
  have go:=fun other h1 h2'=>opp_main l' hs hc.1 more h2 nm' how other ws' hr h1 h2' 1000198 (by decide)
  have h4:how=1∨how=2∨how=3∨how=4:=by omega
  rcases h4 with rfl|rfl|rfl|rfl
  ·rw [if_pos (by decide)]
   rw [show wrap64 ((1:Int)+1)=2 by decide +kernel]
   exact go 2 (sw 1 2 (by decide) (by decide) (by decide) hr) (by unfold failsB;cases Lib.containsS ws' (getL l' nm')<;>rfl)
  ·rw [if_neg (by decide)]
   rw [show wrap64 ((2:Int)-1)=1 by decide +kernel]
   exact go 1 (sw 2 1 (by decide) (by decide) (by decide) hr) (by unfold failsB;cases Lib.containsS ws' (getL l' nm')<;>rfl)
  ·rw [if_pos (by decide)]
   rw [show wrap64 ((3:Int)+1)=4 by decide +kernel]
   exact go 4 (sw 3 4 (by decide) (by decide) (by decide) hr) (by unfold failsB;cases Lib.containsS ws' (getL l' nm')<;>rfl)
  ·rw [if_neg (by decide)]
   rw [show wrap64 ((4:Int)-1)=3 by decide +kernel]
   exact go 3 (sw 4 3 (by decide) (by decide) (by decide) hr) (by unfold failsB;cases Lib.containsS ws' (getL l' nm')<;>rfl)
 ·rw [holds_none hs (by simp [smallMs,hw];omega) hc,Option.bind_some]
  dsimp only
  rw [if_neg (by decide),alive_eq,Option.bind_some,if_pos rfl]
  rfl
end Go.Proofs.YtnbbfjddjmklpaaDoor.Pure
