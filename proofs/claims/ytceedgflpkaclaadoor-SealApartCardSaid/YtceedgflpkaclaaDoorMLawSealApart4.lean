/- What these functions of the program and of the plain reference compute, and plain lemmas on it: PureSealApart, Opens. Conditions: as each lemma says. -/
import Derived.Test.YtceedgflpkaclaaDoorMLawSealApart3
import Derived.Lib.IndexMore
import Derived.Test.YtceedgflpkaclaaDoorMLawSealApart0
import Derived.ChangeArms
import Derived.ChangeSlices
import Derived.DataReads
import Derived.ChangeShapes
/- Sections that are not the same are sealed as unlike bytes; each section's bytes stand in them; a mark is of 16 digits. Conditions: none. -/
namespace Go.Proofs.YtceedgflpkaclaaDoor.Pure
open Go.RowKit Go.Proofs.YtceedgflpkaclaaDoor.P Go.Proofs.YtceedgflpkaclaaDoorW.PrintWords Go.Proofs.YtceedgflpkaclaaDoorW.PrintLast Go.Proofs.YtceedgflpkaclaaDoorW.PrintMore

theorem contains_infix {s sub:List UInt8} (h:sub <:+: s):Lib.contains s sub=true:=by
 obtain ⟨p,t,rfl⟩:=h
 unfold Lib.contains
 apply decide_eq_true
 rcases Lib.index_spec (p++sub++t) sub with ⟨_,h2⟩|⟨i,h1,_⟩
 ·have h3:=h2 p.length (by simp)
  unfold Lib.occAt at h3
  rw [List.append_assoc,List.drop_left] at h3
  have h4:sub.isPrefixOf (sub++t)=true:=List.isPrefixOf_iff_prefix.2 (List.prefix_append _ _)
  rw [h4] at h3
  cases h3
 ·omega
theorem bound_has:∀ (l:List ByteArray) (x:ByteArray),x∈l→x.data.toList <:+: bound l
 | [],x,h=>by cases h
 | p::ps,x,h=>by
  rw [bound]
  rcases List.mem_cons.1 h with rfl|h'
  ·exact ⟨(numB (x.size:Int)).data.toList,bound ps,by simp⟩
  ·obtain ⟨a,b,e⟩:=bound_has ps x h'
   exact ⟨(numB (p.size:Int)).data.toList++p.data.toList++a,b,by rw [← e];simp⟩
theorem boundB_has (l:List ByteArray) (x:ByteArray) (h:x∈l):x.data.toList <:+: (boundB l).data.toList:=by
 have:=bound_has l x h
 simpa [boundB] using this
theorem closeB_has (l:List ByteArray) (x:ByteArray) (h:x∈l):x.data.toList <:+: (closeB l).data.toList:=by
 have h1:x.data.toList <:+: (frameB x).data.toList:=boundB_has [x,checkB x] x (by simp)
 have h2:=boundB_has (l.map frameB) (frameB x) (List.mem_map.2 ⟨x,h,rfl⟩)
 refine (h1.trans h2).trans ?_
 unfold closeB tailB
 exact ⟨sealT.data.toList,(sumV (sealT++boundB (l.map frameB))).data.toList,by simp⟩
theorem suffix_eq (a b:ByteArray) (h:b.size≤a.size) (ha:a.size<9223372036854775807) (hb:a.extract (a.size-b.size) a.size=b):strings_HasSuffix.f a b=some true:=by
 unfold strings_HasSuffix.f stringslite_HasSuffix.f
 rw [if_pos (by omega),wrap64_id (by omega) (by omega),show (a.size:Int)-(b.size:Int)=((a.size-b.size:Nat):Int) by omega,if_pos (by omega),if_pos (by omega),Int.toNat_natCast,Option.bind_some,hb]
 exact congrArg some (beq_iff_eq.2 rfl)
theorem apart_l0 (m n:List ByteArray) (hm:mayS m) (hn:mayS n):∀ (d i k:Nat),i+d=m.length→d+6000<k →
  transhipmentlaw02_SealApart.l0 k m n (closeB m) (closeB n) m (m.length:Int) (i:Int)=some true:=by
 have hz:=closeB_size m
 have ht:=tailB_size m (by have:=hm.1;omega) (fun p hp=>by have:=hm.2 p hp;omega)
 intro d
 induction d with
 | zero =>
  intro i k hi hk
  obtain ⟨k,rfl⟩:∃ m,k=m+1:=⟨k-1,by omega⟩
  have hl:=hm.1
  have h4:=tailB_four m
  simp only [transhipmentlaw02_SealApart.l0]
  rw [if_neg (by omega),ref_Same_eq m n (by omega) k (by omega),Option.bind_some]
  have hs:(((closeB m).toList == (closeB n).toList) == decide (m=n))=true:=by
   by_cases e:m=n
   ·subst e
    rw [decide_eq_true rfl,beq_iff_eq.2 rfl]
    rfl
   ·rw [decide_eq_false e,beq_eq_false_iff_ne.2 (fun he=>e (closeB_inj hm hn ((bytes_eq _ _).1 he)))]
    rfl
  have h40:(⟨#[115,101,97,108]⟩:ByteArray).size=4:=rfl
  have hp:(closeB m).extract 0 (⟨#[115,101,97,108]⟩:ByteArray).size=(⟨#[115,101,97,108]⟩:ByteArray):=by
   have e:closeB m=sealT++(boundB (m.map frameB)++sumV (tailB m)):=by
    unfold closeB
    rw [← ByteArray.append_assoc]
    rfl
   rw [e]
   exact extract_front sealT _
  have hmn:wrap64 (((closeB m).size:Int)-(mn ((closeB m).size:Int) 32))=((tailB m).size:Int):=by
   rw [show mn ((closeB m).size:Int) 32=((min (closeB m).size 32:Nat):Int) from mn_min _ 32,wrap64_id (by omega) (by omega)]
   omega
  rw [if_pos hs,prefix_eq _ _ (by omega),Option.bind_some,decide_eq_true hp,if_pos (by trivial),hmn,if_pos (by omega),if_pos (by omega),Int.toNat_natCast]
  have hf:(closeB m).extract 0 (tailB m).size=tailB m:=extract_front (tailB m) (sumV (tailB m))
  have h32:=sumV_32 (tailB m)
  have hb:(closeB m).extract ((closeB m).size-(sumV (tailB m)).size) (closeB m).size=sumV (tailB m):=by
   rw [show (closeB m).size-(sumV (tailB m)).size=(tailB m).size by omega]
   exact extract_back (tailB m) (sumV (tailB m)) _ (by omega)
  rw [hf,seal_Sum_eq _ (by omega),Option.bind_some,suffix_eq _ _ (by omega) (by omega) hb,Option.bind_some]
 | succ d ih =>
  intro i k hi hk
  obtain ⟨k,rfl⟩:∃ m,k=m+1:=⟨k-1,by omega⟩
  have hlt:i<m.length:=by omega
  have hl:=hm.1
  simp only [transhipmentlaw02_SealApart.l0]
  rw [rdOf_string m i hlt,if_pos (by omega),if_pos (by omega),if_pos (by omega)]
  have hc:strings_Contains.f (closeB m) m[i]=some true:=by
   unfold strings_Contains.f
   rw [if_pos (by omega),contains_infix (closeB_has m m[i] (List.getElem_mem hlt))]
  rw [hc,Option.bind_some,if_pos rfl,wrap64_id (by omega) (by omega),show ((i:Int)+1)=((i+1:Nat):Int) by omega]
  exact ih (i+1) k (by omega) (by omega)
theorem SealApart:transhipmentlaw02_SealApart.Pure:=by
 intro l l' a hl hl' ha
 refine ⟨20000,?_⟩
 unfold transhipmentlaw02_SealApart.f
 have h1:=cutL_length l
 have h2:=@cutL_size l
 have h1':=cutL_length l'
 have h2':=@cutL_size l'
 rw [cut_eq _ (by decide) l,Option.bind_some,cut_eq _ (by decide) l',Option.bind_some]
 generalize cutL l=m at *
 generalize cutL l'=n at *
 rw [seal_Close_eq _ (by decide) m h2,Option.bind_some,seal_Close_eq _ (by decide) n h2',Option.bind_some]
 rw [show mn (a.size:Int) 200=((min a.size 200:Nat):Int) from mn_min _ 200,if_pos (by omega),if_pos (by omega),Int.toNat_natCast]
 have hz:(a.extract 0 (min a.size 200)).size≤200:=by rw [ByteArray.size_extract];omega
 generalize a.extract 0 (min a.size 200)=s at *
 have h16:=markB_size s
 rw [seal_Mark_eq s (by omega),Option.bind_some,if_pos (by omega),Option.bind_some,Option.bind_some,if_pos rfl,alive_true,Option.bind_some]
 simp only [transhipmentlaw02_SealApart.j0]
 rw [if_neg (by simp)]
 by_cases hm:mayS m
 ·rw [if_pos hm,if_pos (by trivial)]
  by_cases hn:mayS n
  ·rw [if_pos hn]
   simp only [transhipmentlaw02_SealApart.j1]
   rw [if_neg (by simp)]
   have hle:=hm.1
   exact apart_l0 m n hm hn m.length 0 _ (by omega) (by omega)
  ·rw [if_neg hn]
   simp only [transhipmentlaw02_SealApart.j1]
   rw [if_pos (by decide)]
 ·rw [if_neg hm,if_neg (by decide)]
  simp only [transhipmentlaw02_SealApart.j1]
  rw [if_pos (by trivial)]
end Go.Proofs.YtceedgflpkaclaaDoor.Pure

/- What a value that came in reads as: each reading of a type is one of its kind's values, within bounds. Conditions: none. -/
namespace Go.Proofs.YtceedgflpkaclaaDoor.P
open Go.RowKit Go.Proofs.YtceedgflpkaclaaDoorW.PrintWords Go.Proofs.YtceedgflpkaclaaDoorW.PrintLast Go.Proofs.YtceedgflpkaclaaDoorW.PrintMore

def Opens {H:Type} (enc:TypeId×Value→H) (P:Program) (w:World) (base:Nat) (spare:Nat→Bool) (held:Bool) {α:Type} (d:Kd α) (ok:α→Prop) (t:TypeId):Prop :=
 ∀ fuel cs x,DataW.trod enc P w base spare held fuel t cs=some x→∃ a,d.K w a cs∧ok a
section
variable {H:Type} {enc:TypeId×Value→H} {P:Program} {w:World} {base:Nat} {spare:Nat→Bool} {held:Bool} {t e:TypeId}
theorem opens_string (ht:P.underlying t=some .string):Opens enc P w base spare held Kd.string (fun s=>s.size≤maxLen) t:=by
 intro fuel cs x h
 obtain ⟨s,rfl,_,hw⟩:=DataW.trod_string ht h
 exact ⟨s,rfl,hw⟩
theorem list_of {α:Type} (p:Nat→α→Prop):∀ n,(∀ i,i<n→∃ a,p i a)→∃ l:List α,l.length=n∧∀ i a,l[i]?=some a→p i a
 | 0,_=>⟨[],rfl,fun i a h=>by simp at h⟩
 | n+1,h=>by
  obtain ⟨l,hl,hp⟩:=list_of p n (fun i hi=>h i (by omega))
  obtain ⟨a,ha⟩:=h n (by omega)
  refine ⟨l++[a],by simp [hl],fun i b hb=>?_⟩
  rw [List.getElem?_append] at hb
  split at hb
  ·exact hp i b hb
  ·rename_i hi
   have:i=n:=by
    have:=(List.getElem?_eq_some_iff.1 hb).1
    simp at this
    omega
   subst this
   simp [hl] at hb
   subst hb
   exact ha
theorem opens_slice {α:Type} {d:Kd α} {ok:α→Prop} (ht:P.underlying t=some (.slice e)) (hc:P.cellsOf e=d.sz) (he:Opens enc P w base spare held d ok e) :
  Opens enc P w base spare held (Kd.slice e d) (fun l=>l.length≤maxLen∧∀ a∈l,ok a) t:=by
 intro fuel cs x h
 rcases DataW.trod_slice ht h with ⟨rfl,_⟩|⟨a,len,cap,elems,rest,n,_,rfl,_,hb,hl,hm,hlen,hel,_,_⟩
 ·exact ⟨[],⟨none,0,rfl,Nat.le_refl _,Kd.C_nil d w⟩,by simp,fun a ha=>by simp at ha⟩
 ·obtain ⟨l,hll,hp⟩:=list_of (fun i (b:α)=>∃ c,c.length=d.sz∧d.K w b c∧ok b∧∀ j u,c[j]?=some u→w.cell? (a.add (i*d.sz+j))=some u) len (by
   intro i hi
   have h1:=hel i hi
   rw [hc] at h1
   have h2:i<elems.length:=by omega
   rw [List.getElem?_eq_getElem h2] at h1
   obtain ⟨c,hcs,hct⟩:=Option.bind_eq_some_iff.1 h1
   obtain ⟨b,hK,hok⟩:=he _ _ _ hct
   obtain ⟨_,hcl,hcell⟩:=World.cells?_some hcs
   refine ⟨b,c,hcl,hK,hok,fun j u hj=>?_⟩
   have hjl:j<d.sz:=by rw [← hcl];exact (List.getElem?_eq_some_iff.1 hj).1
   have h3:=hcell j hjl
   rw [hj] at h3
   rw [← h3,Addr.add_add])
  refine ⟨l,⟨some a,cap,by rw [hll],by omega,?_⟩,by omega,?_⟩
  ·refine ⟨rfl,by unfold maxLen at hm;omega,fun _=>⟨a,rfl,fun j p hj=>?_⟩⟩
   obtain ⟨c,h1,h2,_,h3⟩:=hp j p hj
   exact ⟨c,h1,h2,h3⟩
  ·intro b hb
   obtain ⟨i,hi⟩:=List.getElem?_of_mem hb
   obtain ⟨_,_,_,h3,_⟩:=hp i b hi
   exact h3
theorem opened_slice {α:Type} {d:Kd α} {ok:List α→Prop} (hs:Opens enc P w base spare held (Kd.slice e d) ok t) {a:Option Addr} {len cap:Nat} {x:DataW H} {ps:List MemPlace}
  (h:DataW.Trod enc P w base spare held t (.slice a len cap) x ps):∃ l:List α,len=l.length∧d.C w a l.length l∧l.length≤cap∧ok l:=by
 obtain ⟨fuel,hf⟩:=h
 obtain ⟨l,⟨A,c,hcs,hle,hC⟩,ho⟩:=hs _ _ _ hf
 simp [Value.cells] at hcs
 obtain ⟨rfl,rfl,rfl⟩:=hcs
 exact ⟨l,rfl,hC,hle,ho⟩
end
end Go.Proofs.YtceedgflpkaclaaDoor.P
