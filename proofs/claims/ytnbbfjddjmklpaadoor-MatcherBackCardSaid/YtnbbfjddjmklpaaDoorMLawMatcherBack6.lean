/- What these functions of the program and of the plain reference compute, and plain lemmas on it: MatcherLaw4, PureMatcherBack. Conditions: as each lemma says. -/
import Derived.Test.YtnbbfjddjmklpaaDoorMLawMatcherBack3
import Derived.Test.YtnbbfjddjmklpaaDoorMLawMatcherBack0
import Derived.Test.YtnbbfjddjmklpaaDoorMLawMatcherBack4
import Derived.Test.YtnbbfjddjmklpaaDoorMLawMatcherBack5
/- What the law functions' helpers come to, in plain words. Conditions: as each lemma says. -/
set_option linter.unusedVariables false
set_option linter.unusedSimpArgs false
namespace Go.Proofs.YtnbbfjddjmklpaaDoor.P
open Go.RowKit Go.Proofs.YtnbbfjddjmklpaaDoorW.PrintWords Go.Proofs.YtnbbfjddjmklpaaDoorW.PrintLast Go.Proofs.YtnbbfjddjmklpaaDoorW.PrintMore

def cut70 (s:ByteArray):ByteArray:=s.extract 0 (mn (s.size:Int) 70).toNat
def cutW (ws:List ByteArray):List ByteArray:=(ws.take 10).map cut70
theorem mn_le (a b:Nat):0≤mn (a:Int) (b:Int)∧mn (a:Int) (b:Int)≤(a:Int)∧(mn (a:Int) (b:Int)).toNat=min a b:=by
 rw [mn_nat]
 omega
theorem cut70_size (s:ByteArray):(cut70 s).size≤70:=by
 unfold cut70
 have:=(mn_le s.size 70).2.2
 rw [ByteArray.size_extract]
 have e:(mn (s.size:Int) 70).toNat=min s.size 70:=this
 omega
theorem cutW_length (ws:List ByteArray):(cutW ws).length≤10:=by unfold cutW;rw [List.length_map,List.length_take];omega
theorem drop_wd {ws:List ByteArray} {i:Nat} (h:i<ws.length):ws.drop i=wd ws i::ws.drop (i+1):=by
 rw [List.drop_eq_getElem_cons h]
 unfold wd
 rw [List.getD_eq_getElem?_getD,List.getElem?_eq_getElem h]
 rfl
theorem cut_from (y:List ByteArray) (nm:ByteArray) (how:Int) (hy:y.length≤10) (d:Nat):∀ (k i:Nat) (out:List ByteArray),i+d=y.length→out.length≤i→d<k →
  transhipmentlaw04_cut.l0 k y (y.length:Int) (i:Int) nm how out=some (nm,how,out++(y.drop i).map cut70):=by
 induction d with
 | zero =>
  intro k i out hi ho hk
  obtain ⟨k,rfl⟩:∃ j,k=j+1:=⟨k-1,by omega⟩
  simp only [transhipmentlaw04_cut.l0]
  rw [if_neg (by omega),List.drop_eq_nil_of_le (by omega),List.map_nil,List.append_nil]
 | succ d ih =>
  intro k i out hi ho hk
  obtain ⟨k,rfl⟩:∃ j,k=j+1:=⟨k-1,by omega⟩
  obtain ⟨m1,m2,m3⟩:=mn_le (wd y i).size 70
  have hr:=ih k (i+1) (out++[cut70 (wd y i)]) (by omega) (by rw [List.length_append,List.length_singleton];omega) (by omega)
  rw [Int.natCast_succ] at hr
  simp only [transhipmentlaw04_cut.l0]
  rw [rd_wd,if_pos (by omega),if_pos (by omega),if_pos (by omega),if_pos (by exact m1),if_pos (by exact m2),if_pos (by omega),wrap_id (n:=(i:Int)+1) (by omega) (by omega)]
  refine hr.trans ?_
  rw [drop_wd (i:=i) (by omega),List.map_cons,List.append_assoc]
  rfl
theorem cut_eq (nm:ByteArray) (how:Int) (ws:List ByteArray) (k:Nat) (hk:11<k):transhipmentlaw04_cut.f k nm how ws=some (cut70 nm,how,cutW ws):=by
 unfold transhipmentlaw04_cut.f
 obtain ⟨m1,m2,m3⟩:=mn_le nm.size 70
 obtain ⟨n1,n2,n3⟩:=mn_le ws.length 10
 have h3:(mn (ws.length:Int) 10).toNat=min ws.length 10:=n3
 rw [if_pos (by exact m1),if_pos (by exact m2),if_pos (by exact n1),if_pos (by exact n2),Option.bind_some]
 have hr:=cut_from (ws.take (mn (ws.length:Int) 10).toNat) (nm.extract 0 (mn (nm.size:Int) 70).toNat) how (by rw [List.length_take];omega) _ k 0 [] (Nat.zero_add _) (Nat.le_refl _) (by rw [List.length_take];omega)
 refine hr.trans ?_
 rw [List.drop_zero,List.nil_append]
 have e:ws.take (mn (ws.length:Int) 10).toNat=ws.take 10:=by
  rw [h3]
  by_cases h:ws.length≤10
  ·rw [Nat.min_eq_left h,List.take_of_length_le (Nat.le_refl _),List.take_of_length_le h]
  ·rw [Nat.min_eq_right (by omega)]
 rw [e]
 rfl
theorem alive_eq:transhipmentlaw04_alive.f=some true:=by decide +kernel
theorem tl_eq {a b:ByteArray}:a.toList=b.toList↔a=b:=by
 rw [ByteArray.toList_eq,ByteArray.toList_eq]
 exact ⟨fun h=>lst_inj h,fun h=>by rw [h]⟩
theorem equal_from (a b:List ByteArray) (hl:a.length=b.length) (hs:a.length≤maxLen) (d:Nat):∀ (k i:Nat),i+d=a.length→d<k →
  slices_Equal_string_string.l0 k a b (a.length:Int) (i:Int)=some (decide (a.drop i=b.drop i)):=by
 unfold maxLen at hs
 induction d with
 | zero =>
  intro k i hi hk
  obtain ⟨k,rfl⟩:∃ j,k=j+1:=⟨k-1,by omega⟩
  simp only [slices_Equal_string_string.l0]
  rw [if_neg (by omega),List.drop_eq_nil_of_le (by omega),List.drop_eq_nil_of_le (by omega)]
  rfl
 | succ d ih =>
  intro k i hi hk
  obtain ⟨k,rfl⟩:∃ j,k=j+1:=⟨k-1,by omega⟩
  have hr:=ih k (i+1) (by omega) (by omega)
  rw [Int.natCast_succ] at hr
  simp only [slices_Equal_string_string.l0]
  rw [rd_wd,rd_wd,if_pos (by omega),if_pos (by omega),if_pos (by omega),if_pos (by omega),wrap_id (n:=(i:Int)+1) (by omega) (by omega),hr,drop_wd (ws:=a) (i:=i) (by omega),drop_wd (ws:=b) (i:=i) (by omega)]
  by_cases h:wd a i=wd b i
  ·rw [if_pos (tl_eq.2 h),h]
   simp
  ·rw [if_neg (fun h2=>h (tl_eq.1 h2))]
   simp [h]
theorem equal_eq (a b:List ByteArray) (hs:a.length≤maxLen) (k:Nat) (hk:a.length<k):slices_Equal_string_string.f k a b=some (decide (a=b)):=by
 unfold slices_Equal_string_string.f
 by_cases h:a.length=b.length
 ·rw [if_pos (by omega)]
  have:=equal_from a b h hs a.length k 0 (by omega) hk
  rw [List.drop_zero,List.drop_zero] at this
  exact this
 ·rw [if_neg (by omega)]
  have:¬ a=b:=fun e=>h (by rw [e])
  simp [this]
theorem like_eq (n1:ByteArray) (h1:Int) (w1:List ByteArray) (n2:ByteArray) (h2:Int) (w2:List ByteArray) (hs:w1.length≤maxLen) (k:Nat) (hk:w1.length<k) :
  matcher_Like.f k n1 h1 w1 n2 h2 w2=some (decide (n1=n2∧h1=h2∧w1=w2)):=by
 unfold matcher_Like.f
 rw [equal_eq w1 w2 hs k hk,Option.bind_some]
 by_cases a:n1=n2
 ·rw [if_pos (tl_eq.2 a)]
  by_cases b:h1=h2
  ·rw [if_pos b];simp [a,b]
  ·rw [if_neg b];simp [b]
 ·rw [if_neg (fun h=>a (tl_eq.1 h))];simp [a]
theorem mtext_size {nm:ByteArray} {how:Int} {ws:List ByteArray} (h:mrightB nm how ws=true):(mtextB nm how ws).size≤700:=by
 obtain ⟨h1,h2,h3,h4,h5,h6,h7⟩:=mright_parts h
 have hj:=joinT_size ws 64 (fun i hi=>word_size (h6 i hi))
 have hs:=sign_size how
 have e1:(⟨#[34]⟩:ByteArray).size=1:=rfl
 unfold mtextB
 simp only [ByteArray.size_append,e1]
 omega
theorem how_wf {how:Int} (h:1≤how∧how≤4):(Lit.int .i64 how).wf=true:=by
 have h1:how=1∨how=2∨how=3∨how=4:=by omega
 rcases h1 with rfl|rfl|rfl|rfl<;>decide +kernel
theorem parse_f {s:ByteArray} (h:s.size≤1000000):matcher_Parse.f s=some (parseB s):=by unfold matcher_Parse.f;rw [if_pos h]
end Go.Proofs.YtnbbfjddjmklpaaDoor.P

/- What is written is read; what a text is read as, written, is the text: in plain Lean. Conditions: none. -/
set_option linter.unusedVariables false
namespace Go.Proofs.YtnbbfjddjmklpaaDoor.Pure
open Go.Proofs.YtnbbfjddjmklpaaDoor.P Go.RowKit Go.Proofs.YtnbbfjddjmklpaaDoorW.PrintWords Go.Proofs.YtnbbfjddjmklpaaDoorW.PrintLast Go.Proofs.YtnbbfjddjmklpaaDoorW.PrintMore

theorem back_read (s:ByteArray) (hs:s.size≤700) (k:Nat) (hk:1100000<k):transhipmentlaw04_MatcherBack.j0 k s=some true:=by
 obtain ⟨k,rfl⟩:∃ j,k=j+1:=⟨k-1,by omega⟩
 simp only [transhipmentlaw04_MatcherBack.j0]
 rw [parse_f (by omega),Option.bind_some,alive_eq]
 rcases parse_cases s with ⟨h1,h2,h3⟩|h
 ·obtain ⟨nm,how,ws,e,hp⟩:∃ nm how ws e,parseB s=(nm,how,ws,e):=⟨_,_,_,_,rfl⟩
  rw [hp] at h1 h2 h3 ⊢
  dsimp only at h1 h2 h3 ⊢
  obtain ⟨r1,r2,r3,r4,r5,r6,r7⟩:=mright_parts h1
  rw [if_pos h3,mtext_eq nm how ws (how_wf r3) (by omega) (by unfold maxLen;omega) k (by omega),if_pos h1,Option.bind_some,Option.bind_some,if_pos rfl]
  dsimp only
  rw [if_pos rfl,if_pos (by rw [h2]),mright_eq nm how ws (how_wf r3) (by omega) (by unfold maxLen;omega) k (by omega),h1]
  rfl
 ·rw [h]
  dsimp only
  have hz:mrightB ⟨#[]⟩ 0 []=false:=by decide
  rw [if_neg (by decide),Option.bind_some,if_pos rfl,mright_eq ⟨#[]⟩ 0 [] (by decide +kernel) (by decide) (by unfold maxLen;simp) k (by simp;omega),hz]
  rfl
theorem MatcherBack (nm:ByteArray) (how:Int) (ws:List ByteArray) (s:ByteArray) (hw:(Lit.int .i64 how).wf=true):∃ k,transhipmentlaw04_MatcherBack.f k nm how ws s=some true:=by
 refine ⟨1200000,?_⟩
 obtain ⟨m1,m2,m3⟩:=mn_le s.size 700
 have hz:(s.extract 0 (mn (s.size:Int) 700).toNat).size≤700:=by
  have e:(mn (s.size:Int) 700).toNat=min s.size 700:=m3
  rw [ByteArray.size_extract];omega
 have hj:=back_read _ hz 1200000 (by decide)
 unfold transhipmentlaw04_MatcherBack.f
 rw [cut_eq nm how ws 1200000 (by decide),Option.bind_some,if_pos (by exact m1),if_pos (by exact m2)]
 dsimp only
 have hn:=cut70_size nm
 have hl:=cutW_length ws
 generalize cut70 nm=nm' at *
 generalize cutW ws=ws' at *
 rw [hj,mtext_eq nm' how ws' hw (by omega) (by unfold maxLen;omega) 1200000 (by omega),Option.bind_some]
 cases hr:mrightB nm' how ws' with
 | false=>rw [if_neg (show ¬ (false=true) by decide)];dsimp only;rw [if_neg (show ¬ ((1:Int)=0) by decide)]
 | true =>
  rw [if_pos rfl]
  dsimp only
  have hx:=mtext_size hr
  rw [if_pos rfl,parse_f (by omega),parse_text hr,Option.bind_some]
  dsimp only
  rw [if_pos rfl,like_eq _ _ _ _ _ _ (by unfold maxLen;omega) 1200000 (by omega),Option.bind_some]
  rw [if_pos (by simp)]
end Go.Proofs.YtnbbfjddjmklpaaDoor.Pure
