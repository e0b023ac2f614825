/- What these functions of the program and of the plain reference compute, and plain lemmas on it: MatcherSigns, PMatcherRight, Pref03Less, Pref03Name. Conditions: as each lemma says. -/
import Derived.Test.YtnbbfjddjmklpaaDoorMLawMatcherHolds0
import Derived.Maps.OwnSet
import Derived.Maps.StringElems
import Derived.Laws.Cover1
import Derived.Test.YtnbbfjddjmklpaaDoorMLawMatcherHolds1
/- matcher.signs: a map of four entries; what is looked up in it. Conditions: as each lemma says. -/
namespace Go.Proofs.YtnbbfjddjmklpaaDoor.P
open Go.RowKit Go.Maps Go.Proofs.YtnbbfjddjmklpaaDoorW.PrintWords Go.Proofs.YtnbbfjddjmklpaaDoorW.PrintLast Go.Proofs.YtnbbfjddjmklpaaDoorW.PrintMore
set_option linter.unusedSimpArgs false
set_option linter.unusedVariables false

def signOf (how:Int):ByteArray:=if how=1 then ⟨#[61]⟩ else if how=2 then ⟨#[33,61]⟩ else if how=3 then ⟨#[61,126]⟩ else if how=4 then ⟨#[33,126]⟩ else ⟨#[]⟩
def isSign (how:Int):Bool:=decide (1≤how) && decide (how≤4)
def signsD:DataW Unit:=.map [(.int .i64 1,.lit (.string [61])),(.int .i64 2,.lit (.string [33,61])),(.int .i64 3,.lit (.string [61,126])),(.int .i64 4,.lit (.string [33,126]))]
theorem signsLaw:Keyed Tryd.prog 3:=int_keyed Tryd.underlying3
theorem signsZero (w:World):(zeroValue 9).run Tryd.prog w=.ok (.string ⟨#[]⟩) w:=by kernel_rfl
def Signs (w:World) (b:Nat):Prop:=w.ownsMap Tryd.prog 3 (plainElem Tryd.prog 9) b 4 signsD
theorem Signs.grown {w w1:World} {b:Nat} {row:Option Nat} (h:Signs w b) (hg:w.grownBy w1 row) (hne:some b≠row):Signs w1 b:=World.ownsMap.kept h hg hne
theorem Signs.below {w w1:World} {b:Nat} (h:Signs w b) (hb:Below w.heap.size w w1):Signs w1 b:=by
 obtain ⟨es,clock,h1,F,hs,hD⟩:=h
 exact ⟨es,clock,blk_below h1 hb,F,hs,hD⟩
theorem wpList_insert_own {H:Type} {P:Program} (w:World) {ops:Array Oper} {rest:List Oper} {o:Oper} {a:Act} {Q:Exit→Act→World→Prop}
  (hg:o.guard=none) (m x v:Operand) (t:TypeId) (hop:o.op=Op.insert t m x v)
  (k e:TypeId) (K:Keyed P k) (ht:P.underlying t=some (.map k e)) (R:Value→Option (DataW H×List MemPlace)) (b n:Nat) (D:DataW H)
  (hm:a.eval m=.map (some b)) (hown:w.ownsMap P k R b n D) (hn:n<maxLen) (key val:Value) (kl:Lit) (hx:a.eval x=key) (hv:a.eval v=val) (hkey:keyOf P k key=some kl)
  (d:DataW H) (ps:List MemPlace) (hval:R val=some (d,ps))
  (hK:∀ w',w'.ownsMap P k R b (n+1) (D.put kl d)→w.grownBy w' (some b)→wpList P ops Q rest (a.put o.dst undef) w') :
  wpList P ops Q (o::rest) a w:=by
 refine wpList_plain hg fun K' hK'=>?_
 obtain ⟨w',hrun,r1,r2⟩:=hown.update K ht hn hkey hval
 unfold Oper.wp
 simp [execOp,hop,hm,hx,hv,hrun,Result.andThen]
 exact hK' _ _ (hK w' r1 r2)
theorem wpList_makeMap_own {P:Program} (w:World) {ops:Array Oper} {rest:List Oper} {o:Oper} {a:Act} {Q:Exit→Act→World→Prop}
  (hg:o.guard=none) (t k:TypeId) (hop:o.op=Op.makeMap t none) (R:Value→Option (DataW Unit×List MemPlace))
  (hK:∀ w',w'.ownsMap P k R w.heap.size 0 (.map [])→Below w.heap.size w w'→wpList P ops Q rest (a.put o.dst (.map (some w.heap.size))) w') :
  wpList P ops Q (o::rest) a w:=by
 refine wpList_plain hg fun K' hK'=>?_
 unfold Oper.wp
 simp [execOp,hop,run_makeMap,Result.andThen]
 exact hK' _ _ (hK _ (World.ownsMap_made _ _ _ _) (below_alloc (Below.refl _ _) _))
theorem grown_below {w0 w w1:World} {b:Nat} (hB:Below w0.heap.size w0 w) (hb:w0.heap.size≤b) (hg:w.grownBy w1 (some b)):Below w0.heap.size w0 w1 :=
 hB.grown hg hB.size (fun k e=>by cases e;exact hb)
set_option maxRecDepth 100000 in
set_option maxHeartbeats 1000000 in
theorem signs_any (w:World):Calls Tryd.prog 23 #[] w fun e w'=>e=.returned (.map (some w.heap.size))∧Signs w' w.heap.size∧Below w.heap.size w w':=by
 have k1:keyOf Tryd.prog 3 (.int .i64 1)=some (.int .i64 1):=keyOf_int_mk Tryd.underlying3 (by decide)
 have k2:keyOf Tryd.prog 3 (.int .i64 2)=some (.int .i64 2):=keyOf_int_mk Tryd.underlying3 (by decide)
 have k3:keyOf Tryd.prog 3 (.int .i64 3)=some (.int .i64 3):=keyOf_int_mk Tryd.underlying3 (by decide)
 have k4:keyOf Tryd.prog 3 (.int .i64 4)=some (.int .i64 4):=keyOf_int_mk Tryd.underlying3 (by decide)
 have K1:=Aside0.mk k1
 have K2:=Aside0.mk k2
 have K3:=Aside0.mk k3
 have K4:=Aside0.mk k4
 clear k1 k2 k3 k4
 go_enter Tryd.func23,Tryd.ntmps23
 go_wp2_with (first
  | (refine wpList_makeMap_own _ rfl 50 3 rfl (plainElem Tryd.prog 9) ?_;intro w1 h1 b1;have H1:=Aside0.mk h1;have B1:=Aside0.mk b1;clear h1 b1)
  | (refine wpList_insert_own _ (by rfl) _ _ _ 50 (by rfl) 3 9 signsLaw Tryd.underlying50 _ w.heap.size 0 _ (by rfl) H1.out (by decide) (.int .i64 1) (.string ⟨#[61]⟩) (.int .i64 1) (by rfl) (by rfl) K1.out _ [] (plainElem_string Tryd.underlying9 (s:=⟨#[61]⟩) (by decide)) ?_;intro w2 h2 g2;have H2:=Aside0.mk h2;have G2:=Aside0.mk g2;clear h2 g2)
  | (refine wpList_insert_own _ (by rfl) _ _ _ 50 (by rfl) 3 9 signsLaw Tryd.underlying50 _ w.heap.size 1 _ (by rfl) H2.out (by decide) (.int .i64 2) (.string ⟨#[33,61]⟩) (.int .i64 2) (by rfl) (by rfl) K2.out _ [] (plainElem_string Tryd.underlying9 (s:=⟨#[33,61]⟩) (by decide)) ?_;intro w3 h3 g3;have H3:=Aside0.mk h3;have G3:=Aside0.mk g3;clear h3 g3)
  | (refine wpList_insert_own _ (by rfl) _ _ _ 50 (by rfl) 3 9 signsLaw Tryd.underlying50 _ w.heap.size 2 _ (by rfl) H3.out (by decide) (.int .i64 3) (.string ⟨#[61,126]⟩) (.int .i64 3) (by rfl) (by rfl) K3.out _ [] (plainElem_string Tryd.underlying9 (s:=⟨#[61,126]⟩) (by decide)) ?_;intro w4 h4 g4;have H4:=Aside0.mk h4;have G4:=Aside0.mk g4;clear h4 g4)
  | (refine wpList_insert_own _ (by rfl) _ _ _ 50 (by rfl) 3 9 signsLaw Tryd.underlying50 _ w.heap.size 3 _ (by rfl) H4.out (by decide) (.int .i64 4) (.string ⟨#[33,126]⟩) (.int .i64 4) (by rfl) (by rfl) K4.out _ [] (plainElem_string Tryd.underlying9 (s:=⟨#[33,126]⟩) (by decide)) ?_;intro w5 h5 g5;have H5:=Aside0.mk h5;have G5:=Aside0.mk g5;clear h5 g5))
 have B5:=Aside0.mk (grown_below (grown_below (grown_below (grown_below B1.out (Nat.le_refl _) G2.out) (Nat.le_refl _) G3.out) (Nat.le_refl _) G4.out) (Nat.le_refl _) G5.out)
 go_ret
 exact ⟨rfl,(show Signs w5 w.heap.size from H5.out),B5.out⟩
theorem signs_at (how:Int) (zd:DataW Unit):signsD.atKey (.int .i64 how) zd=if isSign how=true then .lit (.string (signOf how).data.toList) else zd:=by
 have hc:how=1∨how=2∨how=3∨how=4∨(how≠1∧how≠2∧how≠3∧how≠4):=by omega
 rcases hc with rfl|rfl|rfl|rfl|⟨h1,h2,h3,h4⟩
 ·rfl
 ·rfl
 ·rfl
 ·rfl
 ·have e:isSign how=false:=by unfold isSign;simp;omega
  rw [e,if_neg (by decide)]
  simp [signsD,DataW.atKey,Lit.sameKey,h1,h2,h3,h4,Ne.symm h1,Ne.symm h2,Ne.symm h3,Ne.symm h4]
theorem signs_has (how:Int):Maps.has signsD (.int .i64 how)=isSign how:=by
 have hc:how=1∨how=2∨how=3∨how=4∨(how≠1∧how≠2∧how≠3∧how≠4):=by omega
 rcases hc with rfl|rfl|rfl|rfl|⟨h1,h2,h3,h4⟩
 ·rfl
 ·rfl
 ·rfl
 ·rfl
 ·have e:isSign how=false:=by unfold isSign;simp;omega
  rw [e]
  simp [Maps.has,signsD,Lit.sameKey,h1,h2,h3,h4,Ne.symm h1,Ne.symm h2,Ne.symm h3,Ne.symm h4]
theorem signOf_none {how:Int} (h:isSign how=false):signOf how=⟨#[]⟩:=by
 unfold isSign at h
 simp at h
 unfold signOf
 rw [if_neg (by omega),if_neg (by omega),if_neg (by omega),if_neg (by omega)]
theorem signs_value {how:Int} {v:Value} {ps:List MemPlace} (h:plainElem Tryd.prog 9 v=some (signsD.atKey (.int .i64 how) (.lit (.string [])),ps)):v=.string (signOf how):=by
 obtain ⟨s,rfl,hs,_⟩:=plainElem_string_inv Tryd.underlying9 h
 rw [signs_at] at hs
 simp only [Prod.mk.injEq] at hs
 have he:(DataW.lit (.string (signOf how).data.toList):DataW Unit)=.lit (.string s.data.toList):=by
  cases hi:isSign how with
  | true=>rw [hi,if_pos rfl] at hs;exact hs.1
  | false =>
   rw [hi,if_neg (by decide)] at hs
   rw [signOf_none hi]
   exact hs.1
 injection he with he
 injection he with he
 rw [ByteArray.ext (Array.toList_inj.1 he)]
theorem signs_look {w:World} {b:Nat} (h:Signs w b) (how:Int) (hw:(Lit.int .i64 how).wf=true):(Instr.lookup 50 (.map (some b)) (.int .i64 how) false).run Tryd.prog w=.ok (.string (signOf how)) w:=by
 obtain ⟨v,ps,hrun,hv⟩:=World.ownsMap.lookup h signsLaw Tryd.underlying50 (signsZero w) (plainElem_string Tryd.underlying9 (by decide)) (keyOf_int_mk Tryd.underlying3 hw)
 rw [hrun,signs_value hv]
theorem signs_look2 {w:World} {b:Nat} (h:Signs w b) (how:Int) (hw:(Lit.int .i64 how).wf=true):(Instr.lookup 50 (.map (some b)) (.int .i64 how) true).run Tryd.prog w=.ok (.tuple #[.string (signOf how),.bool (isSign how)]) w:=by
 obtain ⟨v,ps,hrun,hv⟩:=World.ownsMap.look_ok h signsLaw Tryd.underlying50 (signsZero w) (plainElem_string Tryd.underlying9 (by decide)) (keyOf_int_mk Tryd.underlying3 hw)
 rw [hrun,signs_value hv,signs_has]
section
variable {ops:Array Oper} {Q:Exit→Act→World→Prop} {oi:Oper} {N:Option Tmp} {a:Act} {w:World} {K:Act→World→Prop} {m x:Operand}
theorem look_ {b:Nat} {how:Int} {s:ByteArray} (hw:Region.wanted oi (yielded ops a.tmps)=true) (hN:oi.dst=N) (ho:oi.op=.lookup 50 m x false) (hm:a.eval m=.map (some b)) (hx:a.eval x=.int .i64 how) (hb:Signs w b) (hwf:(Lit.int .i64 how).wf=true) (hs:s=signOf how)
  (h:∀ w1,Below w.heap.size w w1→Signs w1 b→K (a.put N (.string s)) w1):if Region.wanted oi (yielded ops a.tmps)=true then Oper.wp Tryd.prog oi a w K Q else K (a.put N undef) w:=by
 subst hs
 refine value_ (v:=.string (signOf how)) (w1:=w) hw hN ?_ (h w (Below.refl _ _) hb)
 simp [execOp,ho,hm,hx,signs_look hb how hwf,Result.andThen]
theorem look2_ {b:Nat} {how:Int} {s:ByteArray} {is:Bool} (hw:Region.wanted oi (yielded ops a.tmps)=true) (hN:oi.dst=N) (ho:oi.op=.lookup 50 m x true) (hm:a.eval m=.map (some b)) (hx:a.eval x=.int .i64 how) (hb:Signs w b) (hwf:(Lit.int .i64 how).wf=true) (hs:s=signOf how) (hi:is=isSign how)
  (h:∀ w1,Below w.heap.size w w1→Signs w1 b→K (a.put N (.tuple #[.string s,.bool is])) w1):if Region.wanted oi (yielded ops a.tmps)=true then Oper.wp Tryd.prog oi a w K Q else K (a.put N undef) w:=by
 subst hs hi
 refine value_ (v:=.tuple #[.string (signOf how),.bool (isSign how)]) (w1:=w) hw hN ?_ (h w (Below.refl _ _) hb)
 simp [execOp,ho,hm,hx,signs_look2 hb how hwf,Result.andThen]
end
theorem signs_new (w:World):Calls Tryd.prog 23 #[] w fun e w'=>∃ b,e=.returned (.map (some b))∧Signs w' b∧Below w.heap.size w w':=(signs_any w).mono fun _ _ h=>⟨_,h⟩
def matcher_signs.f:Option Int:=some 0
def signsAt.f (x how:Int):Option (ByteArray×Bool):=if (Lit.int .i64 how).wf=true then some (signOf how,isSign how) else none
def signAt.f (x how:Int):Option ByteArray:=if (Lit.int .i64 how).wf=true then some (signOf how) else none
theorem signsAt_inv {x how:Int} {s:ByteArray} {b:Bool} (h:signsAt.f x how=some (s,b)):(Lit.int .i64 how).wf=true∧s=signOf how∧b=isSign how:=by
 unfold signsAt.f at h
 split at h
 ·rename_i hw
  simp only [Option.some.injEq,Prod.mk.injEq] at h
  exact ⟨hw,h.1.symm,h.2.symm⟩
 ·cases h
theorem signAt_inv {x how:Int} {s:ByteArray} (h:signAt.f x how=some s):(Lit.int .i64 how).wf=true∧s=signOf how:=by
 unfold signAt.f at h
 split at h
 ·rename_i hw
  simp only [Option.some.injEq] at h
  exact ⟨hw,h.symm⟩
 ·cases h
end Go.Proofs.YtnbbfjddjmklpaaDoor.P

/- What one function of the program computes, as a Lean function, and a proof that its call comes to just that. Conditions: none. Written by wip/ownprint.py. -/
namespace Go.Proofs.YtnbbfjddjmklpaaDoor.P
open Go.RowKit Go.Proofs.YtnbbfjddjmklpaaDoorW.PrintWords Go.Proofs.YtnbbfjddjmklpaaDoorW.PrintLast Go.Proofs.YtnbbfjddjmklpaaDoorW.PrintMore
attribute [local go_sem] max2_int min2_int max_two min_two max_three min_three max_four min_four   -- for this text's walks alone
set_option linter.unusedVariables false
set_option linter.unusedSimpArgs false

mutual
def matcher_Right.j0:Nat→Int→ByteArray→Int→List ByteArray→Option (Bool)
 | 0,_,_,_,_=>none
 | k+1,x3,x126000,x126001,x126002=>matcher_Right.l0 k x3 x126002 (x126002.length:Int) 0 x126000 x126001 x126002
def matcher_Right.l0:Nat→Int→List ByteArray→Int→Int→ByteArray→Int→List ByteArray→Option (Bool)
 | 0,_,_,_,_,_,_,_=>none
 | k+1,x3,x12,x13,x14,x126000,x126001,x126002=>if x14<x13 then (if 0≤x14 then (if x14<(x12.length:Int) then ((matcher_word.f (rdOf ByteArray.empty x12 x14)).bind fun t127=>(if t127=true then (if x14>0 then (if 0≤(wrap64 (x14-1)) then (if (wrap64 (x14-1))<(x126002.length:Int) then (if ((Op.bytesLess ((rdOf ByteArray.empty x126002 (wrap64 (x14-1))).toList) ((rdOf ByteArray.empty x12 x14).toList))=true) then (matcher_Right.l0 k x3 x12 x13 (wrap64 (x14+1)) x126000 x126001 x126002) else (some false)) else (none)) else (none)) else (matcher_Right.l0 k x3 x12 x13 (wrap64 (x14+1)) x126000 x126001 x126002)) else (some false))) else (none)) else (none)) else ((matcher_signs.f).bind fun t129=>((signsAt.f t129 x126001).bind fun bt130=>(if bt130.2=true then ((label_Right.f k (([(⟨x126000,(⟨#[120]⟩:ByteArray)⟩:S46)]:List (S46)))).bind fun t135=>(if t135=true then (if (x126002.length:Int)≥1 then (some (decide ((x126002.length:Int)≤x3))) else (some false)) else (some false))) else (some false))))
end
def matcher_Right.f (k:Nat) (a0_0:ByteArray) (a0_1:Int) (l0_2:List ByteArray):Option (Bool):=if a0_1>2 then (matcher_Right.j0 k 8 a0_0 a0_1 l0_2) else (matcher_Right.j0 k 1 a0_0 a0_1 l0_2)
def matcher_Right.T10:Bool×List (List Nat×List Nat):=(true,[([],[]),([],[]),([1],[1]),([0,2],[0,2]),([3],[3]),([4],[4]),([4],[4]),([5,0,0,1,2,3,4,5],[5]),([6,7,0,1,2,3,4,5,6,7],[6])])
def matcher_Right.B10:List Nat:=[0,0,2,7,15,31,31,63,255]
theorem matcher_Right.tab10:rtab .any (opsOf Tryd.f19 10)=matcher_Right.T10:=by kernel_rfl
theorem matcher_Right.bits10:waitsOk matcher_Right.T10.2 matcher_Right.B10=true:=by kernel_rfl
set_option maxHeartbeats 8000000 in
set_option maxRecDepth 100000 in
theorem matcher_Right.calls (k:Nat) (a0_0:ByteArray) (a0_1:Int) (A0_2:Option Addr) (c0_2:Nat) (l0_2:List ByteArray) (r:Bool) (w:World) (hr0_2:Kd.C Kd.string w A0_2 l0_2.length l0_2) (hc0_2:l0_2.length≤c0_2) (h:matcher_Right.f k a0_0 a0_1 l0_2=some r) :
  Calls Tryd.prog 19 #[.agg #[.string a0_0,.int .i64 a0_1,.slice A0_2 l0_2.length c0_2]] w fun e w'=>e=.returned (.bool r)∧Below w.heap.size w w':=by
 have hu24:=Tryd.underlying24
 have hu46:=Tryd.underlying46
 have HR0_2:=Aside0.mk hr0_2
 have HC0_2:=Aside0.mk hc0_2
 clear hr0_2 hc0_2
 have HB:=Aside0.mk (Below.refl w.heap.size w)
 have H:(if a0_1>2 then (matcher_Right.j0 k 8 a0_0 a0_1 l0_2) else (matcher_Right.j0 k 1 a0_0 a0_1 l0_2))=some r:=h
 clear h
 have HC2:=Aside0.mk H
 clear H
 go_enter Tryd.func19,Tryd.ntmps19
 go_upto_if 10 with (first|((with_reducible refine gate_dst (N:=1) rfl ?_);(try (refine gate_guard (by rfl) ?_;dsimp only));refine box_event ?hg (N:=1) ?hd (cs:=#[.string a0_0,.int .i64 a0_1,.slice A0_2 l0_2.length c0_2]) (t:=24) ?hr ?_;(case hd=>rfl);(case hg=>rfl);(case hr=>first|(go_simp;done)|(go_simp;rfl)|(go_simp;simp [IntKind.wrap_u32]));intro gb125 hg w3 hbox hb;have n0_:=Aside0.mk (below_step (by repeat (first|(with_reducible first|exact HB.out|apply below_alloc|apply pw_below_drewN|apply below_drew1)|exact HB.out)) hb);have n1_:=Aside0.mk (hbox);have n2_:=Aside0.mk ((by rw [hg];exact (below_size (by repeat (first|(with_reducible first|exact HB.out|apply below_alloc|apply pw_below_drewN|apply below_drew1)|exact HB.out))):w.heap.size≤gb125));have n3_:=Aside0.mk ((by rw [hg];exact (below_size (by repeat (first|(with_reducible first|exact HB.out|apply below_alloc|apply pw_below_drewN|apply below_drew1)|exact HB.out))):w.heap.size≤gb125));clear HB;have HB:=n0_;have BK125:=n1_;have GW125:=n2_;have GE125:=n3_;clear n0_ n1_ n2_ n3_;clear hb hbox hg;have hcz4_0:w3.cell? ⟨gb125,0,none⟩=some (.string a0_0):=(blk_cell BK125.out 0).trans rfl;have hcz4_1:w3.cell? ⟨gb125,1,none⟩=some (.int .i64 a0_1):=(blk_cell BK125.out 1).trans rfl;have hcz4_2:w3.cell? ⟨gb125,2,none⟩=some (.slice A0_2 l0_2.length c0_2):=(blk_cell BK125.out 2).trans rfl;have hfz4_0:=blk_frozen BK125.out 0;have hfz4_1:=blk_frozen BK125.out 1;have hfz4_2:=blk_frozen BK125.out 2))
 (try simp only [Act.put,List.setIfInBounds_toArray,List.set_cons_zero,List.set_cons_succ])
 go_cut [3] (fun v3 wc=>∃ (kq:Nat) (x3_1:Int),v3=.int .i64 x3_1∧Aside0 (matcher_Right.j0 kq x3_1 a0_0 a0_1 l0_2=some r)∧Aside0 (kq≤k)∧Aside0 (wc.heap[gb125]?=some (.cells #[.string a0_0,.int .i64 a0_1,(.slice A0_2 l0_2.length c0_2)] 24 (0,0)))∧Aside0 (Below w.heap.size w wc))
 case first =>
  have H:=HC2.out
  clear HC2
  by_cases c5:a0_1>2
  ·rw [if_pos c5] at H
   have c5b0:decide (2<a0_1)=true:=decide_eq_true c5
   clear c5
   (first|rw [c5b0]|(simp only [i64_w,i32_w];rw [c5b0])|skip)
   have H':=Aside0.mk H
   clear H
   go_wp2
   go_meet
   case rel=>exact ⟨_,(8),(by first|rfl|(simp;done)|(simp [*];done)),H',⟨by first|omega|exact Nat.le_refl _⟩,⟨by (with_reducible repeat (first|refine blk_drewN ?_ _|refine blk_drew ?_|refine blk_alloc ?_ _));exact BK125.out⟩,⟨by repeat (first|(with_reducible first|exact HB.out|apply below_alloc|apply pw_below_drewN|apply below_drew1|refine below_set ?_ GE125.out)|exact HB.out)⟩⟩
  ·rw [if_neg c5] at H
   have c5b0:decide (2<a0_1)=false:=decide_eq_false c5
   clear c5
   (first|rw [c5b0]|(simp only [i64_w,i32_w];rw [c5b0])|skip)
   have H':=Aside0.mk H
   clear H
   go_wp2
   go_meet
   case rel=>exact ⟨_,(1),(by first|rfl|(simp;done)|(simp [*];done)),H',⟨by first|omega|exact Nat.le_refl _⟩,⟨by (with_reducible repeat (first|refine blk_drewN ?_ _|refine blk_drew ?_|refine blk_alloc ?_ _));exact BK125.out⟩,⟨by repeat (first|(with_reducible first|exact HB.out|apply below_alloc|apply pw_below_drewN|apply below_drew1|refine below_set ?_ GE125.out)|exact HB.out)⟩⟩
 case rest =>
  clear HC2
  try clear c1
  try clear p2
  try clear c5
  try clear c5b0
  try clear hcz4_0
  try clear hcz4_1
  try clear hcz4_2
  try clear hfz4_0
  try clear hfz4_1
  try clear hfz4_2
  obtain ⟨kq,x3_1,rfl,HA,HJ1,BK125,HB⟩:=hcut
  cases kq with
  | zero=>exact absurd HA.out (by simp [matcher_Right.j0])
  | succ kj1 =>
   have H:=HA.out
   clear HA
   simp only [matcher_Right.j0] at H
   have H':=Aside0.mk H
   clear H
   have hcz6_0:wc.cell? ⟨gb125,0,none⟩=some (.string a0_0):=(blk_cell BK125.out 0).trans rfl
   have hcz6_1:wc.cell? ⟨gb125,1,none⟩=some (.int .i64 a0_1):=(blk_cell BK125.out 1).trans rfl
   have hcz6_2:wc.cell? ⟨gb125,2,none⟩=some (.slice A0_2 l0_2.length c0_2):=(blk_cell BK125.out 2).trans rfl
   have hfz6_0:=blk_frozen BK125.out 0
   have hfz6_1:=blk_frozen BK125.out 1
   have hfz6_2:=blk_frozen BK125.out 2
   go_wp2
   go_loopg [14] kj1 (fun kq v14 w'=>∃ (x14_2:Int),v14=.int .i64 x14_2∧Aside0 (matcher_Right.l0 kq x3_1 l0_2 (l0_2.length:Int) x14_2 a0_0 a0_1 l0_2=some r)∧Aside0 (kq≤kj1)∧Aside0 (w'.heap[gb125]?=some (.cells #[.string a0_0,.int .i64 a0_1,(.slice A0_2 l0_2.length c0_2)] 24 (0,0)))∧Aside0 (Below w.heap.size w w'))
   case atStart=>exact ⟨(0),(by first|rfl|(simp;done)|(simp [*];done)),H',⟨Nat.le_refl _⟩,⟨by (with_reducible repeat (first|refine blk_drewN ?_ _|refine blk_drew ?_|refine blk_alloc ?_ _));exact BK125.out⟩,⟨by repeat (first|(with_reducible first|exact HB.out|apply below_alloc|apply pw_below_drewN|apply below_drew1|refine below_set ?_ GE125.out)|exact HB.out)⟩⟩
   case round =>
    clear H'
    try clear c1
    try clear p2
    try clear c5
    try clear c5b0
    try clear hcz4_0
    try clear hcz4_1
    try clear hcz4_2
    try clear hcz6_0
    try clear hcz6_1
    try clear hcz6_2
    try clear hfz4_0
    try clear hfz4_1
    try clear hfz4_2
    try clear hfz6_0
    try clear hfz6_1
    try clear hfz6_2
    try clear p2
    obtain ⟨x14_2,rfl,HA,HK2,BK125,HB⟩:=hrel
    cases gk with
    | zero=>exact absurd HA.out (by simp [matcher_Right.l0])
    | succ k2 =>
     have H:=HA.out
     clear HA
     simp only [matcher_Right.l0] at H
     by_cases c7:x14_2<(l0_2.length:Int)
     ·rw [if_pos c7] at H
      have c7b0:decide (x14_2<(l0_2.length:Int))=true:=decide_eq_true c7
      clear c7
      by_cases c8:0≤x14_2
      ·rw [if_pos c8] at H
       have c8b0:decide (0≤x14_2)=true:=decide_eq_true c8
       clear c8
       by_cases c9:x14_2<(l0_2.length:Int)
       ·rw [if_pos c9] at H
        have c9b0:decide (x14_2<(l0_2.length:Int))=true:=decide_eq_true c9
        clear c9
        replace H:=Option.bind_eq_some_iff.mp H
        obtain ⟨t127,A100,H⟩:=H
        replace H:(if t127=true then (if x14_2>0 then (if 0≤(wrap64 (x14_2-1)) then (if (wrap64 (x14_2-1))<(l0_2.length:Int) then (if ((Op.bytesLess ((rdOf ByteArray.empty l0_2 (wrap64 (x14_2-1))).toList) ((rdOf ByteArray.empty l0_2 x14_2).toList))=true) then (matcher_Right.l0 k2 x3_1 l0_2 (l0_2.length:Int) (wrap64 (x14_2+1)) a0_0 a0_1 l0_2) else (some false)) else (none)) else (none)) else (matcher_Right.l0 k2 x3_1 l0_2 (l0_2.length:Int) (wrap64 (x14_2+1)) a0_0 a0_1 l0_2)) else (some false))=some r:=H
        have A10:=Aside0.mk A100
        clear A100
        by_cases c11:t127=true
        ·subst c11
         have H1:(if x14_2>0 then (if 0≤(wrap64 (x14_2-1)) then (if (wrap64 (x14_2-1))<(l0_2.length:Int) then (if ((Op.bytesLess ((rdOf ByteArray.empty l0_2 (wrap64 (x14_2-1))).toList) ((rdOf ByteArray.empty l0_2 x14_2).toList))=true) then (matcher_Right.l0 k2 x3_1 l0_2 (l0_2.length:Int) (wrap64 (x14_2+1)) a0_0 a0_1 l0_2) else (some false)) else (none)) else (none)) else (matcher_Right.l0 k2 x3_1 l0_2 (l0_2.length:Int) (wrap64 (x14_2+1)) a0_0 a0_1 l0_2))=some r:=by rw [if_pos rfl] at H;exact H
         clear H
         have H:=H1
         clear H1
         by_cases c12:x14_2>0
         ·rw [if_pos c12] at H
          have c12b0:decide (0<x14_2)=true:=decide_eq_true c12
          clear c12
          obtain ⟨ji13,hji13⟩:∃ j_:Int,(wrap64 (x14_2-1))=j_:=⟨_,rfl⟩
          replace H:(if 0≤(ji13) then (if (ji13)<(l0_2.length:Int) then (if ((Op.bytesLess ((rdOf ByteArray.empty l0_2 (ji13)).toList) ((rdOf ByteArray.empty l0_2 x14_2).toList))=true) then (matcher_Right.l0 k2 x3_1 l0_2 (l0_2.length:Int) (wrap64 (x14_2+1)) a0_0 a0_1 l0_2) else (some false)) else (none)) else (none))=some r:=by first|(rw [hji13] at H;exact H)|(simp only [hji13] at H ⊢;exact H)
          (try rw [hji13] at A10)
          have hji13w:(IntKind.i64.wrap (x14_2-1))=ji13:=(i64_w _).trans hji13
          by_cases c14:0≤(ji13)
          ·rw [if_pos c14] at H
           have c14b0:decide (0≤(ji13))=true:=decide_eq_true c14
           clear c14
           by_cases c15:(ji13)<(l0_2.length:Int)
           ·rw [if_pos c15] at H
            have c15b0:decide ((ji13)<(l0_2.length:Int))=true:=decide_eq_true c15
            clear c15
            by_cases c16:((Op.bytesLess ((rdOf ByteArray.empty l0_2 (ji13)).toList) ((rdOf ByteArray.empty l0_2 x14_2).toList))=true)
            ·rw [if_pos c16] at H
             have c16b0:(Op.bytesLess ((rdOf ByteArray.empty l0_2 (ji13)).toList) ((rdOf ByteArray.empty l0_2 x14_2).toList))=true:=c16
             clear c16
             have H':=Aside0.mk H
             clear H
             have p126:0≤(x14_2:Int):=of_decide_eq_true (by first|(with_reducible assumption)|assumption)
             have q126:x14_2<(l0_2.length:Int):=of_decide_eq_true (by first|(with_reducible assumption)|assumption)
             obtain ⟨ad126,e126,hx126_0⟩:=Kd.at_string HR0_2.out x14_2 p126 q126
             cases e126
             replace hx126_0:=(HB.out.cell (World.block_lt_of_cell? w _ hx126_0)).trans hx126_0
             replace p126:=eq_true p126
             replace q126:=eq_true q126
             go_wp2_with (first|((with_reducible refine gate_callee (f:=40) rfl ?_);refine goesL_ (some 20) rfl rfl Tryd.func40 (by kernel_rfl) rfl #[.string (rdOf ByteArray.empty l0_2 x14_2)] rfl (by (try simp only [List.map_toArray,List.map_cons,List.map_nil]);first|done|rfl|(simp only [List.length_drop,List.length_take];rfl)) ?_;(with_reducible refine (matcher_word.calls (rdOf ByteArray.empty l0_2 x14_2) true _ A10.out).mono ?_);rintro e w17 ⟨rfl,hb⟩;refine ⟨_,rfl,?_⟩;have n0_:=Aside0.mk (blk_below (g:=gb125) (o:=.cells #[.string a0_0,.int .i64 a0_1,.slice (some ad126) l0_2.length c0_2] 24 (0,0)) (by (with_reducible repeat (first|refine blk_drewN ?_ _|refine blk_drew ?_|refine blk_alloc ?_ _));exact BK125.out) hb);have n1_:=Aside0.mk (below_step (by repeat (first|(with_reducible first|exact HB.out|apply below_alloc|apply pw_below_drewN|apply below_drew1|refine below_set ?_ GE125.out)|exact HB.out)) hb);clear BK125;clear HB;have BK125:=n0_;have HB:=n1_;clear n0_ n1_;(try clear hb);(try clear hb2);(try clear hk);(try clear hi);have hcz18_0:w17.cell? ⟨gb125,0,none⟩=some (.string a0_0):=(blk_cell BK125.out 0).trans rfl;have hcz18_1:w17.cell? ⟨gb125,1,none⟩=some (.int .i64 a0_1):=(blk_cell BK125.out 1).trans rfl;have hcz18_2:w17.cell? ⟨gb125,2,none⟩=some (.slice (some ad126) l0_2.length c0_2):=(blk_cell BK125.out 2).trans rfl;have hfz18_0:=blk_frozen BK125.out 0;have hfz18_1:=blk_frozen BK125.out 1;have hfz18_2:=blk_frozen BK125.out 2;have p128:0≤((ji13):Int):=of_decide_eq_true (by first|(with_reducible assumption)|assumption);have q128:(ji13)<(l0_2.length:Int):=of_decide_eq_true (by first|(with_reducible assumption)|assumption);obtain ⟨ad128,e128,hx128_0⟩:=Kd.at_string HR0_2.out (ji13) p128 q128;obtain rfl:ad126=ad128:=(by injection e128);replace hx128_0:=(HB.out.cell (World.block_lt_of_cell? w _ hx128_0)).trans hx128_0;replace p128:=eq_true p128;replace q128:=eq_true q128))
             go_roundg k2
             case measure=>have:=HJ1.out;have:=HK2.out;omega
             case rel=>exact ⟨(wrap64 (x14_2+1)),(by first|rfl|(simp;done)|(simp [*];done)),H',⟨by have:=HJ1.out;have:=HK2.out;omega⟩,⟨by (with_reducible repeat (first|refine blk_drewN ?_ _|refine blk_drew ?_|refine blk_alloc ?_ _));exact BK125.out⟩,⟨by repeat (first|(with_reducible first|exact HB.out|apply below_alloc|apply pw_below_drewN|apply below_drew1|refine below_set ?_ GE125.out)|exact HB.out)⟩⟩
            ·rw [if_neg c16] at H
             have c16b0:(Op.bytesLess ((rdOf ByteArray.empty l0_2 (ji13)).toList) ((rdOf ByteArray.empty l0_2 x14_2).toList))=false:=by simpa using c16
             clear c16
             obtain rfl:=Option.some.inj H
             have p126:0≤(x14_2:Int):=of_decide_eq_true (by first|(with_reducible assumption)|assumption)
             have q126:x14_2<(l0_2.length:Int):=of_decide_eq_true (by first|(with_reducible assumption)|assumption)
             obtain ⟨ad126,e126,hx126_0⟩:=Kd.at_string HR0_2.out x14_2 p126 q126
             cases e126
             replace hx126_0:=(HB.out.cell (World.block_lt_of_cell? w _ hx126_0)).trans hx126_0
             replace p126:=eq_true p126
             replace q126:=eq_true q126
             go_wp2_with (first|((with_reducible refine gate_callee (f:=40) rfl ?_);refine goesL_ (some 20) rfl rfl Tryd.func40 (by kernel_rfl) rfl #[.string (rdOf ByteArray.empty l0_2 x14_2)] rfl (by (try simp only [List.map_toArray,List.map_cons,List.map_nil]);first|done|rfl|(simp only [List.length_drop,List.length_take];rfl)) ?_;(with_reducible refine (matcher_word.calls (rdOf ByteArray.empty l0_2 x14_2) true _ A10.out).mono ?_);rintro e w19 ⟨rfl,hb⟩;refine ⟨_,rfl,?_⟩;have n0_:=Aside0.mk (blk_below (g:=gb125) (o:=.cells #[.string a0_0,.int .i64 a0_1,.slice (some ad126) l0_2.length c0_2] 24 (0,0)) (by (with_reducible repeat (first|refine blk_drewN ?_ _|refine blk_drew ?_|refine blk_alloc ?_ _));exact BK125.out) hb);have n1_:=Aside0.mk (below_step (by repeat (first|(with_reducible first|exact HB.out|apply below_alloc|apply pw_below_drewN|apply below_drew1|refine below_set ?_ GE125.out)|exact HB.out)) hb);clear BK125;clear HB;have BK125:=n0_;have HB:=n1_;clear n0_ n1_;(try clear hb);(try clear hb2);(try clear hk);(try clear hi);have hcz20_0:w19.cell? ⟨gb125,0,none⟩=some (.string a0_0):=(blk_cell BK125.out 0).trans rfl;have hcz20_1:w19.cell? ⟨gb125,1,none⟩=some (.int .i64 a0_1):=(blk_cell BK125.out 1).trans rfl;have hcz20_2:w19.cell? ⟨gb125,2,none⟩=some (.slice (some ad126) l0_2.length c0_2):=(blk_cell BK125.out 2).trans rfl;have hfz20_0:=blk_frozen BK125.out 0;have hfz20_1:=blk_frozen BK125.out 1;have hfz20_2:=blk_frozen BK125.out 2;have p128:0≤((ji13):Int):=of_decide_eq_true (by first|(with_reducible assumption)|assumption);have q128:(ji13)<(l0_2.length:Int):=of_decide_eq_true (by first|(with_reducible assumption)|assumption);obtain ⟨ad128,e128,hx128_0⟩:=Kd.at_string HR0_2.out (ji13) p128 q128;obtain rfl:ad126=ad128:=(by injection e128);replace hx128_0:=(HB.out.cell (World.block_lt_of_cell? w _ hx128_0)).trans hx128_0;replace p128:=eq_true p128;replace q128:=eq_true q128))
             (first|go_ret|go_ret2)
             exact ⟨by first|rfl|(simp [errW_none,errW_some]<;>rfl)|(simp only [← hji13];first|rfl|(simp [errW_none,errW_some]<;>rfl))|(simp [*,errW_none,errW_some]<;>rfl),by repeat (first|(with_reducible first|exact HB.out|apply below_alloc|apply pw_below_drewN|apply below_drew1|refine below_set ?_ GE125.out)|exact HB.out)⟩
           ·rw [if_neg c15] at H
            exact absurd H (by simp)
          ·rw [if_neg c14] at H
           exact absurd H (by simp)
         ·rw [if_neg c12] at H
          have c12b0:decide (0<x14_2)=false:=decide_eq_false c12
          clear c12
          have H':=Aside0.mk H
          clear H
          have p126:0≤(x14_2:Int):=of_decide_eq_true (by first|(with_reducible assumption)|assumption)
          have q126:x14_2<(l0_2.length:Int):=of_decide_eq_true (by first|(with_reducible assumption)|assumption)
          obtain ⟨ad126,e126,hx126_0⟩:=Kd.at_string HR0_2.out x14_2 p126 q126
          cases e126
          replace hx126_0:=(HB.out.cell (World.block_lt_of_cell? w _ hx126_0)).trans hx126_0
          replace p126:=eq_true p126
          replace q126:=eq_true q126
          go_wp2_with (first|((with_reducible refine gate_callee (f:=40) rfl ?_);refine goesL_ (some 20) rfl rfl Tryd.func40 (by kernel_rfl) rfl #[.string (rdOf ByteArray.empty l0_2 x14_2)] rfl (by (try simp only [List.map_toArray,List.map_cons,List.map_nil]);first|done|rfl|(simp only [List.length_drop,List.length_take];rfl)) ?_;(with_reducible refine (matcher_word.calls (rdOf ByteArray.empty l0_2 x14_2) true _ A10.out).mono ?_);rintro e w21 ⟨rfl,hb⟩;refine ⟨_,rfl,?_⟩;have n0_:=Aside0.mk (blk_below (g:=gb125) (o:=.cells #[.string a0_0,.int .i64 a0_1,.slice (some ad126) l0_2.length c0_2] 24 (0,0)) (by (with_reducible repeat (first|refine blk_drewN ?_ _|refine blk_drew ?_|refine blk_alloc ?_ _));exact BK125.out) hb);have n1_:=Aside0.mk (below_step (by repeat (first|(with_reducible first|exact HB.out|apply below_alloc|apply pw_below_drewN|apply below_drew1|refine below_set ?_ GE125.out)|exact HB.out)) hb);clear BK125;clear HB;have BK125:=n0_;have HB:=n1_;clear n0_ n1_;(try clear hb);(try clear hb2);(try clear hk);(try clear hi)))
          go_roundg k2
          case measure=>have:=HJ1.out;have:=HK2.out;omega
          case rel=>exact ⟨(wrap64 (x14_2+1)),(by first|rfl|(simp;done)|(simp [*];done)),H',⟨by have:=HJ1.out;have:=HK2.out;omega⟩,⟨by (with_reducible repeat (first|refine blk_drewN ?_ _|refine blk_drew ?_|refine blk_alloc ?_ _));exact BK125.out⟩,⟨by repeat (first|(with_reducible first|exact HB.out|apply below_alloc|apply pw_below_drewN|apply below_drew1|refine below_set ?_ GE125.out)|exact HB.out)⟩⟩
        ·replace c11:=Bool.eq_false_iff.mpr c11
         subst c11
         have H1:(some false)=some r:=by rw [if_neg (show ¬ (false=true) by decide)] at H;exact H
         clear H
         have H:=H1
         clear H1
         obtain rfl:=Option.some.inj H
         have p126:0≤(x14_2:Int):=of_decide_eq_true (by first|(with_reducible assumption)|assumption)
         have q126:x14_2<(l0_2.length:Int):=of_decide_eq_true (by first|(with_reducible assumption)|assumption)
         obtain ⟨ad126,e126,hx126_0⟩:=Kd.at_string HR0_2.out x14_2 p126 q126
         cases e126
         replace hx126_0:=(HB.out.cell (World.block_lt_of_cell? w _ hx126_0)).trans hx126_0
         replace p126:=eq_true p126
         replace q126:=eq_true q126
         go_wp2_with (first|((with_reducible refine gate_callee (f:=40) rfl ?_);refine goesL_ (some 20) rfl rfl Tryd.func40 (by kernel_rfl) rfl #[.string (rdOf ByteArray.empty l0_2 x14_2)] rfl (by (try simp only [List.map_toArray,List.map_cons,List.map_nil]);first|done|rfl|(simp only [List.length_drop,List.length_take];rfl)) ?_;(with_reducible refine (matcher_word.calls (rdOf ByteArray.empty l0_2 x14_2) false _ A10.out).mono ?_);rintro e w22 ⟨rfl,hb⟩;refine ⟨_,rfl,?_⟩;have n0_:=Aside0.mk (blk_below (g:=gb125) (o:=.cells #[.string a0_0,.int .i64 a0_1,.slice (some ad126) l0_2.length c0_2] 24 (0,0)) (by (with_reducible repeat (first|refine blk_drewN ?_ _|refine blk_drew ?_|refine blk_alloc ?_ _));exact BK125.out) hb);have n1_:=Aside0.mk (below_step (by repeat (first|(with_reducible first|exact HB.out|apply below_alloc|apply pw_below_drewN|apply below_drew1|refine below_set ?_ GE125.out)|exact HB.out)) hb);clear BK125;clear HB;have BK125:=n0_;have HB:=n1_;clear n0_ n1_;(try clear hb);(try clear hb2);(try clear hk);(try clear hi)))
         (first|go_ret|go_ret2)
         exact ⟨by first|rfl|(simp [errW_none,errW_some]<;>rfl)|(simp [*,errW_none,errW_some]<;>rfl),by repeat (first|(with_reducible first|exact HB.out|apply below_alloc|apply pw_below_drewN|apply below_drew1|refine below_set ?_ GE125.out)|exact HB.out)⟩
       ·rw [if_neg c9] at H
        exact absurd H (by simp)
      ·rw [if_neg c8] at H
       exact absurd H (by simp)
     ·rw [if_neg c7] at H
      have c7b0:decide (x14_2<(l0_2.length:Int))=false:=decide_eq_false c7
      clear c7
      replace H:=Option.bind_eq_some_iff.mp H
      obtain ⟨t129,A230,H⟩:=H
      replace H:((signsAt.f t129 a0_1).bind fun bt130=>(if bt130.2=true then ((label_Right.f k2 (([(⟨a0_0,(⟨#[120]⟩:ByteArray)⟩:S46)]:List (S46)))).bind fun t135=>(if t135=true then (if (l0_2.length:Int)≥1 then (some (decide ((l0_2.length:Int)≤x3_1))) else (some false)) else (some false))) else (some false)))=some r:=H
      have A23:=Aside0.mk A230
      clear A230
      replace H:=Option.bind_eq_some_iff.mp H
      obtain ⟨⟨t130,t131⟩,A240,H⟩:=H
      replace H:(if t131=true then ((label_Right.f k2 (([(⟨a0_0,(⟨#[120]⟩:ByteArray)⟩:S46)]:List (S46)))).bind fun t135=>(if t135=true then (if (l0_2.length:Int)≥1 then (some (decide ((l0_2.length:Int)≤x3_1))) else (some false)) else (some false))) else (some false))=some r:=H
      have A24:=Aside0.mk A240
      clear A240
      by_cases c25:t131=true
      ·subst c25
       have H1:((label_Right.f k2 (([(⟨a0_0,(⟨#[120]⟩:ByteArray)⟩:S46)]:List (S46)))).bind fun t135=>(if t135=true then (if (l0_2.length:Int)≥1 then (some (decide ((l0_2.length:Int)≤x3_1))) else (some false)) else (some false)))=some r:=by rw [if_pos rfl] at H;exact H
       clear H
       have H:=H1
       clear H1
       obtain ⟨y132,hy132⟩:∃ y_:List (S46),y_=(([(⟨a0_0,(⟨#[120]⟩:ByteArray)⟩:S46)]:List (S46))):=⟨_,rfl⟩
       replace H:((label_Right.f k2 y132).bind fun t135=>(if t135=true then (if (l0_2.length:Int)≥1 then (some (decide ((l0_2.length:Int)≤x3_1))) else (some false)) else (some false)))=some r:=by first|(rw [hy132];with_reducible exact H)|(have H2_:=(Option.bind_some _ _).symm.trans H;rw [hy132];with_reducible exact H2_)|(have H2_:=(Option.bind_some _ _).symm.trans H;with_reducible exact H2_)|with_reducible exact H|(rw [hy132];exact H)|exact H
       have Ny132:=Aside0.mk hy132
       clear hy132
       replace H:=Option.bind_eq_some_iff.mp H
       obtain ⟨t135,A260,H⟩:=H
       replace H:(if t135=true then (if (l0_2.length:Int)≥1 then (some (decide ((l0_2.length:Int)≤x3_1))) else (some false)) else (some false))=some r:=H
       have A26:=Aside0.mk A260
       clear A260
       by_cases c27:t135=true
       ·subst c27
        have H1:(if (l0_2.length:Int)≥1 then (some (decide ((l0_2.length:Int)≤x3_1))) else (some false))=some r:=by rw [if_pos rfl] at H;exact H
        clear H
        have H:=H1
        clear H1
        by_cases c28:(l0_2.length:Int)≥1
        ·rw [if_pos c28] at H
         have c28b0:decide (1≤(l0_2.length:Int))=true:=decide_eq_true c28
         have c28b1:decide (1≤l0_2.length)=true:=decide_eq_true (by omega)
         clear c28
         obtain rfl:=Option.some.inj H
         try go_wp2
         have n0_:=Aside0.mk (blk_drew BK125.out)
         have n1_:=Aside0.mk (below_drew1 HB.out)
         clear BK125
         clear HB
         have BK125:=n0_
         have HB:=n1_
         clear n0_ n1_
         refine start_ (n:=9) (S:=fun w'=>w'.cell? ⟨gb125,0,none⟩=some (.string a0_0)∧w'.cell? ⟨gb125,1,none⟩=some (.int .i64 a0_1)∧w'.cell? ⟨gb125,2,none⟩=some (.slice A0_2 l0_2.length c0_2)) (ds:=[]) #[false,false,false,false,false,false,false,false,false] (by kernel_rfl) rfl rfl ⟨(blk_cell BK125.out 0).trans rfl,(blk_cell BK125.out 1).trans rfl,(blk_cell BK125.out 2).trans rfl⟩ (fun hHeld=>?_);refine with_tabW matcher_Right.tab10 matcher_Right.bits10 (fun HT_ HW_=>?_)
         generalize wr.drew=w29 at BK125 HB hHeld ⊢
         refine pure_ (i:=1) (N:=some 39) (v:=?_) (a':=?_) #[false,true,false,false,false,false,false,false,false] rfl rfl (any_of HT_.out (by kernel_rfl)) (fun _ _ _ h=>h) (Or.inl ⟨by rfl,?_⟩) ?_ ?_
         rotate_left
         ·intro w'
          go_simp
          with_reducible rfl
         rotate_left
         ·simp only [Act.put,List.setIfInBounds_toArray,List.set_cons_zero,List.set_cons_succ,i64_w,i32_w]
          rfl
         refine take_ (i:=2) (N:=some 40) (v:=?_) (a':=?_) #[false,true,true,false,false,false,false,false,false] rfl rfl (take_ofW HT_.out HW_.out (by kernel_rfl)) (fun _ _ _ h=>h) (Or.inl ⟨by rfl,?_⟩) hHeld ?_ ?_
         rotate_left
         ·rintro w' ⟨s0,s1,s2⟩
          go_simp
          with_reducible rfl
         rotate_left
         ·simp only [Act.put,List.setIfInBounds_toArray,List.set_cons_zero,List.set_cons_succ,i64_w,i32_w]
          rfl
         refine one_ (i:=0) (N:=some 38) #[true,true,true,false,false,false,false,false,false] rfl rfl (one_of HT_.out (by kernel_rfl)) (by decide) (fun K hK=>?_)
         refine goes_ Tryd.func23 (by kernel_rfl) rfl #[] (by rfl) rfl rfl (by (try simp only [List.map_toArray,List.map_cons,List.map_nil]);first|done|rfl|(simp only [List.length_drop,List.length_take];rfl)) ?_
         with_reducible refine (signs_new _).mono ?_
         rintro e w30 ⟨mb,rfl,hsg,hb⟩
         have HSG:=Aside0.mk hsg
         clear hsg
         refine ⟨_,rfl,?_⟩
         have n0_:=Aside0.mk (blk_below (g:=gb125) (o:=.cells #[.string a0_0,.int .i64 a0_1,.slice A0_2 l0_2.length c0_2] 24 (0,0)) (by (with_reducible repeat (first|refine blk_drewN ?_ _|refine blk_drew ?_|refine blk_alloc ?_ _));exact BK125.out) hb)
         have n1_:=Aside0.mk (below_step (by repeat (first|(with_reducible first|exact HB.out|apply below_alloc|apply pw_below_drewN|apply below_drew1|refine below_set ?_ GE125.out)|exact HB.out)) hb)
         clear BK125
         clear HB
         have BK125:=n0_
         have HB:=n1_
         clear n0_ n1_
         (try clear hb)
         (try clear hb2)
         (try clear hk)
         (try clear hi)
         refine hK.out _ _ ⟨(blk_cell BK125.out 0).trans rfl,(blk_cell BK125.out 1).trans rfl,(blk_cell BK125.out 2).trans rfl⟩ (fun hHeld=>?_)
         clear hK K
         refine norm_ (a':=?_) ?_ ?_
         rotate_left
         ·show Act.put _ (some 38) _=_
          simp only [Act.put,List.setIfInBounds_toArray,List.set_cons_zero,List.set_cons_succ,i64_w,i32_w]
          rfl
         refine one_ (i:=3) (N:=some 41) #[true,true,true,true,false,false,false,false,false] rfl rfl (one_of HT_.out (by kernel_rfl)) (by decide) (fun K hK=>?_)
         refine look2_ (b:=mb) (how:=a0_1) (by rfl) rfl rfl (by rfl) (by rfl) HSG.out (signsAt_inv A24.out).1 (signsAt_inv A24.out).2.1 (signsAt_inv A24.out).2.2 ?_
         intro w31 hb hsg
         have HSG:=Aside0.mk hsg
         clear hsg
         have n0_:=Aside0.mk (blk_below (g:=gb125) (o:=.cells #[.string a0_0,.int .i64 a0_1,.slice A0_2 l0_2.length c0_2] 24 (0,0)) (by (with_reducible repeat (first|refine blk_drewN ?_ _|refine blk_drew ?_|refine blk_alloc ?_ _));exact BK125.out) hb)
         have n1_:=Aside0.mk (below_step (by repeat (first|(with_reducible first|exact HB.out|apply below_alloc|apply pw_below_drewN|apply below_drew1|refine below_set ?_ GE125.out)|exact HB.out)) hb)
         clear BK125
         clear HB
         have BK125:=n0_
         have HB:=n1_
         clear n0_ n1_
         (try clear hb)
         (try clear hb2)
         (try clear hk)
         (try clear hi)
         refine hK.out _ _ ⟨(blk_cell BK125.out 0).trans rfl,(blk_cell BK125.out 1).trans rfl,(blk_cell BK125.out 2).trans rfl⟩ (fun hHeld=>?_)
         clear hK K
         refine norm_ (a':=?_) ?_ ?_
         rotate_left
         ·show Act.put _ (some 41) _=_
          simp only [Act.put,List.setIfInBounds_toArray,List.set_cons_zero,List.set_cons_succ,i64_w,i32_w]
          rfl
         refine pure_ (i:=4) (N:=some 37) (v:=?_) (a':=?_) #[true,true,true,true,true,false,false,false,false] rfl rfl (any_of HT_.out (by kernel_rfl)) (fun _ _ _ h=>h) (Or.inl ⟨by rfl,?_⟩) ?_ ?_
         rotate_left
         ·intro w'
          go_simp
          with_reducible rfl
         rotate_left
         ·simp only [Act.put,List.setIfInBounds_toArray,List.set_cons_zero,List.set_cons_succ,i64_w,i32_w]
          rfl
         refine pure_ (i:=5) (N:=some 42) (v:=?_) (a':=?_) #[true,true,true,true,true,true,false,false,false] rfl rfl (any_of HT_.out (by kernel_rfl)) (fun _ _ _ h=>h) (Or.inl ⟨by rfl,?_⟩) ?_ ?_
         rotate_left
         ·intro w'
          go_simp
          with_reducible rfl
         rotate_left
         ·simp only [Act.put,List.setIfInBounds_toArray,List.set_cons_zero,List.set_cons_succ,i64_w,i32_w]
          rfl
         refine pure_ (i:=6) (N:=some 43) (v:=?_) (a':=?_) #[true,true,true,true,true,true,true,false,false] rfl rfl (any_of HT_.out (by kernel_rfl)) (fun _ _ _ h=>h) (Or.inl ⟨by rfl,?_⟩) ?_ ?_
         rotate_left
         ·intro w'
          go_simp
          with_reducible rfl
         rotate_left
         ·simp only [Act.put,List.setIfInBounds_toArray,List.set_cons_zero,List.set_cons_succ,i64_w,i32_w]
          rfl
         refine pure_ (i:=7) (N:=some 6) (v:=?_) (a':=?_) #[true,true,true,true,true,true,true,true,false] rfl rfl (any_of HT_.out (by kernel_rfl)) (fun _ _ _ h=>h) (Or.inl ⟨by rfl,?_⟩) ?_ ?_
         rotate_left
         ·intro w'
          go_simp
          with_reducible rfl
         rotate_left
         ·simp only [Act.put,List.setIfInBounds_toArray,List.set_cons_zero,List.set_cons_succ,i64_w,i32_w]
          rfl
         refine pure_ (i:=8) (N:=some 7) (v:=?_) (a':=?_) #[true,true,true,true,true,true,true,true,true] rfl rfl (any_of HT_.out (by kernel_rfl)) (fun _ _ _ h=>h) (Or.inl ⟨by rfl,?_⟩) ?_ ?_
         rotate_left
         ·intro w'
          go_simp
          with_reducible rfl
         rotate_left
         ·simp only [Act.put,List.setIfInBounds_toArray,List.set_cons_zero,List.set_cons_succ,i64_w,i32_w]
          rfl
         refine done_ (done_of HT_.out (by kernel_rfl)) ?_
         have hcz32_0:w31.cell? ⟨gb125,0,none⟩=some (.string a0_0):=(blk_cell BK125.out 0).trans rfl
         have hcz32_1:w31.cell? ⟨gb125,1,none⟩=some (.int .i64 a0_1):=(blk_cell BK125.out 1).trans rfl
         have hcz32_2:w31.cell? ⟨gb125,2,none⟩=some (.slice A0_2 l0_2.length c0_2):=(blk_cell BK125.out 2).trans rfl
         have hfz32_0:=blk_frozen BK125.out 0
         have hfz32_1:=blk_frozen BK125.out 1
         have hfz32_2:=blk_frozen BK125.out 2
         try go_wp2_with (first|((with_reducible refine gate_dst (N:=49) rfl ?_);(try (refine gate_guard (by rfl) ?_;dsimp only));refine Kd.R_lit k46 _ 46 ?hg (N:=49) ?hd (xs:=([(⟨a0_0,(⟨#[120]⟩:ByteArray)⟩:S46)]:List (S46))) (inner:=[.string a0_0,.string (⟨#[120]⟩:ByteArray)]) (ok:=fun _=>True) (okp:=fun _=>True) ?hr ?hp (fun _ hk=>hk) trivial (Below.refl _ _) (Nat.le_refl _) (by simp) ?_;(case hd=>rfl);(case hg=>rfl);(case hr=>first|(go_simp;done)|(go_simp;rfl)|(go_simp;simp [IntKind.wrap_u32]));(case hp=>exact (Reps.c2 (show Kd.M k46 _ _ _ (⟨a0_0,(⟨#[120]⟩:ByteArray)⟩:S46) [.string a0_0,.string (⟨#[120]⟩:ByteArray)] from (k46_mkM _ _ _ (⟨a0_0,(⟨#[120]⟩:ByteArray)⟩:S46) )) (Reps.none _ _)));intro v133 w33 ho34 hb hg_ hnew_;clear hg_ hnew_;(first|rw [← Ny132.out] at ho34|(simp only [Int.reduceToNat] at ho34;rw [← Ny132.out] at ho34));have n0_:=Aside0.mk (Kd.R_lower ho34 (below_size (by repeat (first|(with_reducible first|exact HB.out|apply below_alloc|apply pw_below_drewN|apply below_drew1|refine below_set ?_ GE125.out)|exact HB.out))));have n1_:=Aside0.mk (blk_below (g:=gb125) (o:=.cells #[.string a0_0,.int .i64 a0_1,.slice A0_2 l0_2.length c0_2] 24 (0,0)) (by (with_reducible repeat (first|refine blk_drewN ?_ _|refine blk_drew ?_|refine blk_alloc ?_ _));exact BK125.out) hb);have n2_:=Aside0.mk (below_step (by repeat (first|(with_reducible first|exact HB.out|apply below_alloc|apply pw_below_drewN|apply below_drew1|refine below_set ?_ GE125.out)|exact HB.out)) hb);clear BK125;clear HB;have HO134:=n0_;have BK125:=n1_;have HB:=n2_;clear n0_ n1_ n2_;clear hb ho34;obtain ⟨Ao35,co35,eo35⟩:=Kd.R_slice HO134.out;subst eo35)|(go_at_call 35;(with_reducible refine (label_Right.calls k2 _ _ y132 true _ ?side1 ?side2 A26.out).mono ?_);(case side1=>repeat (first|exact (Kd.R_reads' HO134.out).2.2|(with_reducible refine Kd.C_alloc ?_ _)|(with_reducible refine Kd.C_drewN ?_ _)|(with_reducible refine Kd.C_drew ?_)));(case side2=>exact (Kd.R_reads' HO134.out).2.1);rintro e w36 ⟨rfl,hb⟩;have n0_:=Aside0.mk (Kd.R_below (by (with_reducible repeat (first|apply Kd.R_alloc|apply Kd.R_drewN|apply Kd.R_drew));exact HO134.out) hb);have n1_:=Aside0.mk (blk_below (g:=gb125) (o:=.cells #[.string a0_0,.int .i64 a0_1,.slice A0_2 l0_2.length c0_2] 24 (0,0)) (by (with_reducible repeat (first|refine blk_drewN ?_ _|refine blk_drew ?_|refine blk_alloc ?_ _));exact BK125.out) hb);have n2_:=Aside0.mk (below_step (by repeat (first|(with_reducible first|exact HB.out|apply below_alloc|apply pw_below_drewN|apply below_drew1|refine below_set ?_ GE125.out)|exact HB.out)) hb);clear HO134;clear BK125;clear HB;have HO134:=n0_;have BK125:=n1_;have HB:=n2_;clear n0_ n1_ n2_;(try clear hb);(try clear hb2);(try clear hk);(try clear hi);have hcz37_0:w36.cell? ⟨gb125,0,none⟩=some (.string a0_0):=(blk_cell BK125.out 0).trans rfl;have hcz37_1:w36.cell? ⟨gb125,1,none⟩=some (.int .i64 a0_1):=(blk_cell BK125.out 1).trans rfl;have hcz37_2:w36.cell? ⟨gb125,2,none⟩=some (.slice A0_2 l0_2.length c0_2):=(blk_cell BK125.out 2).trans rfl;have hfz37_0:=blk_frozen BK125.out 0;have hfz37_1:=blk_frozen BK125.out 1;have hfz37_2:=blk_frozen BK125.out 2))
         (first|go_ret|go_ret2)
         exact ⟨by first|rfl|(simp [errW_none,errW_some]<;>rfl)|(simp [*,errW_none,errW_some]<;>rfl),by repeat (first|(with_reducible first|exact HB.out|apply below_alloc|apply pw_below_drewN|apply below_drew1|refine below_set ?_ GE125.out)|exact HB.out)⟩
        ·rw [if_neg c28] at H
         have c28b0:decide (1≤(l0_2.length:Int))=false:=decide_eq_false c28
         have c28b1:decide (1≤l0_2.length)=false:=decide_eq_false (by omega)
         clear c28
         obtain rfl:=Option.some.inj H
         try go_wp2
         have n0_:=Aside0.mk (blk_drew BK125.out)
         have n1_:=Aside0.mk (below_drew1 HB.out)
         clear BK125
         clear HB
         have BK125:=n0_
         have HB:=n1_
         clear n0_ n1_
         refine start_ (n:=9) (S:=fun w'=>w'.cell? ⟨gb125,0,none⟩=some (.string a0_0)∧w'.cell? ⟨gb125,1,none⟩=some (.int .i64 a0_1)∧w'.cell? ⟨gb125,2,none⟩=some (.slice A0_2 l0_2.length c0_2)) (ds:=[]) #[false,false,false,false,false,false,false,false,false] (by kernel_rfl) rfl rfl ⟨(blk_cell BK125.out 0).trans rfl,(blk_cell BK125.out 1).trans rfl,(blk_cell BK125.out 2).trans rfl⟩ (fun hHeld=>?_);refine with_tabW matcher_Right.tab10 matcher_Right.bits10 (fun HT_ HW_=>?_)
         generalize wr.drew=w38 at BK125 HB hHeld ⊢
         refine pure_ (i:=1) (N:=some 39) (v:=?_) (a':=?_) #[false,true,false,false,false,false,false,false,false] rfl rfl (any_of HT_.out (by kernel_rfl)) (fun _ _ _ h=>h) (Or.inl ⟨by rfl,?_⟩) ?_ ?_
         rotate_left
         ·intro w'
          go_simp
          with_reducible rfl
         rotate_left
         ·simp only [Act.put,List.setIfInBounds_toArray,List.set_cons_zero,List.set_cons_succ,i64_w,i32_w]
          rfl
         refine take_ (i:=2) (N:=some 40) (v:=?_) (a':=?_) #[false,true,true,false,false,false,false,false,false] rfl rfl (take_ofW HT_.out HW_.out (by kernel_rfl)) (fun _ _ _ h=>h) (Or.inl ⟨by rfl,?_⟩) hHeld ?_ ?_
         rotate_left
         ·rintro w' ⟨s0,s1,s2⟩
          go_simp
          with_reducible rfl
         rotate_left
         ·simp only [Act.put,List.setIfInBounds_toArray,List.set_cons_zero,List.set_cons_succ,i64_w,i32_w]
          rfl
         refine one_ (i:=0) (N:=some 38) #[true,true,true,false,false,false,false,false,false] rfl rfl (one_of HT_.out (by kernel_rfl)) (by decide) (fun K hK=>?_)
         refine goes_ Tryd.func23 (by kernel_rfl) rfl #[] (by rfl) rfl rfl (by (try simp only [List.map_toArray,List.map_cons,List.map_nil]);first|done|rfl|(simp only [List.length_drop,List.length_take];rfl)) ?_
         with_reducible refine (signs_new _).mono ?_
         rintro e w39 ⟨mb,rfl,hsg,hb⟩
         have HSG:=Aside0.mk hsg
         clear hsg
         refine ⟨_,rfl,?_⟩
         have n0_:=Aside0.mk (blk_below (g:=gb125) (o:=.cells #[.string a0_0,.int .i64 a0_1,.slice A0_2 l0_2.length c0_2] 24 (0,0)) (by (with_reducible repeat (first|refine blk_drewN ?_ _|refine blk_drew ?_|refine blk_alloc ?_ _));exact BK125.out) hb)
         have n1_:=Aside0.mk (below_step (by repeat (first|(with_reducible first|exact HB.out|apply below_alloc|apply pw_below_drewN|apply below_drew1|refine below_set ?_ GE125.out)|exact HB.out)) hb)
         clear BK125
         clear HB
         have BK125:=n0_
         have HB:=n1_
         clear n0_ n1_
         (try clear hb)
         (try clear hb2)
         (try clear hk)
         (try clear hi)
         refine hK.out _ _ ⟨(blk_cell BK125.out 0).trans rfl,(blk_cell BK125.out 1).trans rfl,(blk_cell BK125.out 2).trans rfl⟩ (fun hHeld=>?_)
         clear hK K
         refine norm_ (a':=?_) ?_ ?_
         rotate_left
         ·show Act.put _ (some 38) _=_
          simp only [Act.put,List.setIfInBounds_toArray,List.set_cons_zero,List.set_cons_succ,i64_w,i32_w]
          rfl
         refine one_ (i:=3) (N:=some 41) #[true,true,true,true,false,false,false,false,false] rfl rfl (one_of HT_.out (by kernel_rfl)) (by decide) (fun K hK=>?_)
         refine look2_ (b:=mb) (how:=a0_1) (by rfl) rfl rfl (by rfl) (by rfl) HSG.out (signsAt_inv A24.out).1 (signsAt_inv A24.out).2.1 (signsAt_inv A24.out).2.2 ?_
         intro w40 hb hsg
         have HSG:=Aside0.mk hsg
         clear hsg
         have n0_:=Aside0.mk (blk_below (g:=gb125) (o:=.cells #[.string a0_0,.int .i64 a0_1,.slice A0_2 l0_2.length c0_2] 24 (0,0)) (by (with_reducible repeat (first|refine blk_drewN ?_ _|refine blk_drew ?_|refine blk_alloc ?_ _));exact BK125.out) hb)
         have n1_:=Aside0.mk (below_step (by repeat (first|(with_reducible first|exact HB.out|apply below_alloc|apply pw_below_drewN|apply below_drew1|refine below_set ?_ GE125.out)|exact HB.out)) hb)
         clear BK125
         clear HB
         have BK125:=n0_
         have HB:=n1_
         clear n0_ n1_
         (try clear hb)
         (try clear hb2)
         (try clear hk)
         (try clear hi)
         refine hK.out _ _ ⟨(blk_cell BK125.out 0).trans rfl,(blk_cell BK125.out 1).trans rfl,(blk_cell BK125.out 2).trans rfl⟩ (fun hHeld=>?_)
         clear hK K
         refine norm_ (a':=?_) ?_ ?_
         rotate_left
         ·show Act.put _ (some 41) _=_
          simp only [Act.put,List.setIfInBounds_toArray,List.set_cons_zero,List.set_cons_succ,i64_w,i32_w]
          rfl
         refine pure_ (i:=4) (N:=some 37) (v:=?_) (a':=?_) #[true,true,true,true,true,false,false,false,false] rfl rfl (any_of HT_.out (by kernel_rfl)) (fun _ _ _ h=>h) (Or.inl ⟨by rfl,?_⟩) ?_ ?_
         rotate_left
         ·intro w'
          go_simp
          with_reducible rfl
         rotate_left
         ·simp only [Act.put,List.setIfInBounds_toArray,List.set_cons_zero,List.set_cons_succ,i64_w,i32_w]
          rfl
         refine pure_ (i:=5) (N:=some 42) (v:=?_) (a':=?_) #[true,true,true,true,true,true,false,false,false] rfl rfl (any_of HT_.out (by kernel_rfl)) (fun _ _ _ h=>h) (Or.inl ⟨by rfl,?_⟩) ?_ ?_
         rotate_left
         ·intro w'
          go_simp
          with_reducible rfl
         rotate_left
         ·simp only [Act.put,List.setIfInBounds_toArray,List.set_cons_zero,List.set_cons_succ,i64_w,i32_w]
          rfl
         refine pure_ (i:=6) (N:=some 43) (v:=?_) (a':=?_) #[true,true,true,true,true,true,true,false,false] rfl rfl (any_of HT_.out (by kernel_rfl)) (fun _ _ _ h=>h) (Or.inl ⟨by rfl,?_⟩) ?_ ?_
         rotate_left
         ·intro w'
          go_simp
          with_reducible rfl
         rotate_left
         ·simp only [Act.put,List.setIfInBounds_toArray,List.set_cons_zero,List.set_cons_succ,i64_w,i32_w]
          rfl
         refine pure_ (i:=7) (N:=some 6) (v:=?_) (a':=?_) #[true,true,true,true,true,true,true,true,false] rfl rfl (any_of HT_.out (by kernel_rfl)) (fun _ _ _ h=>h) (Or.inl ⟨by rfl,?_⟩) ?_ ?_
         rotate_left
         ·intro w'
          go_simp
          with_reducible rfl
         rotate_left
         ·simp only [Act.put,List.setIfInBounds_toArray,List.set_cons_zero,List.set_cons_succ,i64_w,i32_w]
          rfl
         refine pure_ (i:=8) (N:=some 7) (v:=?_) (a':=?_) #[true,true,true,true,true,true,true,true,true] rfl rfl (any_of HT_.out (by kernel_rfl)) (fun _ _ _ h=>h) (Or.inl ⟨by rfl,?_⟩) ?_ ?_
         rotate_left
         ·intro w'
          go_simp
          with_reducible rfl
         rotate_left
         ·simp only [Act.put,List.setIfInBounds_toArray,List.set_cons_zero,List.set_cons_succ,i64_w,i32_w]
          rfl
         refine done_ (done_of HT_.out (by kernel_rfl)) ?_
         have hcz41_0:w40.cell? ⟨gb125,0,none⟩=some (.string a0_0):=(blk_cell BK125.out 0).trans rfl
         have hcz41_1:w40.cell? ⟨gb125,1,none⟩=some (.int .i64 a0_1):=(blk_cell BK125.out 1).trans rfl
         have hcz41_2:w40.cell? ⟨gb125,2,none⟩=some (.slice A0_2 l0_2.length c0_2):=(blk_cell BK125.out 2).trans rfl
         have hfz41_0:=blk_frozen BK125.out 0
         have hfz41_1:=blk_frozen BK125.out 1
         have hfz41_2:=blk_frozen BK125.out 2
         try go_wp2_with (first|((with_reducible refine gate_dst (N:=49) rfl ?_);(try (refine gate_guard (by rfl) ?_;dsimp only));refine Kd.R_lit k46 _ 46 ?hg (N:=49) ?hd (xs:=([(⟨a0_0,(⟨#[120]⟩:ByteArray)⟩:S46)]:List (S46))) (inner:=[.string a0_0,.string (⟨#[120]⟩:ByteArray)]) (ok:=fun _=>True) (okp:=fun _=>True) ?hr ?hp (fun _ hk=>hk) trivial (Below.refl _ _) (Nat.le_refl _) (by simp) ?_;(case hd=>rfl);(case hg=>rfl);(case hr=>first|(go_simp;done)|(go_simp;rfl)|(go_simp;simp [IntKind.wrap_u32]));(case hp=>exact (Reps.c2 (show Kd.M k46 _ _ _ (⟨a0_0,(⟨#[120]⟩:ByteArray)⟩:S46) [.string a0_0,.string (⟨#[120]⟩:ByteArray)] from (k46_mkM _ _ _ (⟨a0_0,(⟨#[120]⟩:ByteArray)⟩:S46) )) (Reps.none _ _)));intro v133 w42 ho43 hb hg_ hnew_;clear hg_ hnew_;(first|rw [← Ny132.out] at ho43|(simp only [Int.reduceToNat] at ho43;rw [← Ny132.out] at ho43));have n0_:=Aside0.mk (Kd.R_lower ho43 (below_size (by repeat (first|(with_reducible first|exact HB.out|apply below_alloc|apply pw_below_drewN|apply below_drew1|refine below_set ?_ GE125.out)|exact HB.out))));have n1_:=Aside0.mk (blk_below (g:=gb125) (o:=.cells #[.string a0_0,.int .i64 a0_1,.slice A0_2 l0_2.length c0_2] 24 (0,0)) (by (with_reducible repeat (first|refine blk_drewN ?_ _|refine blk_drew ?_|refine blk_alloc ?_ _));exact BK125.out) hb);have n2_:=Aside0.mk (below_step (by repeat (first|(with_reducible first|exact HB.out|apply below_alloc|apply pw_below_drewN|apply below_drew1|refine below_set ?_ GE125.out)|exact HB.out)) hb);clear BK125;clear HB;have HO134:=n0_;have BK125:=n1_;have HB:=n2_;clear n0_ n1_ n2_;clear hb ho43;obtain ⟨Ao44,co44,eo44⟩:=Kd.R_slice HO134.out;subst eo44)|(go_at_call 35;(with_reducible refine (label_Right.calls k2 _ _ y132 true _ ?side1 ?side2 A26.out).mono ?_);(case side1=>repeat (first|exact (Kd.R_reads' HO134.out).2.2|(with_reducible refine Kd.C_alloc ?_ _)|(with_reducible refine Kd.C_drewN ?_ _)|(with_reducible refine Kd.C_drew ?_)));(case side2=>exact (Kd.R_reads' HO134.out).2.1);rintro e w45 ⟨rfl,hb⟩;have n0_:=Aside0.mk (Kd.R_below (by (with_reducible repeat (first|apply Kd.R_alloc|apply Kd.R_drewN|apply Kd.R_drew));exact HO134.out) hb);have n1_:=Aside0.mk (blk_below (g:=gb125) (o:=.cells #[.string a0_0,.int .i64 a0_1,.slice A0_2 l0_2.length c0_2] 24 (0,0)) (by (with_reducible repeat (first|refine blk_drewN ?_ _|refine blk_drew ?_|refine blk_alloc ?_ _));exact BK125.out) hb);have n2_:=Aside0.mk (below_step (by repeat (first|(with_reducible first|exact HB.out|apply below_alloc|apply pw_below_drewN|apply below_drew1|refine below_set ?_ GE125.out)|exact HB.out)) hb);clear HO134;clear BK125;clear HB;have HO134:=n0_;have BK125:=n1_;have HB:=n2_;clear n0_ n1_ n2_;(try clear hb);(try clear hb2);(try clear hk);(try clear hi);have hcz46_0:w45.cell? ⟨gb125,0,none⟩=some (.string a0_0):=(blk_cell BK125.out 0).trans rfl;have hcz46_1:w45.cell? ⟨gb125,1,none⟩=some (.int .i64 a0_1):=(blk_cell BK125.out 1).trans rfl;have hcz46_2:w45.cell? ⟨gb125,2,none⟩=some (.slice A0_2 l0_2.length c0_2):=(blk_cell BK125.out 2).trans rfl;have hfz46_0:=blk_frozen BK125.out 0;have hfz46_1:=blk_frozen BK125.out 1;have hfz46_2:=blk_frozen BK125.out 2))
         (first|go_ret|go_ret2)
         exact ⟨by first|rfl|(simp [errW_none,errW_some]<;>rfl)|(simp [*,errW_none,errW_some]<;>rfl),by repeat (first|(with_reducible first|exact HB.out|apply below_alloc|apply pw_below_drewN|apply below_drew1|refine below_set ?_ GE125.out)|exact HB.out)⟩
       ·replace c27:=Bool.eq_false_iff.mpr c27
        subst c27
        have H1:(some false)=some r:=by rw [if_neg (show ¬ (false=true) by decide)] at H;exact H
        clear H
        have H:=H1
        clear H1
        obtain rfl:=Option.some.inj H
        try go_wp2
        have n0_:=Aside0.mk (blk_drew BK125.out)
        have n1_:=Aside0.mk (below_drew1 HB.out)
        clear BK125
        clear HB
        have BK125:=n0_
        have HB:=n1_
        clear n0_ n1_
        refine start_ (n:=9) (S:=fun w'=>w'.cell? ⟨gb125,0,none⟩=some (.string a0_0)∧w'.cell? ⟨gb125,1,none⟩=some (.int .i64 a0_1)∧w'.cell? ⟨gb125,2,none⟩=some (.slice A0_2 l0_2.length c0_2)) (ds:=[]) #[false,false,false,false,false,false,false,false,false] (by kernel_rfl) rfl rfl ⟨(blk_cell BK125.out 0).trans rfl,(blk_cell BK125.out 1).trans rfl,(blk_cell BK125.out 2).trans rfl⟩ (fun hHeld=>?_);refine with_tabW matcher_Right.tab10 matcher_Right.bits10 (fun HT_ HW_=>?_)
        generalize wr.drew=w47 at BK125 HB hHeld ⊢
        refine pure_ (i:=1) (N:=some 39) (v:=?_) (a':=?_) #[false,true,false,false,false,false,false,false,false] rfl rfl (any_of HT_.out (by kernel_rfl)) (fun _ _ _ h=>h) (Or.inl ⟨by rfl,?_⟩) ?_ ?_
        rotate_left
        ·intro w'
         go_simp
         with_reducible rfl
        rotate_left
        ·simp only [Act.put,List.setIfInBounds_toArray,List.set_cons_zero,List.set_cons_succ,i64_w,i32_w]
         rfl
        refine take_ (i:=2) (N:=some 40) (v:=?_) (a':=?_) #[false,true,true,false,false,false,false,false,false] rfl rfl (take_ofW HT_.out HW_.out (by kernel_rfl)) (fun _ _ _ h=>h) (Or.inl ⟨by rfl,?_⟩) hHeld ?_ ?_
        rotate_left
        ·rintro w' ⟨s0,s1,s2⟩
         go_simp
         with_reducible rfl
        rotate_left
        ·simp only [Act.put,List.setIfInBounds_toArray,List.set_cons_zero,List.set_cons_succ,i64_w,i32_w]
         rfl
        refine one_ (i:=0) (N:=some 38) #[true,true,true,false,false,false,false,false,false] rfl rfl (one_of HT_.out (by kernel_rfl)) (by decide) (fun K hK=>?_)
        refine goes_ Tryd.func23 (by kernel_rfl) rfl #[] (by rfl) rfl rfl (by (try simp only [List.map_toArray,List.map_cons,List.map_nil]);first|done|rfl|(simp only [List.length_drop,List.length_take];rfl)) ?_
        with_reducible refine (signs_new _).mono ?_
        rintro e w48 ⟨mb,rfl,hsg,hb⟩
        have HSG:=Aside0.mk hsg
        clear hsg
        refine ⟨_,rfl,?_⟩
        have n0_:=Aside0.mk (blk_below (g:=gb125) (o:=.cells #[.string a0_0,.int .i64 a0_1,.slice A0_2 l0_2.length c0_2] 24 (0,0)) (by (with_reducible repeat (first|refine blk_drewN ?_ _|refine blk_drew ?_|refine blk_alloc ?_ _));exact BK125.out) hb)
        have n1_:=Aside0.mk (below_step (by repeat (first|(with_reducible first|exact HB.out|apply below_alloc|apply pw_below_drewN|apply below_drew1|refine below_set ?_ GE125.out)|exact HB.out)) hb)
        clear BK125
        clear HB
        have BK125:=n0_
        have HB:=n1_
        clear n0_ n1_
        (try clear hb)
        (try clear hb2)
        (try clear hk)
        (try clear hi)
        refine hK.out _ _ ⟨(blk_cell BK125.out 0).trans rfl,(blk_cell BK125.out 1).trans rfl,(blk_cell BK125.out 2).trans rfl⟩ (fun hHeld=>?_)
        clear hK K
        refine norm_ (a':=?_) ?_ ?_
        rotate_left
        ·show Act.put _ (some 38) _=_
         simp only [Act.put,List.setIfInBounds_toArray,List.set_cons_zero,List.set_cons_succ,i64_w,i32_w]
         rfl
        refine one_ (i:=3) (N:=some 41) #[true,true,true,true,false,false,false,false,false] rfl rfl (one_of HT_.out (by kernel_rfl)) (by decide) (fun K hK=>?_)
        refine look2_ (b:=mb) (how:=a0_1) (by rfl) rfl rfl (by rfl) (by rfl) HSG.out (signsAt_inv A24.out).1 (signsAt_inv A24.out).2.1 (signsAt_inv A24.out).2.2 ?_
        intro w49 hb hsg
        have HSG:=Aside0.mk hsg
        clear hsg
        have n0_:=Aside0.mk (blk_below (g:=gb125) (o:=.cells #[.string a0_0,.int .i64 a0_1,.slice A0_2 l0_2.length c0_2] 24 (0,0)) (by (with_reducible repeat (first|refine blk_drewN ?_ _|refine blk_drew ?_|refine blk_alloc ?_ _));exact BK125.out) hb)
        have n1_:=Aside0.mk (below_step (by repeat (first|(with_reducible first|exact HB.out|apply below_alloc|apply pw_below_drewN|apply below_drew1|refine below_set ?_ GE125.out)|exact HB.out)) hb)
        clear BK125
        clear HB
        have BK125:=n0_
        have HB:=n1_
        clear n0_ n1_
        (try clear hb)
        (try clear hb2)
        (try clear hk)
        (try clear hi)
        refine hK.out _ _ ⟨(blk_cell BK125.out 0).trans rfl,(blk_cell BK125.out 1).trans rfl,(blk_cell BK125.out 2).trans rfl⟩ (fun hHeld=>?_)
        clear hK K
        refine norm_ (a':=?_) ?_ ?_
        rotate_left
        ·show Act.put _ (some 41) _=_
         simp only [Act.put,List.setIfInBounds_toArray,List.set_cons_zero,List.set_cons_succ,i64_w,i32_w]
         rfl
        refine pure_ (i:=4) (N:=some 37) (v:=?_) (a':=?_) #[true,true,true,true,true,false,false,false,false] rfl rfl (any_of HT_.out (by kernel_rfl)) (fun _ _ _ h=>h) (Or.inl ⟨by rfl,?_⟩) ?_ ?_
        rotate_left
        ·intro w'
         go_simp
         with_reducible rfl
        rotate_left
        ·simp only [Act.put,List.setIfInBounds_toArray,List.set_cons_zero,List.set_cons_succ,i64_w,i32_w]
         rfl
        refine pure_ (i:=5) (N:=some 42) (v:=?_) (a':=?_) #[true,true,true,true,true,true,false,false,false] rfl rfl (any_of HT_.out (by kernel_rfl)) (fun _ _ _ h=>h) (Or.inl ⟨by rfl,?_⟩) ?_ ?_
        rotate_left
        ·intro w'
         go_simp
         with_reducible rfl
        rotate_left
        ·simp only [Act.put,List.setIfInBounds_toArray,List.set_cons_zero,List.set_cons_succ,i64_w,i32_w]
         rfl
        refine pure_ (i:=6) (N:=some 43) (v:=?_) (a':=?_) #[true,true,true,true,true,true,true,false,false] rfl rfl (any_of HT_.out (by kernel_rfl)) (fun _ _ _ h=>h) (Or.inl ⟨by rfl,?_⟩) ?_ ?_
        rotate_left
        ·intro w'
         go_simp
         with_reducible rfl
        rotate_left
        ·simp only [Act.put,List.setIfInBounds_toArray,List.set_cons_zero,List.set_cons_succ,i64_w,i32_w]
         rfl
        refine pure_ (i:=7) (N:=some 6) (v:=?_) (a':=?_) #[true,true,true,true,true,true,true,true,false] rfl rfl (any_of HT_.out (by kernel_rfl)) (fun _ _ _ h=>h) (Or.inl ⟨by rfl,?_⟩) ?_ ?_
        rotate_left
        ·intro w'
         go_simp
         with_reducible rfl
        rotate_left
        ·simp only [Act.put,List.setIfInBounds_toArray,List.set_cons_zero,List.set_cons_succ,i64_w,i32_w]
         rfl
        refine pure_ (i:=8) (N:=some 7) (v:=?_) (a':=?_) #[true,true,true,true,true,true,true,true,true] rfl rfl (any_of HT_.out (by kernel_rfl)) (fun _ _ _ h=>h) (Or.inl ⟨by rfl,?_⟩) ?_ ?_
        rotate_left
        ·intro w'
         go_simp
         with_reducible rfl
        rotate_left
        ·simp only [Act.put,List.setIfInBounds_toArray,List.set_cons_zero,List.set_cons_succ,i64_w,i32_w]
         rfl
        refine done_ (done_of HT_.out (by kernel_rfl)) ?_
        have hcz50_0:w49.cell? ⟨gb125,0,none⟩=some (.string a0_0):=(blk_cell BK125.out 0).trans rfl
        have hcz50_1:w49.cell? ⟨gb125,1,none⟩=some (.int .i64 a0_1):=(blk_cell BK125.out 1).trans rfl
        have hcz50_2:w49.cell? ⟨gb125,2,none⟩=some (.slice A0_2 l0_2.length c0_2):=(blk_cell BK125.out 2).trans rfl
        have hfz50_0:=blk_frozen BK125.out 0
        have hfz50_1:=blk_frozen BK125.out 1
        have hfz50_2:=blk_frozen BK125.out 2
        try go_wp2_with (first|((with_reducible refine gate_dst (N:=49) rfl ?_);(try (refine gate_guard (by rfl) ?_;dsimp only));refine Kd.R_lit k46 _ 46 ?hg (N:=49) ?hd (xs:=([(⟨a0_0,(⟨#[120]⟩:ByteArray)⟩:S46)]:List (S46))) (inner:=[.string a0_0,.string (⟨#[120]⟩:ByteArray)]) (ok:=fun _=>True) (okp:=fun _=>True) ?hr ?hp (fun _ hk=>hk) trivial (Below.refl _ _) (Nat.le_refl _) (by simp) ?_;(case hd=>rfl);(case hg=>rfl);(case hr=>first|(go_simp;done)|(go_simp;rfl)|(go_simp;simp [IntKind.wrap_u32]));(case hp=>exact (Reps.c2 (show Kd.M k46 _ _ _ (⟨a0_0,(⟨#[120]⟩:ByteArray)⟩:S46) [.string a0_0,.string (⟨#[120]⟩:ByteArray)] from (k46_mkM _ _ _ (⟨a0_0,(⟨#[120]⟩:ByteArray)⟩:S46) )) (Reps.none _ _)));intro v133 w51 ho52 hb hg_ hnew_;clear hg_ hnew_;(first|rw [← Ny132.out] at ho52|(simp only [Int.reduceToNat] at ho52;rw [← Ny132.out] at ho52));have n0_:=Aside0.mk (Kd.R_lower ho52 (below_size (by repeat (first|(with_reducible first|exact HB.out|apply below_alloc|apply pw_below_drewN|apply below_drew1|refine below_set ?_ GE125.out)|exact HB.out))));have n1_:=Aside0.mk (blk_below (g:=gb125) (o:=.cells #[.string a0_0,.int .i64 a0_1,.slice A0_2 l0_2.length c0_2] 24 (0,0)) (by (with_reducible repeat (first|refine blk_drewN ?_ _|refine blk_drew ?_|refine blk_alloc ?_ _));exact BK125.out) hb);have n2_:=Aside0.mk (below_step (by repeat (first|(with_reducible first|exact HB.out|apply below_alloc|apply pw_below_drewN|apply below_drew1|refine below_set ?_ GE125.out)|exact HB.out)) hb);clear BK125;clear HB;have HO134:=n0_;have BK125:=n1_;have HB:=n2_;clear n0_ n1_ n2_;clear hb ho52;obtain ⟨Ao53,co53,eo53⟩:=Kd.R_slice HO134.out;subst eo53)|(go_at_call 35;(with_reducible refine (label_Right.calls k2 _ _ y132 false _ ?side1 ?side2 A26.out).mono ?_);(case side1=>repeat (first|exact (Kd.R_reads' HO134.out).2.2|(with_reducible refine Kd.C_alloc ?_ _)|(with_reducible refine Kd.C_drewN ?_ _)|(with_reducible refine Kd.C_drew ?_)));(case side2=>exact (Kd.R_reads' HO134.out).2.1);rintro e w54 ⟨rfl,hb⟩;have n0_:=Aside0.mk (Kd.R_below (by (with_reducible repeat (first|apply Kd.R_alloc|apply Kd.R_drewN|apply Kd.R_drew));exact HO134.out) hb);have n1_:=Aside0.mk (blk_below (g:=gb125) (o:=.cells #[.string a0_0,.int .i64 a0_1,.slice A0_2 l0_2.length c0_2] 24 (0,0)) (by (with_reducible repeat (first|refine blk_drewN ?_ _|refine blk_drew ?_|refine blk_alloc ?_ _));exact BK125.out) hb);have n2_:=Aside0.mk (below_step (by repeat (first|(with_reducible first|exact HB.out|apply below_alloc|apply pw_below_drewN|apply below_drew1|refine below_set ?_ GE125.out)|exact HB.out)) hb);clear HO134;clear BK125;clear HB;have HO134:=n0_;have BK125:=n1_;have HB:=n2_;clear n0_ n1_ n2_;(try clear hb);(try clear hb2);(try clear hk);(try clear hi)))
        (first|go_ret|go_ret2)
        exact ⟨by first|rfl|(simp [errW_none,errW_some]<;>rfl)|(simp [*,errW_none,errW_some]<;>rfl),by repeat (first|(with_reducible first|exact HB.out|apply below_alloc|apply pw_below_drewN|apply below_drew1|refine below_set ?_ GE125.out)|exact HB.out)⟩
      ·replace c25:=Bool.eq_false_iff.mpr c25
       subst c25
       have H1:(some false)=some r:=by rw [if_neg (show ¬ (false=true) by decide)] at H;exact H
       clear H
       have H:=H1
       clear H1
       obtain rfl:=Option.some.inj H
       try go_wp2
       have n0_:=Aside0.mk (blk_drew BK125.out)
       have n1_:=Aside0.mk (below_drew1 HB.out)
       clear BK125
       clear HB
       have BK125:=n0_
       have HB:=n1_
       clear n0_ n1_
       refine start_ (n:=9) (S:=fun w'=>w'.cell? ⟨gb125,0,none⟩=some (.string a0_0)∧w'.cell? ⟨gb125,1,none⟩=some (.int .i64 a0_1)∧w'.cell? ⟨gb125,2,none⟩=some (.slice A0_2 l0_2.length c0_2)) (ds:=[]) #[false,false,false,false,false,false,false,false,false] (by kernel_rfl) rfl rfl ⟨(blk_cell BK125.out 0).trans rfl,(blk_cell BK125.out 1).trans rfl,(blk_cell BK125.out 2).trans rfl⟩ (fun hHeld=>?_);refine with_tabW matcher_Right.tab10 matcher_Right.bits10 (fun HT_ HW_=>?_)
       generalize wr.drew=w55 at BK125 HB hHeld ⊢
       refine pure_ (i:=1) (N:=some 39) (v:=?_) (a':=?_) #[false,true,false,false,false,false,false,false,false] rfl rfl (any_of HT_.out (by kernel_rfl)) (fun _ _ _ h=>h) (Or.inl ⟨by rfl,?_⟩) ?_ ?_
       rotate_left
       ·intro w'
        go_simp
        with_reducible rfl
       rotate_left
       ·simp only [Act.put,List.setIfInBounds_toArray,List.set_cons_zero,List.set_cons_succ,i64_w,i32_w]
        rfl
       refine take_ (i:=2) (N:=some 40) (v:=?_) (a':=?_) #[false,true,true,false,false,false,false,false,false] rfl rfl (take_ofW HT_.out HW_.out (by kernel_rfl)) (fun _ _ _ h=>h) (Or.inl ⟨by rfl,?_⟩) hHeld ?_ ?_
       rotate_left
       ·rintro w' ⟨s0,s1,s2⟩
        go_simp
        with_reducible rfl
       rotate_left
       ·simp only [Act.put,List.setIfInBounds_toArray,List.set_cons_zero,List.set_cons_succ,i64_w,i32_w]
        rfl
       refine one_ (i:=0) (N:=some 38) #[true,true,true,false,false,false,false,false,false] rfl rfl (one_of HT_.out (by kernel_rfl)) (by decide) (fun K hK=>?_)
       refine goes_ Tryd.func23 (by kernel_rfl) rfl #[] (by rfl) rfl rfl (by (try simp only [List.map_toArray,List.map_cons,List.map_nil]);first|done|rfl|(simp only [List.length_drop,List.length_take];rfl)) ?_
       with_reducible refine (signs_new _).mono ?_
       rintro e w56 ⟨mb,rfl,hsg,hb⟩
       have HSG:=Aside0.mk hsg
       clear hsg
       refine ⟨_,rfl,?_⟩
       have n0_:=Aside0.mk (blk_below (g:=gb125) (o:=.cells #[.string a0_0,.int .i64 a0_1,.slice A0_2 l0_2.length c0_2] 24 (0,0)) (by (with_reducible repeat (first|refine blk_drewN ?_ _|refine blk_drew ?_|refine blk_alloc ?_ _));exact BK125.out) hb)
       have n1_:=Aside0.mk (below_step (by repeat (first|(with_reducible first|exact HB.out|apply below_alloc|apply pw_below_drewN|apply below_drew1|refine below_set ?_ GE125.out)|exact HB.out)) hb)
       clear BK125
       clear HB
       have BK125:=n0_
       have HB:=n1_
       clear n0_ n1_
       (try clear hb)
       (try clear hb2)
       (try clear hk)
       (try clear hi)
       refine hK.out _ _ ⟨(blk_cell BK125.out 0).trans rfl,(blk_cell BK125.out 1).trans rfl,(blk_cell BK125.out 2).trans rfl⟩ (fun hHeld=>?_)
       clear hK K
       refine norm_ (a':=?_) ?_ ?_
       rotate_left
       ·show Act.put _ (some 38) _=_
        simp only [Act.put,List.setIfInBounds_toArray,List.set_cons_zero,List.set_cons_succ,i64_w,i32_w]
        rfl
       refine one_ (i:=3) (N:=some 41) #[true,true,true,true,false,false,false,false,false] rfl rfl (one_of HT_.out (by kernel_rfl)) (by decide) (fun K hK=>?_)
       refine look2_ (b:=mb) (how:=a0_1) (by rfl) rfl rfl (by rfl) (by rfl) HSG.out (signsAt_inv A24.out).1 (signsAt_inv A24.out).2.1 (signsAt_inv A24.out).2.2 ?_
       intro w57 hb hsg
       have HSG:=Aside0.mk hsg
       clear hsg
       have n0_:=Aside0.mk (blk_below (g:=gb125) (o:=.cells #[.string a0_0,.int .i64 a0_1,.slice A0_2 l0_2.length c0_2] 24 (0,0)) (by (with_reducible repeat (first|refine blk_drewN ?_ _|refine blk_drew ?_|refine blk_alloc ?_ _));exact BK125.out) hb)
       have n1_:=Aside0.mk (below_step (by repeat (first|(with_reducible first|exact HB.out|apply below_alloc|apply pw_below_drewN|apply below_drew1|refine below_set ?_ GE125.out)|exact HB.out)) hb)
       clear BK125
       clear HB
       have BK125:=n0_
       have HB:=n1_
       clear n0_ n1_
       (try clear hb)
       (try clear hb2)
       (try clear hk)
       (try clear hi)
       refine hK.out _ _ ⟨(blk_cell BK125.out 0).trans rfl,(blk_cell BK125.out 1).trans rfl,(blk_cell BK125.out 2).trans rfl⟩ (fun hHeld=>?_)
       clear hK K
       refine norm_ (a':=?_) ?_ ?_
       rotate_left
       ·show Act.put _ (some 41) _=_
        simp only [Act.put,List.setIfInBounds_toArray,List.set_cons_zero,List.set_cons_succ,i64_w,i32_w]
        rfl
       refine pure_ (i:=4) (N:=some 37) (v:=?_) (a':=?_) #[true,true,true,true,true,false,false,false,false] rfl rfl (any_of HT_.out (by kernel_rfl)) (fun _ _ _ h=>h) (Or.inl ⟨by rfl,?_⟩) ?_ ?_
       rotate_left
       ·intro w'
        go_simp
        with_reducible rfl
       rotate_left
       ·simp only [Act.put,List.setIfInBounds_toArray,List.set_cons_zero,List.set_cons_succ,i64_w,i32_w]
        rfl
       refine pure_ (i:=5) (N:=some 42) (v:=?_) (a':=?_) #[true,true,true,true,true,true,false,false,false] rfl rfl (any_of HT_.out (by kernel_rfl)) (fun _ _ _ h=>h) (Or.inl ⟨by rfl,?_⟩) ?_ ?_
       rotate_left
       ·intro w'
        go_simp
        with_reducible rfl
       rotate_left
       ·simp only [Act.put,List.setIfInBounds_toArray,List.set_cons_zero,List.set_cons_succ,i64_w,i32_w]
        rfl
       refine pure_ (i:=6) (N:=some 43) (v:=?_) (a':=?_) #[true,true,true,true,true,true,true,false,false] rfl rfl (any_of HT_.out (by kernel_rfl)) (fun _ _ _ h=>h) (Or.inl ⟨by rfl,?_⟩) ?_ ?_
       rotate_left
       ·intro w'
        go_simp
        with_reducible rfl
       rotate_left
       ·simp only [Act.put,List.setIfInBounds_toArray,List.set_cons_zero,List.set_cons_succ,i64_w,i32_w]
        rfl
       refine pure_ (i:=7) (N:=some 6) (v:=?_) (a':=?_) #[true,true,true,true,true,true,true,true,false] rfl rfl (any_of HT_.out (by kernel_rfl)) (fun _ _ _ h=>h) (Or.inl ⟨by rfl,?_⟩) ?_ ?_
       rotate_left
       ·intro w'
        go_simp
        with_reducible rfl
       rotate_left
       ·simp only [Act.put,List.setIfInBounds_toArray,List.set_cons_zero,List.set_cons_succ,i64_w,i32_w]
        rfl
       refine pure_ (i:=8) (N:=some 7) (v:=?_) (a':=?_) #[true,true,true,true,true,true,true,true,true] rfl rfl (any_of HT_.out (by kernel_rfl)) (fun _ _ _ h=>h) (Or.inl ⟨by rfl,?_⟩) ?_ ?_
       rotate_left
       ·intro w'
        go_simp
        with_reducible rfl
       rotate_left
       ·simp only [Act.put,List.setIfInBounds_toArray,List.set_cons_zero,List.set_cons_succ,i64_w,i32_w]
        rfl
       refine done_ (done_of HT_.out (by kernel_rfl)) ?_
       try go_wp2
       (first|go_ret|go_ret2)
       exact ⟨by first|rfl|(simp [errW_none,errW_some]<;>rfl)|(simp [*,errW_none,errW_some]<;>rfl),by repeat (first|(with_reducible first|exact HB.out|apply below_alloc|apply pw_below_drewN|apply below_drew1|refine below_set ?_ GE125.out)|exact HB.out)⟩
end Go.Proofs.YtnbbfjddjmklpaaDoor.P

/- What one function of the program computes, as a Lean function, and a proof that its call comes to just that. Conditions: none. Written by wip/ownprint.py. -/
namespace Go.Proofs.YtnbbfjddjmklpaaDoor.P
open Go.RowKit Go.Proofs.YtnbbfjddjmklpaaDoorW.PrintWords Go.Proofs.YtnbbfjddjmklpaaDoorW.PrintLast Go.Proofs.YtnbbfjddjmklpaaDoorW.PrintMore
attribute [local go_sem] max2_int min2_int max_two min_two max_three min_three max_four min_four   -- for this text's walks alone
set_option linter.unusedVariables false
set_option linter.unusedSimpArgs false

mutual
def transhipmentref03_Less.l0:Nat→ByteArray→ByteArray→Int→Option (Bool)
 | 0,_,_,_=>none
 | k+1,x0,x1,x5=>if x5<(x0.size:Int) then (transhipmentref03_Less.j1 k x0 x1 x5 (decide (x5<(x1.size:Int)))) else (transhipmentref03_Less.j1 k x0 x1 x5 false)
def transhipmentref03_Less.j1:Nat→ByteArray→ByteArray→Int→Bool→Option (Bool)
 | 0,_,_,_,_=>none
 | k+1,x0,x1,x5,x15=>if x15=true then (if 0≤x5 then (if x5<(x0.size:Int) then (if x5<(x1.size:Int) then (if (bt x0 x5)=(bt x1 x5) then (transhipmentref03_Less.l0 k x0 x1 (wrap64 (x5+1))) else (some (decide ((bt x0 x5)<(bt x1 x5))))) else (none)) else (none)) else (none)) else (some (decide ((x0.size:Int)<(x1.size:Int))))
end
def transhipmentref03_Less.f (k:Nat) (a0:ByteArray) (a1:ByteArray):Option (Bool):=transhipmentref03_Less.l0 k a0 a1 0
set_option maxHeartbeats 8000000 in
set_option maxRecDepth 100000 in
theorem transhipmentref03_Less.calls (k:Nat) (a0:ByteArray) (a1:ByteArray) (r:Bool) (w:World) (h:transhipmentref03_Less.f k a0 a1=some r) :
  Calls Tryd.prog 32 #[.string a0,.string a1] w fun e w'=>e=.returned (.bool r)∧Drawn0 w w':=by
 have H:(transhipmentref03_Less.l0 k a0 a1 0)=some r:=h
 clear h
 have H':=Aside0.mk H
 clear H
 go_enter Tryd.func32,Tryd.ntmps32
 go_wp2
 repeat (go_quiet (fail);try go_wp2)
 go_loopg [5] k (fun kq v5 w'=>∃ (x5_1:Int),v5=.int .i64 x5_1∧Aside0 (transhipmentref03_Less.l0 kq a0 a1 x5_1=some r)∧Aside0 (kq≤k)∧Drawn0 w w')
 case atStart=>exact ⟨(0),(by first|rfl|(simp;done)|(simp [*];done)),H',⟨Nat.le_refl _⟩,by repeat (first|exact Drawn0.refl _|apply Drawn0.step)⟩
 case round =>
  clear H'
  try clear p2
  obtain ⟨x5_1,rfl,HA,HK1,⟨m1,rfl⟩⟩:=hrel
  cases gk with
  | zero=>exact absurd HA.out (by simp [transhipmentref03_Less.l0])
  | succ k1 =>
   have H:=HA.out
   clear HA
   simp only [transhipmentref03_Less.l0] at H
   have HC3:=Aside0.mk H
   clear H
   go_upto_region 2 with (fail)
   repeat (go_quiet (fail);go_upto_region 2 with (fail))
   go_cut [15] (fun v15 wc=>∃ (kq:Nat) (x15_2:Bool),v15=.bool x15_2∧Aside0 (transhipmentref03_Less.j1 kq a0 a1 x5_1 x15_2=some r)∧Aside0 (kq≤k1)∧Drawn0 w wc)
   case first =>
    have H:=HC3.out
    clear HC3
    by_cases c4:x5_1<(a0.size:Int)
    ·rw [if_pos c4] at H
     have c4b0:decide (x5_1<(a0.size:Int))=true:=decide_eq_true c4
     clear c4
     (first|rw [c4b0]|(simp only [i64_w,i32_w];rw [c4b0])|skip)
     have H':=Aside0.mk H
     clear H
     go_wp2
     repeat (go_quiet (fail);try go_wp2)
     go_meet
     case rel=>exact ⟨_,(decide (x5_1<(a1.size:Int))),(by first|rfl|(simp;done)|(simp [*];done)),H',⟨by have:=HK1.out;first|omega|exact Nat.le_refl _⟩,by repeat (first|exact Drawn0.refl _|apply Drawn0.step)⟩
    ·rw [if_neg c4] at H
     have c4b0:decide (x5_1<(a0.size:Int))=false:=decide_eq_false c4
     clear c4
     (first|rw [c4b0]|(simp only [i64_w,i32_w];rw [c4b0])|skip)
     have H':=Aside0.mk H
     clear H
     go_wp2
     repeat (go_quiet (fail);try go_wp2)
     go_meet
     case rel=>exact ⟨_,(false),(by first|rfl|(simp;done)|(simp [*];done)),H',⟨by have:=HK1.out;first|omega|exact Nat.le_refl _⟩,by repeat (first|exact Drawn0.refl _|apply Drawn0.step)⟩
   case rest =>
    clear HC3
    try clear p2
    try clear c3
    try clear c4
    try clear c4b0
    try clear p2
    obtain ⟨kq,x15_2,rfl,HA,HJ2,⟨mc2,rfl⟩⟩:=hcut
    cases kq with
    | zero=>exact absurd HA.out (by simp [transhipmentref03_Less.j1])
    | succ kj2 =>
     have H:=HA.out
     clear HA
     simp only [transhipmentref03_Less.j1] at H
     by_cases c5:x15_2=true
     ·subst c5
      have H1:(if 0≤x5_1 then (if x5_1<(a0.size:Int) then (if x5_1<(a1.size:Int) then (if (bt a0 x5_1)=(bt a1 x5_1) then (transhipmentref03_Less.l0 kj2 a0 a1 (wrap64 (x5_1+1))) else (some (decide ((bt a0 x5_1)<(bt a1 x5_1))))) else (none)) else (none)) else (none))=some r:=by rw [if_pos rfl] at H;exact H
      clear H
      have H:=H1
      clear H1
      by_cases c6:0≤x5_1
      ·rw [if_pos c6] at H
       have c6b0:decide (0≤x5_1)=true:=decide_eq_true c6
       clear c6
       by_cases c7:x5_1<(a0.size:Int)
       ·rw [if_pos c7] at H
        have c7b0:decide (x5_1<(a0.size:Int))=true:=decide_eq_true c7
        clear c7
        by_cases c9:x5_1<(a1.size:Int)
        ·rw [if_pos c9] at H
         have c9b0:decide (x5_1<(a1.size:Int))=true:=decide_eq_true c9
         clear c9
         by_cases c11:(bt a0 x5_1)=(bt a1 x5_1)
         ·rw [if_pos c11] at H
          have c11b0:((bt a0 x5_1) == (bt a1 x5_1))=true:=beq_iff_eq.mpr c11
          have c11b1:((bt a0 x5_1) != (bt a1 x5_1))=false:=bne_eq_false_iff_eq.mpr c11
          clear c11
          have H':=Aside0.mk H
          clear H
          have p8:0≤(x5_1:Int):=of_decide_eq_true (by first|(with_reducible assumption)|assumption)
          have q8:x5_1<(a0.size:Int):=of_decide_eq_true (by first|(with_reducible assumption)|assumption)
          have hx8:=bt_at a0 x5_1
          replace p8:=eq_true p8
          replace q8:=eq_true q8
          have p10:0≤(x5_1:Int):=of_decide_eq_true (by first|(with_reducible assumption)|assumption)
          have q10:x5_1<(a1.size:Int):=of_decide_eq_true (by first|(with_reducible assumption)|assumption)
          have hx10:=bt_at a1 x5_1
          replace p10:=eq_true p10
          replace q10:=eq_true q10
          go_wp2
          repeat (go_quiet (fail);try go_wp2)
          go_roundg kj2
          case measure=>have:=HK1.out;have:=HJ2.out;omega
          case rel=>exact ⟨(wrap64 (x5_1+1)),(by first|rfl|(simp;done)|(simp [*];done)),H',⟨by have:=HK1.out;have:=HJ2.out;omega⟩,by repeat (first|exact Drawn0.refl _|apply Drawn0.step)⟩
         ·rw [if_neg c11] at H
          have c11b0:((bt a0 x5_1) == (bt a1 x5_1))=false:=beq_eq_false_iff_ne.mpr c11
          have c11b1:((bt a0 x5_1) != (bt a1 x5_1))=true:=bne_iff_ne.mpr c11
          obtain rfl:=Option.some.inj H
          have p8:0≤(x5_1:Int):=of_decide_eq_true (by first|(with_reducible assumption)|assumption)
          have q8:x5_1<(a0.size:Int):=of_decide_eq_true (by first|(with_reducible assumption)|assumption)
          have hx8:=bt_at a0 x5_1
          replace p8:=eq_true p8
          replace q8:=eq_true q8
          have p10:0≤(x5_1:Int):=of_decide_eq_true (by first|(with_reducible assumption)|assumption)
          have q10:x5_1<(a1.size:Int):=of_decide_eq_true (by first|(with_reducible assumption)|assumption)
          have hx10:=bt_at a1 x5_1
          replace p10:=eq_true p10
          replace q10:=eq_true q10
          have p12:0≤(x5_1:Int):=of_decide_eq_true (by first|(with_reducible assumption)|assumption)
          have q12:x5_1<(a0.size:Int):=of_decide_eq_true (by first|(with_reducible assumption)|assumption)
          have hx12:=bt_at a0 x5_1
          replace p12:=eq_true p12
          replace q12:=eq_true q12
          have p13:0≤(x5_1:Int):=of_decide_eq_true (by first|(with_reducible assumption)|assumption)
          have q13:x5_1<(a1.size:Int):=of_decide_eq_true (by first|(with_reducible assumption)|assumption)
          have hx13:=bt_at a1 x5_1
          replace p13:=eq_true p13
          replace q13:=eq_true q13
          go_wp2
          repeat (go_quiet (fail);try go_wp2)
          (first|go_ret|go_ret2)
          exact ⟨by first|rfl|(simp;done)|(simp [*];done),by repeat (first|exact Drawn0.refl _|apply Drawn0.step)⟩
        ·rw [if_neg c9] at H
         exact absurd H (by simp)
       ·rw [if_neg c7] at H
        exact absurd H (by simp)
      ·rw [if_neg c6] at H
       exact absurd H (by simp)
     ·replace c5:=Bool.eq_false_iff.mpr c5
      subst c5
      have H1:(some (decide ((a0.size:Int)<(a1.size:Int))))=some r:=by rw [if_neg (show ¬ (false=true) by decide)] at H;exact H
      clear H
      have H:=H1
      clear H1
      obtain rfl:=Option.some.inj H
      go_wp2
      repeat (go_quiet (fail);try go_wp2)
      (first|go_ret|go_ret2)
      exact ⟨by first|rfl|(simp;done)|(simp [*];done),by repeat (first|exact Drawn0.refl _|apply Drawn0.step)⟩
end Go.Proofs.YtnbbfjddjmklpaaDoor.P

/- What one function of the program computes, as a Lean function, and a proof that its call comes to just that. Conditions: none. Written by wip/ownprint.py. -/
namespace Go.Proofs.YtnbbfjddjmklpaaDoor.P
open Go.RowKit Go.Proofs.YtnbbfjddjmklpaaDoorW.PrintWords Go.Proofs.YtnbbfjddjmklpaaDoorW.PrintLast Go.Proofs.YtnbbfjddjmklpaaDoorW.PrintMore
attribute [local go_sem] max2_int min2_int max_two min_two max_three min_three max_four min_four   -- for this text's walks alone
set_option linter.unusedVariables false
set_option linter.unusedSimpArgs false

def transhipmentref03_Name.l0:Nat→ByteArray→Int→Option (Bool)
 | 0,_,_=>none
 | k+1,x0,x3=>if x3<(x0.size:Int) then (if 0≤x3 then (if (bt x0 x3)≥97 then (if (bt x0 x3)≤122 then (transhipmentref03_Name.l0 k x0 (wrap64 (x3+1))) else (if (bt x0 x3)≥65 then (if (bt x0 x3)≤90 then (transhipmentref03_Name.l0 k x0 (wrap64 (x3+1))) else (if ((bt x0 x3)=95) then (transhipmentref03_Name.l0 k x0 (wrap64 (x3+1))) else (if x3=0 then (some false) else (if (bt x0 x3)<48 then (some false) else (if (bt x0 x3)>57 then (some false) else (transhipmentref03_Name.l0 k x0 (wrap64 (x3+1)))))))) else (if ((bt x0 x3)=95) then (transhipmentref03_Name.l0 k x0 (wrap64 (x3+1))) else (if x3=0 then (some false) else (if (bt x0 x3)<48 then (some false) else (if (bt x0 x3)>57 then (some false) else (transhipmentref03_Name.l0 k x0 (wrap64 (x3+1))))))))) else (if (bt x0 x3)≥65 then (if (bt x0 x3)≤90 then (transhipmentref03_Name.l0 k x0 (wrap64 (x3+1))) else (if ((bt x0 x3)=95) then (transhipmentref03_Name.l0 k x0 (wrap64 (x3+1))) else (if x3=0 then (some false) else (if (bt x0 x3)<48 then (some false) else (if (bt x0 x3)>57 then (some false) else (transhipmentref03_Name.l0 k x0 (wrap64 (x3+1)))))))) else (if ((bt x0 x3)=95) then (transhipmentref03_Name.l0 k x0 (wrap64 (x3+1))) else (if x3=0 then (some false) else (if (bt x0 x3)<48 then (some false) else (if (bt x0 x3)>57 then (some false) else (transhipmentref03_Name.l0 k x0 (wrap64 (x3+1))))))))) else (none)) else (if (x0.size:Int)>0 then (some (decide ((x0.size:Int)≤64))) else (some false))
def transhipmentref03_Name.f (k:Nat) (a0:ByteArray):Option (Bool):=transhipmentref03_Name.l0 k a0 0
set_option maxHeartbeats 8000000 in
set_option maxRecDepth 100000 in
theorem transhipmentref03_Name.calls (k:Nat) (a0:ByteArray) (r:Bool) (w:World) (h:transhipmentref03_Name.f k a0=some r) :
  Calls Tryd.prog 33 #[.string a0] w fun e w'=>e=.returned (.bool r)∧Drawn0 w w':=by
 have H:(transhipmentref03_Name.l0 k a0 0)=some r:=h
 clear h
 have H':=Aside0.mk H
 clear H
 go_enter Tryd.func33,Tryd.ntmps33
 go_wp2
 go_loopg [3] k (fun kq v3 w'=>∃ (x3_1:Int),v3=.int .i64 x3_1∧Aside0 (transhipmentref03_Name.l0 kq a0 x3_1=some r)∧Aside0 (kq≤k)∧Drawn0 w w')
 case atStart=>exact ⟨(0),(by first|rfl|(simp;done)|(simp [*];done)),H',⟨Nat.le_refl _⟩,by repeat (first|exact Drawn0.refl _|apply Drawn0.step)⟩
 case round =>
  clear H'
  obtain ⟨x3_1,rfl,HA,HK1,⟨m1,rfl⟩⟩:=hrel
  cases gk with
  | zero=>exact absurd HA.out (by simp [transhipmentref03_Name.l0])
  | succ k1 =>
   have H:=HA.out
   clear HA
   simp only [transhipmentref03_Name.l0] at H
   by_cases c2:x3_1<(a0.size:Int)
   ·rw [if_pos c2] at H
    have c2b0:decide (x3_1<(a0.size:Int))=true:=decide_eq_true c2
    clear c2
    by_cases c3:0≤x3_1
    ·rw [if_pos c3] at H
     have c3b0:decide (0≤x3_1)=true:=decide_eq_true c3
     clear c3
     by_cases c5:(bt a0 x3_1)≥97
     ·rw [if_pos c5] at H
      have c5b0:decide (97≤(bt a0 x3_1))=true:=decide_eq_true c5
      clear c5
      by_cases c6:(bt a0 x3_1)≤122
      ·rw [if_pos c6] at H
       have c6b0:decide ((bt a0 x3_1)≤122)=true:=decide_eq_true c6
       clear c6
       have H':=Aside0.mk H
       clear H
       have p4:0≤(x3_1:Int):=of_decide_eq_true (by first|(with_reducible assumption)|assumption)
       have q4:x3_1<(a0.size:Int):=of_decide_eq_true (by first|(with_reducible assumption)|assumption)
       have hx4:=bt_at a0 x3_1
       replace p4:=eq_true p4
       replace q4:=eq_true q4
       go_wp2
       go_roundg k1
       case measure=>have:=HK1.out;omega
       case rel=>exact ⟨(wrap64 (x3_1+1)),(by first|rfl|(simp;done)|(simp [*];done)),H',⟨by have:=HK1.out;omega⟩,by repeat (first|exact Drawn0.refl _|apply Drawn0.step)⟩
      ·rw [if_neg c6] at H
       have c6b0:decide ((bt a0 x3_1)≤122)=false:=decide_eq_false c6
       clear c6
       by_cases c7:(bt a0 x3_1)≥65
       ·rw [if_pos c7] at H
        have c7b0:decide (65≤(bt a0 x3_1))=true:=decide_eq_true c7
        clear c7
        by_cases c8:(bt a0 x3_1)≤90
        ·rw [if_pos c8] at H
         have c8b0:decide ((bt a0 x3_1)≤90)=true:=decide_eq_true c8
         clear c8
         have H':=Aside0.mk H
         clear H
         have p4:0≤(x3_1:Int):=of_decide_eq_true (by first|(with_reducible assumption)|assumption)
         have q4:x3_1<(a0.size:Int):=of_decide_eq_true (by first|(with_reducible assumption)|assumption)
         have hx4:=bt_at a0 x3_1
         replace p4:=eq_true p4
         replace q4:=eq_true q4
         go_wp2
         go_roundg k1
         case measure=>have:=HK1.out;omega
         case rel=>exact ⟨(wrap64 (x3_1+1)),(by first|rfl|(simp;done)|(simp [*];done)),H',⟨by have:=HK1.out;omega⟩,by repeat (first|exact Drawn0.refl _|apply Drawn0.step)⟩
        ·rw [if_neg c8] at H
         have c8b0:decide ((bt a0 x3_1)≤90)=false:=decide_eq_false c8
         clear c8
         by_cases c9:((bt a0 x3_1)=95)
         ·rw [if_pos c9] at H
          have c9b0:((bt a0 x3_1) == 95)=true:=beq_iff_eq.mpr c9
          have c9b1:((bt a0 x3_1) != 95)=false:=bne_eq_false_iff_eq.mpr c9
          clear c9
          have H':=Aside0.mk H
          clear H
          have p4:0≤(x3_1:Int):=of_decide_eq_true (by first|(with_reducible assumption)|assumption)
          have q4:x3_1<(a0.size:Int):=of_decide_eq_true (by first|(with_reducible assumption)|assumption)
          have hx4:=bt_at a0 x3_1
          replace p4:=eq_true p4
          replace q4:=eq_true q4
          go_wp2
          go_roundg k1
          case measure=>have:=HK1.out;omega
          case rel=>exact ⟨(wrap64 (x3_1+1)),(by first|rfl|(simp;done)|(simp [*];done)),H',⟨by have:=HK1.out;omega⟩,by repeat (first|exact Drawn0.refl _|apply Drawn0.step)⟩
         ·rw [if_neg c9] at H
          have c9b0:((bt a0 x3_1) == 95)=false:=beq_eq_false_iff_ne.mpr c9
          have c9b1:((bt a0 x3_1) != 95)=true:=bne_iff_ne.mpr c9
          by_cases c10:x3_1=0
          ·rw [if_pos c10] at H
           have c10b0:(x3_1 == 0)=true:=beq_iff_eq.mpr c10
           have c10b1:(x3_1 != 0)=false:=bne_eq_false_iff_eq.mpr c10
           clear c10
           obtain rfl:=Option.some.inj H
           have p4:0≤(x3_1:Int):=of_decide_eq_true (by first|(with_reducible assumption)|assumption)
           have q4:x3_1<(a0.size:Int):=of_decide_eq_true (by first|(with_reducible assumption)|assumption)
           have hx4:=bt_at a0 x3_1
           replace p4:=eq_true p4
           replace q4:=eq_true q4
           go_wp2
           (first|go_ret|go_ret2)
           exact ⟨by first|rfl|(simp;done)|(simp [*];done),by repeat (first|exact Drawn0.refl _|apply Drawn0.step)⟩
          ·rw [if_neg c10] at H
           have c10b0:(x3_1 == 0)=false:=beq_eq_false_iff_ne.mpr c10
           have c10b1:(x3_1 != 0)=true:=bne_iff_ne.mpr c10
           by_cases c11:(bt a0 x3_1)<48
           ·rw [if_pos c11] at H
            have c11b0:decide ((bt a0 x3_1)<48)=true:=decide_eq_true c11
            clear c11
            obtain rfl:=Option.some.inj H
            have p4:0≤(x3_1:Int):=of_decide_eq_true (by first|(with_reducible assumption)|assumption)
            have q4:x3_1<(a0.size:Int):=of_decide_eq_true (by first|(with_reducible assumption)|assumption)
            have hx4:=bt_at a0 x3_1
            replace p4:=eq_true p4
            replace q4:=eq_true q4
            go_wp2
            (first|go_ret|go_ret2)
            exact ⟨by first|rfl|(simp;done)|(simp [*];done),by repeat (first|exact Drawn0.refl _|apply Drawn0.step)⟩
           ·rw [if_neg c11] at H
            have c11b0:decide ((bt a0 x3_1)<48)=false:=decide_eq_false c11
            clear c11
            by_cases c12:(bt a0 x3_1)>57
            ·rw [if_pos c12] at H
             have c12b0:decide (57<(bt a0 x3_1))=true:=decide_eq_true c12
             clear c12
             obtain rfl:=Option.some.inj H
             have p4:0≤(x3_1:Int):=of_decide_eq_true (by first|(with_reducible assumption)|assumption)
             have q4:x3_1<(a0.size:Int):=of_decide_eq_true (by first|(with_reducible assumption)|assumption)
             have hx4:=bt_at a0 x3_1
             replace p4:=eq_true p4
             replace q4:=eq_true q4
             go_wp2
             (first|go_ret|go_ret2)
             exact ⟨by first|rfl|(simp;done)|(simp [*];done),by repeat (first|exact Drawn0.refl _|apply Drawn0.step)⟩
            ·rw [if_neg c12] at H
             have c12b0:decide (57<(bt a0 x3_1))=false:=decide_eq_false c12
             clear c12
             have H':=Aside0.mk H
             clear H
             have p4:0≤(x3_1:Int):=of_decide_eq_true (by first|(with_reducible assumption)|assumption)
             have q4:x3_1<(a0.size:Int):=of_decide_eq_true (by first|(with_reducible assumption)|assumption)
             have hx4:=bt_at a0 x3_1
             replace p4:=eq_true p4
             replace q4:=eq_true q4
             go_wp2
             go_roundg k1
             case measure=>have:=HK1.out;omega
             case rel=>exact ⟨(wrap64 (x3_1+1)),(by first|rfl|(simp;done)|(simp [*];done)),H',⟨by have:=HK1.out;omega⟩,by repeat (first|exact Drawn0.refl _|apply Drawn0.step)⟩
       ·rw [if_neg c7] at H
        have c7b0:decide (65≤(bt a0 x3_1))=false:=decide_eq_false c7
        clear c7
        by_cases c13:((bt a0 x3_1)=95)
        ·rw [if_pos c13] at H
         have c13b0:((bt a0 x3_1) == 95)=true:=beq_iff_eq.mpr c13
         have c13b1:((bt a0 x3_1) != 95)=false:=bne_eq_false_iff_eq.mpr c13
         clear c13
         have H':=Aside0.mk H
         clear H
         have p4:0≤(x3_1:Int):=of_decide_eq_true (by first|(with_reducible assumption)|assumption)
         have q4:x3_1<(a0.size:Int):=of_decide_eq_true (by first|(with_reducible assumption)|assumption)
         have hx4:=bt_at a0 x3_1
         replace p4:=eq_true p4
         replace q4:=eq_true q4
         go_wp2
         go_roundg k1
         case measure=>have:=HK1.out;omega
         case rel=>exact ⟨(wrap64 (x3_1+1)),(by first|rfl|(simp;done)|(simp [*];done)),H',⟨by have:=HK1.out;omega⟩,by repeat (first|exact Drawn0.refl _|apply Drawn0.step)⟩
        ·rw [if_neg c13] at H
         have c13b0:((bt a0 x3_1) == 95)=false:=beq_eq_false_iff_ne.mpr c13
         have c13b1:((bt a0 x3_1) != 95)=true:=bne_iff_ne.mpr c13
         by_cases c14:x3_1=0
         ·rw [if_pos c14] at H
          have c14b0:(x3_1 == 0)=true:=beq_iff_eq.mpr c14
          have c14b1:(x3_1 != 0)=false:=bne_eq_false_iff_eq.mpr c14
          clear c14
          obtain rfl:=Option.some.inj H
          have p4:0≤(x3_1:Int):=of_decide_eq_true (by first|(with_reducible assumption)|assumption)
          have q4:x3_1<(a0.size:Int):=of_decide_eq_true (by first|(with_reducible assumption)|assumption)
          have hx4:=bt_at a0 x3_1
          replace p4:=eq_true p4
          replace q4:=eq_true q4
          go_wp2
          (first|go_ret|go_ret2)
          exact ⟨by first|rfl|(simp;done)|(simp [*];done),by repeat (first|exact Drawn0.refl _|apply Drawn0.step)⟩
         ·rw [if_neg c14] at H
          have c14b0:(x3_1 == 0)=false:=beq_eq_false_iff_ne.mpr c14
          have c14b1:(x3_1 != 0)=true:=bne_iff_ne.mpr c14
          by_cases c15:(bt a0 x3_1)<48
          ·rw [if_pos c15] at H
           have c15b0:decide ((bt a0 x3_1)<48)=true:=decide_eq_true c15
           clear c15
           obtain rfl:=Option.some.inj H
           have p4:0≤(x3_1:Int):=of_decide_eq_true (by first|(with_reducible assumption)|assumption)
           have q4:x3_1<(a0.size:Int):=of_decide_eq_true (by first|(with_reducible assumption)|assumption)
           have hx4:=bt_at a0 x3_1
           replace p4:=eq_true p4
           replace q4:=eq_true q4
           go_wp2
           (first|go_ret|go_ret2)
           exact ⟨by first|rfl|(simp;done)|(simp [*];done),by repeat (first|exact Drawn0.refl _|apply Drawn0.step)⟩
          ·rw [if_neg c15] at H
           have c15b0:decide ((bt a0 x3_1)<48)=false:=decide_eq_false c15
           clear c15
           by_cases c16:(bt a0 x3_1)>57
           ·rw [if_pos c16] at H
            have c16b0:decide (57<(bt a0 x3_1))=true:=decide_eq_true c16
            clear c16
            obtain rfl:=Option.some.inj H
            have p4:0≤(x3_1:Int):=of_decide_eq_true (by first|(with_reducible assumption)|assumption)
            have q4:x3_1<(a0.size:Int):=of_decide_eq_true (by first|(with_reducible assumption)|assumption)
            have hx4:=bt_at a0 x3_1
            replace p4:=eq_true p4
            replace q4:=eq_true q4
            go_wp2
            (first|go_ret|go_ret2)
            exact ⟨by first|rfl|(simp;done)|(simp [*];done),by repeat (first|exact Drawn0.refl _|apply Drawn0.step)⟩
           ·rw [if_neg c16] at H
            have c16b0:decide (57<(bt a0 x3_1))=false:=decide_eq_false c16
            clear c16
            have H':=Aside0.mk H
            clear H
            have p4:0≤(x3_1:Int):=of_decide_eq_true (by first|(with_reducible assumption)|assumption)
            have q4:x3_1<(a0.size:Int):=of_decide_eq_true (by first|(with_reducible assumption)|assumption)
            have hx4:=bt_at a0 x3_1
            replace p4:=eq_true p4
            replace q4:=eq_true q4
            go_wp2
            go_roundg k1
            case measure=>have:=HK1.out;omega
            case rel=>exact ⟨(wrap64 (x3_1+1)),(by first|rfl|(simp;done)|(simp [*];done)),H',⟨by have:=HK1.out;omega⟩,by repeat (first|exact Drawn0.refl _|apply Drawn0.step)⟩
     ·rw [if_neg c5] at H
      have c5b0:decide (97≤(bt a0 x3_1))=false:=decide_eq_false c5
      clear c5
      by_cases c17:(bt a0 x3_1)≥65
      ·rw [if_pos c17] at H
       have c17b0:decide (65≤(bt a0 x3_1))=true:=decide_eq_true c17
       clear c17
       by_cases c18:(bt a0 x3_1)≤90
       ·rw [if_pos c18] at H
        have c18b0:decide ((bt a0 x3_1)≤90)=true:=decide_eq_true c18
        clear c18
        have H':=Aside0.mk H
        clear H
        have p4:0≤(x3_1:Int):=of_decide_eq_true (by first|(with_reducible assumption)|assumption)
        have q4:x3_1<(a0.size:Int):=of_decide_eq_true (by first|(with_reducible assumption)|assumption)
        have hx4:=bt_at a0 x3_1
        replace p4:=eq_true p4
        replace q4:=eq_true q4
        go_wp2
        go_roundg k1
        case measure=>have:=HK1.out;omega
        case rel=>exact ⟨(wrap64 (x3_1+1)),(by first|rfl|(simp;done)|(simp [*];done)),H',⟨by have:=HK1.out;omega⟩,by repeat (first|exact Drawn0.refl _|apply Drawn0.step)⟩
       ·rw [if_neg c18] at H
        have c18b0:decide ((bt a0 x3_1)≤90)=false:=decide_eq_false c18
        clear c18
        by_cases c19:((bt a0 x3_1)=95)
        ·rw [if_pos c19] at H
         have c19b0:((bt a0 x3_1) == 95)=true:=beq_iff_eq.mpr c19
         have c19b1:((bt a0 x3_1) != 95)=false:=bne_eq_false_iff_eq.mpr c19
         clear c19
         have H':=Aside0.mk H
         clear H
         have p4:0≤(x3_1:Int):=of_decide_eq_true (by first|(with_reducible assumption)|assumption)
         have q4:x3_1<(a0.size:Int):=of_decide_eq_true (by first|(with_reducible assumption)|assumption)
         have hx4:=bt_at a0 x3_1
         replace p4:=eq_true p4
         replace q4:=eq_true q4
         go_wp2
         go_roundg k1
         case measure=>have:=HK1.out;omega
         case rel=>exact ⟨(wrap64 (x3_1+1)),(by first|rfl|(simp;done)|(simp [*];done)),H',⟨by have:=HK1.out;omega⟩,by repeat (first|exact Drawn0.refl _|apply Drawn0.step)⟩
        ·rw [if_neg c19] at H
         have c19b0:((bt a0 x3_1) == 95)=false:=beq_eq_false_iff_ne.mpr c19
         have c19b1:((bt a0 x3_1) != 95)=true:=bne_iff_ne.mpr c19
         by_cases c20:x3_1=0
         ·rw [if_pos c20] at H
          have c20b0:(x3_1 == 0)=true:=beq_iff_eq.mpr c20
          have c20b1:(x3_1 != 0)=false:=bne_eq_false_iff_eq.mpr c20
          clear c20
          obtain rfl:=Option.some.inj H
          have p4:0≤(x3_1:Int):=of_decide_eq_true (by first|(with_reducible assumption)|assumption)
          have q4:x3_1<(a0.size:Int):=of_decide_eq_true (by first|(with_reducible assumption)|assumption)
          have hx4:=bt_at a0 x3_1
          replace p4:=eq_true p4
          replace q4:=eq_true q4
          go_wp2
          (first|go_ret|go_ret2)
          exact ⟨by first|rfl|(simp;done)|(simp [*];done),by repeat (first|exact Drawn0.refl _|apply Drawn0.step)⟩
         ·rw [if_neg c20] at H
          have c20b0:(x3_1 == 0)=false:=beq_eq_false_iff_ne.mpr c20
          have c20b1:(x3_1 != 0)=true:=bne_iff_ne.mpr c20
          by_cases c21:(bt a0 x3_1)<48
          ·rw [if_pos c21] at H
           have c21b0:decide ((bt a0 x3_1)<48)=true:=decide_eq_true c21
           clear c21
           obtain rfl:=Option.some.inj H
           have p4:0≤(x3_1:Int):=of_decide_eq_true (by first|(with_reducible assumption)|assumption)
           have q4:x3_1<(a0.size:Int):=of_decide_eq_true (by first|(with_reducible assumption)|assumption)
           have hx4:=bt_at a0 x3_1
           replace p4:=eq_true p4
           replace q4:=eq_true q4
           go_wp2
           (first|go_ret|go_ret2)
           exact ⟨by first|rfl|(simp;done)|(simp [*];done),by repeat (first|exact Drawn0.refl _|apply Drawn0.step)⟩
          ·rw [if_neg c21] at H
           have c21b0:decide ((bt a0 x3_1)<48)=false:=decide_eq_false c21
           clear c21
           by_cases c22:(bt a0 x3_1)>57
           ·rw [if_pos c22] at H
            have c22b0:decide (57<(bt a0 x3_1))=true:=decide_eq_true c22
            clear c22
            obtain rfl:=Option.some.inj H
            have p4:0≤(x3_1:Int):=of_decide_eq_true (by first|(with_reducible assumption)|assumption)
            have q4:x3_1<(a0.size:Int):=of_decide_eq_true (by first|(with_reducible assumption)|assumption)
            have hx4:=bt_at a0 x3_1
            replace p4:=eq_true p4
            replace q4:=eq_true q4
            go_wp2
            (first|go_ret|go_ret2)
            exact ⟨by first|rfl|(simp;done)|(simp [*];done),by repeat (first|exact Drawn0.refl _|apply Drawn0.step)⟩
           ·rw [if_neg c22] at H
            have c22b0:decide (57<(bt a0 x3_1))=false:=decide_eq_false c22
            clear c22
            have H':=Aside0.mk H
            clear H
            have p4:0≤(x3_1:Int):=of_decide_eq_true (by first|(with_reducible assumption)|assumption)
            have q4:x3_1<(a0.size:Int):=of_decide_eq_true (by first|(with_reducible assumption)|assumption)
            have hx4:=bt_at a0 x3_1
            replace p4:=eq_true p4
            replace q4:=eq_true q4
            go_wp2
            go_roundg k1
            case measure=>have:=HK1.out;omega
            case rel=>exact ⟨(wrap64 (x3_1+1)),(by first|rfl|(simp;done)|(simp [*];done)),H',⟨by have:=HK1.out;omega⟩,by repeat (first|exact Drawn0.refl _|apply Drawn0.step)⟩
      ·rw [if_neg c17] at H
       have c17b0:decide (65≤(bt a0 x3_1))=false:=decide_eq_false c17
       clear c17
       by_cases c23:((bt a0 x3_1)=95)
       ·rw [if_pos c23] at H
        have c23b0:((bt a0 x3_1) == 95)=true:=beq_iff_eq.mpr c23
        have c23b1:((bt a0 x3_1) != 95)=false:=bne_eq_false_iff_eq.mpr c23
        clear c23
        have H':=Aside0.mk H
        clear H
        have p4:0≤(x3_1:Int):=of_decide_eq_true (by first|(with_reducible assumption)|assumption)
        have q4:x3_1<(a0.size:Int):=of_decide_eq_true (by first|(with_reducible assumption)|assumption)
        have hx4:=bt_at a0 x3_1
        replace p4:=eq_true p4
        replace q4:=eq_true q4
        go_wp2
        go_roundg k1
        case measure=>have:=HK1.out;omega
        case rel=>exact ⟨(wrap64 (x3_1+1)),(by first|rfl|(simp;done)|(simp [*];done)),H',⟨by have:=HK1.out;omega⟩,by repeat (first|exact Drawn0.refl _|apply Drawn0.step)⟩
       ·rw [if_neg c23] at H
        have c23b0:((bt a0 x3_1) == 95)=false:=beq_eq_false_iff_ne.mpr c23
        have c23b1:((bt a0 x3_1) != 95)=true:=bne_iff_ne.mpr c23
        by_cases c24:x3_1=0
        ·rw [if_pos c24] at H
         have c24b0:(x3_1 == 0)=true:=beq_iff_eq.mpr c24
         have c24b1:(x3_1 != 0)=false:=bne_eq_false_iff_eq.mpr c24
         clear c24
         obtain rfl:=Option.some.inj H
         have p4:0≤(x3_1:Int):=of_decide_eq_true (by first|(with_reducible assumption)|assumption)
         have q4:x3_1<(a0.size:Int):=of_decide_eq_true (by first|(with_reducible assumption)|assumption)
         have hx4:=bt_at a0 x3_1
         replace p4:=eq_true p4
         replace q4:=eq_true q4
         go_wp2
         (first|go_ret|go_ret2)
         exact ⟨by first|rfl|(simp;done)|(simp [*];done),by repeat (first|exact Drawn0.refl _|apply Drawn0.step)⟩
        ·rw [if_neg c24] at H
         have c24b0:(x3_1 == 0)=false:=beq_eq_false_iff_ne.mpr c24
         have c24b1:(x3_1 != 0)=true:=bne_iff_ne.mpr c24
         by_cases c25:(bt a0 x3_1)<48
         ·rw [if_pos c25] at H
          have c25b0:decide ((bt a0 x3_1)<48)=true:=decide_eq_true c25
          clear c25
          obtain rfl:=Option.some.inj H
          have p4:0≤(x3_1:Int):=of_decide_eq_true (by first|(with_reducible assumption)|assumption)
          have q4:x3_1<(a0.size:Int):=of_decide_eq_true (by first|(with_reducible assumption)|assumption)
          have hx4:=bt_at a0 x3_1
          replace p4:=eq_true p4
          replace q4:=eq_true q4
          go_wp2
          (first|go_ret|go_ret2)
          exact ⟨by first|rfl|(simp;done)|(simp [*];done),by repeat (first|exact Drawn0.refl _|apply Drawn0.step)⟩
         ·rw [if_neg c25] at H
          have c25b0:decide ((bt a0 x3_1)<48)=false:=decide_eq_false c25
          clear c25
          by_cases c26:(bt a0 x3_1)>57
          ·rw [if_pos c26] at H
           have c26b0:decide (57<(bt a0 x3_1))=true:=decide_eq_true c26
           clear c26
           obtain rfl:=Option.some.inj H
           have p4:0≤(x3_1:Int):=of_decide_eq_true (by first|(with_reducible assumption)|assumption)
           have q4:x3_1<(a0.size:Int):=of_decide_eq_true (by first|(with_reducible assumption)|assumption)
           have hx4:=bt_at a0 x3_1
           replace p4:=eq_true p4
           replace q4:=eq_true q4
           go_wp2
           (first|go_ret|go_ret2)
           exact ⟨by first|rfl|(simp;done)|(simp [*];done),by repeat (first|exact Drawn0.refl _|apply Drawn0.step)⟩
          ·rw [if_neg c26] at H
           have c26b0:decide (57<(bt a0 x3_1))=false:=decide_eq_false c26
           clear c26
           have H':=Aside0.mk H
           clear H
           have p4:0≤(x3_1:Int):=of_decide_eq_true (by first|(with_reducible assumption)|assumption)
           have q4:x3_1<(a0.size:Int):=of_decide_eq_true (by first|(with_reducible assumption)|assumption)
           have hx4:=bt_at a0 x3_1
           replace p4:=eq_true p4
           replace q4:=eq_true q4
           go_wp2
           go_roundg k1
           case measure=>have:=HK1.out;omega
           case rel=>exact ⟨(wrap64 (x3_1+1)),(by first|rfl|(simp;done)|(simp [*];done)),H',⟨by have:=HK1.out;omega⟩,by repeat (first|exact Drawn0.refl _|apply Drawn0.step)⟩
    ·rw [if_neg c3] at H
     exact absurd H (by simp)
   ·rw [if_neg c2] at H
    have c2b0:decide (x3_1<(a0.size:Int))=false:=decide_eq_false c2
    clear c2
    by_cases c27:(a0.size:Int)>0
    ·rw [if_pos c27] at H
     have c27b0:decide (0<(a0.size:Int))=true:=decide_eq_true c27
     have c27b1:decide (0<a0.size)=true:=decide_eq_true (by omega)
     clear c27
     obtain rfl:=Option.some.inj H
     go_wp2
     (first|go_ret|go_ret2)
     exact ⟨by first|rfl|(simp;done)|(simp [*];done),by repeat (first|exact Drawn0.refl _|apply Drawn0.step)⟩
    ·rw [if_neg c27] at H
     have c27b0:decide (0<(a0.size:Int))=false:=decide_eq_false c27
     have c27b1:decide (0<a0.size)=false:=decide_eq_false (by omega)
     clear c27
     obtain rfl:=Option.some.inj H
     go_wp2
     (first|go_ret|go_ret2)
     exact ⟨by first|rfl|(simp;done)|(simp [*];done),by repeat (first|exact Drawn0.refl _|apply Drawn0.step)⟩
end Go.Proofs.YtnbbfjddjmklpaaDoor.P
