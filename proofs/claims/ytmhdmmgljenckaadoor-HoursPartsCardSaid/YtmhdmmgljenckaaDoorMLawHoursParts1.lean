/- What these functions of the program and of the plain reference compute, and plain lemmas on it: HoursParse, Plaw07Alive, Plaw07Cut, HoursLaw. Conditions: as each lemma says. -/
import Derived.Test.YtmhdmmgljenckaaDoorMLawHoursParts0
/- hours.Parse: the hours that a text names. Conditions: the days' names lie where the program's text lays them. -/
namespace Go.Proofs.YtmhdmmgljenckaaDoor.P
open Go.RowKit Go.Shelf Go.Proofs.YtmhdmmgljenckaaDoorW.PrintWords Go.Proofs.YtmhdmmgljenckaaDoorW.PrintLast Go.Proofs.YtmhdmmgljenckaaDoorW.PrintMore
set_option linter.unusedSimpArgs false
set_option linter.unusedVariables false

def dayIdx (x:ByteArray):Int:=Lib.idxOfS (namesL.take 7) x
def dayStep (d:Int) (x:ByteArray):Int:=if 0≤dayIdx x then Go.bits .or .i64 d (wrap64 (2 ^ (dayIdx x).toNat)) else d
def daysOf (l:List ByteArray):Int:=l.foldl dayStep 0
theorem daysOf_snoc (l:List ByteArray) (x:ByteArray):daysOf (l++[x])=dayStep (daysOf l) x:=by
 unfold daysOf
 rw [List.foldl_append]
 rfl
theorem idx_range (x:ByteArray):∀ (l:List ByteArray) (i:Nat),Lib.idxFromS l x i = -1∨∃ k:Nat,k<i+l.length∧Lib.idxFromS l x i=(k:Int):=by
 intro l
 induction l with
 | nil=>intro i;left;rfl
 | cons z l ih =>
  intro i
  unfold Lib.idxFromS
  split
  ·exact Or.inr ⟨i,by simp,rfl⟩
  ·rcases ih (i+1) with h|⟨k,hk,h⟩
   ·exact Or.inl h
   ·exact Or.inr ⟨k,by rw [List.length_cons];omega,h⟩
theorem idx_seven (x:ByteArray):dayIdx x = -1∨∃ k:Nat,k<7∧dayIdx x=(k:Int):=by
 rcases idx_range x (namesL.take 7) 0 with h|⟨k,hk,h⟩
 ·exact Or.inl h
 ·exact Or.inr ⟨k,by simpa [namesL] using hk,h⟩
theorem set_one {W:World} {B:Nat} {a b c d v:Value} {t:TypeId} (h:W.heap[B]?=some (.cells #[a,b,c,d] t (0,0))):(W.setCell ⟨B,1,none⟩ v).heap[B]?=some (.cells #[a,v,c,d] t (0,0)):=by
 simp [World.setCell,Array.getElem?_modify,h]
theorem set_four {W:World} {B:Nat} {a b c d a' b' c' d':Value} {t:TypeId} (h:W.heap[B]?=some (.cells #[a,b,c,d] t (0,0))) :
  ((((W.setCell ⟨B,0,none⟩ a').setCell ⟨B,1,none⟩ b').setCell ⟨B,2,none⟩ c').setCell ⟨B,3,none⟩ d').heap[B]?=some (.cells #[a',b',c',d'] t (0,0)):=by
 simp [World.setCell,Array.getElem?_modify,h]
theorem agg_cells {W:World} {B:Nat} {a b c d:Value} {t:TypeId} (h:W.heap[B]?=some (.cells #[a,b,c,d] t (0,0))) :
  W.cell? ⟨B,0,none⟩=some a∧W.cell? ⟨B,1,none⟩=some b∧W.cell? ⟨B,2,none⟩=some c∧W.cell? ⟨B,3,none⟩=some d ∧
  W.frozen? ⟨B,0,none⟩=false∧W.frozen? ⟨B,1,none⟩=false∧W.frozen? ⟨B,2,none⟩=false∧W.frozen? ⟨B,3,none⟩=false:=by
 simp [World.cell?,World.frozen?,h]
theorem set_four_other {W:World} {B D:Nat} {a' b' c' d':Value} (h:D≠B):((((W.setCell ⟨B,0,none⟩ a').setCell ⟨B,1,none⟩ b').setCell ⟨B,2,none⟩ c').setCell ⟨B,3,none⟩ d').heap[D]?=W.heap[D]? :=
 (Below.heap_setCell _ _ _ _ h).trans ((Below.heap_setCell _ _ _ _ h).trans ((Below.heap_setCell _ _ _ _ h).trans (Below.heap_setCell _ _ _ _ h)))
theorem parse_below {w W:World} {R D:Nat} {a' b' c' d':Value} {o:Obj} (hR:w.heap.size=R) (hB:Below R w W) (hD:R≤D)
  (h:((((W.setCell ⟨R,0,none⟩ a').setCell ⟨R,1,none⟩ b').setCell ⟨R,2,none⟩ c').setCell ⟨R,3,none⟩ d').heap[D]?=some (.deferred (some []))) :
  Below w.heap.size w (((((W.setCell ⟨R,0,none⟩ a').setCell ⟨R,1,none⟩ b').setCell ⟨R,2,none⟩ c').setCell ⟨R,3,none⟩ d').putObj D o):=by
 rw [hR]
 have h1:Below R w ((((W.setCell ⟨R,0,none⟩ a').setCell ⟨R,1,none⟩ b').setCell ⟨R,2,none⟩ c').setCell ⟨R,3,none⟩ d') :=
  (((hB.setCell (p:=⟨R,0,none⟩) (Nat.le_refl R) _).setCell (p:=⟨R,1,none⟩) (Nat.le_refl R) _).setCell (p:=⟨R,2,none⟩) (Nat.le_refl R) _).setCell (p:=⟨R,3,none⟩) (Nat.le_refl R) _
 exact h1.trans (belowK_b (w:=w) (by omega) _ D _ _ (by omega) h rfl rfl)
theorem results_agg {P:Program} {fn:Func} {p q:Tmp} {ty:TypeId} (h:fn.results=#[.cell p ty,.tmp q]) (tmps:Array Value) (w:World) (b:Nat) (t:TypeId) (cs:Array Value) (fr:Nat×Nat) (d:TypeDesc) (v:Value)
  (hp:tmps.getD p undef=.pointer (some ⟨b,0,none⟩)) (hq:tmps.getD q undef=v) (hg:w.heap[b]?=some (.cells cs t fr)) (hu:P.underlying ty=some d) (hd:(match d with|.struct _|.array _ _=>true|_=>false)=true) (hi:(P.info? ty).map (·.size)=some cs.size) :
  (results fn tmps).run P w=.ok (.tuple #[.agg cs,v]) w:=by
 have hp':tmps[p]?.getD undef=.pointer (some ⟨b,0,none⟩):=by simpa using hp
 have hq':tmps[q]?.getD undef=v:=by simpa using hq
 simp [results,h,hp',hq',asAddr,run_loadVar_row w b t ty cs fr d hg hu hd hi]
theorem wpListIn_load_agg {F:Fence} {n:Nat} {P:Program} {ops:Array Oper} {rest:List Oper} {o:Oper} {a:Act} {w:World} {Q:Exit→Act→World→Prop} (hgd:o.guard=none) (ty:TypeId) (x:Operand) (ho:o.op=.load ty x)
  (g:Nat) (hx:a.eval x=.pointer (some ⟨g,0,none⟩)) (t:TypeId) (cs:Array Value) (fr:Nat×Nat) (d:TypeDesc) (hg:w.heap[g]?=some (.cells cs t fr))
  (hu:P.underlying ty=some d) (hd:(match d with|.struct _|.array _ _=>true|_=>false)=true) (hi:(P.info? ty).map (·.size)=some cs.size)
  (h:wpListIn F n P ops Q rest (a.put o.dst (.agg cs)) w):wpListIn F n P ops Q (o::rest) a w:=by
 refine wpListIn_plain hgd fun K hK=>?_
 unfold Oper.wpIn
 refine ⟨by simp [Oper.about,ho],?_⟩
 rw [Oper.semAt_plain F _ _ (by rw [ho];intro c hc;cases hc)]
 have hrun:(execOp a.eval o).run P w=.ok (.value (.agg cs)) w:=by
  unfold execOp
  simp only [ho,hx,Instr.loadAt,Instr.sureAddr,Sem.run_bind,Sem.run_pure,Result.andThen_ok,run_loadVar_row w g t ty cs fr d hg hu hd hi]
 rw [hrun]
 exact hK _ _ h
theorem four_allocs (W:World) (o1 o2 o3 o4:Obj) :
  ((((W.alloc o1).alloc o2).alloc o3).alloc o4).heap[W.heap.size]?=some o1∧((((W.alloc o1).alloc o2).alloc o3).alloc o4).heap[W.heap.size+1]?=some o2 ∧
  ((((W.alloc o1).alloc o2).alloc o3).alloc o4).heap[W.heap.size+1+1]?=some o3∧((((W.alloc o1).alloc o2).alloc o3).alloc o4).heap[W.heap.size+1+1+1]?=some o4 ∧
  ((((W.alloc o1).alloc o2).alloc o3).alloc o4).heap.size=W.heap.size+1+1+1+1∧Below W.heap.size W ((((W.alloc o1).alloc o2).alloc o3).alloc o4):=by
 have s1:(W.alloc o1).heap.size=W.heap.size+1:=World.size_alloc _ _
 have s2:((W.alloc o1).alloc o2).heap.size=W.heap.size+1+1:=by rw [World.size_alloc,s1]
 have s3:(((W.alloc o1).alloc o2).alloc o3).heap.size=W.heap.size+1+1+1:=by rw [World.size_alloc,s2]
 refine ⟨?_,?_,?_,?_,by rw [World.size_alloc,s3],?_⟩
 ·exact (Below.heap_alloc _ _ _ (by omega)).trans ((Below.heap_alloc _ _ _ (by omega)).trans ((Below.heap_alloc _ _ _ (by omega)).trans (World.alloc_heap_new W o1)))
 ·have h:=World.alloc_heap_new (W.alloc o1) o2
  rw [s1] at h
  exact (Below.heap_alloc _ _ _ (by omega)).trans ((Below.heap_alloc _ _ _ (by omega)).trans h)
 ·have h:=World.alloc_heap_new ((W.alloc o1).alloc o2) o3
  rw [s2] at h
  exact (Below.heap_alloc _ _ _ (by omega)).trans h
 ·have h:=World.alloc_heap_new (((W.alloc o1).alloc o2).alloc o3) o4
  rw [s3] at h
  exact h
 ·exact ((((Below.refl _ W).alloc (Nat.le_refl _) o1).alloc (by omega) o2).alloc (by omega) o3).alloc (by omega) o4
theorem box_cell {W:World} {b:Nat} {v:Value} {t:TypeId} (h:W.heap[b]?=some (.cells #[v] t)):W.cell? ⟨b,0,none⟩=some v∧W.frozen? ⟨b,0,none⟩=false:=by
 constructor<;>simp [World.cell?,World.frozen?,h]
attribute [local go_sem] Oper.semAt_some
set_option maxRecDepth 100000 in
set_option maxHeartbeats 4000000 in
theorem parse_walk (s:ByteArray) (hs:s.size≤4611686018427387904) (w:World) (hK:KeysIn w) (t:ByteArray) (er:Int)
  (ht:hours_Text.f ⟨#[120]⟩ (daysOf (splitL (cutAt s 32).1)) (minutesI (cutAt (cutAt s 32).2.1 45).1) (minutesI (cutAt (cutAt s 32).2.1 45).2.1)=some (t,er)) :
  Calls Tryd.prog 10 #[.string s] w fun e w'=>e=.returned (if er=0∧t=s then
   .tuple #[.agg #[.string ⟨#[120]⟩,.int .i64 (daysOf (splitL (cutAt s 32).1)),.int .i64 (minutesI (cutAt (cutAt s 32).2.1 45).1),.int .i64 (minutesI (cutAt (cutAt s 32).2.1 45).2.1)],.int .i64 0]
   else .tuple #[.agg #[.string ⟨#[]⟩,.int .i64 0,.int .i64 0,.int .i64 0],.int .i64 6])∧Below w.heap.size w w':=by
 have hc1:=fun W=>callsIn_wide (n:=6-1).2 (cut_any s 32 W hs)
 obtain ⟨l,span,t1,hq1⟩:∃ l span t1,cutAt s 32=(l,span,t1):=⟨_,_,_,rfl⟩
 have hz1:l.size≤4611686018427387904∧span.size≤4611686018427387904:=by
  unfold cutAt at hq1
  split at hq1<;>simp only [Prod.mk.injEq] at hq1<;>obtain ⟨rfl,rfl,rfl⟩:=hq1
  ·simp only [ByteArray.size_extract]
   omega
  ·exact ⟨hs,by show (0:Nat)≤_;omega⟩
 have hc2:=fun W=>callsIn_wide (n:=6-1).2 (cut_any span 45 W hz1.2)
 obtain ⟨fr,tt,t2,hq2⟩:∃ fr tt t2,cutAt span 45=(fr,tt,t2):=⟨_,_,_,rfl⟩
 have hz2:fr.size≤4611686018427387904∧tt.size≤4611686018427387904:=by
  unfold cutAt at hq2
  have:=hz1.2
  split at hq2<;>simp only [Prod.mk.injEq] at hq2<;>obtain ⟨rfl,rfl,rfl⟩:=hq2
  ·simp only [ByteArray.size_extract]
   omega
  ·exact ⟨this,by show (0:Nat)≤_;omega⟩
 rw [hq1] at hc1 ht ⊢
 dsimp only at ht ⊢
 rw [hq2] at hc2 ht ⊢
 dsimp only at ht ⊢
 have hm1:=fun W=>callsIn_wide (n:=6-1).2 (minutes_any fr W (by omega))
 have hm2:=fun W=>callsIn_wide (n:=6-1).2 (minutes_any tt W (by omega))
 obtain ⟨F,hF⟩:∃ F,minutesI fr=F:=⟨_,rfl⟩
 obtain ⟨T,hT⟩:∃ T,minutesI tt=T:=⟨_,rfl⟩
 rw [hF] at hm1 ht ⊢
 rw [hT] at hm2 ht ⊢
 have HT:=Aside0.mk ht
 generalize hres:(if er=0∧t=s then (Value.tuple #[.agg #[.string ⟨#[120]⟩,.int .i64 (daysOf (splitL l)),.int .i64 F,.int .i64 T],.int .i64 0]) else (Value.tuple #[.agg #[.string ⟨#[]⟩,.int .i64 0,.int .i64 0,.int .i64 0],.int .i64 6]))=res
 have HRES:=Aside0.mk hres
 clear hres
 have HC1:=Aside0.mk hc1
 have HC2:=Aside0.mk hc2
 have HM1:=Aside0.mk hm1
 have HM2:=Aside0.mk hm2
 have HK:=Aside0.mk hK
 have hsp:=fun W=>callsIn_wide (n:=6-1).2 (SplitSeq_any l ⟨#[44]⟩ W)
 have HSP:=Aside0.mk hsp
 clear hc1 hc2 hm1 hm2 hK hsp ht
 have h1m:1≤6:=by decide
 refine (callsIn_wide (n:=6)).1 ?_
 refine callsIn_of_wp_marks Tryd.func10 rfl trivial ?_ rfl
 simp only [Tryd.ntmps10,List.size_toArray,List.length_cons,List.length_nil,Nat.reduceAdd,Nat.reduceSub,Array.replicate_succ,Array.replicate_zero,List.push_toArray,List.append_toArray,List.nil_append,List.cons_append]
 gi_wp2_with (first
  | (refine ⟨trivial,?_⟩;gi_at_call 21;with_reducible refine (HC1.out _).mono ?_;rintro e w1 ⟨rfl,hb1⟩;have HB1:=Aside0.mk hb1;clear HC1 hb1)
  | (refine ⟨trivial,?_⟩;gi_at_call 21;with_reducible refine (HC2.out _).mono ?_;rintro e w2 ⟨rfl,hb2⟩;have HB2:=Aside0.mk hb2;clear HC2 hb2)
  | (refine ⟨trivial,?_⟩;gi_at_call 22;with_reducible refine (HM1.out _).mono ?_;rintro e w3 ⟨rfl,hb3⟩;have HB3:=Aside0.mk hb3;clear HM1 hb3)
  | (refine ⟨trivial,?_⟩;gi_at_call 22;with_reducible refine (HM2.out _).mono ?_;rintro e w4 ⟨rfl,hb4⟩;have HB4:=Aside0.mk hb4;clear HM2 hb4)
  | (refine ⟨trivial,?_⟩;gi_at_call 23;with_reducible refine (HSP.out _).mono ?_;rintro e w5 ⟨rfl,rfl⟩;clear HSP))
 have hHB:w.heap.size+1≤w1.heap.size:=by have:=HB1.out.size;simpa using this
 have hz4:w1.heap.size≤w4.heap.size:=Nat.le_trans HB2.out.size (Nat.le_trans HB3.out.size HB4.out.size)
 have hB4:Below w.heap.size w w4:=below_step (below_step (below_step (below_step (below_alloc (Below.refl _ _) _) HB1.out) HB2.out) HB3.out) HB4.out
 have hR4:w4.heap[w.heap.size]?=some (.cells #[.string ⟨#[]⟩,.int .i64 0,.int .i64 0,.int .i64 0] 23 (0,0)):=blk_below (blk_below (blk_below (blk_below (blk_new w _) HB1.out) HB2.out) HB3.out) HB4.out
 have hK4:KeysIn w4:=keys_step (keys_step (keys_step (keys_step (keys_step HK.out (below_alloc (Below.refl _ _) _)) HB1.out) HB2.out) HB3.out) HB4.out
 obtain ⟨B,hB⟩:∃ B,w4.heap.size=B:=⟨_,rfl⟩
 obtain ⟨R,hR⟩:∃ R,w.heap.size=R:=⟨_,rfl⟩
 rw [hR] at hR4 hB4 hHB
 have hRB:R<B:=by omega
 have key:∃ W5,((((w4.alloc (Obj.cells #[Value.string ⟨#[120]⟩,Value.int IntKind.i64 0,Value.int IntKind.i64 F,Value.int IntKind.i64 T] 23)).alloc (Obj.cells #[Value.string l] 9)).alloc (Obj.cells #[Value.string ⟨#[44]⟩] 9)).alloc (Obj.cells #[Value.int IntKind.i64 0] 3))=W5:=⟨_,rfl⟩
 obtain ⟨W5,hW5⟩:=key
 have q:=four_allocs w4 (.cells #[.string ⟨#[120]⟩,.int .i64 0,.int .i64 F,.int .i64 T] 23) (.cells #[.string l] 9) (.cells #[.string ⟨#[44]⟩] 9) (.cells #[.int .i64 0] 3)
 rw [hW5,hB] at q
 obtain ⟨q0,q1,q2,q3,qz,q5⟩:=q
 have qb:Boxes W5 (B+1+1) (B+1) (B+1+1+1) l:=⟨(box_cell q2).1,(box_cell q1).1,(box_cell q1).2,(box_cell q3).1⟩
 have qB:Below R w W5:=hB4.trans (q5.mono (by omega))
 have qR:W5.heap[R]?=some (.cells #[.string ⟨#[]⟩,.int .i64 0,.int .i64 0,.int .i64 0] 23 (0,0)):=blk_below hR4 (by rw [← hB] at q5;exact q5)
 have qK:KeysIn W5:=keys_step hK4 (by rw [← hB] at q5;exact q5)
 rw [hB,hR,hW5]
 refine range_split 6 (by decide) (B+1+1) (B+1) (B+1+1+1) (by omega) (by omega) (by omega) (by omega) (by omega) l hz1.1 rfl qb
  (fun pre W=>W.heap[B]?=some (.cells #[.string ⟨#[120]⟩,.int .i64 (daysOf pre),.int .i64 F,.int .i64 T] 23 (0,0))∧W.heap[R]?=some (.cells #[.string ⟨#[]⟩,.int .i64 0,.int .i64 0,.int .i64 0] 23 (0,0))∧KeysIn W∧Below R w W)
  (fun pre W o h=>⟨(Below.heap_alloc _ _ _ (blk_lt h.1)).trans h.1,(Below.heap_alloc _ _ _ (blk_lt h.2.1)).trans h.2.1,keys_step h.2.2.1 (below_alloc (Below.refl _ _) _),h.2.2.2.alloc (by have:=h.2.2.2.size;omega) _⟩)
  (fun pre W j o hj h=>⟨(World.putObj_heap_other (by omega)).trans h.1,(World.putObj_heap_other (by omega)).trans h.2.1,h.2.2.1.of_heap (World.putObj_heap_other (by have:=hK4.lt;omega)),
   h.2.2.2.grown (grownBy_putObj' W j o) (by have:=h.2.2.2.size;omega) (fun k e=>by cases e;omega)⟩)
  (fun pre W v h=>⟨(Below.heap_setCell W _ _ _ (by show B≠B+1;omega)).trans h.1,(Below.heap_setCell W _ _ _ (by show R≠B+1;omega)).trans h.2.1,h.2.2.1.of_heap (Below.heap_setCell W _ _ _ (by show 0≠B+1;have:=hK4.lt;omega)),
   h.2.2.2.setCell (p:=⟨B+1,0,none⟩) (by show R≤B+1;omega) _⟩)
  ⟨q0,qR,qK,qB⟩
  (fun x=>{ tmps:=#[.string s,undef,.pointer (some ⟨R,0,none⟩),.int .i64 0,.string l,.string span,.bool t1,.string fr,.string tt,.bool t2,.pointer (some ⟨B,0,none⟩),.string x,undef,undef,undef,
   .tuple #[.string l,.string span,.bool t1],.string s,.tuple #[.string l,.string span,.bool t1],.string l,.string span,.bool t1,.tuple #[.string fr,.string tt,.bool t2],.string span,.tuple #[.string fr,.string tt,.bool t2],.string fr,.string tt,.bool t2,
   .string fr,.int .i64 F,.string tt,.int .i64 T,.agg #[.string ⟨#[120]⟩,.int .i64 0,.int .i64 F,.int .i64 T],.string l,
   .func (.func 44) #[] #[.pointer (some ⟨B+1+1,0,none⟩),.pointer (some ⟨B+1,0,none⟩),.pointer (some ⟨B+1+1+1,0,none⟩)],.string x,undef,undef,undef,undef,undef,undef,undef,undef,undef,undef,undef,undef,undef,undef,undef,undef,undef,undef,undef,undef,undef,undef,undef,undef,undef],defers:=[] }) ?assign ?body ?done
 case assign =>
  intro j x W K hK
  gi_wp2
  exact hK
 case body =>
  rintro j pre x W hj ⟨i0,iR,iK,iB⟩
  have hd:1≤6-1-1:=by decide
  have hix:=CallsIn.inRound j (callsIn_wide (n:=6-1-1-1).2 (Tryd.slices_Index_string 0 0 7 7 namesL x W (by decide) (by decide) (fun k hk=>by rw [Nat.zero_add];exact iK.cell k hk)))
  have h7:Lib.idxOfS (namesL.take 7) x=dayIdx x:=rfl
  rw [h7] at hix
  rcases idx_seven x with hk|⟨k,hk7,hk⟩
  ·have hstep:daysOf (pre++[x])=daysOf pre:=by rw [daysOf_snoc,dayStep,hk];rfl
   rw [hk] at hix
   have HIX:=Aside0.mk hix
   clear hix
   gi_wp2_with (refine ⟨trivial,?_⟩;gi_at_call 24;refine HIX.out.mono ?_;rintro e w' ⟨rfl,rfl⟩)
   exact KeepsOthers.refl _
  ·have hstep:daysOf (pre++[x])=Go.bits .or .i64 (daysOf pre) (wrap64 (2 ^ k)):=by rw [daysOf_snoc,dayStep,hk,if_pos (by omega),Int.toNat_natCast]
   rw [hk] at hix
   have HIX:=Aside0.mk hix
   clear hix
   have hk0:(0:Int)≤(k:Int):=by omega
   have hmx:Tryd.prog.follows .mixedOrders=true:=by kernel_rfl
   have hc1:W.cell? ⟨B,1,none⟩=some (.int .i64 (daysOf pre)):=by rw [cell_of_row W B 1 _ _ _ i0];rfl
   have hf1:W.frozen? ⟨B,1,none⟩=false:=by simp [World.frozen?,i0]
   have hKB:0<B:=by have:=hK4.lt;omega
   gi_wp2_with (refine ⟨trivial,?_⟩;gi_at_call 24;refine HIX.out.mono ?_;rintro e w' ⟨rfl,rfl⟩)
   gi_region_o
   all_goals gi_wp2
   all_goals (try go_bits)
   all_goals (exact ⟨(KeepsOthers.setCell _ _ _).trans (KeepsOthers.drew _),⟨Below.heap_setCell _ _ _ _ (by show B+1+1≠B;omega),Below.heap_setCell _ _ _ _ (by show B+1≠B;omega),Below.heap_setCell _ _ _ _ (by show B+1+1+1≠B;omega)⟩,
    set_one i0,(Below.heap_setCell _ _ _ _ (by show R≠B;omega)).trans iR,iK.of_heap (Below.heap_setCell _ _ _ _ (by show 0≠B;omega)),(iB.setCell (p:=⟨B,1,none⟩) (by show R≤B;omega) _).drew⟩)
 case done =>
  rintro D W hD ⟨i0,iR,iK,iB⟩ hDf
  rw [qz] at hD
  have htc:=callsIn_wide (n:=6-1).2 (hours_Text.calls _ _ _ _ t er W HT.out iK)
  have HTC:=Aside0.mk htc
  have hres:=HRES.out
  clear htc HRES
  generalize hdd:daysOf (splitL l)=d at i0 HTC hres
  have hRW:R≤W.heap.size:=by have:=iB.size;omega
  have hRD:D≠R:=by omega
  by_cases hok:er=0∧t=s
  ·rw [if_pos hok] at hres
   obtain ⟨rfl,rfl⟩:=hok
   subst hres
   gi_wp2_with (first
    | (refine wpListIn_load_agg rfl 23 (.tmp 10) rfl B rfl 23 _ (0,0) _ i0 Tryd.underlying23 rfl (by kernel_rfl) ?_)
    | (refine wpListIn_load_agg rfl 23 (.tmp 10) rfl B rfl 23 _ (0,0) _ j0 Tryd.underlying23 rfl (by kernel_rfl) ?_)
    | (refine ⟨trivial,?_⟩;gi_at_call 9;refine HTC.out.mono ?_;rintro e w7 ⟨rfl,hb7⟩;have j0:=blk_below i0 hb7;have jR:=blk_below iR hb7;have jD:=blk_below hDf hb7;have jB:=iB.trans (hb7.mono hRW);obtain ⟨k0,k1,k2,k3,f0,f1,f2,f3⟩:=agg_cells jR))
   have hD':=(set_four_other (a':=.string ⟨#[120]⟩) (b':=.int .i64 d) (c':=.int .i64 F) (d':=.int .i64 T) hRD).trans jD
   refine ⟨by simp,.inl ⟨_,_,rfl,run_takeDeferred hD',?_⟩⟩
   exact ⟨_,results_agg (ty:=23) Tryd.results10 _ _ R 23 _ (0,0) _ (.int .i64 0) rfl rfl ((World.putObj_heap_other (by omega)).trans (set_four jR)) Tryd.underlying23 rfl (by kernel_rfl),rfl,parse_below hR jB (by omega) hD'⟩
  ·rw [if_neg hok] at hres
   subst hres
   by_cases he:er=0
   ·have hts:(t.toList == s.toList)=false:=beq_eq_false_iff_ne.mpr (fun e=>hok ⟨he,by rw [ByteArray.toList_eq,ByteArray.toList_eq] at e;exact ByteArray.ext (Array.ext' e)⟩)
    subst he
    gi_wp2_with (first
     | (refine wpListIn_load_agg rfl 23 (.tmp 10) rfl B rfl 23 _ (0,0) _ i0 Tryd.underlying23 rfl (by kernel_rfl) ?_)
     | (refine wpListIn_load_agg rfl 23 (.tmp 10) rfl B rfl 23 _ (0,0) _ j0 Tryd.underlying23 rfl (by kernel_rfl) ?_)
     | (refine ⟨trivial,?_⟩;gi_at_call 9;refine HTC.out.mono ?_;rintro e w7 ⟨rfl,hb7⟩;have j0:=blk_below i0 hb7;have jR:=blk_below iR hb7;have jD:=blk_below hDf hb7;have jB:=iB.trans (hb7.mono hRW);obtain ⟨k0,k1,k2,k3,f0,f1,f2,f3⟩:=agg_cells jR))
    have hD':=(set_four_other (a':=.string ⟨#[]⟩) (b':=.int .i64 0) (c':=.int .i64 0) (d':=.int .i64 0) hRD).trans jD
    refine ⟨by simp,.inl ⟨_,_,rfl,run_takeDeferred hD',?_⟩⟩
    exact ⟨_,results_agg (ty:=23) Tryd.results10 _ _ R 23 _ (0,0) _ (.int .i64 6) rfl rfl ((World.putObj_heap_other (by omega)).trans (set_four jR)) Tryd.underlying23 rfl (by kernel_rfl),rfl,parse_below hR jB (by omega) hD'⟩
   ·have hne:(er != 0)=true:=bne_iff_ne.mpr he
    gi_wp2_with (first
     | (refine wpListIn_load_agg rfl 23 (.tmp 10) rfl B rfl 23 _ (0,0) _ i0 Tryd.underlying23 rfl (by kernel_rfl) ?_)
     | (refine wpListIn_load_agg rfl 23 (.tmp 10) rfl B rfl 23 _ (0,0) _ j0 Tryd.underlying23 rfl (by kernel_rfl) ?_)
     | (refine ⟨trivial,?_⟩;gi_at_call 9;refine HTC.out.mono ?_;rintro e w7 ⟨rfl,hb7⟩;have j0:=blk_below i0 hb7;have jR:=blk_below iR hb7;have jD:=blk_below hDf hb7;have jB:=iB.trans (hb7.mono hRW);obtain ⟨k0,k1,k2,k3,f0,f1,f2,f3⟩:=agg_cells jR))
    have hD':=(set_four_other (a':=.string ⟨#[]⟩) (b':=.int .i64 0) (c':=.int .i64 0) (d':=.int .i64 0) hRD).trans jD
    refine ⟨by simp,.inl ⟨_,_,rfl,run_takeDeferred hD',?_⟩⟩
    exact ⟨_,results_agg (ty:=23) Tryd.results10 _ _ R 23 _ (0,0) _ (.int .i64 6) rfl rfl ((World.putObj_heap_other (by omega)).trans (set_four jR)) Tryd.underlying23 rfl (by kernel_rfl),rfl,parse_below hR jB (by omega) hD'⟩
def hours_Parse.f (a0:ByteArray):Option (ByteArray×Int×Int×Int×Int) :=
 if a0.size≤4611686018427387904 then (hours_Text.f ⟨#[120]⟩ (daysOf (splitL (cutAt a0 32).1)) (minutesI (cutAt (cutAt a0 32).2.1 45).1) (minutesI (cutAt (cutAt a0 32).2.1 45).2.1)).bind fun r =>
  some (if r.2=0∧r.1=a0 then (⟨#[120]⟩,daysOf (splitL (cutAt a0 32).1),minutesI (cutAt (cutAt a0 32).2.1 45).1,minutesI (cutAt (cutAt a0 32).2.1 45).2.1,0) else (⟨#[]⟩,0,0,0,6)) else none
theorem hours_Parse.calls (a0 r0:ByteArray) (r1 r2 r3 r4:Int) (w:World) (h:hours_Parse.f a0=some (r0,r1,r2,r3,r4)) (hK:KeysIn w) :
  Calls Tryd.prog 10 #[.string a0] w fun e w'=>e=.returned (.tuple #[.agg #[.string r0,.int .i64 r1,.int .i64 r2,.int .i64 r3],.int .i64 r4])∧Below w.heap.size w w':=by
 unfold hours_Parse.f at h
 split at h
 ·rename_i hs
  cases ht:hours_Text.f ⟨#[120]⟩ (daysOf (splitL (cutAt a0 32).1)) (minutesI (cutAt (cutAt a0 32).2.1 45).1) (minutesI (cutAt (cutAt a0 32).2.1 45).2.1) with
  | none=>rw [ht] at h;cases h
  | some p =>
   obtain ⟨t,er⟩:=p
   rw [ht,Option.bind_some] at h
   refine (parse_walk a0 hs w hK t er ht).mono ?_
   rintro e w' ⟨rfl,hb⟩
   refine ⟨?_,hb⟩
   by_cases hok:er=0∧t=a0
   ·rw [if_pos hok] at h ⊢
    simp only [Option.some.injEq,Prod.mk.injEq] at h
    obtain ⟨rfl,rfl,rfl,rfl,rfl⟩:=h
    rfl
   ·rw [if_neg hok] at h ⊢
    simp only [Option.some.injEq,Prod.mk.injEq] at h
    obtain ⟨rfl,rfl,rfl,rfl,rfl⟩:=h
    rfl
 ·cases h
end Go.Proofs.YtmhdmmgljenckaaDoor.P

/- What one function of the program computes, as a Lean function, and a proof that its call comes to just that. Conditions: none. Written by wip/ownprint.py. -/
namespace Go.Proofs.YtmhdmmgljenckaaDoor.P
open Go.RowKit Go.Proofs.YtmhdmmgljenckaaDoorW.PrintWords Go.Proofs.YtmhdmmgljenckaaDoorW.PrintLast Go.Proofs.YtmhdmmgljenckaaDoorW.PrintMore
attribute [local go_sem] max2_int min2_int max_two min_two max_three min_three max_four min_four   -- for this text's walks alone
set_option linter.unusedVariables false
set_option linter.unusedSimpArgs false

def transhipmentlaw07_alive.f :Option (Bool):=(hours_Parse.f (⟨#[109,111,110,44,102,114,105,32,48,57,58,48,48,45,49,55,58,51,48]⟩:ByteArray)).bind fun bt140=>(if bt140.2.2.2.2=0 then (if bt140.2.1=17 then (if bt140.2.2.1=540 then (if bt140.2.2.2.1=1050 then ((hours_In.f bt140.1 bt140.2.1 bt140.2.2.1 bt140.2.2.2.1 32400000).bind fun t146=>(some t146)) else (some false)) else (some false)) else (some false)) else (some false))
set_option maxHeartbeats 8000000 in
set_option maxRecDepth 100000 in
theorem transhipmentlaw07_alive.calls  (r:Bool) (w:World) (h:transhipmentlaw07_alive.f =some r) (hK:KeysIn w) :
  Calls Tryd.prog 16 #[] w fun e w'=>e=.returned (.bool r)∧Below w.heap.size w w':=by
 have hu23:=Tryd.underlying23
 have HB:=Aside0.mk (Below.refl w.heap.size w)
 have HK:=Aside0.mk hK
 clear hK
 have H:((hours_Parse.f (⟨#[109,111,110,44,102,114,105,32,48,57,58,48,48,45,49,55,58,51,48]⟩:ByteArray)).bind fun bt140=>(if bt140.2.2.2.2=0 then (if bt140.2.1=17 then (if bt140.2.2.1=540 then (if bt140.2.2.2.1=1050 then ((hours_In.f bt140.1 bt140.2.1 bt140.2.2.1 bt140.2.2.2.1 32400000).bind fun t146=>(some t146)) else (some false)) else (some false)) else (some false)) else (some false)))=some r:=h
 clear h
 replace H:=Option.bind_eq_some_iff.mp H
 obtain ⟨⟨t140,t141,t142,t143,t144⟩,A10,H⟩:=H
 replace H:(if t144=0 then (if t141=17 then (if t142=540 then (if t143=1050 then ((hours_In.f t140 t141 t142 t143 32400000).bind fun t146=>(some t146)) else (some false)) else (some false)) else (some false)) else (some false))=some r:=H
 have A1:=Aside0.mk A10
 clear A10
 by_cases c2:t144=0
 ·rw [if_pos c2] at H
  have c2b0:(t144 == 0)=true:=beq_iff_eq.mpr c2
  have c2b1:(t144 != 0)=false:=bne_eq_false_iff_eq.mpr c2
  clear c2
  by_cases c3:t141=17
  ·rw [if_pos c3] at H
   have c3b0:(t141 == 17)=true:=beq_iff_eq.mpr c3
   have c3b1:(t141 != 17)=false:=bne_eq_false_iff_eq.mpr c3
   clear c3
   by_cases c4:t142=540
   ·rw [if_pos c4] at H
    have c4b0:(t142 == 540)=true:=beq_iff_eq.mpr c4
    have c4b1:(t142 != 540)=false:=bne_eq_false_iff_eq.mpr c4
    clear c4
    by_cases c5:t143=1050
    ·rw [if_pos c5] at H
     have c5b0:(t143 == 1050)=true:=beq_iff_eq.mpr c5
     have c5b1:(t143 != 1050)=false:=bne_eq_false_iff_eq.mpr c5
     clear c5
     replace H:=Option.bind_eq_some_iff.mp H
     obtain ⟨t146,A60,H⟩:=H
     replace H:(some t146)=some r:=H
     have A6:=Aside0.mk A60
     clear A60
     obtain rfl:=Option.some.inj H
     go_enter Tryd.func16,Tryd.ntmps16
     go_wp2_with (first|((with_reducible refine gate_callee (f:=10) rfl ?_);refine goesL_ (some 4) rfl rfl Tryd.func10 (by kernel_rfl) rfl #[.string (⟨#[109,111,110,44,102,114,105,32,48,57,58,48,48,45,49,55,58,51,48]⟩:ByteArray)] rfl (by (try simp only [List.map_toArray,List.map_cons,List.map_nil]);first|done|rfl|(simp only [List.length_drop,List.length_take];rfl)) ?_;(with_reducible refine (hours_Parse.calls (⟨#[109,111,110,44,102,114,105,32,48,57,58,48,48,45,49,55,58,51,48]⟩:ByteArray) t140 t141 t142 t143 t144 _ A1.out ?keys_).mono ?_);(case keys_=>exact (keys_step HK.out (by repeat (first|(with_reducible first|exact HB.out|apply below_alloc|apply pw_below_drewN|apply below_drew1|refine below_set ?_ GE145.out)|exact HB.out))));rintro e w7 ⟨rfl,hb⟩;refine ⟨_,rfl,?_⟩;have n0_:=Aside0.mk (below_step (by repeat (first|(with_reducible first|exact HB.out|apply below_alloc|apply pw_below_drewN|apply below_drew1)|exact HB.out)) hb);clear HB;have HB:=n0_;clear n0_;(try clear hb);(try clear hb2);(try clear hk);(try clear hi))|((with_reducible refine gate_dst (N:=1) rfl ?_);refine box_event ?hg (N:=1) ?hd (cs:=#[.string (⟨#[]⟩:ByteArray),.int .i64 0,.int .i64 0,.int .i64 0]) (t:=23) ?hr ?_;(case hd=>rfl);(case hg=>rfl);(case hr=>first|(go_simp;done)|(go_simp;rfl)|(go_simp;simp [IntKind.wrap_u32]));intro gb145 hg w8 hbox hb;have n0_:=Aside0.mk (below_step (by repeat (first|(with_reducible first|exact HB.out|apply below_alloc|apply pw_below_drewN|apply below_drew1)|exact HB.out)) hb);have n1_:=Aside0.mk (hbox);have n2_:=Aside0.mk ((by rw [hg];exact (below_size (by repeat (first|(with_reducible first|exact HB.out|apply below_alloc|apply pw_below_drewN|apply below_drew1)|exact HB.out))):w.heap.size≤gb145));have n3_:=Aside0.mk ((by rw [hg];exact (below_size (by repeat (first|(with_reducible first|exact HB.out|apply below_alloc|apply pw_below_drewN|apply below_drew1)|exact HB.out))):w.heap.size≤gb145));clear HB;have HB:=n0_;have BK145:=n1_;have GW145:=n2_;have GE145:=n3_;clear n0_ n1_ n2_ n3_;clear hb hbox hg;have hcz9_0:w8.cell? ⟨gb145,0,none⟩=some (.string (⟨#[]⟩:ByteArray)):=(blk_cell BK145.out 0).trans rfl;have hcz9_1:w8.cell? ⟨gb145,1,none⟩=some (.int .i64 0):=(blk_cell BK145.out 1).trans rfl;have hcz9_2:w8.cell? ⟨gb145,2,none⟩=some (.int .i64 0):=(blk_cell BK145.out 2).trans rfl;have hcz9_3:w8.cell? ⟨gb145,3,none⟩=some (.int .i64 0):=(blk_cell BK145.out 3).trans rfl;have hfz9_0:=blk_frozen BK145.out 0;have hfz9_1:=blk_frozen BK145.out 1;have hfz9_2:=blk_frozen BK145.out 2;have hfz9_3:=blk_frozen BK145.out 3)|(go_at_call 14;(with_reducible refine (hours_In.calls t140 t141 t142 t143 32400000 t146 _ A6.out).mono ?_);rintro e w10 ⟨rfl,hb⟩;have n0_:=Aside0.mk (blk_below (g:=gb145) (o:=.cells #[.string t140,.int .i64 t141,.int .i64 t142,.int .i64 t143] 23 (0,0)) (by (with_reducible repeat (first|refine blk_drewN ?_ _|refine blk_drew ?_|refine blk_alloc ?_ _));refine blk_put (cs:=#[.string t140,.int .i64 t141,.int .i64 t142,.int .i64 0]) ?_ 3 _ rfl;(with_reducible repeat (first|refine blk_drewN ?_ _|refine blk_drew ?_|refine blk_alloc ?_ _));refine blk_put (cs:=#[.string t140,.int .i64 t141,.int .i64 0,.int .i64 0]) ?_ 2 _ rfl;(with_reducible repeat (first|refine blk_drewN ?_ _|refine blk_drew ?_|refine blk_alloc ?_ _));refine blk_put (cs:=#[.string t140,.int .i64 0,.int .i64 0,.int .i64 0]) ?_ 1 _ rfl;(with_reducible repeat (first|refine blk_drewN ?_ _|refine blk_drew ?_|refine blk_alloc ?_ _));refine blk_put (cs:=#[.string (⟨#[]⟩:ByteArray),.int .i64 0,.int .i64 0,.int .i64 0]) ?_ 0 _ rfl;(with_reducible repeat (first|refine blk_drewN ?_ _|refine blk_drew ?_|refine blk_alloc ?_ _));exact BK145.out) hb);have n1_:=Aside0.mk (below_step (by repeat (first|(with_reducible first|exact HB.out|apply below_alloc|apply pw_below_drewN|apply below_drew1|refine below_set ?_ GE145.out)|exact HB.out)) hb);clear BK145;clear HB;have BK145:=n0_;have HB:=n1_;clear n0_ n1_;(try clear hb);(try clear hb2);(try clear hk);(try clear hi)))
     (first|go_ret|go_ret2)
     exact ⟨by first|rfl|(simp [errW_none,errW_some]<;>rfl)|(simp [*,errW_none,errW_some]<;>rfl),by repeat (first|(with_reducible first|exact HB.out|apply below_alloc|apply pw_below_drewN|apply below_drew1|refine below_set ?_ GE145.out)|exact HB.out)⟩
    ·rw [if_neg c5] at H
     have c5b0:(t143 == 1050)=false:=beq_eq_false_iff_ne.mpr c5
     have c5b1:(t143 != 1050)=true:=bne_iff_ne.mpr c5
     obtain rfl:=Option.some.inj H
     go_enter Tryd.func16,Tryd.ntmps16
     go_wp2_with (first|((with_reducible refine gate_callee (f:=10) rfl ?_);refine goesL_ (some 4) rfl rfl Tryd.func10 (by kernel_rfl) rfl #[.string (⟨#[109,111,110,44,102,114,105,32,48,57,58,48,48,45,49,55,58,51,48]⟩:ByteArray)] rfl (by (try simp only [List.map_toArray,List.map_cons,List.map_nil]);first|done|rfl|(simp only [List.length_drop,List.length_take];rfl)) ?_;(with_reducible refine (hours_Parse.calls (⟨#[109,111,110,44,102,114,105,32,48,57,58,48,48,45,49,55,58,51,48]⟩:ByteArray) t140 t141 t142 t143 t144 _ A1.out ?keys_).mono ?_);(case keys_=>exact (keys_step HK.out (by repeat (first|(with_reducible first|exact HB.out|apply below_alloc|apply pw_below_drewN|apply below_drew1|refine below_set ?_ GE145.out)|exact HB.out))));rintro e w11 ⟨rfl,hb⟩;refine ⟨_,rfl,?_⟩;have n0_:=Aside0.mk (below_step (by repeat (first|(with_reducible first|exact HB.out|apply below_alloc|apply pw_below_drewN|apply below_drew1)|exact HB.out)) hb);clear HB;have HB:=n0_;clear n0_;(try clear hb);(try clear hb2);(try clear hk);(try clear hi))|((with_reducible refine gate_dst (N:=1) rfl ?_);refine box_event ?hg (N:=1) ?hd (cs:=#[.string (⟨#[]⟩:ByteArray),.int .i64 0,.int .i64 0,.int .i64 0]) (t:=23) ?hr ?_;(case hd=>rfl);(case hg=>rfl);(case hr=>first|(go_simp;done)|(go_simp;rfl)|(go_simp;simp [IntKind.wrap_u32]));intro gb145 hg w12 hbox hb;have n0_:=Aside0.mk (below_step (by repeat (first|(with_reducible first|exact HB.out|apply below_alloc|apply pw_below_drewN|apply below_drew1)|exact HB.out)) hb);have n1_:=Aside0.mk (hbox);have n2_:=Aside0.mk ((by rw [hg];exact (below_size (by repeat (first|(with_reducible first|exact HB.out|apply below_alloc|apply pw_below_drewN|apply below_drew1)|exact HB.out))):w.heap.size≤gb145));have n3_:=Aside0.mk ((by rw [hg];exact (below_size (by repeat (first|(with_reducible first|exact HB.out|apply below_alloc|apply pw_below_drewN|apply below_drew1)|exact HB.out))):w.heap.size≤gb145));clear HB;have HB:=n0_;have BK145:=n1_;have GW145:=n2_;have GE145:=n3_;clear n0_ n1_ n2_ n3_;clear hb hbox hg;have hcz13_0:w12.cell? ⟨gb145,0,none⟩=some (.string (⟨#[]⟩:ByteArray)):=(blk_cell BK145.out 0).trans rfl;have hcz13_1:w12.cell? ⟨gb145,1,none⟩=some (.int .i64 0):=(blk_cell BK145.out 1).trans rfl;have hcz13_2:w12.cell? ⟨gb145,2,none⟩=some (.int .i64 0):=(blk_cell BK145.out 2).trans rfl;have hcz13_3:w12.cell? ⟨gb145,3,none⟩=some (.int .i64 0):=(blk_cell BK145.out 3).trans rfl;have hfz13_0:=blk_frozen BK145.out 0;have hfz13_1:=blk_frozen BK145.out 1;have hfz13_2:=blk_frozen BK145.out 2;have hfz13_3:=blk_frozen BK145.out 3))
     (first|go_ret|go_ret2)
     exact ⟨by first|rfl|(simp [errW_none,errW_some]<;>rfl)|(simp [*,errW_none,errW_some]<;>rfl),by repeat (first|(with_reducible first|exact HB.out|apply below_alloc|apply pw_below_drewN|apply below_drew1|refine below_set ?_ GE145.out)|exact HB.out)⟩
   ·rw [if_neg c4] at H
    have c4b0:(t142 == 540)=false:=beq_eq_false_iff_ne.mpr c4
    have c4b1:(t142 != 540)=true:=bne_iff_ne.mpr c4
    obtain rfl:=Option.some.inj H
    go_enter Tryd.func16,Tryd.ntmps16
    go_wp2_with (first|((with_reducible refine gate_callee (f:=10) rfl ?_);refine goesL_ (some 4) rfl rfl Tryd.func10 (by kernel_rfl) rfl #[.string (⟨#[109,111,110,44,102,114,105,32,48,57,58,48,48,45,49,55,58,51,48]⟩:ByteArray)] rfl (by (try simp only [List.map_toArray,List.map_cons,List.map_nil]);first|done|rfl|(simp only [List.length_drop,List.length_take];rfl)) ?_;(with_reducible refine (hours_Parse.calls (⟨#[109,111,110,44,102,114,105,32,48,57,58,48,48,45,49,55,58,51,48]⟩:ByteArray) t140 t141 t142 t143 t144 _ A1.out ?keys_).mono ?_);(case keys_=>exact (keys_step HK.out (by repeat (first|(with_reducible first|exact HB.out|apply below_alloc|apply pw_below_drewN|apply below_drew1|refine below_set ?_ GE145.out)|exact HB.out))));rintro e w14 ⟨rfl,hb⟩;refine ⟨_,rfl,?_⟩;have n0_:=Aside0.mk (below_step (by repeat (first|(with_reducible first|exact HB.out|apply below_alloc|apply pw_below_drewN|apply below_drew1)|exact HB.out)) hb);clear HB;have HB:=n0_;clear n0_;(try clear hb);(try clear hb2);(try clear hk);(try clear hi))|((with_reducible refine gate_dst (N:=1) rfl ?_);refine box_event ?hg (N:=1) ?hd (cs:=#[.string (⟨#[]⟩:ByteArray),.int .i64 0,.int .i64 0,.int .i64 0]) (t:=23) ?hr ?_;(case hd=>rfl);(case hg=>rfl);(case hr=>first|(go_simp;done)|(go_simp;rfl)|(go_simp;simp [IntKind.wrap_u32]));intro gb145 hg w15 hbox hb;have n0_:=Aside0.mk (below_step (by repeat (first|(with_reducible first|exact HB.out|apply below_alloc|apply pw_below_drewN|apply below_drew1)|exact HB.out)) hb);have n1_:=Aside0.mk (hbox);have n2_:=Aside0.mk ((by rw [hg];exact (below_size (by repeat (first|(with_reducible first|exact HB.out|apply below_alloc|apply pw_below_drewN|apply below_drew1)|exact HB.out))):w.heap.size≤gb145));have n3_:=Aside0.mk ((by rw [hg];exact (below_size (by repeat (first|(with_reducible first|exact HB.out|apply below_alloc|apply pw_below_drewN|apply below_drew1)|exact HB.out))):w.heap.size≤gb145));clear HB;have HB:=n0_;have BK145:=n1_;have GW145:=n2_;have GE145:=n3_;clear n0_ n1_ n2_ n3_;clear hb hbox hg;have hcz16_0:w15.cell? ⟨gb145,0,none⟩=some (.string (⟨#[]⟩:ByteArray)):=(blk_cell BK145.out 0).trans rfl;have hcz16_1:w15.cell? ⟨gb145,1,none⟩=some (.int .i64 0):=(blk_cell BK145.out 1).trans rfl;have hcz16_2:w15.cell? ⟨gb145,2,none⟩=some (.int .i64 0):=(blk_cell BK145.out 2).trans rfl;have hcz16_3:w15.cell? ⟨gb145,3,none⟩=some (.int .i64 0):=(blk_cell BK145.out 3).trans rfl;have hfz16_0:=blk_frozen BK145.out 0;have hfz16_1:=blk_frozen BK145.out 1;have hfz16_2:=blk_frozen BK145.out 2;have hfz16_3:=blk_frozen BK145.out 3))
    (first|go_ret|go_ret2)
    exact ⟨by first|rfl|(simp [errW_none,errW_some]<;>rfl)|(simp [*,errW_none,errW_some]<;>rfl),by repeat (first|(with_reducible first|exact HB.out|apply below_alloc|apply pw_below_drewN|apply below_drew1|refine below_set ?_ GE145.out)|exact HB.out)⟩
  ·rw [if_neg c3] at H
   have c3b0:(t141 == 17)=false:=beq_eq_false_iff_ne.mpr c3
   have c3b1:(t141 != 17)=true:=bne_iff_ne.mpr c3
   obtain rfl:=Option.some.inj H
   go_enter Tryd.func16,Tryd.ntmps16
   go_wp2_with (first|((with_reducible refine gate_callee (f:=10) rfl ?_);refine goesL_ (some 4) rfl rfl Tryd.func10 (by kernel_rfl) rfl #[.string (⟨#[109,111,110,44,102,114,105,32,48,57,58,48,48,45,49,55,58,51,48]⟩:ByteArray)] rfl (by (try simp only [List.map_toArray,List.map_cons,List.map_nil]);first|done|rfl|(simp only [List.length_drop,List.length_take];rfl)) ?_;(with_reducible refine (hours_Parse.calls (⟨#[109,111,110,44,102,114,105,32,48,57,58,48,48,45,49,55,58,51,48]⟩:ByteArray) t140 t141 t142 t143 t144 _ A1.out ?keys_).mono ?_);(case keys_=>exact (keys_step HK.out (by repeat (first|(with_reducible first|exact HB.out|apply below_alloc|apply pw_below_drewN|apply below_drew1|refine below_set ?_ GE145.out)|exact HB.out))));rintro e w17 ⟨rfl,hb⟩;refine ⟨_,rfl,?_⟩;have n0_:=Aside0.mk (below_step (by repeat (first|(with_reducible first|exact HB.out|apply below_alloc|apply pw_below_drewN|apply below_drew1)|exact HB.out)) hb);clear HB;have HB:=n0_;clear n0_;(try clear hb);(try clear hb2);(try clear hk);(try clear hi))|((with_reducible refine gate_dst (N:=1) rfl ?_);refine box_event ?hg (N:=1) ?hd (cs:=#[.string (⟨#[]⟩:ByteArray),.int .i64 0,.int .i64 0,.int .i64 0]) (t:=23) ?hr ?_;(case hd=>rfl);(case hg=>rfl);(case hr=>first|(go_simp;done)|(go_simp;rfl)|(go_simp;simp [IntKind.wrap_u32]));intro gb145 hg w18 hbox hb;have n0_:=Aside0.mk (below_step (by repeat (first|(with_reducible first|exact HB.out|apply below_alloc|apply pw_below_drewN|apply below_drew1)|exact HB.out)) hb);have n1_:=Aside0.mk (hbox);have n2_:=Aside0.mk ((by rw [hg];exact (below_size (by repeat (first|(with_reducible first|exact HB.out|apply below_alloc|apply pw_below_drewN|apply below_drew1)|exact HB.out))):w.heap.size≤gb145));have n3_:=Aside0.mk ((by rw [hg];exact (below_size (by repeat (first|(with_reducible first|exact HB.out|apply below_alloc|apply pw_below_drewN|apply below_drew1)|exact HB.out))):w.heap.size≤gb145));clear HB;have HB:=n0_;have BK145:=n1_;have GW145:=n2_;have GE145:=n3_;clear n0_ n1_ n2_ n3_;clear hb hbox hg;have hcz19_0:w18.cell? ⟨gb145,0,none⟩=some (.string (⟨#[]⟩:ByteArray)):=(blk_cell BK145.out 0).trans rfl;have hcz19_1:w18.cell? ⟨gb145,1,none⟩=some (.int .i64 0):=(blk_cell BK145.out 1).trans rfl;have hcz19_2:w18.cell? ⟨gb145,2,none⟩=some (.int .i64 0):=(blk_cell BK145.out 2).trans rfl;have hcz19_3:w18.cell? ⟨gb145,3,none⟩=some (.int .i64 0):=(blk_cell BK145.out 3).trans rfl;have hfz19_0:=blk_frozen BK145.out 0;have hfz19_1:=blk_frozen BK145.out 1;have hfz19_2:=blk_frozen BK145.out 2;have hfz19_3:=blk_frozen BK145.out 3))
   (first|go_ret|go_ret2)
   exact ⟨by first|rfl|(simp [errW_none,errW_some]<;>rfl)|(simp [*,errW_none,errW_some]<;>rfl),by repeat (first|(with_reducible first|exact HB.out|apply below_alloc|apply pw_below_drewN|apply below_drew1|refine below_set ?_ GE145.out)|exact HB.out)⟩
 ·rw [if_neg c2] at H
  have c2b0:(t144 == 0)=false:=beq_eq_false_iff_ne.mpr c2
  have c2b1:(t144 != 0)=true:=bne_iff_ne.mpr c2
  obtain rfl:=Option.some.inj H
  go_enter Tryd.func16,Tryd.ntmps16
  go_wp2_with (first|((with_reducible refine gate_callee (f:=10) rfl ?_);refine goesL_ (some 4) rfl rfl Tryd.func10 (by kernel_rfl) rfl #[.string (⟨#[109,111,110,44,102,114,105,32,48,57,58,48,48,45,49,55,58,51,48]⟩:ByteArray)] rfl (by (try simp only [List.map_toArray,List.map_cons,List.map_nil]);first|done|rfl|(simp only [List.length_drop,List.length_take];rfl)) ?_;(with_reducible refine (hours_Parse.calls (⟨#[109,111,110,44,102,114,105,32,48,57,58,48,48,45,49,55,58,51,48]⟩:ByteArray) t140 t141 t142 t143 t144 _ A1.out ?keys_).mono ?_);(case keys_=>exact (keys_step HK.out (by repeat (first|(with_reducible first|exact HB.out|apply below_alloc|apply pw_below_drewN|apply below_drew1|refine below_set ?_ GE145.out)|exact HB.out))));rintro e w20 ⟨rfl,hb⟩;refine ⟨_,rfl,?_⟩;have n0_:=Aside0.mk (below_step (by repeat (first|(with_reducible first|exact HB.out|apply below_alloc|apply pw_below_drewN|apply below_drew1)|exact HB.out)) hb);clear HB;have HB:=n0_;clear n0_;(try clear hb);(try clear hb2);(try clear hk);(try clear hi))|((with_reducible refine gate_dst (N:=1) rfl ?_);refine box_event ?hg (N:=1) ?hd (cs:=#[.string (⟨#[]⟩:ByteArray),.int .i64 0,.int .i64 0,.int .i64 0]) (t:=23) ?hr ?_;(case hd=>rfl);(case hg=>rfl);(case hr=>first|(go_simp;done)|(go_simp;rfl)|(go_simp;simp [IntKind.wrap_u32]));intro gb145 hg w21 hbox hb;have n0_:=Aside0.mk (below_step (by repeat (first|(with_reducible first|exact HB.out|apply below_alloc|apply pw_below_drewN|apply below_drew1)|exact HB.out)) hb);have n1_:=Aside0.mk (hbox);have n2_:=Aside0.mk ((by rw [hg];exact (below_size (by repeat (first|(with_reducible first|exact HB.out|apply below_alloc|apply pw_below_drewN|apply below_drew1)|exact HB.out))):w.heap.size≤gb145));have n3_:=Aside0.mk ((by rw [hg];exact (below_size (by repeat (first|(with_reducible first|exact HB.out|apply below_alloc|apply pw_below_drewN|apply below_drew1)|exact HB.out))):w.heap.size≤gb145));clear HB;have HB:=n0_;have BK145:=n1_;have GW145:=n2_;have GE145:=n3_;clear n0_ n1_ n2_ n3_;clear hb hbox hg;have hcz22_0:w21.cell? ⟨gb145,0,none⟩=some (.string (⟨#[]⟩:ByteArray)):=(blk_cell BK145.out 0).trans rfl;have hcz22_1:w21.cell? ⟨gb145,1,none⟩=some (.int .i64 0):=(blk_cell BK145.out 1).trans rfl;have hcz22_2:w21.cell? ⟨gb145,2,none⟩=some (.int .i64 0):=(blk_cell BK145.out 2).trans rfl;have hcz22_3:w21.cell? ⟨gb145,3,none⟩=some (.int .i64 0):=(blk_cell BK145.out 3).trans rfl;have hfz22_0:=blk_frozen BK145.out 0;have hfz22_1:=blk_frozen BK145.out 1;have hfz22_2:=blk_frozen BK145.out 2;have hfz22_3:=blk_frozen BK145.out 3))
  (first|go_ret|go_ret2)
  exact ⟨by first|rfl|(simp [errW_none,errW_some]<;>rfl)|(simp [*,errW_none,errW_some]<;>rfl),by repeat (first|(with_reducible first|exact HB.out|apply below_alloc|apply pw_below_drewN|apply below_drew1|refine below_set ?_ GE145.out)|exact HB.out)⟩
end Go.Proofs.YtmhdmmgljenckaaDoor.P

/- What one function of the program computes, as a Lean function, and a proof that its call comes to just that. Conditions: none. Written by wip/ownprint.py. -/
namespace Go.Proofs.YtmhdmmgljenckaaDoor.P
open Go.RowKit Go.Proofs.YtmhdmmgljenckaaDoorW.PrintWords Go.Proofs.YtmhdmmgljenckaaDoorW.PrintLast Go.Proofs.YtmhdmmgljenckaaDoorW.PrintMore
attribute [local go_sem] max2_int min2_int max_two min_two max_three min_three max_four min_four   -- for this text's walks alone
set_option linter.unusedVariables false
set_option linter.unusedSimpArgs false

def transhipmentlaw07_cut.f (a0_0:ByteArray) (a0_1:Int) (a0_2:Int) (a0_3:Int):Option (ByteArray×Int×Int×Int):=if 0≤(mn (a0_0.size:Int) 70) then (if (mn (a0_0.size:Int) 70)≤(a0_0.size:Int) then (some (a0_0.extract 0 ((mn (a0_0.size:Int) 70):Int).toNat,a0_1,a0_2,a0_3)) else (none)) else (none)
set_option maxHeartbeats 8000000 in
set_option maxRecDepth 100000 in
theorem transhipmentlaw07_cut.calls (a0_0:ByteArray) (a0_1:Int) (a0_2:Int) (a0_3:Int) (r1:ByteArray) (r2:Int) (r3:Int) (r4:Int) (w:World) (h:transhipmentlaw07_cut.f a0_0 a0_1 a0_2 a0_3=some (r1,r2,r3,r4)) :
  Calls Tryd.prog 8 #[.agg #[.string a0_0,.int .i64 a0_1,.int .i64 a0_2,.int .i64 a0_3]] w fun e w'=>e=.returned (.agg #[.string r1,.int .i64 r2,.int .i64 r3,.int .i64 r4])∧Below w.heap.size w w':=by
 have hu23:=Tryd.underlying23
 have HB:=Aside0.mk (Below.refl w.heap.size w)
 have H:(if 0≤(mn (a0_0.size:Int) 70) then (if (mn (a0_0.size:Int) 70)≤(a0_0.size:Int) then (some (a0_0.extract 0 ((mn (a0_0.size:Int) 70):Int).toNat,a0_1,a0_2,a0_3)) else (none)) else (none))=some (r1,r2,r3,r4):=h
 clear h
 obtain ⟨ji2,hji2⟩:∃ j_:Int,(mn (a0_0.size:Int) 70)=j_:=⟨_,rfl⟩
 replace H:(if 0≤(ji2) then (if (ji2)≤(a0_0.size:Int) then (some (a0_0.extract 0 ((ji2):Int).toNat,a0_1,a0_2,a0_3)) else (none)) else (none))=some (r1,r2,r3,r4):=by first|(rw [hji2] at H;exact H)|(simp only [hji2] at H ⊢;exact H)
 (try (have hji2h:ji2≤70:=by (rw [← hji2];unfold mn;(repeat' split)<;>omega)))
 (try (have hji2g:ji2≤64:=by omega))
 (try (have hji2l:0≤ji2:=by (rw [← hji2];unfold mn;(repeat' split)<;>omega)))
 (try (have hji2m:0≤ji2:=by omega))
 have hji2_:(if 70<(a0_0.size:Int) then 70 else (a0_0.size:Int))=ji2:=hji2
 by_cases c3:0≤(ji2)
 ·rw [if_pos c3] at H
  have c3b0:=eq_true c3
  have c3b1:decide (0≤(ji2))=true:=decide_eq_true c3
  clear c3
  by_cases c4:(ji2)≤(a0_0.size:Int)
  ·rw [if_pos c4] at H
   have c4b0:=eq_true c4
   have c4b1:decide ((ji2)≤(a0_0.size:Int))=true:=decide_eq_true c4
   clear c4
   simp only [Option.some.injEq,Prod.mk.injEq] at H
   obtain ⟨rfl,rfl,rfl,rfl⟩:=H
   go_enter Tryd.func8,Tryd.ntmps8
   go_wp2_with (first|((with_reducible refine gate_dst (N:=1) rfl ?_);refine box_event ?hg (N:=1) ?hd (cs:=#[.string a0_0,.int .i64 a0_1,.int .i64 a0_2,.int .i64 a0_3]) (t:=23) ?hr ?_;(case hd=>rfl);(case hg=>rfl);(case hr=>first|(go_simp;done)|(go_simp;rfl)|(go_simp;simp [IntKind.wrap_u32]));intro gb101 hg w5 hbox hb;have n0_:=Aside0.mk (below_step (by repeat (first|(with_reducible first|exact HB.out|apply below_alloc|apply pw_below_drewN|apply below_drew1)|exact HB.out)) hb);have n1_:=Aside0.mk (hbox);have n2_:=Aside0.mk ((by rw [hg];exact (below_size (by repeat (first|(with_reducible first|exact HB.out|apply below_alloc|apply pw_below_drewN|apply below_drew1)|exact HB.out))):w.heap.size≤gb101));have n3_:=Aside0.mk ((by rw [hg];exact (below_size (by repeat (first|(with_reducible first|exact HB.out|apply below_alloc|apply pw_below_drewN|apply below_drew1)|exact HB.out))):w.heap.size≤gb101));clear HB;have HB:=n0_;have BK101:=n1_;have GW101:=n2_;have GE101:=n3_;clear n0_ n1_ n2_ n3_;clear hb hbox hg)|((with_reducible refine gate_dst (N:=2) rfl ?_);refine box_event ?hg (N:=2) ?hd (cs:=#[.string (⟨#[]⟩:ByteArray),.int .i64 0,.int .i64 0,.int .i64 0]) (t:=23) ?hr ?_;(case hd=>rfl);(case hg=>rfl);(case hr=>first|(go_simp;done)|(go_simp;rfl)|(go_simp;simp [IntKind.wrap_u32]));intro gb102 hg w6 hbox hb;have n0_:=Aside0.mk (blk_below (g:=gb101) (o:=.cells #[.string a0_0,.int .i64 a0_1,.int .i64 a0_2,.int .i64 a0_3] 23 (0,0)) (by (with_reducible repeat (first|refine blk_drewN ?_ _|refine blk_drew ?_|refine blk_alloc ?_ _));exact BK101.out) hb);have n1_:=Aside0.mk (below_step (by repeat (first|(with_reducible first|exact HB.out|apply below_alloc|apply pw_below_drewN|apply below_drew1|refine below_set ?_ GE101.out)|exact HB.out)) hb);have n2_:=Aside0.mk (hbox);have n3_:=Aside0.mk ((by rw [hg];exact (below_size (by repeat (first|(with_reducible first|exact HB.out|apply below_alloc|apply pw_below_drewN|apply below_drew1|refine below_set ?_ GE101.out)|exact HB.out))):w.heap.size≤gb102));have n4_:=Aside0.mk ((by rw [hg];exact (below_size (by repeat (first|(with_reducible first|exact HB.out|apply below_alloc|apply pw_below_drewN|apply below_drew1|refine below_set ?_ GE101.out)|exact HB.out))):w.heap.size≤gb102));have n5_:=Aside0.mk ((by rw [hg];exact Nat.ne_of_lt (blk_lt (g:=gb101) (o:=.cells #[.string a0_0,.int .i64 a0_1,.int .i64 a0_2,.int .i64 a0_3] 23 (0,0)) (by (with_reducible repeat (first|refine blk_drewN ?_ _|refine blk_drew ?_|refine blk_alloc ?_ _));exact BK101.out)):gb101≠gb102));have n6_:=Aside0.mk ((by rw [hg];exact Nat.ne_of_gt (blk_lt (g:=gb101) (o:=.cells #[.string a0_0,.int .i64 a0_1,.int .i64 a0_2,.int .i64 a0_3] 23 (0,0)) (by (with_reducible repeat (first|refine blk_drewN ?_ _|refine blk_drew ?_|refine blk_alloc ?_ _));exact BK101.out)):gb102≠gb101));clear BK101;clear HB;have BK101:=n0_;have HB:=n1_;have BK102:=n2_;have GW102:=n3_;have GE102:=n4_;have NB101_102:=n5_;have NB102_101:=n6_;clear n0_ n1_ n2_ n3_ n4_ n5_ n6_;clear hb hbox hg;have hnb7:=NB101_102.out;have hnc7:=NB102_101.out;have hcz8_0:w6.cell? ⟨gb101,0,none⟩=some (.string a0_0):=(blk_cell BK101.out 0).trans rfl;have hcz8_1:w6.cell? ⟨gb101,1,none⟩=some (.int .i64 a0_1):=(blk_cell BK101.out 1).trans rfl;have hcz8_2:w6.cell? ⟨gb101,2,none⟩=some (.int .i64 a0_2):=(blk_cell BK101.out 2).trans rfl;have hcz8_3:w6.cell? ⟨gb101,3,none⟩=some (.int .i64 a0_3):=(blk_cell BK101.out 3).trans rfl;have hfz8_0:=blk_frozen BK101.out 0;have hfz8_1:=blk_frozen BK101.out 1;have hfz8_2:=blk_frozen BK101.out 2;have hfz8_3:=blk_frozen BK101.out 3;have hcz9_0:w6.cell? ⟨gb102,0,none⟩=some (.string (⟨#[]⟩:ByteArray)):=(blk_cell BK102.out 0).trans rfl;have hcz9_1:w6.cell? ⟨gb102,1,none⟩=some (.int .i64 0):=(blk_cell BK102.out 1).trans rfl;have hcz9_2:w6.cell? ⟨gb102,2,none⟩=some (.int .i64 0):=(blk_cell BK102.out 2).trans rfl;have hcz9_3:w6.cell? ⟨gb102,3,none⟩=some (.int .i64 0):=(blk_cell BK102.out 3).trans rfl;have hfz9_0:=blk_frozen BK102.out 0;have hfz9_1:=blk_frozen BK102.out 1;have hfz9_2:=blk_frozen BK102.out 2;have hfz9_3:=blk_frozen BK102.out 3))
   refine bodyPost_ret (results_cell_row rfl _ _ gb102 23 #[.string (a0_0.extract 0 ((ji2):Int).toNat),.int .i64 a0_1,.int .i64 a0_2,.int .i64 a0_3] (0,0) _ rfl (by (with_reducible repeat (first|refine blk_drewN ?_ _|refine blk_drew ?_|refine blk_alloc ?_ _));refine blk_put (cs:=#[.string (a0_0.extract 0 ((ji2):Int).toNat),.int .i64 a0_1,.int .i64 a0_2,.int .i64 0]) ?_ 3 _ rfl;(with_reducible repeat (first|refine blk_drewN ?_ _|refine blk_drew ?_|refine blk_alloc ?_ _));refine blk_put (cs:=#[.string (a0_0.extract 0 ((ji2):Int).toNat),.int .i64 a0_1,.int .i64 0,.int .i64 0]) ?_ 2 _ rfl;(with_reducible repeat (first|refine blk_drewN ?_ _|refine blk_drew ?_|refine blk_alloc ?_ _));refine blk_put (cs:=#[.string (a0_0.extract 0 ((ji2):Int).toNat),.int .i64 0,.int .i64 0,.int .i64 0]) ?_ 1 _ rfl;(with_reducible repeat (first|refine blk_drewN ?_ _|refine blk_drew ?_|refine blk_alloc ?_ _));refine blk_put (cs:=#[.string (⟨#[]⟩:ByteArray),.int .i64 0,.int .i64 0,.int .i64 0]) ?_ 0 _ rfl;(with_reducible repeat (first|refine blk_drewN ?_ _|refine blk_drew ?_|refine blk_alloc ?_ _));refine blk_far ?_ NB102_101.out _;(with_reducible repeat (first|refine blk_drewN ?_ _|refine blk_drew ?_|refine blk_alloc ?_ _));exact BK102.out) Tryd.underlying23 rfl (by kernel_rfl)) rfl ?_
   exact ⟨by first|rfl|(simp [errW_none,errW_some]<;>rfl)|(simp only [← hji2];first|rfl|(simp [errW_none,errW_some]<;>rfl))|(simp [*,errW_none,errW_some]<;>rfl),by repeat (first|(with_reducible first|exact HB.out|apply below_alloc|apply pw_below_drewN|apply below_drew1|refine below_set ?_ GE101.out|refine below_set ?_ GE102.out)|exact HB.out)⟩
  ·rw [if_neg c4] at H
   exact absurd H (by simp)
 ·rw [if_neg c3] at H
  exact absurd H (by simp)
end Go.Proofs.YtmhdmmgljenckaaDoor.P

/- What the hours' functions come to, in plain words. Conditions: none. -/
namespace Go.Proofs.YtmhdmmgljenckaaDoor.P
open Go.RowKit Go.Proofs.YtmhdmmgljenckaaDoorW.PrintWords Go.Proofs.YtmhdmmgljenckaaDoorW.PrintLast Go.Proofs.YtmhdmmgljenckaaDoorW.PrintMore

theorem mn_nat (a b:Nat):mn (a:Int) (b:Int)=((min a b:Nat):Int):=by
 unfold mn
 split<;>omega
theorem wrap_id {n:Int} (h1:-9223372036854775808≤n) (h2:n<9223372036854775808):wrap64 n=n:=by
 unfold wrap64
 omega
theorem known_alive:transhipmentlaw07_alive.f=some true:=by decide +kernel
def cutN (nm:ByteArray):ByteArray:=nm.extract 0 (min nm.size 70)
theorem hours_cut_eq (nm:ByteArray) (d f t:Int):transhipmentlaw07_cut.f nm d f t=some (cutN nm,d,f,t):=by
 unfold transhipmentlaw07_cut.f
 rw [show mn (nm.size:Int) 70=((min nm.size 70:Nat):Int) from mn_nat _ 70,if_pos (by omega),if_pos (by omega),Int.toNat_natCast]
 rfl
def inM (d f t m:Int):Bool:=bitB d (m % 10080/1440) && decide (f≤m % 10080 % 1440) && decide (m % 10080 % 1440<t)
theorem inB_M (nm:ByteArray) (d f t tick:Int) (hr:rightB nm d f t=true) (h0:0≤tick) (h1:tick≤1099511627776):inB nm d f t tick=inM d f t (tick/60000):=by
 unfold inB inM withinB minuteI
 rw [hr,decide_eq_true h0,decide_eq_true h1]
 rfl
theorem inB_out (nm:ByteArray) (d f t tick:Int) (h:¬ (0≤tick∧tick≤1099511627776)):inB nm d f t tick=false:=by
 have hw:withinB tick=false:=by
  unfold withinB
  by_cases h0:0≤tick
  ·rw [decide_eq_true h0,decide_eq_false (fun h1=>h ⟨h0,h1⟩)]
   rfl
  ·rw [decide_eq_false h0]
   rfl
 unfold inB
 rw [hw]
 simp
theorem inB_wrong (nm:ByteArray) (d f t tick:Int) (hr:rightB nm d f t=false):inB nm d f t tick=false:=by
 unfold inB
 rw [hr]
 rfl
theorem right_ranges {nm:ByteArray} {d f t:Int} (hr:rightB nm d f t=true):1≤d∧d≤127∧0≤f∧f<1440∧f<t∧t≤1440:=by
 unfold rightB at hr
 simp only [Bool.and_eq_true,decide_eq_true_eq] at hr
 omega
end Go.Proofs.YtmhdmmgljenckaaDoor.P
