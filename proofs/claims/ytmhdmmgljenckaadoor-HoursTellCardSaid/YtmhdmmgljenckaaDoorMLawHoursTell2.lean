/- What these functions of the program and of the plain reference compute, and plain lemmas on it: PHoursTwo, PHoursClock, HoursText, HoursMinutes, HoursParse, Plaw07Alive, HoursLaw, RefHours, RefIn. Conditions: as each lemma says. -/
import Derived.Test.YtmhdmmgljenckaaDoorMLawHoursTell0
import Derived.Test.YtmhdmmgljenckaaDoorMLawHoursTell1
import Derived.Laws.Rows
import Derived.Laws.AppendOwn
import Derived.Deep.RegionHeld3
import Derived.Deep.DrawnRows
import Derived.Deep.OwnRows
/- What one function of the program computes, as a Lean function, and a proof that its call comes to just that. Conditions: none. Written by wip/ownprint.py. -/
namespace Go.Proofs.YtmhdmmgljenckaaDoor.P
open Go.RowKit Go.Proofs.YtmhdmmgljenckaaDoorW.PrintWords Go.Proofs.YtmhdmmgljenckaaDoorW.PrintLast Go.Proofs.YtmhdmmgljenckaaDoorW.PrintMore
attribute [local go_sem] max2_int min2_int max_two min_two max_three min_three max_four min_four   -- for this text's walks alone
set_option linter.unusedVariables false
set_option linter.unusedSimpArgs false

def hours_two.f (a0:Int):Option (ByteArray):=some (strOfNums (([(wrap64 (48+(wrap64 (Int.tdiv a0 10)))) % 256,(wrap64 (48+(Int.tmod a0 10))) % 256]:List Int)))
set_option maxHeartbeats 8000000 in
set_option maxRecDepth 100000 in
theorem hours_two.calls (a0:Int) (r:ByteArray) (w:World) (h:hours_two.f a0=some r) :
  Calls Tryd.prog 35 #[.int .i64 a0] w fun e w'=>e=.returned (.string r)∧Below w.heap.size w w':=by
 have HB:=Aside0.mk (Below.refl w.heap.size w)
 have H:(some (strOfNums (([(wrap64 (48+(wrap64 (Int.tdiv a0 10)))) % 256,(wrap64 (48+(Int.tmod a0 10))) % 256]:List Int))))=some r:=h
 clear h
 obtain ⟨y104,hy104⟩:∃ y_:List Int,y_=(([(wrap64 (48+(wrap64 (Int.tdiv a0 10)))) % 256,(wrap64 (48+(Int.tmod a0 10))) % 256]:List Int)):=⟨_,rfl⟩
 replace H:(some (strOfNums y104))=some r:=by first|(rw [hy104];with_reducible exact H)|(have H2_:=(Option.bind_some _ _).symm.trans H;rw [hy104];with_reducible exact H2_)|(have H2_:=(Option.bind_some _ _).symm.trans H;with_reducible exact H2_)|with_reducible exact H|(rw [hy104];exact H)|exact H
 have Ny104:=Aside0.mk hy104
 clear hy104
 obtain rfl:=Option.some.inj H
 go_enter Tryd.func35,Tryd.ntmps35
 go_wp2_with (first|((with_reducible refine gate_dst (N:=11) rfl ?_);refine Kd.R_lit (Kd.int .u8) _ 5 ?hg (N:=11) ?hd (xs:=([(wrap64 (48+(wrap64 (Int.tdiv a0 10)))) % 256,(wrap64 (48+(Int.tmod a0 10))) % 256]:List Int)) (inner:=[.int .u8 ((wrap64 (48+(wrap64 (Int.tdiv a0 10)))) % 256),.int .u8 ((wrap64 (48+(Int.tmod a0 10))) % 256)]) (ok:=fun _=>True) (okp:=fun _=>True) ?hr ?hp (fun _ hk=>hk) trivial (Below.refl _ _) (Nat.le_refl _) (by simp) ?_;(case hd=>rfl);(case hg=>rfl);(case hr=>first|(go_simp;done)|(go_simp;rfl)|(go_simp;simp [IntKind.wrap_u32]));(case hp=>exact (Reps.one (show Kd.M (Kd.int .u8) _ _ _ ((wrap64 (48+(wrap64 (Int.tdiv a0 10)))) % 256) [.int .u8 ((wrap64 (48+(wrap64 (Int.tdiv a0 10)))) % 256)] from rfl) (Reps.one (show Kd.M (Kd.int .u8) _ _ _ ((wrap64 (48+(Int.tmod a0 10))) % 256) [.int .u8 ((wrap64 (48+(Int.tmod a0 10))) % 256)] from rfl) (Reps.none _ _))));intro v105 w2 ho3 hb hg_ hnew_;clear hg_ hnew_;(first|rw [← Ny104.out] at ho3|(simp only [Int.reduceToNat] at ho3;rw [← Ny104.out] at ho3));have n0_:=Aside0.mk (Kd.R_lower ho3 (below_size (by repeat (first|(with_reducible first|exact HB.out|apply below_alloc|apply pw_below_drewN|apply below_drew1)|exact HB.out))));have n1_:=Aside0.mk (below_step (by repeat (first|(with_reducible first|exact HB.out|apply below_alloc|apply pw_below_drewN|apply below_drew1)|exact HB.out)) hb);clear HB;have HO106:=n0_;have HB:=n1_;clear n0_ n1_;clear hb ho3;have hcv4:=own_string (P:=Tryd.prog) Tryd.underlying56 Tryd.underlying5 Tryd.underlying9 (Kd.own_of_R HO106.out)))
 (first|go_ret|go_ret2)
 exact ⟨by first|rfl|(simp [errW_none,errW_some]<;>rfl)|(simp [*,errW_none,errW_some]<;>rfl),by repeat (first|(with_reducible first|exact HB.out|apply below_alloc|apply pw_below_drewN|apply below_drew1)|exact HB.out)⟩
end Go.Proofs.YtmhdmmgljenckaaDoor.P

/- What one function of the program computes, as a Lean function, and a proof that its call comes to just that. Conditions: none. Written by wip/ownprint.py. -/
namespace Go.Proofs.YtmhdmmgljenckaaDoor.P
open Go.RowKit Go.Proofs.YtmhdmmgljenckaaDoorW.PrintWords Go.Proofs.YtmhdmmgljenckaaDoorW.PrintLast Go.Proofs.YtmhdmmgljenckaaDoorW.PrintMore
attribute [local go_sem] max2_int min2_int max_two min_two max_three min_three max_four min_four   -- for this text's walks alone
set_option linter.unusedVariables false
set_option linter.unusedSimpArgs false

def hours_clock.f (a0:Int):Option (ByteArray):=(hours_two.f (wrap64 (Int.tdiv a0 60))).bind fun t107=>(if t107.size+1≤9223372036854775807 then ((hours_two.f (Int.tmod a0 60)).bind fun t108=>(if (t107++(⟨#[58]⟩:ByteArray)).size+t108.size≤9223372036854775807 then (some ((t107++(⟨#[58]⟩:ByteArray))++t108)) else (none))) else (none))
set_option maxHeartbeats 8000000 in
set_option maxRecDepth 100000 in
theorem hours_clock.calls (a0:Int) (r:ByteArray) (w:World) (h:hours_clock.f a0=some r) :
  Calls Tryd.prog 20 #[.int .i64 a0] w fun e w'=>e=.returned (.string r)∧Below w.heap.size w w':=by
 have HB:=Aside0.mk (Below.refl w.heap.size w)
 have H:((hours_two.f (wrap64 (Int.tdiv a0 60))).bind fun t107=>(if t107.size+1≤9223372036854775807 then ((hours_two.f (Int.tmod a0 60)).bind fun t108=>(if (t107++(⟨#[58]⟩:ByteArray)).size+t108.size≤9223372036854775807 then (some ((t107++(⟨#[58]⟩:ByteArray))++t108)) else (none))) else (none)))=some r:=h
 clear h
 replace H:=Option.bind_eq_some_iff.mp H
 obtain ⟨t107,A20,H⟩:=H
 replace H:(if t107.size+1≤9223372036854775807 then ((hours_two.f (Int.tmod a0 60)).bind fun t108=>(if (t107++(⟨#[58]⟩:ByteArray)).size+t108.size≤9223372036854775807 then (some ((t107++(⟨#[58]⟩:ByteArray))++t108)) else (none))) else (none))=some r:=H
 have A2:=Aside0.mk A20
 clear A20
 by_cases c3:t107.size+1≤9223372036854775807
 ·rw [if_pos c3] at H
  have c3b0:=eq_true c3
  have c3b1:decide (t107.size+1≤9223372036854775807)=true:=decide_eq_true c3
  try have c3b2:(9223372036854775807<t107.size+1)=False:=eq_false (Nat.not_lt.2 c3)
  replace H:=Option.bind_eq_some_iff.mp H
  obtain ⟨t108,A40,H⟩:=H
  replace H:(if (t107++(⟨#[58]⟩:ByteArray)).size+t108.size≤9223372036854775807 then (some ((t107++(⟨#[58]⟩:ByteArray))++t108)) else (none))=some r:=H
  have A4:=Aside0.mk A40
  clear A40
  by_cases c5:(t107++(⟨#[58]⟩:ByteArray)).size+t108.size≤9223372036854775807
  ·rw [if_pos c5] at H
   have c5b0:=eq_true c5
   have c5b1:decide ((t107++(⟨#[58]⟩:ByteArray)).size+t108.size≤9223372036854775807)=true:=decide_eq_true c5
   try have c5b2:(9223372036854775807<(t107++(⟨#[58]⟩:ByteArray)).size+t108.size)=False:=eq_false (Nat.not_lt.2 c5)
   try (have c5b3:=of_eq_false c5b2;simp only [ByteArray.size_append,show (⟨#[58]⟩:ByteArray).size=1 from rfl] at c5b3)
   obtain rfl:=Option.some.inj H
   go_enter Tryd.func20,Tryd.ntmps20
   go_wp2_with (first|((with_reducible refine gate_callee (f:=35) rfl ?_);refine goesL_ (some 5) rfl rfl Tryd.func35 (by kernel_rfl) rfl #[.int .i64 (wrap64 (Int.tdiv a0 60))] rfl (by (try simp only [List.map_toArray,List.map_cons,List.map_nil]);first|done|rfl|(simp only [List.length_drop,List.length_take];rfl)) ?_;(with_reducible refine (hours_two.calls (wrap64 (Int.tdiv a0 60)) t107 _ A2.out).mono ?_);rintro e w6 ⟨rfl,hb⟩;refine ⟨_,rfl,?_⟩;have n0_:=Aside0.mk (below_step (by repeat (first|(with_reducible first|exact HB.out|apply below_alloc|apply pw_below_drewN|apply below_drew1)|exact HB.out)) hb);clear HB;have HB:=n0_;clear n0_;(try clear hb);(try clear hb2);(try clear hk);(try clear hi))|((with_reducible refine gate_callee (f:=35) rfl ?_);refine goesL_ (some 9) rfl rfl Tryd.func35 (by kernel_rfl) rfl #[.int .i64 (Int.tmod a0 60)] rfl (by (try simp only [List.map_toArray,List.map_cons,List.map_nil]);first|done|rfl|(simp only [List.length_drop,List.length_take];rfl)) ?_;(with_reducible refine (hours_two.calls (Int.tmod a0 60) t108 _ A4.out).mono ?_);rintro e w7 ⟨rfl,hb⟩;refine ⟨_,rfl,?_⟩;have n0_:=Aside0.mk (below_step (by repeat (first|(with_reducible first|exact HB.out|apply below_alloc|apply pw_below_drewN|apply below_drew1)|exact HB.out)) hb);clear HB;have HB:=n0_;clear n0_;(try clear hb);(try clear hb2);(try clear hk);(try clear hi)))
   (first|go_ret|go_ret2)
   exact ⟨by first|rfl|(simp [errW_none,errW_some]<;>rfl)|(simp [*,errW_none,errW_some]<;>rfl),by repeat (first|(with_reducible first|exact HB.out|apply below_alloc|apply pw_below_drewN|apply below_drew1)|exact HB.out)⟩
  ·rw [if_neg c5] at H
   exact absurd H (by simp)
 ·rw [if_neg c3] at H
  exact absurd H (by simp)
end Go.Proofs.YtmhdmmgljenckaaDoor.P

/- hours.Text: the text of hours. Conditions: the days' names lie where the program's text lays them. -/
namespace Go.Proofs.YtmhdmmgljenckaaDoor.P
open Go.RowKit Go.Proofs.YtmhdmmgljenckaaDoorW.PrintWords Go.Proofs.YtmhdmmgljenckaaDoorW.PrintLast Go.Proofs.YtmhdmmgljenckaaDoorW.PrintMore
set_option linter.unusedSimpArgs false
set_option linter.unusedVariables false

theorem infoStr:(Tryd.prog.info? 9).map (fun i=>(i.zero,i.size,i.bytes))=some (some (.string ⟨#[]⟩),1,16):=by kernel_rfl
def dayB (d:Int) (i:Nat):Bool:=Go.bits .and .i64 (d/2 ^ i) 1 == 1
def daysL (d:Int) (k:Nat):List ByteArray:=((List.range k).filter (dayB d)).map fun i=>namesL.getD i ByteArray.empty
theorem index_names (i:Nat) (hi:i<7) (w:World):(Instr.index 43 (.agg #[.string ⟨#[109,111,110]⟩,.string ⟨#[116,117,101]⟩,.string ⟨#[119,101,100]⟩,.string ⟨#[116,104,117]⟩,.string ⟨#[102,114,105]⟩,.string ⟨#[115,97,116]⟩,.string ⟨#[115,117,110]⟩]) (.int .i64 (i:Int))).run Tryd.prog w=.ok (.string (namesL.getD i ByteArray.empty)) w:=by
 have hx:(#[.string ⟨#[109,111,110]⟩,.string ⟨#[116,117,101]⟩,.string ⟨#[119,101,100]⟩,.string ⟨#[116,104,117]⟩,.string ⟨#[102,114,105]⟩,.string ⟨#[115,97,116]⟩,.string ⟨#[115,117,110]⟩]:Array Value)[i]?=some (.string (namesL.getD i ByteArray.empty)):=by
  match i,hi with
  | 0,_=>rfl|1,_=>rfl|2,_=>rfl|3,_=>rfl|4,_=>rfl|5,_=>rfl|6,_=>rfl
 generalize (#[.string ⟨#[109,111,110]⟩,.string ⟨#[116,117,101]⟩,.string ⟨#[119,101,100]⟩,.string ⟨#[116,104,117]⟩,.string ⟨#[102,114,105]⟩,.string ⟨#[115,97,116]⟩,.string ⟨#[115,117,110]⟩]:Array Value)=X at hx ⊢
 have hn:(0≤(i:Int)∧(i:Int)<(7:Nat)):=by omega
 simp [Instr.index,run_underlying Tryd.underlying43,asIntOf,hn,go_sem,hx]
 omega
theorem held2 {W W':World} {b:Nat} {x y:Value} (h:W.cell? ⟨b,2,none⟩=some x∧W.cell? ⟨b,3,none⟩=some y) (hb:Below W.heap.size W W'):W'.cell? ⟨b,2,none⟩=some x∧W'.cell? ⟨b,3,none⟩=some y :=
 ⟨(hb.cell (World.block_lt_of_cell? W _ h.1)).trans h.1,(hb.cell (World.block_lt_of_cell? W _ h.2)).trans h.2⟩
theorem clock_size {n:Int} {r:ByteArray} (h:hours_clock.f n=some r):r.size≤10:=by
 unfold hours_clock.f hours_two.f at h
 simp only [Option.bind_some] at h
 split at h
 ·split at h
  ·obtain rfl:=Option.some.inj h
   simp only [ByteArray.size_append,strOfNums_size,List.length_cons,List.length_nil]
   decide
  ·cases h
 ·cases h
theorem days_true (d:Int) (k:Nat) (X:ByteArray) (h:dayB d k=true) (hX:namesL.getD k ByteArray.empty=X):daysL d (k+1)=daysL d k++[X]:=by
 unfold daysL
 rw [List.range_succ,List.filter_append,List.filter_cons,if_pos h,List.filter_nil,List.map_append,List.map_cons,List.map_nil,hX]
theorem days_false (d:Int) (k:Nat) (h:dayB d k=false):daysL d (k+1)=daysL d k:=by
 unfold daysL
 rw [List.range_succ,List.filter_append,List.filter_cons,if_neg (by rw [h];decide),List.filter_nil,List.append_nil]
theorem days_length (d:Int) (k:Nat):(daysL d k).length≤k:=by
 unfold daysL
 rw [List.length_map]
 exact Nat.le_trans (List.length_filter_le _ _) (by simp)
theorem days_some (d:Int) (h1:1≤d) (h2:d≤127):0<(daysL d 7).length:=by
 have h:∀ n:Fin 128,0<n.1→0<(daysL ((n.1:Nat):Int) 7).length:=by decide +kernel
 obtain ⟨n,rfl⟩:=Int.eq_ofNat_of_zero_le (show 0≤d by omega)
 exact h ⟨n,by omega⟩ (by simp;omega)
theorem join_length (d:Int):(Lib.join ((daysL d 7).map (·.data.toList)) [44]).length≤1000:=by
 have h3:∀ i,(namesL.getD i ByteArray.empty).data.toList.length≤3:=by
  intro i
  match i with
  | 0=>decide|1=>decide|2=>decide|3=>decide|4=>decide|5=>decide|6=>decide
  | i+7=>simp [namesL]
 have hj:∀ l:List (List UInt8),(∀ x∈l,x.length≤3)→(Lib.join l [44]).length≤4*l.length:=by
  intro l
  induction l with
  | nil=>intro _;simp [Lib.join]
  | cons x l ih =>
   intro hl
   have hx:=hl x (by simp)
   have hi:=ih (fun y hy=>hl y (by simp [hy]))
   cases l with
   | nil=>simp [Lib.join];omega
   | cons y l =>
    have e:Lib.join (x::y::l) [44]=x++([44]++Lib.join (y::l) [44]):=by simp [Lib.join,List.intercalate]
    rw [e]
    simp only [List.length_append,List.length_cons,List.length_nil] at hi ⊢
    omega
 have hlen:=days_length d 7
 have:=hj ((daysL d 7).map (·.data.toList)) (by
  intro x hx
  obtain ⟨b,hb,rfl⟩:=List.mem_map.1 hx
  unfold daysL at hb
  obtain ⟨i,_,rfl⟩:=List.mem_map.1 hb
  exact h3 i)
 rw [List.length_map] at this
 omega
set_option maxHeartbeats 1000000 in
theorem text_wrong (nm:ByteArray) (d f t:Int) (w:World) (hr:rightB nm d f t=false) :
  Calls Tryd.prog 9 #[.agg #[.string nm,.int .i64 d,.int .i64 f,.int .i64 t]] w fun e w'=>e=.returned (.tuple #[.string ⟨#[]⟩,.int .i64 1])∧Below w.heap.size w w':=by
 have hc:=fun W=>right_any nm d f t W
 rw [hr] at hc
 have HC:=Aside0.mk hc
 clear hc hr
 go_enter Tryd.func9,Tryd.ntmps9
 go_wp2_with (go_at_call 12;refine (HC.out _).mono ?_;rintro e w' ⟨rfl,hb⟩;have HB:=Aside0.mk hb;clear hb)
 go_ret2
 exact ⟨rfl,below_step (below_alloc (Below.refl _ _) _) HB.out⟩
set_option maxHeartbeats 2000000 in
theorem text_right (nm:ByteArray) (d f t:Int) (cf ct:ByteArray) (w:World) (hr:rightB nm d f t=true) (hcf:hours_clock.f f=some cf) (hct:hours_clock.f t=some ct) (hK:KeysIn w) :
  Calls Tryd.prog 9 #[.agg #[.string nm,.int .i64 d,.int .i64 f,.int .i64 t]] w fun e w'=>e=.returned (.tuple #[.string (⟨(Lib.join ((daysL d 7).map (·.data.toList)) [44]).toArray⟩++⟨#[32]⟩++cf++⟨#[45]⟩++ct),.int .i64 0])∧Below w.heap.size w w':=by
 have hc:=fun W=>right_any nm d f t W
 rw [hr] at hc
 have HC:=Aside0.mk hc
 have HK:=Aside0.mk hK
 have HCF:=Aside0.mk hcf
 have HCT:=Aside0.mk hct
 have HR:=Aside0.mk hr
 clear hc hr hcf hct hK
 obtain ⟨i0,hi,hz0,hz1,hz2⟩:=info_parts infoStr
 go_enter Tryd.func9,Tryd.ntmps9
 go_wp2_with (first
  | (go_at_call 12;refine (HC.out _).mono ?_;rintro e w4 ⟨rfl,hb⟩;have HB:=Aside0.mk hb;clear hb;have HK4:=Aside0.mk (keys_step (keys_step HK.out (below_alloc (Below.refl _ _) _)) HB.out))
  | (obtain ⟨kty,hkty⟩:=HK4.out;refine wpList_load_row rfl 43 (.global 0) rfl 0 rfl kty _ (0,0) _ hkty Tryd.underlying43 rfl (by kernel_rfl) ?_))
 have hz:w.heap.size+1≤w4.heap.size:=by have:=HB.out.size;simp at this;omega
 have hbox:w4.heap[w.heap.size]?=some (.cells #[.string nm,.int .i64 d,.int .i64 f,.int .i64 t] 23 (0,0)):=blk_below (blk_new w _) HB.out
 have hB4:Below w.heap.size w w4:=below_step (below_alloc (Below.refl _ _) _) HB.out
 have HBOX:=Aside0.mk hbox
 have HB4:=Aside0.mk hB4
 have hix:=index_names
 have HIX:=Aside0.mk hix
 clear hbox hB4 hix HB
 go_loopw [4,11] (fun v i wr=>∃ k:Nat,k≤7∧i=.int .i64 k∧w.heap.size+1≤wr.heap.size∧Aside0 (wr.ownsRow (w.heap.size+1) 9 1 v (daysL d k).length ((daysL d k).map Value.string))∧Aside0 (wr.heap[w.heap.size]?=some (.cells #[.string nm,.int .i64 d,.int .i64 f,.int .i64 t] 23 (0,0)))∧Aside0 (Below w.heap.size w wr)) (fun _ i _=>7-(intOf i).toNat)
 case atStart=>exact ⟨0,by omega,rfl,hz,⟨World.ownsRow_nil w4 _ _ _⟩,HBOX,HB4⟩
 case round =>
  clear HBOX HB4 hz
  obtain ⟨k,hk7,rfl,hz,hO,hX,hb⟩:=hrel
  by_cases hlt:k<7
  ·have hix:=HIX.out k hlt
   obtain ⟨X,hXX⟩:∃ X,namesL.getD k ByteArray.empty=X:=⟨_,rfl⟩
   rw [hXX] at hix
   have HXX:=Aside0.mk hXX
   have hc1:wr.cell? ⟨w.heap.size,1,none⟩=some (.int .i64 d):=by unfold World.cell?;rw [hX.out];rfl
   clear hXX
   cases hday:dayB d k with
   | true =>
    have HDAY:=Aside0.mk hday
    unfold dayB at hday
    have hle:w.heap.size≤wr.heap.size:=by omega
    have hlen:(daysL d k).length≤7:=by have:=days_length d k;omega
    have HLEN:=Aside0.mk hlen
    clear hlen
    go_wp2_with (at_builtin;refine wpList_append_own _ rfl _ _ 42 rfl (w.heap.size+1) 9 i0 (.string ⟨#[]⟩) 1 16 Tryd.underlying42 hi hz0 hz1 hz2 rfl (by decide) _ _ _ rfl (hO.out.alloc _) ⟨wr.heap.size,0,none⟩ 1 1 [.string X] rfl rfl ?c1 ?c2 ?c3 ?c4 ?c5 ?_)
    case c1 =>
     intro j u hj
     match j,hj with
     | 0,hj=>simp at hj;subst hj;simp [Addr.add]
    case c2=>intro u hu;simp at hu;subst hu;rfl
    case c3=>have:=HLEN.out;unfold maxLen;omega
    case c4=>have:=HLEN.out;omega
    case c5=>simp;omega
    intro v5 w5 hO5 hg5 _
    have hz5:w.heap.size+1≤w5.heap.size:=by have:=hg5.size;simp at this;omega
    have HO5:=Aside0.mk hO5
    have HB5:=Aside0.mk ((hb.out.alloc hle _).grown hg5 (by simp;omega) (fun j hj=>by have:=own_base hO.out j hj;omega))
    have HX5:=Aside0.mk ((hg5.block w.heap.size (by simp;omega) (fun e=>by have:=own_base hO.out _ e.symm;omega)).trans ((heap_alloc_old wr _ (by omega)).trans hX.out))
    clear hO5 hg5
    go_wp2
    go_roundw
    case rel =>
     refine ⟨k+1,by omega,by go_num,hz5,?_,HX5,HB5⟩
     constructor
     rw [days_true d k X HDAY.out HXX.out,List.length_append,List.map_append]
     exact HO5.out
    case measure=>simp [intOf];omega
   | false =>
    have HDAY:=Aside0.mk hday
    unfold dayB at hday
    go_wp2
    go_roundw
    case rel =>
     refine ⟨k+1,by omega,by go_num,hz,?_,hX,hb⟩
     rw [days_false d k HDAY.out]
     exact hO
    case measure=>simp [intOf];omega
  ·obtain rfl:k=7:=by omega
   have hd12:1≤d∧d≤127:=by
    have:=HR.out
    unfold rightB at this
    simp at this
    omega
   have hpos:=days_some d hd12.1 hd12.2
   have hlen:=days_length d 7
   have hjl:=join_length d
   obtain ⟨DL,hDL⟩:∃ DL,daysL d 7=DL:=⟨_,rfl⟩
   rw [hDL] at hO hpos hlen hjl
   have HDL:=Aside0.mk hDL
   have hO2:=hO.out
   rcases hO2.2 with ⟨_,h0⟩|⟨g,cap,cur,rfl,hg1,hg2,hg3,hg4,hg5,hg6⟩
   ·omega
   ·have hcells:∀ (j:Nat) x,DL[j]?=some x→wr.cell? ⟨g,0+j,none⟩=some (.string x):=by
     intro j x hj
     have:=hO2.cells (g:=g) rfl j (.string x) (by rw [List.getElem?_map,hj];rfl)
     simp only [Addr.add] at this
     split at this<;>simp_all
    have hbk:g<wr.heap.size:=blk_lt hg2
    obtain ⟨J,hJ⟩:∃ J:ByteArray,(⟨(Lib.join (DL.map (·.data.toList)) [44]).toArray⟩:ByteArray)=J:=⟨_,rfl⟩
    have hJs:J.size≤1000:=by rw [← hJ];simpa [ByteArray.size] using hjl
    have hjoin:=Tryd.strings_Join g 0 cap DL ⟨#[44]⟩ wr.drew (fun j x hj=>hcells j x hj) hbk (by omega) hg3 (by rw [show (⟨#[44]⟩:ByteArray).data.toList=[44] from rfl];omega)
    rw [show (⟨#[44]⟩:ByteArray).data.toList=[44] from rfl,hJ] at hjoin
    have HJ:=Aside0.mk hJ
    have HJOIN:=Aside0.mk hjoin
    have hb0:=hb.out
    have hX0:=hX.out
    have hcf:=clock_size HCF.out
    have hct:=clock_size HCT.out
    have l1:¬ 9223372036854775807<J.size+1:=by omega
    have l2:¬ 9223372036854775807<J.size+1+cf.size:=by omega
    have l3:¬ 9223372036854775807<J.size+1+cf.size+1:=by omega
    have l4:¬ 9223372036854775807<J.size+1+cf.size+1+ct.size:=by omega
    have hc2:wr.drew.cell? ⟨w.heap.size,2,none⟩=some (.int .i64 f):=by show wr.cell? _=_;unfold World.cell?;rw [hX0];rfl
    have hc3:wr.drew.cell? ⟨w.heap.size,3,none⟩=some (.int .i64 t):=by show wr.cell? _=_;unfold World.cell?;rw [hX0];rfl
    have hzB:w.heap.size<wr.drew.heap.size:=by show _<wr.heap.size;omega
    have hBB:Below w.heap.size w wr.drew:=below_drew hb0
    have HBB:=Aside0.mk hBB
    have HZB:=Aside0.mk hzB
    clear hO hO2 hX hb hb0 hX0 hjoin hcells hg1 hg2 hg3 hg4 hg5 hg6 hBB hzB hDL hJ hcf hct
    go_upto_region 10 with (fail)
    have hHeld0:=And.intro hc2 hc3
    refine start_ (n:=14) (S:=fun w'=>w'.cell? ⟨w.heap.size,2,none⟩=some (.int .i64 f)∧w'.cell? ⟨w.heap.size,3,none⟩=some (.int .i64 t)) (ds:=[]) #[false,false,false,false,false,false,false,false,false,false,false,false,false,false] (by kernel_rfl) rfl rfl hHeld0 (fun hHeld=>?_)
    refine pure_ (i:=0) (N:=some 26) (v:=?_) (a':=?_) #[true,false,false,false,false,false,false,false,false,false,false,false,false,false] rfl rfl (by kernel_rfl) (fun _ _ _ h=>h) (Or.inl ⟨by rfl,?_⟩) ?_ ?_
    rotate_left
    ·intro w'
     go_simp
     with_reducible rfl
    rotate_left
    ·simp only [Act.put,List.setIfInBounds_toArray,List.set_cons_zero,List.set_cons_succ,i64_w,i32_w]
     rfl
    refine pure_ (i:=3) (N:=some 29) (v:=?_) (a':=?_) #[true,false,false,true,false,false,false,false,false,false,false,false,false,false] rfl rfl (by kernel_rfl) (fun _ _ _ h=>h) (Or.inl ⟨by rfl,?_⟩) ?_ ?_
    rotate_left
    ·intro w'
     go_simp
     with_reducible rfl
    rotate_left
    ·simp only [Act.put,List.setIfInBounds_toArray,List.set_cons_zero,List.set_cons_succ,i64_w,i32_w]
     rfl
    refine pure_ (i:=8) (N:=some 34) (v:=?_) (a':=?_) #[true,false,false,true,false,false,false,false,true,false,false,false,false,false] rfl rfl (by kernel_rfl) (fun _ _ _ h=>h) (Or.inl ⟨by rfl,?_⟩) ?_ ?_
    rotate_left
    ·intro w'
     go_simp
     with_reducible rfl
    rotate_left
    ·simp only [Act.put,List.setIfInBounds_toArray,List.set_cons_zero,List.set_cons_succ,i64_w,i32_w]
     rfl
    refine take_ (i:=4) (N:=some 30) (v:=?_) (a':=?_) #[true,false,false,true,true,false,false,false,true,false,false,false,false,false] rfl rfl (by kernel_rfl) (fun _ _ _ h=>h) (Or.inl ⟨by rfl,?_⟩) hHeld ?_ ?_
    rotate_left
    ·rintro w' ⟨s0,s1⟩
     go_simp
     with_reducible rfl
    rotate_left
    ·simp only [Act.put,List.setIfInBounds_toArray,List.set_cons_zero,List.set_cons_succ,i64_w,i32_w]
     rfl
    refine take_ (i:=9) (N:=some 35) (v:=?_) (a':=?_) #[true,false,false,true,true,false,false,false,true,true,false,false,false,false] rfl rfl (by kernel_rfl) (fun _ _ _ h=>h) (Or.inl ⟨by rfl,?_⟩) hHeld ?_ ?_
    rotate_left
    ·rintro w' ⟨s0,s1⟩
     go_simp
     with_reducible rfl
    rotate_left
    ·simp only [Act.put,List.setIfInBounds_toArray,List.set_cons_zero,List.set_cons_succ,i64_w,i32_w]
     rfl
    refine one_ (i:=1) (N:=some 27) #[true,true,false,true,true,false,false,false,true,true,false,false,false,false] rfl rfl (by kernel_rfl) (by decide) (fun K hK=>?_)
    refine goes_ Tryd.func19 (by kernel_rfl) rfl #[.slice (some ⟨g,0,none⟩) DL.length cap,.string ⟨#[44]⟩] (by rfl) rfl rfl (by (try simp only [List.map_toArray,List.map_cons,List.map_nil]);first|done|rfl) ?_
    with_reducible refine (HJOIN.out).mono ?_
    rintro e w' ⟨rfl,hb6⟩
    refine ⟨_,rfl,?_⟩
    have HB1:=Aside0.mk (below_step HBB.out hb6)
    refine hK.out _ _ (held2 hHeld hb6) (fun hHeld=>?_)
    clear hK K
    refine norm_ (a':=?_) ?_ ?_
    rotate_left
    ·show Act.put _ (some 27) _=_
     simp only [Act.put,List.setIfInBounds_toArray,List.set_cons_zero,List.set_cons_succ,i64_w,i32_w]
     rfl
    refine pure_ (i:=2) (N:=some 28) (v:=?_) (a':=?_) #[true,true,true,true,true,false,false,false,true,true,false,false,false,false] rfl rfl (by kernel_rfl) (fun _ _ _ h=>h) (Or.inl ⟨by rfl,?_⟩) ?_ ?_
    rotate_left
    ·intro w'
     go_simp
     with_reducible rfl
    rotate_left
    ·simp only [Act.put,List.setIfInBounds_toArray,List.set_cons_zero,List.set_cons_succ,i64_w,i32_w]
     rfl
    refine one_ (i:=5) (N:=some 31) #[true,true,true,true,true,true,false,false,true,true,false,false,false,false] rfl rfl (by kernel_rfl) (by decide) (fun K hK=>?_)
    refine goes_ Tryd.func20 (by kernel_rfl) rfl #[.int .i64 f] (by rfl) rfl rfl (by (try simp only [List.map_toArray,List.map_cons,List.map_nil]);first|done|rfl) ?_
    with_reducible refine (hours_clock.calls f cf _ HCF.out).mono ?_
    rintro e w' ⟨rfl,hb6⟩
    refine ⟨_,rfl,?_⟩
    have HB2:=Aside0.mk (below_step HB1.out hb6)
    refine hK.out _ _ (held2 hHeld hb6) (fun hHeld=>?_)
    clear hK K
    refine norm_ (a':=?_) ?_ ?_
    rotate_left
    ·show Act.put _ (some 31) _=_
     simp only [Act.put,List.setIfInBounds_toArray,List.set_cons_zero,List.set_cons_succ,i64_w,i32_w]
     rfl
    refine pure_ (i:=6) (N:=some 32) (v:=?_) (a':=?_) #[true,true,true,true,true,true,true,false,true,true,false,false,false,false] rfl rfl (by kernel_rfl) (fun _ _ _ h=>h) (Or.inl ⟨by rfl,?_⟩) ?_ ?_
    rotate_left
    ·intro w'
     go_simp
     with_reducible rfl
    rotate_left
    ·simp only [Act.put,List.setIfInBounds_toArray,List.set_cons_zero,List.set_cons_succ,i64_w,i32_w]
     rfl
    refine pure_ (i:=7) (N:=some 33) (v:=?_) (a':=?_) #[true,true,true,true,true,true,true,true,true,true,false,false,false,false] rfl rfl (by kernel_rfl) (fun _ _ _ h=>h) (Or.inl ⟨by rfl,?_⟩) ?_ ?_
    rotate_left
    ·intro w'
     go_simp
     with_reducible rfl
    rotate_left
    ·simp only [Act.put,List.setIfInBounds_toArray,List.set_cons_zero,List.set_cons_succ,i64_w,i32_w]
     rfl
    refine one_ (i:=10) (N:=some 36) #[true,true,true,true,true,true,true,true,true,true,true,false,false,false] rfl rfl (by kernel_rfl) (by decide) (fun K hK=>?_)
    refine goes_ Tryd.func20 (by kernel_rfl) rfl #[.int .i64 t] (by rfl) rfl rfl (by (try simp only [List.map_toArray,List.map_cons,List.map_nil]);first|done|rfl) ?_
    with_reducible refine (hours_clock.calls t ct _ HCT.out).mono ?_
    rintro e w' ⟨rfl,hb6⟩
    refine ⟨_,rfl,?_⟩
    have HBZ:=Aside0.mk (below_step HB2.out hb6)
    refine hK.out _ _ (held2 hHeld hb6) (fun hHeld=>?_)
    clear hK K
    refine norm_ (a':=?_) ?_ ?_
    rotate_left
    ·show Act.put _ (some 36) _=_
     simp only [Act.put,List.setIfInBounds_toArray,List.set_cons_zero,List.set_cons_succ,i64_w,i32_w]
     rfl
    refine pure_ (i:=11) (N:=some 37) (v:=?_) (a':=?_) #[true,true,true,true,true,true,true,true,true,true,true,true,false,false] rfl rfl (by kernel_rfl) (fun _ _ _ h=>h) (Or.inl ⟨by rfl,?_⟩) ?_ ?_
    rotate_left
    ·intro w'
     go_simp
     with_reducible rfl
    rotate_left
    ·simp only [Act.put,List.setIfInBounds_toArray,List.set_cons_zero,List.set_cons_succ,i64_w,i32_w]
     rfl
    refine pure_ (i:=12) (N:=some 2) (v:=?_) (a':=?_) #[true,true,true,true,true,true,true,true,true,true,true,true,true,false] rfl rfl (by kernel_rfl) (fun _ _ _ h=>h) (Or.inl ⟨by rfl,?_⟩) ?_ ?_
    rotate_left
    ·intro w'
     go_simp
     with_reducible rfl
    rotate_left
    ·simp only [Act.put,List.setIfInBounds_toArray,List.set_cons_zero,List.set_cons_succ,i64_w,i32_w]
     rfl
    refine pure_ (i:=13) (N:=some 3) (v:=?_) (a':=?_) #[true,true,true,true,true,true,true,true,true,true,true,true,true,true] rfl rfl (by kernel_rfl) (fun _ _ _ h=>h) (Or.inl ⟨by rfl,?_⟩) ?_ ?_
    rotate_left
    ·intro w'
     go_simp
     with_reducible rfl
    rotate_left
    ·simp only [Act.put,List.setIfInBounds_toArray,List.set_cons_zero,List.set_cons_succ,i64_w,i32_w]
     rfl
    refine done_ (by kernel_rfl) ?_
    go_wp2
    go_ret2
    refine ⟨?_,HBZ.out⟩
    rw [HDL.out,HJ.out]
    rfl
def hours_Text.f (a0_0:ByteArray) (a0_1 a0_2 a0_3:Int):Option (ByteArray×Int) :=
 if rightB a0_0 a0_1 a0_2 a0_3=true then (hours_clock.f a0_2).bind fun cf=>(hours_clock.f a0_3).bind fun ct=>some ((⟨(Lib.join ((daysL a0_1 7).map (·.data.toList)) [44]).toArray⟩++⟨#[32]⟩++cf++⟨#[45]⟩++ct),0) else some (⟨#[]⟩,1)
theorem hours_Text.calls (a0_0:ByteArray) (a0_1 a0_2 a0_3:Int) (r0:ByteArray) (r1:Int) (w:World) (h:hours_Text.f a0_0 a0_1 a0_2 a0_3=some (r0,r1)) (hK:KeysIn w) :
  Calls Tryd.prog 9 #[.agg #[.string a0_0,.int .i64 a0_1,.int .i64 a0_2,.int .i64 a0_3]] w fun e w'=>e=.returned (.tuple #[.string r0,.int .i64 r1])∧Below w.heap.size w w':=by
 unfold hours_Text.f at h
 cases hr:rightB a0_0 a0_1 a0_2 a0_3 with
 | false =>
  rw [if_neg (by rw [hr];decide)] at h
  obtain ⟨rfl,rfl⟩:=Prod.mk.inj (Option.some.inj h)
  exact text_wrong a0_0 a0_1 a0_2 a0_3 w hr
 | true =>
  rw [if_pos hr] at h
  cases hcf:hours_clock.f a0_2 with
  | none=>rw [hcf] at h;cases h
  | some cf =>
   cases hct:hours_clock.f a0_3 with
   | none=>rw [hcf,hct] at h;cases h
   | some ct =>
    rw [hcf,hct] at h
    obtain ⟨rfl,rfl⟩:=Prod.mk.inj (Option.some.inj h)
    exact text_right a0_0 a0_1 a0_2 a0_3 cf ct w hr hcf hct hK
end Go.Proofs.YtmhdmmgljenckaaDoor.P

/- A text cut at a byte; the minutes of a clock. Conditions: as each lemma says. -/
namespace Go.Proofs.YtmhdmmgljenckaaDoor.P
open Go.RowKit Go.Proofs.YtmhdmmgljenckaaDoorW.PrintWords Go.Proofs.YtmhdmmgljenckaaDoorW.PrintLast Go.Proofs.YtmhdmmgljenckaaDoorW.PrintMore
set_option linter.unusedSimpArgs false
set_option linter.unusedVariables false

theorem digit_any (i:Nat) (b:Nat) (s:ByteArray) (w:World) (hi:i<s.size) (hs:s.size≤9223372036854775807) (hc:w.cell? ⟨b,0,none⟩=some (.string s)) :
  Calls Tryd.prog 37 #[.int .i64 (i:Int),.pointer (some ⟨b,0,none⟩)] w fun e w'=>e=.returned (.int .i64 (bt s (i:Int)-48))∧w'=w:=by
 have hb:(((s[i]'hi).toNat:Nat):Int)=bt s (i:Int):=bt_at s (i:Int) (by rw [Int.toNat_natCast];exact hi)
 have hr:=bt_range s (i:Int)
 go_enter Tryd.func37,Tryd.ntmps37
 go_wp2
 go_ret
 exact ⟨rfl,rfl⟩
def minutesI (s:ByteArray):Int:=if s.size=5 then 60*(10*(bt s 0-48)+(bt s 1-48))+10*(bt s 3-48)+(bt s 4-48) else 0
theorem minutes_none (s:ByteArray) (w:World) (h:¬ s.size=5) (hs:s.size≤9223372036854775807):Calls Tryd.prog 22 #[.string s] w fun e w'=>e=.returned (.int .i64 0)∧Below w.heap.size w w':=by
 have hd:((s.size:Int) != 5)=true:=by simp;omega
 go_enter Tryd.func22,Tryd.ntmps22
 go_wp2
 go_ret
 exact ⟨rfl,below_alloc (Below.refl _ _) _⟩
set_option maxHeartbeats 1000000 in
theorem minutes_five (s:ByteArray) (w:World) (h:s.size=5):Calls Tryd.prog 22 #[.string s] w fun e w'=>e=.returned (.int .i64 (60*(10*(bt s 0-48)+(bt s 1-48))+10*(bt s 3-48)+(bt s 4-48)))∧Below w.heap.size w w':=by
 have hd:((s.size:Int) != 5)=false:=by simp;omega
 have hc:(w.alloc (.cells #[.string s] 9)).cell? ⟨w.heap.size,0,none⟩=some (.string s):=by
  have hh:=blk_new w (.cells #[.string s] 9)
  unfold World.cell?
  rw [hh]
  rfl
 have c0:=digit_any 0 w.heap.size s _ (by omega) (by omega) hc
 have c1:=digit_any 1 w.heap.size s _ (by omega) (by omega) hc
 have c3:=digit_any 3 w.heap.size s _ (by omega) (by omega) hc
 have c4:=digit_any 4 w.heap.size s _ (by omega) (by omega) hc
 simp only [Int.cast_ofNat_Int] at c0 c1 c3 c4
 have r0:=bt_range s 0
 have r1:=bt_range s 1
 have r3:=bt_range s 3
 have r4:=bt_range s 4
 generalize bt s 0=b0 at *
 generalize bt s 1=b1 at *
 generalize bt s 3=b3 at *
 generalize bt s 4=b4 at *
 have C0:=Aside0.mk c0
 have C1:=Aside0.mk c1
 have C3:=Aside0.mk c3
 have C4:=Aside0.mk c4
 clear c0 c1 c3 c4 h
 go_enter Tryd.func22,Tryd.ntmps22
 go_wp2_with (first
  | (go_at_call 37;(with_reducible refine C0.out.mono ?_);rintro e w' ⟨rfl,rfl⟩)
  | (go_at_call 37;(with_reducible refine C1.out.mono ?_);rintro e w' ⟨rfl,rfl⟩)
  | (go_at_call 37;(with_reducible refine C3.out.mono ?_);rintro e w' ⟨rfl,rfl⟩)
  | (go_at_call 37;(with_reducible refine C4.out.mono ?_);rintro e w' ⟨rfl,rfl⟩))
 go_ret
 exact ⟨rfl,below_alloc (Below.refl _ _) _⟩
theorem minutes_any (s:ByteArray) (w:World) (hs:s.size≤9223372036854775807):Calls Tryd.prog 22 #[.string s] w fun e w'=>e=.returned (.int .i64 (minutesI s))∧Below w.heap.size w w':=by
 unfold minutesI
 by_cases h:s.size=5
 ·rw [if_pos h]
  exact minutes_five s w h
 ·rw [if_neg h]
  exact minutes_none s w h hs
end Go.Proofs.YtmhdmmgljenckaaDoor.P

/- hours.Parse: the hours that a text names. Conditions: the days' names lie where the program's text lays them. -/
namespace Go.Proofs.YtmhdmmgljenckaaDoor.P
open Go.RowKit Go.Shelf Go.Proofs.YtmhdmmgljenckaaDoorW.PrintWords Go.Proofs.YtmhdmmgljenckaaDoorW.PrintLast Go.Proofs.YtmhdmmgljenckaaDoorW.PrintMore
set_option linter.unusedSimpArgs false
set_option linter.unusedVariables false

def dayIdx (x:ByteArray):Int:=Lib.idxOfS (namesL.take 7) x
def dayStep (d:Int) (x:ByteArray):Int:=if 0≤dayIdx x then Go.bits .or .i64 d (wrap64 (2 ^ (dayIdx x).toNat)) else d
def daysOf (l:List ByteArray):Int:=l.foldl dayStep 0
theorem daysOf_snoc (l:List ByteArray) (x:ByteArray):daysOf (l++[x])=dayStep (daysOf l) x:=by
 unfold daysOf
 rw [List.foldl_append]
 rfl
theorem idx_range (x:ByteArray):∀ (l:List ByteArray) (i:Nat),Lib.idxFromS l x i = -1∨∃ k:Nat,k<i+l.length∧Lib.idxFromS l x i=(k:Int):=by
 intro l
 induction l with
 | nil=>intro i;left;rfl
 | cons z l ih =>
  intro i
  unfold Lib.idxFromS
  split
  ·exact Or.inr ⟨i,by simp,rfl⟩
  ·rcases ih (i+1) with h|⟨k,hk,h⟩
   ·exact Or.inl h
   ·exact Or.inr ⟨k,by rw [List.length_cons];omega,h⟩
theorem idx_seven (x:ByteArray):dayIdx x = -1∨∃ k:Nat,k<7∧dayIdx x=(k:Int):=by
 rcases idx_range x (namesL.take 7) 0 with h|⟨k,hk,h⟩
 ·exact Or.inl h
 ·exact Or.inr ⟨k,by simpa [namesL] using hk,h⟩
theorem set_one {W:World} {B:Nat} {a b c d v:Value} {t:TypeId} (h:W.heap[B]?=some (.cells #[a,b,c,d] t (0,0))):(W.setCell ⟨B,1,none⟩ v).heap[B]?=some (.cells #[a,v,c,d] t (0,0)):=by
 simp [World.setCell,Array.getElem?_modify,h]
theorem set_four {W:World} {B:Nat} {a b c d a' b' c' d':Value} {t:TypeId} (h:W.heap[B]?=some (.cells #[a,b,c,d] t (0,0))) :
  ((((W.setCell ⟨B,0,none⟩ a').setCell ⟨B,1,none⟩ b').setCell ⟨B,2,none⟩ c').setCell ⟨B,3,none⟩ d').heap[B]?=some (.cells #[a',b',c',d'] t (0,0)):=by
 simp [World.setCell,Array.getElem?_modify,h]
theorem agg_cells {W:World} {B:Nat} {a b c d:Value} {t:TypeId} (h:W.heap[B]?=some (.cells #[a,b,c,d] t (0,0))) :
  W.cell? ⟨B,0,none⟩=some a∧W.cell? ⟨B,1,none⟩=some b∧W.cell? ⟨B,2,none⟩=some c∧W.cell? ⟨B,3,none⟩=some d ∧
  W.frozen? ⟨B,0,none⟩=false∧W.frozen? ⟨B,1,none⟩=false∧W.frozen? ⟨B,2,none⟩=false∧W.frozen? ⟨B,3,none⟩=false:=by
 simp [World.cell?,World.frozen?,h]
theorem set_four_other {W:World} {B D:Nat} {a' b' c' d':Value} (h:D≠B):((((W.setCell ⟨B,0,none⟩ a').setCell ⟨B,1,none⟩ b').setCell ⟨B,2,none⟩ c').setCell ⟨B,3,none⟩ d').heap[D]?=W.heap[D]? :=
 (Below.heap_setCell _ _ _ _ h).trans ((Below.heap_setCell _ _ _ _ h).trans ((Below.heap_setCell _ _ _ _ h).trans (Below.heap_setCell _ _ _ _ h)))
theorem parse_below {w W:World} {R D:Nat} {a' b' c' d':Value} {o:Obj} (hR:w.heap.size=R) (hB:Below R w W) (hD:R≤D)
  (h:((((W.setCell ⟨R,0,none⟩ a').setCell ⟨R,1,none⟩ b').setCell ⟨R,2,none⟩ c').setCell ⟨R,3,none⟩ d').heap[D]?=some (.deferred (some []))) :
  Below w.heap.size w (((((W.setCell ⟨R,0,none⟩ a').setCell ⟨R,1,none⟩ b').setCell ⟨R,2,none⟩ c').setCell ⟨R,3,none⟩ d').putObj D o):=by
 rw [hR]
 have h1:Below R w ((((W.setCell ⟨R,0,none⟩ a').setCell ⟨R,1,none⟩ b').setCell ⟨R,2,none⟩ c').setCell ⟨R,3,none⟩ d') :=
  (((hB.setCell (p:=⟨R,0,none⟩) (Nat.le_refl R) _).setCell (p:=⟨R,1,none⟩) (Nat.le_refl R) _).setCell (p:=⟨R,2,none⟩) (Nat.le_refl R) _).setCell (p:=⟨R,3,none⟩) (Nat.le_refl R) _
 exact h1.trans (belowK_b (w:=w) (by omega) _ D _ _ (by omega) h rfl rfl)
theorem results_agg {P:Program} {fn:Func} {p q:Tmp} {ty:TypeId} (h:fn.results=#[.cell p ty,.tmp q]) (tmps:Array Value) (w:World) (b:Nat) (t:TypeId) (cs:Array Value) (fr:Nat×Nat) (d:TypeDesc) (v:Value)
  (hp:tmps.getD p undef=.pointer (some ⟨b,0,none⟩)) (hq:tmps.getD q undef=v) (hg:w.heap[b]?=some (.cells cs t fr)) (hu:P.underlying ty=some d) (hd:(match d with|.struct _|.array _ _=>true|_=>false)=true) (hi:(P.info? ty).map (·.size)=some cs.size) :
  (results fn tmps).run P w=.ok (.tuple #[.agg cs,v]) w:=by
 have hp':tmps[p]?.getD undef=.pointer (some ⟨b,0,none⟩):=by simpa using hp
 have hq':tmps[q]?.getD undef=v:=by simpa using hq
 simp [results,h,hp',hq',asAddr,run_loadVar_row w b t ty cs fr d hg hu hd hi]
theorem wpListIn_load_agg {F:Fence} {n:Nat} {P:Program} {ops:Array Oper} {rest:List Oper} {o:Oper} {a:Act} {w:World} {Q:Exit→Act→World→Prop} (hgd:o.guard=none) (ty:TypeId) (x:Operand) (ho:o.op=.load ty x)
  (g:Nat) (hx:a.eval x=.pointer (some ⟨g,0,none⟩)) (t:TypeId) (cs:Array Value) (fr:Nat×Nat) (d:TypeDesc) (hg:w.heap[g]?=some (.cells cs t fr))
  (hu:P.underlying ty=some d) (hd:(match d with|.struct _|.array _ _=>true|_=>false)=true) (hi:(P.info? ty).map (·.size)=some cs.size)
  (h:wpListIn F n P ops Q rest (a.put o.dst (.agg cs)) w):wpListIn F n P ops Q (o::rest) a w:=by
 refine wpListIn_plain hgd fun K hK=>?_
 unfold Oper.wpIn
 refine ⟨by simp [Oper.about,ho],?_⟩
 rw [Oper.semAt_plain F _ _ (by rw [ho];intro c hc;cases hc)]
 have hrun:(execOp a.eval o).run P w=.ok (.value (.agg cs)) w:=by
  unfold execOp
  simp only [ho,hx,Instr.loadAt,Instr.sureAddr,Sem.run_bind,Sem.run_pure,Result.andThen_ok,run_loadVar_row w g t ty cs fr d hg hu hd hi]
 rw [hrun]
 exact hK _ _ h
theorem four_allocs (W:World) (o1 o2 o3 o4:Obj) :
  ((((W.alloc o1).alloc o2).alloc o3).alloc o4).heap[W.heap.size]?=some o1∧((((W.alloc o1).alloc o2).alloc o3).alloc o4).heap[W.heap.size+1]?=some o2 ∧
  ((((W.alloc o1).alloc o2).alloc o3).alloc o4).heap[W.heap.size+1+1]?=some o3∧((((W.alloc o1).alloc o2).alloc o3).alloc o4).heap[W.heap.size+1+1+1]?=some o4 ∧
  ((((W.alloc o1).alloc o2).alloc o3).alloc o4).heap.size=W.heap.size+1+1+1+1∧Below W.heap.size W ((((W.alloc o1).alloc o2).alloc o3).alloc o4):=by
 have s1:(W.alloc o1).heap.size=W.heap.size+1:=World.size_alloc _ _
 have s2:((W.alloc o1).alloc o2).heap.size=W.heap.size+1+1:=by rw [World.size_alloc,s1]
 have s3:(((W.alloc o1).alloc o2).alloc o3).heap.size=W.heap.size+1+1+1:=by rw [World.size_alloc,s2]
 refine ⟨?_,?_,?_,?_,by rw [World.size_alloc,s3],?_⟩
 ·exact (Below.heap_alloc _ _ _ (by omega)).trans ((Below.heap_alloc _ _ _ (by omega)).trans ((Below.heap_alloc _ _ _ (by omega)).trans (World.alloc_heap_new W o1)))
 ·have h:=World.alloc_heap_new (W.alloc o1) o2
  rw [s1] at h
  exact (Below.heap_alloc _ _ _ (by omega)).trans ((Below.heap_alloc _ _ _ (by omega)).trans h)
 ·have h:=World.alloc_heap_new ((W.alloc o1).alloc o2) o3
  rw [s2] at h
  exact (Below.heap_alloc _ _ _ (by omega)).trans h
 ·have h:=World.alloc_heap_new (((W.alloc o1).alloc o2).alloc o3) o4
  rw [s3] at h
  exact h
 ·exact ((((Below.refl _ W).alloc (Nat.le_refl _) o1).alloc (by omega) o2).alloc (by omega) o3).alloc (by omega) o4
theorem box_cell {W:World} {b:Nat} {v:Value} {t:TypeId} (h:W.heap[b]?=some (.cells #[v] t)):W.cell? ⟨b,0,none⟩=some v∧W.frozen? ⟨b,0,none⟩=false:=by
 constructor<;>simp [World.cell?,World.frozen?,h]
attribute [local go_sem] Oper.semAt_some
set_option maxRecDepth 100000 in
set_option maxHeartbeats 4000000 in
theorem parse_walk (s:ByteArray) (hs:s.size≤4611686018427387904) (w:World) (hK:KeysIn w) (t:ByteArray) (er:Int)
  (ht:hours_Text.f ⟨#[120]⟩ (daysOf (splitL (cutAt s 32).1)) (minutesI (cutAt (cutAt s 32).2.1 45).1) (minutesI (cutAt (cutAt s 32).2.1 45).2.1)=some (t,er)) :
  Calls Tryd.prog 10 #[.string s] w fun e w'=>e=.returned (if er=0∧t=s then
   .tuple #[.agg #[.string ⟨#[120]⟩,.int .i64 (daysOf (splitL (cutAt s 32).1)),.int .i64 (minutesI (cutAt (cutAt s 32).2.1 45).1),.int .i64 (minutesI (cutAt (cutAt s 32).2.1 45).2.1)],.int .i64 0]
   else .tuple #[.agg #[.string ⟨#[]⟩,.int .i64 0,.int .i64 0,.int .i64 0],.int .i64 6])∧Below w.heap.size w w':=by
 have hc1:=fun W=>callsIn_wide (n:=6-1).2 (cut_any s 32 W hs)
 obtain ⟨l,span,t1,hq1⟩:∃ l span t1,cutAt s 32=(l,span,t1):=⟨_,_,_,rfl⟩
 have hz1:l.size≤4611686018427387904∧span.size≤4611686018427387904:=by
  unfold cutAt at hq1
  split at hq1<;>simp only [Prod.mk.injEq] at hq1<;>obtain ⟨rfl,rfl,rfl⟩:=hq1
  ·simp only [ByteArray.size_extract]
   omega
  ·exact ⟨hs,by show (0:Nat)≤_;omega⟩
 have hc2:=fun W=>callsIn_wide (n:=6-1).2 (cut_any span 45 W hz1.2)
 obtain ⟨fr,tt,t2,hq2⟩:∃ fr tt t2,cutAt span 45=(fr,tt,t2):=⟨_,_,_,rfl⟩
 have hz2:fr.size≤4611686018427387904∧tt.size≤4611686018427387904:=by
  unfold cutAt at hq2
  have:=hz1.2
  split at hq2<;>simp only [Prod.mk.injEq] at hq2<;>obtain ⟨rfl,rfl,rfl⟩:=hq2
  ·simp only [ByteArray.size_extract]
   omega
  ·exact ⟨this,by show (0:Nat)≤_;omega⟩
 rw [hq1] at hc1 ht ⊢
 dsimp only at ht ⊢
 rw [hq2] at hc2 ht ⊢
 dsimp only at ht ⊢
 have hm1:=fun W=>callsIn_wide (n:=6-1).2 (minutes_any fr W (by omega))
 have hm2:=fun W=>callsIn_wide (n:=6-1).2 (minutes_any tt W (by omega))
 obtain ⟨F,hF⟩:∃ F,minutesI fr=F:=⟨_,rfl⟩
 obtain ⟨T,hT⟩:∃ T,minutesI tt=T:=⟨_,rfl⟩
 rw [hF] at hm1 ht ⊢
 rw [hT] at hm2 ht ⊢
 have HT:=Aside0.mk ht
 generalize hres:(if er=0∧t=s then (Value.tuple #[.agg #[.string ⟨#[120]⟩,.int .i64 (daysOf (splitL l)),.int .i64 F,.int .i64 T],.int .i64 0]) else (Value.tuple #[.agg #[.string ⟨#[]⟩,.int .i64 0,.int .i64 0,.int .i64 0],.int .i64 6]))=res
 have HRES:=Aside0.mk hres
 clear hres
 have HC1:=Aside0.mk hc1
 have HC2:=Aside0.mk hc2
 have HM1:=Aside0.mk hm1
 have HM2:=Aside0.mk hm2
 have HK:=Aside0.mk hK
 have hsp:=fun W=>callsIn_wide (n:=6-1).2 (SplitSeq_any l ⟨#[44]⟩ W)
 have HSP:=Aside0.mk hsp
 clear hc1 hc2 hm1 hm2 hK hsp ht
 have h1m:1≤6:=by decide
 refine (callsIn_wide (n:=6)).1 ?_
 refine callsIn_of_wp_marks Tryd.func10 rfl trivial ?_ rfl
 simp only [Tryd.ntmps10,List.size_toArray,List.length_cons,List.length_nil,Nat.reduceAdd,Nat.reduceSub,Array.replicate_succ,Array.replicate_zero,List.push_toArray,List.append_toArray,List.nil_append,List.cons_append]
 gi_wp2_with (first
  | (refine ⟨trivial,?_⟩;gi_at_call 21;with_reducible refine (HC1.out _).mono ?_;rintro e w1 ⟨rfl,hb1⟩;have HB1:=Aside0.mk hb1;clear HC1 hb1)
  | (refine ⟨trivial,?_⟩;gi_at_call 21;with_reducible refine (HC2.out _).mono ?_;rintro e w2 ⟨rfl,hb2⟩;have HB2:=Aside0.mk hb2;clear HC2 hb2)
  | (refine ⟨trivial,?_⟩;gi_at_call 22;with_reducible refine (HM1.out _).mono ?_;rintro e w3 ⟨rfl,hb3⟩;have HB3:=Aside0.mk hb3;clear HM1 hb3)
  | (refine ⟨trivial,?_⟩;gi_at_call 22;with_reducible refine (HM2.out _).mono ?_;rintro e w4 ⟨rfl,hb4⟩;have HB4:=Aside0.mk hb4;clear HM2 hb4)
  | (refine ⟨trivial,?_⟩;gi_at_call 23;with_reducible refine (HSP.out _).mono ?_;rintro e w5 ⟨rfl,rfl⟩;clear HSP))
 have hHB:w.heap.size+1≤w1.heap.size:=by have:=HB1.out.size;simpa using this
 have hz4:w1.heap.size≤w4.heap.size:=Nat.le_trans HB2.out.size (Nat.le_trans HB3.out.size HB4.out.size)
 have hB4:Below w.heap.size w w4:=below_step (below_step (below_step (below_step (below_alloc (Below.refl _ _) _) HB1.out) HB2.out) HB3.out) HB4.out
 have hR4:w4.heap[w.heap.size]?=some (.cells #[.string ⟨#[]⟩,.int .i64 0,.int .i64 0,.int .i64 0] 23 (0,0)):=blk_below (blk_below (blk_below (blk_below (blk_new w _) HB1.out) HB2.out) HB3.out) HB4.out
 have hK4:KeysIn w4:=keys_step (keys_step (keys_step (keys_step (keys_step HK.out (below_alloc (Below.refl _ _) _)) HB1.out) HB2.out) HB3.out) HB4.out
 obtain ⟨B,hB⟩:∃ B,w4.heap.size=B:=⟨_,rfl⟩
 obtain ⟨R,hR⟩:∃ R,w.heap.size=R:=⟨_,rfl⟩
 rw [hR] at hR4 hB4 hHB
 have hRB:R<B:=by omega
 have key:∃ W5,((((w4.alloc (Obj.cells #[Value.string ⟨#[120]⟩,Value.int IntKind.i64 0,Value.int IntKind.i64 F,Value.int IntKind.i64 T] 23)).alloc (Obj.cells #[Value.string l] 9)).alloc (Obj.cells #[Value.string ⟨#[44]⟩] 9)).alloc (Obj.cells #[Value.int IntKind.i64 0] 3))=W5:=⟨_,rfl⟩
 obtain ⟨W5,hW5⟩:=key
 have q:=four_allocs w4 (.cells #[.string ⟨#[120]⟩,.int .i64 0,.int .i64 F,.int .i64 T] 23) (.cells #[.string l] 9) (.cells #[.string ⟨#[44]⟩] 9) (.cells #[.int .i64 0] 3)
 rw [hW5,hB] at q
 obtain ⟨q0,q1,q2,q3,qz,q5⟩:=q
 have qb:Boxes W5 (B+1+1) (B+1) (B+1+1+1) l:=⟨(box_cell q2).1,(box_cell q1).1,(box_cell q1).2,(box_cell q3).1⟩
 have qB:Below R w W5:=hB4.trans (q5.mono (by omega))
 have qR:W5.heap[R]?=some (.cells #[.string ⟨#[]⟩,.int .i64 0,.int .i64 0,.int .i64 0] 23 (0,0)):=blk_below hR4 (by rw [← hB] at q5;exact q5)
 have qK:KeysIn W5:=keys_step hK4 (by rw [← hB] at q5;exact q5)
 rw [hB,hR,hW5]
 refine range_split 6 (by decide) (B+1+1) (B+1) (B+1+1+1) (by omega) (by omega) (by omega) (by omega) (by omega) l hz1.1 rfl qb
  (fun pre W=>W.heap[B]?=some (.cells #[.string ⟨#[120]⟩,.int .i64 (daysOf pre),.int .i64 F,.int .i64 T] 23 (0,0))∧W.heap[R]?=some (.cells #[.string ⟨#[]⟩,.int .i64 0,.int .i64 0,.int .i64 0] 23 (0,0))∧KeysIn W∧Below R w W)
  (fun pre W o h=>⟨(Below.heap_alloc _ _ _ (blk_lt h.1)).trans h.1,(Below.heap_alloc _ _ _ (blk_lt h.2.1)).trans h.2.1,keys_step h.2.2.1 (below_alloc (Below.refl _ _) _),h.2.2.2.alloc (by have:=h.2.2.2.size;omega) _⟩)
  (fun pre W j o hj h=>⟨(World.putObj_heap_other (by omega)).trans h.1,(World.putObj_heap_other (by omega)).trans h.2.1,h.2.2.1.of_heap (World.putObj_heap_other (by have:=hK4.lt;omega)),
   h.2.2.2.grown (grownBy_putObj' W j o) (by have:=h.2.2.2.size;omega) (fun k e=>by cases e;omega)⟩)
  (fun pre W v h=>⟨(Below.heap_setCell W _ _ _ (by show B≠B+1;omega)).trans h.1,(Below.heap_setCell W _ _ _ (by show R≠B+1;omega)).trans h.2.1,h.2.2.1.of_heap (Below.heap_setCell W _ _ _ (by show 0≠B+1;have:=hK4.lt;omega)),
   h.2.2.2.setCell (p:=⟨B+1,0,none⟩) (by show R≤B+1;omega) _⟩)
  ⟨q0,qR,qK,qB⟩
  (fun x=>{ tmps:=#[.string s,undef,.pointer (some ⟨R,0,none⟩),.int .i64 0,.string l,.string span,.bool t1,.string fr,.string tt,.bool t2,.pointer (some ⟨B,0,none⟩),.string x,undef,undef,undef,
   .tuple #[.string l,.string span,.bool t1],.string s,.tuple #[.string l,.string span,.bool t1],.string l,.string span,.bool t1,.tuple #[.string fr,.string tt,.bool t2],.string span,.tuple #[.string fr,.string tt,.bool t2],.string fr,.string tt,.bool t2,
   .string fr,.int .i64 F,.string tt,.int .i64 T,.agg #[.string ⟨#[120]⟩,.int .i64 0,.int .i64 F,.int .i64 T],.string l,
   .func (.func 44) #[] #[.pointer (some ⟨B+1+1,0,none⟩),.pointer (some ⟨B+1,0,none⟩),.pointer (some ⟨B+1+1+1,0,none⟩)],.string x,undef,undef,undef,undef,undef,undef,undef,undef,undef,undef,undef,undef,undef,undef,undef,undef,undef,undef,undef,undef,undef,undef,undef,undef,undef],defers:=[] }) ?assign ?body ?done
 case assign =>
  intro j x W K hK
  gi_wp2
  exact hK
 case body =>
  rintro j pre x W hj ⟨i0,iR,iK,iB⟩
  have hd:1≤6-1-1:=by decide
  have hix:=CallsIn.inRound j (callsIn_wide (n:=6-1-1-1).2 (Tryd.slices_Index_string 0 0 7 7 namesL x W (by decide) (by decide) (fun k hk=>by rw [Nat.zero_add];exact iK.cell k hk)))
  have h7:Lib.idxOfS (namesL.take 7) x=dayIdx x:=rfl
  rw [h7] at hix
  rcases idx_seven x with hk|⟨k,hk7,hk⟩
  ·have hstep:daysOf (pre++[x])=daysOf pre:=by rw [daysOf_snoc,dayStep,hk];rfl
   rw [hk] at hix
   have HIX:=Aside0.mk hix
   clear hix
   gi_wp2_with (refine ⟨trivial,?_⟩;gi_at_call 24;refine HIX.out.mono ?_;rintro e w' ⟨rfl,rfl⟩)
   exact KeepsOthers.refl _
  ·have hstep:daysOf (pre++[x])=Go.bits .or .i64 (daysOf pre) (wrap64 (2 ^ k)):=by rw [daysOf_snoc,dayStep,hk,if_pos (by omega),Int.toNat_natCast]
   rw [hk] at hix
   have HIX:=Aside0.mk hix
   clear hix
   have hk0:(0:Int)≤(k:Int):=by omega
   have hmx:Tryd.prog.follows .mixedOrders=true:=by kernel_rfl
   have hc1:W.cell? ⟨B,1,none⟩=some (.int .i64 (daysOf pre)):=by rw [cell_of_row W B 1 _ _ _ i0];rfl
   have hf1:W.frozen? ⟨B,1,none⟩=false:=by simp [World.frozen?,i0]
   have hKB:0<B:=by have:=hK4.lt;omega
   gi_wp2_with (refine ⟨trivial,?_⟩;gi_at_call 24;refine HIX.out.mono ?_;rintro e w' ⟨rfl,rfl⟩)
   gi_region_o
   all_goals gi_wp2
   all_goals (try go_bits)
   all_goals (exact ⟨(KeepsOthers.setCell _ _ _).trans (KeepsOthers.drew _),⟨Below.heap_setCell _ _ _ _ (by show B+1+1≠B;omega),Below.heap_setCell _ _ _ _ (by show B+1≠B;omega),Below.heap_setCell _ _ _ _ (by show B+1+1+1≠B;omega)⟩,
    set_one i0,(Below.heap_setCell _ _ _ _ (by show R≠B;omega)).trans iR,iK.of_heap (Below.heap_setCell _ _ _ _ (by show 0≠B;omega)),(iB.setCell (p:=⟨B,1,none⟩) (by show R≤B;omega) _).drew⟩)
 case done =>
  rintro D W hD ⟨i0,iR,iK,iB⟩ hDf
  rw [qz] at hD
  have htc:=callsIn_wide (n:=6-1).2 (hours_Text.calls _ _ _ _ t er W HT.out iK)
  have HTC:=Aside0.mk htc
  have hres:=HRES.out
  clear htc HRES
  generalize hdd:daysOf (splitL l)=d at i0 HTC hres
  have hRW:R≤W.heap.size:=by have:=iB.size;omega
  have hRD:D≠R:=by omega
  by_cases hok:er=0∧t=s
  ·rw [if_pos hok] at hres
   obtain ⟨rfl,rfl⟩:=hok
   subst hres
   gi_wp2_with (first
    | (refine wpListIn_load_agg rfl 23 (.tmp 10) rfl B rfl 23 _ (0,0) _ i0 Tryd.underlying23 rfl (by kernel_rfl) ?_)
    | (refine wpListIn_load_agg rfl 23 (.tmp 10) rfl B rfl 23 _ (0,0) _ j0 Tryd.underlying23 rfl (by kernel_rfl) ?_)
    | (refine ⟨trivial,?_⟩;gi_at_call 9;refine HTC.out.mono ?_;rintro e w7 ⟨rfl,hb7⟩;have j0:=blk_below i0 hb7;have jR:=blk_below iR hb7;have jD:=blk_below hDf hb7;have jB:=iB.trans (hb7.mono hRW);obtain ⟨k0,k1,k2,k3,f0,f1,f2,f3⟩:=agg_cells jR))
   have hD':=(set_four_other (a':=.string ⟨#[120]⟩) (b':=.int .i64 d) (c':=.int .i64 F) (d':=.int .i64 T) hRD).trans jD
   refine ⟨by simp,.inl ⟨_,_,rfl,run_takeDeferred hD',?_⟩⟩
   exact ⟨_,results_agg (ty:=23) Tryd.results10 _ _ R 23 _ (0,0) _ (.int .i64 0) rfl rfl ((World.putObj_heap_other (by omega)).trans (set_four jR)) Tryd.underlying23 rfl (by kernel_rfl),rfl,parse_below hR jB (by omega) hD'⟩
  ·rw [if_neg hok] at hres
   subst hres
   by_cases he:er=0
   ·have hts:(t.toList == s.toList)=false:=beq_eq_false_iff_ne.mpr (fun e=>hok ⟨he,by rw [ByteArray.toList_eq,ByteArray.toList_eq] at e;exact ByteArray.ext (Array.ext' e)⟩)
    subst he
    gi_wp2_with (first
     | (refine wpListIn_load_agg rfl 23 (.tmp 10) rfl B rfl 23 _ (0,0) _ i0 Tryd.underlying23 rfl (by kernel_rfl) ?_)
     | (refine wpListIn_load_agg rfl 23 (.tmp 10) rfl B rfl 23 _ (0,0) _ j0 Tryd.underlying23 rfl (by kernel_rfl) ?_)
     | (refine ⟨trivial,?_⟩;gi_at_call 9;refine HTC.out.mono ?_;rintro e w7 ⟨rfl,hb7⟩;have j0:=blk_below i0 hb7;have jR:=blk_below iR hb7;have jD:=blk_below hDf hb7;have jB:=iB.trans (hb7.mono hRW);obtain ⟨k0,k1,k2,k3,f0,f1,f2,f3⟩:=agg_cells jR))
    have hD':=(set_four_other (a':=.string ⟨#[]⟩) (b':=.int .i64 0) (c':=.int .i64 0) (d':=.int .i64 0) hRD).trans jD
    refine ⟨by simp,.inl ⟨_,_,rfl,run_takeDeferred hD',?_⟩⟩
    exact ⟨_,results_agg (ty:=23) Tryd.results10 _ _ R 23 _ (0,0) _ (.int .i64 6) rfl rfl ((World.putObj_heap_other (by omega)).trans (set_four jR)) Tryd.underlying23 rfl (by kernel_rfl),rfl,parse_below hR jB (by omega) hD'⟩
   ·have hne:(er != 0)=true:=bne_iff_ne.mpr he
    gi_wp2_with (first
     | (refine wpListIn_load_agg rfl 23 (.tmp 10) rfl B rfl 23 _ (0,0) _ i0 Tryd.underlying23 rfl (by kernel_rfl) ?_)
     | (refine wpListIn_load_agg rfl 23 (.tmp 10) rfl B rfl 23 _ (0,0) _ j0 Tryd.underlying23 rfl (by kernel_rfl) ?_)
     | (refine ⟨trivial,?_⟩;gi_at_call 9;refine HTC.out.mono ?_;rintro e w7 ⟨rfl,hb7⟩;have j0:=blk_below i0 hb7;have jR:=blk_below iR hb7;have jD:=blk_below hDf hb7;have jB:=iB.trans (hb7.mono hRW);obtain ⟨k0,k1,k2,k3,f0,f1,f2,f3⟩:=agg_cells jR))
    have hD':=(set_four_other (a':=.string ⟨#[]⟩) (b':=.int .i64 0) (c':=.int .i64 0) (d':=.int .i64 0) hRD).trans jD
    refine ⟨by simp,.inl ⟨_,_,rfl,run_takeDeferred hD',?_⟩⟩
    exact ⟨_,results_agg (ty:=23) Tryd.results10 _ _ R 23 _ (0,0) _ (.int .i64 6) rfl rfl ((World.putObj_heap_other (by omega)).trans (set_four jR)) Tryd.underlying23 rfl (by kernel_rfl),rfl,parse_below hR jB (by omega) hD'⟩
def hours_Parse.f (a0:ByteArray):Option (ByteArray×Int×Int×Int×Int) :=
 if a0.size≤4611686018427387904 then (hours_Text.f ⟨#[120]⟩ (daysOf (splitL (cutAt a0 32).1)) (minutesI (cutAt (cutAt a0 32).2.1 45).1) (minutesI (cutAt (cutAt a0 32).2.1 45).2.1)).bind fun r =>
  some (if r.2=0∧r.1=a0 then (⟨#[120]⟩,daysOf (splitL (cutAt a0 32).1),minutesI (cutAt (cutAt a0 32).2.1 45).1,minutesI (cutAt (cutAt a0 32).2.1 45).2.1,0) else (⟨#[]⟩,0,0,0,6)) else none
theorem hours_Parse.calls (a0 r0:ByteArray) (r1 r2 r3 r4:Int) (w:World) (h:hours_Parse.f a0=some (r0,r1,r2,r3,r4)) (hK:KeysIn w) :
  Calls Tryd.prog 10 #[.string a0] w fun e w'=>e=.returned (.tuple #[.agg #[.string r0,.int .i64 r1,.int .i64 r2,.int .i64 r3],.int .i64 r4])∧Below w.heap.size w w':=by
 unfold hours_Parse.f at h
 split at h
 ·rename_i hs
  cases ht:hours_Text.f ⟨#[120]⟩ (daysOf (splitL (cutAt a0 32).1)) (minutesI (cutAt (cutAt a0 32).2.1 45).1) (minutesI (cutAt (cutAt a0 32).2.1 45).2.1) with
  | none=>rw [ht] at h;cases h
  | some p =>
   obtain ⟨t,er⟩:=p
   rw [ht,Option.bind_some] at h
   refine (parse_walk a0 hs w hK t er ht).mono ?_
   rintro e w' ⟨rfl,hb⟩
   refine ⟨?_,hb⟩
   by_cases hok:er=0∧t=a0
   ·rw [if_pos hok] at h ⊢
    simp only [Option.some.injEq,Prod.mk.injEq] at h
    obtain ⟨rfl,rfl,rfl,rfl,rfl⟩:=h
    rfl
   ·rw [if_neg hok] at h ⊢
    simp only [Option.some.injEq,Prod.mk.injEq] at h
    obtain ⟨rfl,rfl,rfl,rfl,rfl⟩:=h
    rfl
 ·cases h
end Go.Proofs.YtmhdmmgljenckaaDoor.P

/- What one function of the program computes, as a Lean function, and a proof that its call comes to just that. Conditions: none. Written by wip/ownprint.py. -/
namespace Go.Proofs.YtmhdmmgljenckaaDoor.P
open Go.RowKit Go.Proofs.YtmhdmmgljenckaaDoorW.PrintWords Go.Proofs.YtmhdmmgljenckaaDoorW.PrintLast Go.Proofs.YtmhdmmgljenckaaDoorW.PrintMore
attribute [local go_sem] max2_int min2_int max_two min_two max_three min_three max_four min_four   -- for this text's walks alone
set_option linter.unusedVariables false
set_option linter.unusedSimpArgs false

def transhipmentlaw07_alive.f :Option (Bool):=(hours_Parse.f (⟨#[109,111,110,44,102,114,105,32,48,57,58,48,48,45,49,55,58,51,48]⟩:ByteArray)).bind fun bt140=>(if bt140.2.2.2.2=0 then (if bt140.2.1=17 then (if bt140.2.2.1=540 then (if bt140.2.2.2.1=1050 then ((hours_In.f bt140.1 bt140.2.1 bt140.2.2.1 bt140.2.2.2.1 32400000).bind fun t146=>(some t146)) else (some false)) else (some false)) else (some false)) else (some false))
set_option maxHeartbeats 8000000 in
set_option maxRecDepth 100000 in
theorem transhipmentlaw07_alive.calls  (r:Bool) (w:World) (h:transhipmentlaw07_alive.f =some r) (hK:KeysIn w) :
  Calls Tryd.prog 16 #[] w fun e w'=>e=.returned (.bool r)∧Below w.heap.size w w':=by
 have hu23:=Tryd.underlying23
 have HB:=Aside0.mk (Below.refl w.heap.size w)
 have HK:=Aside0.mk hK
 clear hK
 have H:((hours_Parse.f (⟨#[109,111,110,44,102,114,105,32,48,57,58,48,48,45,49,55,58,51,48]⟩:ByteArray)).bind fun bt140=>(if bt140.2.2.2.2=0 then (if bt140.2.1=17 then (if bt140.2.2.1=540 then (if bt140.2.2.2.1=1050 then ((hours_In.f bt140.1 bt140.2.1 bt140.2.2.1 bt140.2.2.2.1 32400000).bind fun t146=>(some t146)) else (some false)) else (some false)) else (some false)) else (some false)))=some r:=h
 clear h
 replace H:=Option.bind_eq_some_iff.mp H
 obtain ⟨⟨t140,t141,t142,t143,t144⟩,A10,H⟩:=H
 replace H:(if t144=0 then (if t141=17 then (if t142=540 then (if t143=1050 then ((hours_In.f t140 t141 t142 t143 32400000).bind fun t146=>(some t146)) else (some false)) else (some false)) else (some false)) else (some false))=some r:=H
 have A1:=Aside0.mk A10
 clear A10
 by_cases c2:t144=0
 ·rw [if_pos c2] at H
  have c2b0:(t144 == 0)=true:=beq_iff_eq.mpr c2
  have c2b1:(t144 != 0)=false:=bne_eq_false_iff_eq.mpr c2
  clear c2
  by_cases c3:t141=17
  ·rw [if_pos c3] at H
   have c3b0:(t141 == 17)=true:=beq_iff_eq.mpr c3
   have c3b1:(t141 != 17)=false:=bne_eq_false_iff_eq.mpr c3
   clear c3
   by_cases c4:t142=540
   ·rw [if_pos c4] at H
    have c4b0:(t142 == 540)=true:=beq_iff_eq.mpr c4
    have c4b1:(t142 != 540)=false:=bne_eq_false_iff_eq.mpr c4
    clear c4
    by_cases c5:t143=1050
    ·rw [if_pos c5] at H
     have c5b0:(t143 == 1050)=true:=beq_iff_eq.mpr c5
     have c5b1:(t143 != 1050)=false:=bne_eq_false_iff_eq.mpr c5
     clear c5
     replace H:=Option.bind_eq_some_iff.mp H
     obtain ⟨t146,A60,H⟩:=H
     replace H:(some t146)=some r:=H
     have A6:=Aside0.mk A60
     clear A60
     obtain rfl:=Option.some.inj H
     go_enter Tryd.func16,Tryd.ntmps16
     go_wp2_with (first|((with_reducible refine gate_callee (f:=10) rfl ?_);refine goesL_ (some 4) rfl rfl Tryd.func10 (by kernel_rfl) rfl #[.string (⟨#[109,111,110,44,102,114,105,32,48,57,58,48,48,45,49,55,58,51,48]⟩:ByteArray)] rfl (by (try simp only [List.map_toArray,List.map_cons,List.map_nil]);first|done|rfl|(simp only [List.length_drop,List.length_take];rfl)) ?_;(with_reducible refine (hours_Parse.calls (⟨#[109,111,110,44,102,114,105,32,48,57,58,48,48,45,49,55,58,51,48]⟩:ByteArray) t140 t141 t142 t143 t144 _ A1.out ?keys_).mono ?_);(case keys_=>exact (keys_step HK.out (by repeat (first|(with_reducible first|exact HB.out|apply below_alloc|apply pw_below_drewN|apply below_drew1|refine below_set ?_ GE145.out)|exact HB.out))));rintro e w7 ⟨rfl,hb⟩;refine ⟨_,rfl,?_⟩;have n0_:=Aside0.mk (below_step (by repeat (first|(with_reducible first|exact HB.out|apply below_alloc|apply pw_below_drewN|apply below_drew1)|exact HB.out)) hb);clear HB;have HB:=n0_;clear n0_;(try clear hb);(try clear hb2);(try clear hk);(try clear hi))|((with_reducible refine gate_dst (N:=1) rfl ?_);refine box_event ?hg (N:=1) ?hd (cs:=#[.string (⟨#[]⟩:ByteArray),.int .i64 0,.int .i64 0,.int .i64 0]) (t:=23) ?hr ?_;(case hd=>rfl);(case hg=>rfl);(case hr=>first|(go_simp;done)|(go_simp;rfl)|(go_simp;simp [IntKind.wrap_u32]));intro gb145 hg w8 hbox hb;have n0_:=Aside0.mk (below_step (by repeat (first|(with_reducible first|exact HB.out|apply below_alloc|apply pw_below_drewN|apply below_drew1)|exact HB.out)) hb);have n1_:=Aside0.mk (hbox);have n2_:=Aside0.mk ((by rw [hg];exact (below_size (by repeat (first|(with_reducible first|exact HB.out|apply below_alloc|apply pw_below_drewN|apply below_drew1)|exact HB.out))):w.heap.size≤gb145));have n3_:=Aside0.mk ((by rw [hg];exact (below_size (by repeat (first|(with_reducible first|exact HB.out|apply below_alloc|apply pw_below_drewN|apply below_drew1)|exact HB.out))):w.heap.size≤gb145));clear HB;have HB:=n0_;have BK145:=n1_;have GW145:=n2_;have GE145:=n3_;clear n0_ n1_ n2_ n3_;clear hb hbox hg;have hcz9_0:w8.cell? ⟨gb145,0,none⟩=some (.string (⟨#[]⟩:ByteArray)):=(blk_cell BK145.out 0).trans rfl;have hcz9_1:w8.cell? ⟨gb145,1,none⟩=some (.int .i64 0):=(blk_cell BK145.out 1).trans rfl;have hcz9_2:w8.cell? ⟨gb145,2,none⟩=some (.int .i64 0):=(blk_cell BK145.out 2).trans rfl;have hcz9_3:w8.cell? ⟨gb145,3,none⟩=some (.int .i64 0):=(blk_cell BK145.out 3).trans rfl;have hfz9_0:=blk_frozen BK145.out 0;have hfz9_1:=blk_frozen BK145.out 1;have hfz9_2:=blk_frozen BK145.out 2;have hfz9_3:=blk_frozen BK145.out 3)|(go_at_call 14;(with_reducible refine (hours_In.calls t140 t141 t142 t143 32400000 t146 _ A6.out).mono ?_);rintro e w10 ⟨rfl,hb⟩;have n0_:=Aside0.mk (blk_below (g:=gb145) (o:=.cells #[.string t140,.int .i64 t141,.int .i64 t142,.int .i64 t143] 23 (0,0)) (by (with_reducible repeat (first|refine blk_drewN ?_ _|refine blk_drew ?_|refine blk_alloc ?_ _));refine blk_put (cs:=#[.string t140,.int .i64 t141,.int .i64 t142,.int .i64 0]) ?_ 3 _ rfl;(with_reducible repeat (first|refine blk_drewN ?_ _|refine blk_drew ?_|refine blk_alloc ?_ _));refine blk_put (cs:=#[.string t140,.int .i64 t141,.int .i64 0,.int .i64 0]) ?_ 2 _ rfl;(with_reducible repeat (first|refine blk_drewN ?_ _|refine blk_drew ?_|refine blk_alloc ?_ _));refine blk_put (cs:=#[.string t140,.int .i64 0,.int .i64 0,.int .i64 0]) ?_ 1 _ rfl;(with_reducible repeat (first|refine blk_drewN ?_ _|refine blk_drew ?_|refine blk_alloc ?_ _));refine blk_put (cs:=#[.string (⟨#[]⟩:ByteArray),.int .i64 0,.int .i64 0,.int .i64 0]) ?_ 0 _ rfl;(with_reducible repeat (first|refine blk_drewN ?_ _|refine blk_drew ?_|refine blk_alloc ?_ _));exact BK145.out) hb);have n1_:=Aside0.mk (below_step (by repeat (first|(with_reducible first|exact HB.out|apply below_alloc|apply pw_below_drewN|apply below_drew1|refine below_set ?_ GE145.out)|exact HB.out)) hb);clear BK145;clear HB;have BK145:=n0_;have HB:=n1_;clear n0_ n1_;(try clear hb);(try clear hb2);(try clear hk);(try clear hi)))
     (first|go_ret|go_ret2)
     exact ⟨by first|rfl|(simp [errW_none,errW_some]<;>rfl)|(simp [*,errW_none,errW_some]<;>rfl),by repeat (first|(with_reducible first|exact HB.out|apply below_alloc|apply pw_below_drewN|apply below_drew1|refine below_set ?_ GE145.out)|exact HB.out)⟩
    ·rw [if_neg c5] at H
     have c5b0:(t143 == 1050)=false:=beq_eq_false_iff_ne.mpr c5
     have c5b1:(t143 != 1050)=true:=bne_iff_ne.mpr c5
     obtain rfl:=Option.some.inj H
     go_enter Tryd.func16,Tryd.ntmps16
     go_wp2_with (first|((with_reducible refine gate_callee (f:=10) rfl ?_);refine goesL_ (some 4) rfl rfl Tryd.func10 (by kernel_rfl) rfl #[.string (⟨#[109,111,110,44,102,114,105,32,48,57,58,48,48,45,49,55,58,51,48]⟩:ByteArray)] rfl (by (try simp only [List.map_toArray,List.map_cons,List.map_nil]);first|done|rfl|(simp only [List.length_drop,List.length_take];rfl)) ?_;(with_reducible refine (hours_Parse.calls (⟨#[109,111,110,44,102,114,105,32,48,57,58,48,48,45,49,55,58,51,48]⟩:ByteArray) t140 t141 t142 t143 t144 _ A1.out ?keys_).mono ?_);(case keys_=>exact (keys_step HK.out (by repeat (first|(with_reducible first|exact HB.out|apply below_alloc|apply pw_below_drewN|apply below_drew1|refine below_set ?_ GE145.out)|exact HB.out))));rintro e w11 ⟨rfl,hb⟩;refine ⟨_,rfl,?_⟩;have n0_:=Aside0.mk (below_step (by repeat (first|(with_reducible first|exact HB.out|apply below_alloc|apply pw_below_drewN|apply below_drew1)|exact HB.out)) hb);clear HB;have HB:=n0_;clear n0_;(try clear hb);(try clear hb2);(try clear hk);(try clear hi))|((with_reducible refine gate_dst (N:=1) rfl ?_);refine box_event ?hg (N:=1) ?hd (cs:=#[.string (⟨#[]⟩:ByteArray),.int .i64 0,.int .i64 0,.int .i64 0]) (t:=23) ?hr ?_;(case hd=>rfl);(case hg=>rfl);(case hr=>first|(go_simp;done)|(go_simp;rfl)|(go_simp;simp [IntKind.wrap_u32]));intro gb145 hg w12 hbox hb;have n0_:=Aside0.mk (below_step (by repeat (first|(with_reducible first|exact HB.out|apply below_alloc|apply pw_below_drewN|apply below_drew1)|exact HB.out)) hb);have n1_:=Aside0.mk (hbox);have n2_:=Aside0.mk ((by rw [hg];exact (below_size (by repeat (first|(with_reducible first|exact HB.out|apply below_alloc|apply pw_below_drewN|apply below_drew1)|exact HB.out))):w.heap.size≤gb145));have n3_:=Aside0.mk ((by rw [hg];exact (below_size (by repeat (first|(with_reducible first|exact HB.out|apply below_alloc|apply pw_below_drewN|apply below_drew1)|exact HB.out))):w.heap.size≤gb145));clear HB;have HB:=n0_;have BK145:=n1_;have GW145:=n2_;have GE145:=n3_;clear n0_ n1_ n2_ n3_;clear hb hbox hg;have hcz13_0:w12.cell? ⟨gb145,0,none⟩=some (.string (⟨#[]⟩:ByteArray)):=(blk_cell BK145.out 0).trans rfl;have hcz13_1:w12.cell? ⟨gb145,1,none⟩=some (.int .i64 0):=(blk_cell BK145.out 1).trans rfl;have hcz13_2:w12.cell? ⟨gb145,2,none⟩=some (.int .i64 0):=(blk_cell BK145.out 2).trans rfl;have hcz13_3:w12.cell? ⟨gb145,3,none⟩=some (.int .i64 0):=(blk_cell BK145.out 3).trans rfl;have hfz13_0:=blk_frozen BK145.out 0;have hfz13_1:=blk_frozen BK145.out 1;have hfz13_2:=blk_frozen BK145.out 2;have hfz13_3:=blk_frozen BK145.out 3))
     (first|go_ret|go_ret2)
     exact ⟨by first|rfl|(simp [errW_none,errW_some]<;>rfl)|(simp [*,errW_none,errW_some]<;>rfl),by repeat (first|(with_reducible first|exact HB.out|apply below_alloc|apply pw_below_drewN|apply below_drew1|refine below_set ?_ GE145.out)|exact HB.out)⟩
   ·rw [if_neg c4] at H
    have c4b0:(t142 == 540)=false:=beq_eq_false_iff_ne.mpr c4
    have c4b1:(t142 != 540)=true:=bne_iff_ne.mpr c4
    obtain rfl:=Option.some.inj H
    go_enter Tryd.func16,Tryd.ntmps16
    go_wp2_with (first|((with_reducible refine gate_callee (f:=10) rfl ?_);refine goesL_ (some 4) rfl rfl Tryd.func10 (by kernel_rfl) rfl #[.string (⟨#[109,111,110,44,102,114,105,32,48,57,58,48,48,45,49,55,58,51,48]⟩:ByteArray)] rfl (by (try simp only [List.map_toArray,List.map_cons,List.map_nil]);first|done|rfl|(simp only [List.length_drop,List.length_take];rfl)) ?_;(with_reducible refine (hours_Parse.calls (⟨#[109,111,110,44,102,114,105,32,48,57,58,48,48,45,49,55,58,51,48]⟩:ByteArray) t140 t141 t142 t143 t144 _ A1.out ?keys_).mono ?_);(case keys_=>exact (keys_step HK.out (by repeat (first|(with_reducible first|exact HB.out|apply below_alloc|apply pw_below_drewN|apply below_drew1|refine below_set ?_ GE145.out)|exact HB.out))));rintro e w14 ⟨rfl,hb⟩;refine ⟨_,rfl,?_⟩;have n0_:=Aside0.mk (below_step (by repeat (first|(with_reducible first|exact HB.out|apply below_alloc|apply pw_below_drewN|apply below_drew1)|exact HB.out)) hb);clear HB;have HB:=n0_;clear n0_;(try clear hb);(try clear hb2);(try clear hk);(try clear hi))|((with_reducible refine gate_dst (N:=1) rfl ?_);refine box_event ?hg (N:=1) ?hd (cs:=#[.string (⟨#[]⟩:ByteArray),.int .i64 0,.int .i64 0,.int .i64 0]) (t:=23) ?hr ?_;(case hd=>rfl);(case hg=>rfl);(case hr=>first|(go_simp;done)|(go_simp;rfl)|(go_simp;simp [IntKind.wrap_u32]));intro gb145 hg w15 hbox hb;have n0_:=Aside0.mk (below_step (by repeat (first|(with_reducible first|exact HB.out|apply below_alloc|apply pw_below_drewN|apply below_drew1)|exact HB.out)) hb);have n1_:=Aside0.mk (hbox);have n2_:=Aside0.mk ((by rw [hg];exact (below_size (by repeat (first|(with_reducible first|exact HB.out|apply below_alloc|apply pw_below_drewN|apply below_drew1)|exact HB.out))):w.heap.size≤gb145));have n3_:=Aside0.mk ((by rw [hg];exact (below_size (by repeat (first|(with_reducible first|exact HB.out|apply below_alloc|apply pw_below_drewN|apply below_drew1)|exact HB.out))):w.heap.size≤gb145));clear HB;have HB:=n0_;have BK145:=n1_;have GW145:=n2_;have GE145:=n3_;clear n0_ n1_ n2_ n3_;clear hb hbox hg;have hcz16_0:w15.cell? ⟨gb145,0,none⟩=some (.string (⟨#[]⟩:ByteArray)):=(blk_cell BK145.out 0).trans rfl;have hcz16_1:w15.cell? ⟨gb145,1,none⟩=some (.int .i64 0):=(blk_cell BK145.out 1).trans rfl;have hcz16_2:w15.cell? ⟨gb145,2,none⟩=some (.int .i64 0):=(blk_cell BK145.out 2).trans rfl;have hcz16_3:w15.cell? ⟨gb145,3,none⟩=some (.int .i64 0):=(blk_cell BK145.out 3).trans rfl;have hfz16_0:=blk_frozen BK145.out 0;have hfz16_1:=blk_frozen BK145.out 1;have hfz16_2:=blk_frozen BK145.out 2;have hfz16_3:=blk_frozen BK145.out 3))
    (first|go_ret|go_ret2)
    exact ⟨by first|rfl|(simp [errW_none,errW_some]<;>rfl)|(simp [*,errW_none,errW_some]<;>rfl),by repeat (first|(with_reducible first|exact HB.out|apply below_alloc|apply pw_below_drewN|apply below_drew1|refine below_set ?_ GE145.out)|exact HB.out)⟩
  ·rw [if_neg c3] at H
   have c3b0:(t141 == 17)=false:=beq_eq_false_iff_ne.mpr c3
   have c3b1:(t141 != 17)=true:=bne_iff_ne.mpr c3
   obtain rfl:=Option.some.inj H
   go_enter Tryd.func16,Tryd.ntmps16
   go_wp2_with (first|((with_reducible refine gate_callee (f:=10) rfl ?_);refine goesL_ (some 4) rfl rfl Tryd.func10 (by kernel_rfl) rfl #[.string (⟨#[109,111,110,44,102,114,105,32,48,57,58,48,48,45,49,55,58,51,48]⟩:ByteArray)] rfl (by (try simp only [List.map_toArray,List.map_cons,List.map_nil]);first|done|rfl|(simp only [List.length_drop,List.length_take];rfl)) ?_;(with_reducible refine (hours_Parse.calls (⟨#[109,111,110,44,102,114,105,32,48,57,58,48,48,45,49,55,58,51,48]⟩:ByteArray) t140 t141 t142 t143 t144 _ A1.out ?keys_).mono ?_);(case keys_=>exact (keys_step HK.out (by repeat (first|(with_reducible first|exact HB.out|apply below_alloc|apply pw_below_drewN|apply below_drew1|refine below_set ?_ GE145.out)|exact HB.out))));rintro e w17 ⟨rfl,hb⟩;refine ⟨_,rfl,?_⟩;have n0_:=Aside0.mk (below_step (by repeat (first|(with_reducible first|exact HB.out|apply below_alloc|apply pw_below_drewN|apply below_drew1)|exact HB.out)) hb);clear HB;have HB:=n0_;clear n0_;(try clear hb);(try clear hb2);(try clear hk);(try clear hi))|((with_reducible refine gate_dst (N:=1) rfl ?_);refine box_event ?hg (N:=1) ?hd (cs:=#[.string (⟨#[]⟩:ByteArray),.int .i64 0,.int .i64 0,.int .i64 0]) (t:=23) ?hr ?_;(case hd=>rfl);(case hg=>rfl);(case hr=>first|(go_simp;done)|(go_simp;rfl)|(go_simp;simp [IntKind.wrap_u32]));intro gb145 hg w18 hbox hb;have n0_:=Aside0.mk (below_step (by repeat (first|(with_reducible first|exact HB.out|apply below_alloc|apply pw_below_drewN|apply below_drew1)|exact HB.out)) hb);have n1_:=Aside0.mk (hbox);have n2_:=Aside0.mk ((by rw [hg];exact (below_size (by repeat (first|(with_reducible first|exact HB.out|apply below_alloc|apply pw_below_drewN|apply below_drew1)|exact HB.out))):w.heap.size≤gb145));have n3_:=Aside0.mk ((by rw [hg];exact (below_size (by repeat (first|(with_reducible first|exact HB.out|apply below_alloc|apply pw_below_drewN|apply below_drew1)|exact HB.out))):w.heap.size≤gb145));clear HB;have HB:=n0_;have BK145:=n1_;have GW145:=n2_;have GE145:=n3_;clear n0_ n1_ n2_ n3_;clear hb hbox hg;have hcz19_0:w18.cell? ⟨gb145,0,none⟩=some (.string (⟨#[]⟩:ByteArray)):=(blk_cell BK145.out 0).trans rfl;have hcz19_1:w18.cell? ⟨gb145,1,none⟩=some (.int .i64 0):=(blk_cell BK145.out 1).trans rfl;have hcz19_2:w18.cell? ⟨gb145,2,none⟩=some (.int .i64 0):=(blk_cell BK145.out 2).trans rfl;have hcz19_3:w18.cell? ⟨gb145,3,none⟩=some (.int .i64 0):=(blk_cell BK145.out 3).trans rfl;have hfz19_0:=blk_frozen BK145.out 0;have hfz19_1:=blk_frozen BK145.out 1;have hfz19_2:=blk_frozen BK145.out 2;have hfz19_3:=blk_frozen BK145.out 3))
   (first|go_ret|go_ret2)
   exact ⟨by first|rfl|(simp [errW_none,errW_some]<;>rfl)|(simp [*,errW_none,errW_some]<;>rfl),by repeat (first|(with_reducible first|exact HB.out|apply below_alloc|apply pw_below_drewN|apply below_drew1|refine below_set ?_ GE145.out)|exact HB.out)⟩
 ·rw [if_neg c2] at H
  have c2b0:(t144 == 0)=false:=beq_eq_false_iff_ne.mpr c2
  have c2b1:(t144 != 0)=true:=bne_iff_ne.mpr c2
  obtain rfl:=Option.some.inj H
  go_enter Tryd.func16,Tryd.ntmps16
  go_wp2_with (first|((with_reducible refine gate_callee (f:=10) rfl ?_);refine goesL_ (some 4) rfl rfl Tryd.func10 (by kernel_rfl) rfl #[.string (⟨#[109,111,110,44,102,114,105,32,48,57,58,48,48,45,49,55,58,51,48]⟩:ByteArray)] rfl (by (try simp only [List.map_toArray,List.map_cons,List.map_nil]);first|done|rfl|(simp only [List.length_drop,List.length_take];rfl)) ?_;(with_reducible refine (hours_Parse.calls (⟨#[109,111,110,44,102,114,105,32,48,57,58,48,48,45,49,55,58,51,48]⟩:ByteArray) t140 t141 t142 t143 t144 _ A1.out ?keys_).mono ?_);(case keys_=>exact (keys_step HK.out (by repeat (first|(with_reducible first|exact HB.out|apply below_alloc|apply pw_below_drewN|apply below_drew1|refine below_set ?_ GE145.out)|exact HB.out))));rintro e w20 ⟨rfl,hb⟩;refine ⟨_,rfl,?_⟩;have n0_:=Aside0.mk (below_step (by repeat (first|(with_reducible first|exact HB.out|apply below_alloc|apply pw_below_drewN|apply below_drew1)|exact HB.out)) hb);clear HB;have HB:=n0_;clear n0_;(try clear hb);(try clear hb2);(try clear hk);(try clear hi))|((with_reducible refine gate_dst (N:=1) rfl ?_);refine box_event ?hg (N:=1) ?hd (cs:=#[.string (⟨#[]⟩:ByteArray),.int .i64 0,.int .i64 0,.int .i64 0]) (t:=23) ?hr ?_;(case hd=>rfl);(case hg=>rfl);(case hr=>first|(go_simp;done)|(go_simp;rfl)|(go_simp;simp [IntKind.wrap_u32]));intro gb145 hg w21 hbox hb;have n0_:=Aside0.mk (below_step (by repeat (first|(with_reducible first|exact HB.out|apply below_alloc|apply pw_below_drewN|apply below_drew1)|exact HB.out)) hb);have n1_:=Aside0.mk (hbox);have n2_:=Aside0.mk ((by rw [hg];exact (below_size (by repeat (first|(with_reducible first|exact HB.out|apply below_alloc|apply pw_below_drewN|apply below_drew1)|exact HB.out))):w.heap.size≤gb145));have n3_:=Aside0.mk ((by rw [hg];exact (below_size (by repeat (first|(with_reducible first|exact HB.out|apply below_alloc|apply pw_below_drewN|apply below_drew1)|exact HB.out))):w.heap.size≤gb145));clear HB;have HB:=n0_;have BK145:=n1_;have GW145:=n2_;have GE145:=n3_;clear n0_ n1_ n2_ n3_;clear hb hbox hg;have hcz22_0:w21.cell? ⟨gb145,0,none⟩=some (.string (⟨#[]⟩:ByteArray)):=(blk_cell BK145.out 0).trans rfl;have hcz22_1:w21.cell? ⟨gb145,1,none⟩=some (.int .i64 0):=(blk_cell BK145.out 1).trans rfl;have hcz22_2:w21.cell? ⟨gb145,2,none⟩=some (.int .i64 0):=(blk_cell BK145.out 2).trans rfl;have hcz22_3:w21.cell? ⟨gb145,3,none⟩=some (.int .i64 0):=(blk_cell BK145.out 3).trans rfl;have hfz22_0:=blk_frozen BK145.out 0;have hfz22_1:=blk_frozen BK145.out 1;have hfz22_2:=blk_frozen BK145.out 2;have hfz22_3:=blk_frozen BK145.out 3))
  (first|go_ret|go_ret2)
  exact ⟨by first|rfl|(simp [errW_none,errW_some]<;>rfl)|(simp [*,errW_none,errW_some]<;>rfl),by repeat (first|(with_reducible first|exact HB.out|apply below_alloc|apply pw_below_drewN|apply below_drew1|refine below_set ?_ GE145.out)|exact HB.out)⟩
end Go.Proofs.YtmhdmmgljenckaaDoor.P

/- What the hours' functions come to, in plain words. Conditions: none. -/
namespace Go.Proofs.YtmhdmmgljenckaaDoor.P
open Go.RowKit Go.Proofs.YtmhdmmgljenckaaDoorW.PrintWords Go.Proofs.YtmhdmmgljenckaaDoorW.PrintLast Go.Proofs.YtmhdmmgljenckaaDoorW.PrintMore

theorem mn_nat (a b:Nat):mn (a:Int) (b:Int)=((min a b:Nat):Int):=by
 unfold mn
 split<;>omega
theorem wrap_id {n:Int} (h1:-9223372036854775808≤n) (h2:n<9223372036854775808):wrap64 n=n:=by
 unfold wrap64
 omega
theorem known_alive:transhipmentlaw07_alive.f=some true:=by decide +kernel
def cutN (nm:ByteArray):ByteArray:=nm.extract 0 (min nm.size 70)
theorem hours_cut_eq (nm:ByteArray) (d f t:Int):transhipmentlaw07_cut.f nm d f t=some (cutN nm,d,f,t):=by
 unfold transhipmentlaw07_cut.f
 rw [show mn (nm.size:Int) 70=((min nm.size 70:Nat):Int) from mn_nat _ 70,if_pos (by omega),if_pos (by omega),Int.toNat_natCast]
 rfl
theorem right_ranges {nm:ByteArray} {d f t:Int} (hr:rightB nm d f t=true):1≤d∧d≤127∧0≤f∧f<1440∧f<t∧t≤1440:=by
 unfold rightB at hr
 simp only [Bool.and_eq_true,decide_eq_true_eq] at hr
 omega
end Go.Proofs.YtmhdmmgljenckaaDoor.P

/- The reference's Right, Set and In are the program's. Conditions: as each lemma says. -/
set_option linter.unusedVariables false
set_option linter.unusedSimpArgs false
namespace Go.Proofs.YtmhdmmgljenckaaDoor.P
open Go.RowKit Go.Proofs.YtmhdmmgljenckaaDoorW.PrintWords Go.Proofs.YtmhdmmgljenckaaDoorW.PrintLast Go.Proofs.YtmhdmmgljenckaaDoorW.PrintMore

theorem word_if {α:Type} (c:Int) (a b:α) :
  (if c<97 then (if c<48 then (if c=95 then a else b) else (if c>57 then (if c=95 then a else b) else a)) else (if c>122 then (if c<48 then (if c=95 then a else b) else (if c>57 then (if c=95 then a else b) else a)) else a))=if oddB c=true then b else a:=by
 have e:oddB c=true↔((c<97∨122<c)∧(c<48∨57<c)∧c≠95):=by
  unfold oddB
  simp [and_assoc]
 by_cases h:oddB c=true
 ·rw [if_pos h]
  have h1:=e.1 h
  repeat' split
  all_goals first|rfl|omega
 ·rw [if_neg h]
  have h1:¬ ((c<97∨122<c)∧(c<48∨57<c)∧c≠95):=fun x=>h (e.2 x)
  repeat' split
  all_goals first|rfl|omega
theorem word_from (s:ByteArray) (hs:s.size≤maxLen) (d:Nat):∀ (k i:Nat),i≤s.size→s.size-i=d→d<k →
  transhipmentref06_Word.l0 k s (i:Int)=some (!((bytesOf s).drop i).any oddB && decide (s.size≠0) && decide (s.size≤64)):=by
 unfold maxLen at hs
 induction d with
 | zero =>
  intro k i h1 hd hk
  obtain ⟨k,rfl⟩:∃ m,k=m+1:=⟨k-1,by omega⟩
  simp only [transhipmentref06_Word.l0]
  rw [if_neg (by omega),List.drop_eq_nil_of_le (by rw [bytesOf_length];omega)]
  by_cases h0:s.size=0
  ·rw [if_neg (by omega)]
   simp [h0]
  ·rw [if_pos (by omega)]
   simp [h0]
   omega
 | succ d ih =>
  intro k i h1 hd hk
  obtain ⟨k,rfl⟩:∃ m,k=m+1:=⟨k-1,by omega⟩
  have hl:i<(bytesOf s).length:=by rw [bytesOf_length];omega
  have hb:(bytesOf s)[i]=bt s (i:Int):=by
   have h:=rd_bytesOf s (i:Int)
   unfold rd at h
   rw [Int.toNat_natCast,List.getD_eq_getElem?_getD,List.getElem?_eq_getElem hl] at h
   exact h
  simp only [transhipmentref06_Word.l0]
  rw [if_pos (by omega),if_pos (by omega),word_if,wrap_id (by omega) (by omega),List.drop_eq_getElem_cons hl,List.any_cons,hb]
  cases ho:oddB (bt s (i:Int)) with
  | true=>simp
  | false =>
   rw [if_neg (by decide)]
   have:=ih k (i+1) (by omega) (by omega) (by omega)
   rw [Int.natCast_succ] at this
   rw [this]
   rfl
theorem word_eq (s:ByteArray) (hs:s.size≤maxLen) (k:Nat) (hk:s.size<k) :
  transhipmentref06_Word.f k s=some (decide (s.size≠0) && decide (s.size≤64) && !(bytesOf s).any oddB):=by
 have h:=word_from s hs s.size k 0 (Nat.zero_le _) (by omega) hk
 unfold transhipmentref06_Word.f
 rw [show ((0:Nat):Int)=0 from rfl] at h
 rw [h,List.drop_zero]
 cases (bytesOf s).any oddB<;>cases decide (s.size≠0)<;>cases decide (s.size≤64)<;>rfl
theorem refright_eq (nm:ByteArray) (d f t:Int) (hs:nm.size≤maxLen) (k:Nat) (hk:nm.size<k):transhipmentref07_Right.f k nm d f t=some (rightB nm d f t):=by
 unfold transhipmentref07_Right.f rightB
 rw [word_eq nm hs k hk,Option.bind_some]
 cases hw:(decide (nm.size≠0) && decide (nm.size≤64) && !(bytesOf nm).any oddB) with
 | false=>rfl
 | true =>
  rw [if_pos rfl]
  by_cases h1:1≤d
  ·rw [if_pos h1,decide_eq_true h1]
   by_cases h2:d≤127
   ·rw [if_pos h2,decide_eq_true h2]
    by_cases h3:0≤f
    ·rw [if_pos h3,decide_eq_true h3]
     by_cases h4:f<1440
     ·rw [if_pos (by omega),decide_eq_true h4]
      by_cases h5:f<t
      ·rw [if_pos h5,decide_eq_true h5]
       rfl
      ·rw [if_neg h5,decide_eq_false h5]
       rfl
     ·rw [if_neg (by omega),decide_eq_false h4]
      rfl
    ·rw [if_neg h3,decide_eq_false h3]
     rfl
   ·rw [if_neg h2,decide_eq_false h2]
    rfl
  ·rw [if_neg h1,decide_eq_false h1]
   rfl
theorem refset_eq (d i:Nat) (hd:d<128) (hi:i<7) (k:Nat) (hk:8≤k):transhipmentref07_Set.f k (d:Int) (i:Int)=some (bitB (d:Int) (i:Int)):=by
 have h8:∀ d:Fin 128,∀ i:Fin 7,transhipmentref07_Set.f 8 ((d.1:Nat):Int) ((i.1:Nat):Int)=some (bitB ((d.1:Nat):Int) ((i.1:Nat):Int)):=by decide +kernel
 exact at_rounds (transhipmentref07_Set.mono _ _) hk (h8 ⟨d,hd⟩ ⟨i,hi⟩)
theorem refright_any (nm:ByteArray) (d f t:Int) (hs:nm.size≤maxLen) (w:World) :
  Calls Tryd.prog 13 #[.agg #[.string nm,.int .i64 d,.int .i64 f,.int .i64 t]] w fun e w'=>e=.returned (.bool (rightB nm d f t))∧Below w.heap.size w w' :=
 transhipmentref07_Right.calls _ nm d f t _ w (refright_eq nm d f t hs (nm.size+1) (Nat.lt_succ_self _))
theorem refset_any (d:Int) (i:Nat) (h1:1≤d) (h2:d≤127) (hi:i<7) (w:World) :
  Calls Tryd.prog 30 #[.int .i64 d,.int .i64 (i:Int)] w fun e w'=>e=.returned (.bool (bitB d (i:Int)))∧Drawn0 w w':=by
 obtain ⟨n,rfl⟩:=Int.eq_ofNat_of_zero_le (show 0≤d by omega)
 exact transhipmentref07_Set.calls 8 _ _ _ w (refset_eq n i (by show n<128;omega) hi 8 (Nat.le_refl _))
theorem refin_any (nm:ByteArray) (d f t tick:Int) (hs:nm.size≤maxLen) (w:World) :
  Calls Tryd.prog 15 #[.agg #[.string nm,.int .i64 d,.int .i64 f,.int .i64 t],.int .i64 tick] w fun e w'=>e=.returned (.bool (inB nm d f t tick))∧Below w.heap.size w w':=by
 have hc:=fun W=>refright_any nm d f t hs W
 obtain ⟨r,hr⟩:∃ r,inB nm d f t tick=r:=⟨_,rfl⟩
 have e0:=hr
 unfold inB at e0
 rw [hr]
 cases hR:rightB nm d f t with
 | false =>
  rw [hR] at hc e0
  simp only [Bool.false_and] at e0
  subst e0
  have HC:=Aside0.mk hc
  clear hc hR hr
  go_enter Tryd.func15,Tryd.ntmps15
  go_wp2_with (go_at_call 13;refine (HC.out _).mono ?_;rintro e w1 ⟨rfl,hb⟩;have HB:=Aside0.mk hb;clear hb)
  go_ret
  exact ⟨rfl,below_step (below_alloc (Below.refl _ _) _) HB.out⟩
 | true =>
  obtain ⟨r1,r2,-,-,-,-⟩:=right_ranges hR
  rw [hR] at hc e0
  simp only [Bool.true_and] at e0
  have HC:=Aside0.mk hc
  by_cases hn:tick<0
  ·have hin:withinB tick=false:=by unfold withinB;rw [decide_eq_false (by omega)];rfl
   rw [hin] at e0
   simp only [Bool.false_and] at e0
   subst e0
   clear hc hR hr hin r1 r2
   go_enter Tryd.func15,Tryd.ntmps15
   go_wp2_with (go_at_call 13;refine (HC.out _).mono ?_;rintro e w1 ⟨rfl,hb⟩;have HB:=Aside0.mk hb;clear hb)
   go_ret
   exact ⟨rfl,below_step (below_alloc (Below.refl _ _) _) HB.out⟩
  ·by_cases hm:1099511627776<tick
   ·have hin:withinB tick=false:=by unfold withinB;rw [decide_eq_true (show 0≤tick by omega),decide_eq_false (by omega)];rfl
    rw [hin] at e0
    simp only [Bool.false_and] at e0
    subst e0
    clear hc hR hr hin r1 r2
    go_enter Tryd.func15,Tryd.ntmps15
    go_wp2_with (go_at_call 13;refine (HC.out _).mono ?_;rintro e w1 ⟨rfl,hb⟩;have HB:=Aside0.mk hb;clear hb)
    go_ret
    exact ⟨rfl,below_step (below_alloc (Below.refl _ _) _) HB.out⟩
   ·have hin:withinB tick=true:=by unfold withinB;rw [decide_eq_true (show 0≤tick by omega),decide_eq_true (by omega)];rfl
    rw [hin] at e0
    simp only [Bool.true_and] at e0
    obtain ⟨m,hm2⟩:∃ m,minuteI tick=m:=⟨_,rfl⟩
    rw [hm2] at e0
    unfold minuteI at hm2
    have q1:IntKind.i64.wrap (Int.tdiv tick 60000)=tick/60000:=by rw [Int.tdiv_eq_ediv_of_nonneg (by omega)];exact (i64_w _).trans (by unfold wrap64;omega)
    have q2:Int.tmod (tick/60000) 10080=m:=by rw [Int.tmod_eq_emod_of_nonneg (by omega)];exact hm2
    have hm0:0≤m:=by omega
    obtain ⟨k,hk⟩:∃ k:Nat,m/1440=(k:Int):=⟨(m/1440).toNat,by omega⟩
    have q3:IntKind.i64.wrap (Int.tdiv m 1440)=(k:Int):=by rw [Int.tdiv_eq_ediv_of_nonneg hm0,← hk];exact (i64_w _).trans (by unfold wrap64;omega)
    have q4:Int.tmod m 1440=m % 1440:=Int.tmod_eq_emod_of_nonneg hm0
    have hkl:k<7:=by omega
    have hset:=fun W=>refset_any d k r1 r2 hkl W
    obtain ⟨j,hj⟩:∃ j,m % 1440=j:=⟨_,rfl⟩
    rw [hk] at e0
    rw [hj] at e0 q4
    cases hbit:bitB d (k:Int) with
    | false =>
     rw [hbit] at hset e0
     simp only [Bool.false_and] at e0
     subst e0
     have HS:=Aside0.mk hset
     clear hset hc hR hr hin hm2 hk hj hbit
     go_enter Tryd.func15,Tryd.ntmps15
     go_wp2_with (first
      | (go_at_call 13;refine (HC.out _).mono ?_;rintro e w1 ⟨rfl,hb⟩;have HB:=Aside0.mk hb;obtain ⟨y1,y2,y3⟩:=box_three (blk_below (blk_new w (.cells #[.string nm,.int .i64 d,.int .i64 f,.int .i64 t] 23)) hb);clear hb)
      | (go_at_call 30;refine (HS.out _).mono ?_;rintro e w2 ⟨rfl,⟨nd,rfl⟩⟩))
     go_ret
     exact ⟨rfl,pw_below_drewN (below_step (below_alloc (Below.refl _ _) _) HB.out) _⟩
    | true =>
     rw [hbit] at hset e0
     simp only [Bool.true_and] at e0
     have HS:=Aside0.mk hset
     by_cases hf:f≤j
     ·rw [decide_eq_true hf,Bool.true_and] at e0
      subst e0
      clear hset hc hR hr hin hm2 hk hj hbit
      go_enter Tryd.func15,Tryd.ntmps15
      go_wp2_with (first
       | (go_at_call 13;refine (HC.out _).mono ?_;rintro e w1 ⟨rfl,hb⟩;have HB:=Aside0.mk hb;obtain ⟨y1,y2,y3⟩:=box_three (blk_below (blk_new w (.cells #[.string nm,.int .i64 d,.int .i64 f,.int .i64 t] 23)) hb);clear hb)
       | (go_at_call 30;refine (HS.out _).mono ?_;rintro e w2 ⟨rfl,⟨nd,rfl⟩⟩))
      go_ret
      exact ⟨rfl,pw_below_drewN (below_step (below_alloc (Below.refl _ _) _) HB.out) _⟩
     ·rw [decide_eq_false hf,Bool.false_and] at e0
      subst e0
      clear hset hc hR hr hin hm2 hk hj hbit
      go_enter Tryd.func15,Tryd.ntmps15
      go_wp2_with (first
       | (go_at_call 13;refine (HC.out _).mono ?_;rintro e w1 ⟨rfl,hb⟩;have HB:=Aside0.mk hb;obtain ⟨y1,y2,y3⟩:=box_three (blk_below (blk_new w (.cells #[.string nm,.int .i64 d,.int .i64 f,.int .i64 t] 23)) hb);clear hb)
       | (go_at_call 30;refine (HS.out _).mono ?_;rintro e w2 ⟨rfl,⟨nd,rfl⟩⟩))
      go_ret
      exact ⟨rfl,pw_below_drewN (below_step (below_alloc (Below.refl _ _) _) HB.out) _⟩
end Go.Proofs.YtmhdmmgljenckaaDoor.P

/- The reference's In, in the form that a printed text asks for. Conditions: none. -/
namespace Go.Proofs.YtmhdmmgljenckaaDoor.P
open Go.RowKit Go.Proofs.YtmhdmmgljenckaaDoorW.PrintWords Go.Proofs.YtmhdmmgljenckaaDoorW.PrintLast Go.Proofs.YtmhdmmgljenckaaDoorW.PrintMore

def transhipmentref07_In.f (a0_0:ByteArray) (a0_1 a0_2 a0_3 a1:Int):Option Bool:=if a0_0.size≤maxLen then some (inB a0_0 a0_1 a0_2 a0_3 a1) else none
theorem transhipmentref07_In.calls (a0_0:ByteArray) (a0_1 a0_2 a0_3 a1:Int) (r:Bool) (w:World) (h:transhipmentref07_In.f a0_0 a0_1 a0_2 a0_3 a1=some r) :
  Calls Tryd.prog 15 #[.agg #[.string a0_0,.int .i64 a0_1,.int .i64 a0_2,.int .i64 a0_3],.int .i64 a1] w fun e w'=>e=.returned (.bool r)∧Below w.heap.size w w':=by
 unfold transhipmentref07_In.f at h
 split at h
 ·rename_i hs
  obtain rfl:=Option.some.inj h
  exact refin_any a0_0 a0_1 a0_2 a0_3 a1 hs w
 ·cases h
theorem tell_in {nm:ByteArray} {d f t tick:Int} {a b:Bool} (ha:hours_In.f nm d f t tick=some a) (hb:transhipmentref07_In.f nm d f t tick=some b):¬ (a != b)=true:=by
 unfold transhipmentref07_In.f at hb
 split at hb
 ·rw [show a=b from Option.some.inj (ha.symm.trans hb)]
  cases b<;>decide
 ·cases hb
end Go.Proofs.YtmhdmmgljenckaaDoor.P
