/- What these functions of the program compute, and plain lemmas on it. Conditions: as each lemma says. -/
import Derived.Test.YthofmfaeccdckaaGreatDoorMTop1
import Derived.Test.YthofmfaeccdckaaGreatDoorMTop3
import Derived.Test.YthofmfaeccdckaaGreatDoorMTop2
import Derived.Laws.Rows
import Derived.Laws.AppendOwn
import Derived.Deep.RegionHeld3
import Derived.Deep.DrawnRows
import Derived.Lib.ItoaLen
set_option linter.unusedVariables false
set_option linter.unusedSimpArgs false
set_option maxHeartbeats 40000000
set_option maxRecDepth 20000
namespace Go.Proofs.YthofmfaeccdckaaGreatDoor.P
open Go.RowKit Go.Proofs.YthofmfaeccdckaaGreatDoorW.PrintWords Go.Proofs.YthofmfaeccdckaaGreatDoorW.PrintLast Go.Proofs.YthofmfaeccdckaaGreatDoorW.PrintMore
def hours_two.f (a0:Int):Option (ByteArray):=some (strOfNums (([(wrap64 (48+(wrap64 (Int.tdiv a0 10)))) % 256,(wrap64 (48+(Int.tmod a0 10))) % 256]:List Int)))
set_option maxRecDepth 100000 in
theorem hours_two.calls (a0:Int) (r:ByteArray) (w:World) (h:hours_two.f a0=some r) :
 Calls Tryz.prog 237 #[.int .i64 a0] w fun e w'=>e=.returned (.string r)∧Below w.heap.size w w':=by
 have HB:=am (Below.refl w.heap.size w)
 have H:(some (strOfNums (([(wrap64 (48+(wrap64 (Int.tdiv a0 10)))) % 256,(wrap64 (48+(Int.tmod a0 10))) % 256]:List Int))))=some r:=h
 clear h
 obtain ⟨y181,hy181⟩:∃ y_:List Int,y_=(([(wrap64 (48+(wrap64 (Int.tdiv a0 10)))) % 256,(wrap64 (48+(Int.tmod a0 10))) % 256]:List Int)):=⟨_,rfl⟩
 replace H:(some (strOfNums y181))=some r:=by first|(rw [hy181];with_reducible exact H)|(have H2_:=(Option.bind_some _ _).symm.trans H;rw [hy181];with_reducible exact H2_)|(have H2_:=(Option.bind_some _ _).symm.trans H;with_reducible exact H2_)|with_reducible exact H|(rw [hy181];exact H)|exact H
 have Ny181:=am hy181
 clear hy181
 obtain rfl:=Option.some.inj H
 go_in
 go_wp2_with (first|((with_reducible refine gate_dst (N:=11) rfl ?_);refine Kd.R_lit (Kd.int .u8) _ 5 ?hg (N:=11) ?hd (xs:=([(wrap64 (48+(wrap64 (Int.tdiv a0 10)))) % 256,(wrap64 (48+(Int.tmod a0 10))) % 256]:List Int)) (inner:=[.int .u8 ((wrap64 (48+(wrap64 (Int.tdiv a0 10)))) % 256),.int .u8 ((wrap64 (48+(Int.tmod a0 10))) % 256)]) (ok:=fun _=>True) (okp:=fun _=>True) ?hr ?hp (fun _ hk=>hk) trivial (Below.refl _ _) (Nat.le_refl _) (by simp) ?_;(case hd=>rfl);(case hg=>rfl);(case hr=>first|(go_simp;done)|(go_simp;rfl)|(go_simp;simp [IntKind.wrap_u32]));(case hp=>exact (Reps.one (show Kd.M (Kd.int .u8) _ _ _ ((wrap64 (48+(wrap64 (Int.tdiv a0 10)))) % 256) [.int .u8 ((wrap64 (48+(wrap64 (Int.tdiv a0 10)))) % 256)] from rfl) (Reps.one (show Kd.M (Kd.int .u8) _ _ _ ((wrap64 (48+(Int.tmod a0 10))) % 256) [.int .u8 ((wrap64 (48+(Int.tmod a0 10))) % 256)] from rfl) (Reps.none _ _))));intro v182 w2 ho3 hb hg_ hnew_;clear hg_ hnew_;(first|rw [← Ny181.out] at ho3|(simp only [Int.reduceToNat] at ho3;rw [← Ny181.out] at ho3));have n0_:=am (Kd.R_lower ho3 (below_size (by repeat (first|(with_reducible first|exact HB.out|apply below_alloc|apply pw_below_drewN|apply below_drew1)|exact HB.out))));have n1_:=am (below_step (by repeat (first|(with_reducible first|exact HB.out|apply below_alloc|apply pw_below_drewN|apply below_drew1)|exact HB.out)) hb);clear HB;have HO183:=n0_;have HB:=n1_;clear n0_ n1_;clear hb ho3;have hcv4:=own_string (P:=Tryz.prog) Tryz.underlying112 Tryz.underlying5 Tryz.underlying9 (Kd.own_of_R HO183.out)))
 (first|go_ret|go_ret2)
 exact ⟨by first|rfl|(simp [errW_none,errW_some]<;>rfl)|(simp [*,errW_none,errW_some]<;>rfl),by repeat (first|(with_reducible first|exact HB.out|apply below_alloc|apply pw_below_drewN|apply below_drew1)|exact HB.out)⟩
def hours_clock.f (a0:Int):Option (ByteArray):=(hours_two.f (wrap64 (Int.tdiv a0 60))).bind fun t184=>(if t184.size+1≤9223372036854775807 then ((hours_two.f (Int.tmod a0 60)).bind fun t185=>(if (t184++(⟨#[58]⟩:ByteArray)).size+t185.size≤9223372036854775807 then (some ((t184++(⟨#[58]⟩:ByteArray))++t185)) else (none))) else (none))
set_option maxRecDepth 100000 in
theorem hours_clock.calls (a0:Int) (r:ByteArray) (w:World) (h:hours_clock.f a0=some r) :
 Calls Tryz.prog 197 #[.int .i64 a0] w fun e w'=>e=.returned (.string r)∧Below w.heap.size w w':=by
 have HB:=am (Below.refl w.heap.size w)
 have H:((hours_two.f (wrap64 (Int.tdiv a0 60))).bind fun t184=>(if t184.size+1≤9223372036854775807 then ((hours_two.f (Int.tmod a0 60)).bind fun t185=>(if (t184++(⟨#[58]⟩:ByteArray)).size+t185.size≤9223372036854775807 then (some ((t184++(⟨#[58]⟩:ByteArray))++t185)) else (none))) else (none)))=some r:=h
 clear h
 replace H:=Option.bind_eq_some_iff.mp H
 obtain ⟨t184,A20,H⟩:=H
 replace H:(if t184.size+1≤9223372036854775807 then ((hours_two.f (Int.tmod a0 60)).bind fun t185=>(if (t184++(⟨#[58]⟩:ByteArray)).size+t185.size≤9223372036854775807 then (some ((t184++(⟨#[58]⟩:ByteArray))++t185)) else (none))) else (none))=some r:=H
 have A2:=am A20
 clear A20
 by_cases c3:t184.size+1≤9223372036854775807
 ·rw [if_pos c3] at H
  have c3b0:=eq_true c3
  have c3b1:decide (t184.size+1≤9223372036854775807)=true:=decide_eq_true c3
  try have c3b2:(9223372036854775807<t184.size+1)=False:=eq_false (Nat.not_lt.2 c3)
  replace H:=Option.bind_eq_some_iff.mp H
  obtain ⟨t185,A40,H⟩:=H
  replace H:(if (t184++(⟨#[58]⟩:ByteArray)).size+t185.size≤9223372036854775807 then (some ((t184++(⟨#[58]⟩:ByteArray))++t185)) else (none))=some r:=H
  have A4:=am A40
  clear A40
  by_cases c5:(t184++(⟨#[58]⟩:ByteArray)).size+t185.size≤9223372036854775807
  ·rw [if_pos c5] at H
   have c5b0:=eq_true c5
   have c5b1:decide ((t184++(⟨#[58]⟩:ByteArray)).size+t185.size≤9223372036854775807)=true:=decide_eq_true c5
   try have c5b2:(9223372036854775807<(t184++(⟨#[58]⟩:ByteArray)).size+t185.size)=False:=eq_false (Nat.not_lt.2 c5)
   try (have c5b3:=of_eq_false c5b2;simp only [ByteArray.size_append,show (⟨#[58]⟩:ByteArray).size=1 from rfl] at c5b3)
   obtain rfl:=Option.some.inj H
   go_in
   go_wp2_with (first|((with_reducible refine gate_callee (f:=237) rfl ?_);refine goesL_ (some 5) rfl rfl Tryz.func237 (by kernel_rfl) rfl #[.int .i64 (wrap64 (Int.tdiv a0 60))] rfl (by (try simp only [List.map_toArray,List.map_cons,List.map_nil]);first|done|rfl|(simp only [List.length_drop,List.length_take];rfl)) ?_;(with_reducible refine (hours_two.calls (wrap64 (Int.tdiv a0 60)) t184 _ A2.out).mono ?_);rintro e w6 ⟨rfl,hb⟩;refine ⟨_,rfl,?_⟩;have n0_:=am (below_step (by repeat (first|(with_reducible first|exact HB.out|apply below_alloc|apply pw_below_drewN|apply below_drew1)|exact HB.out)) hb);clear HB;have HB:=n0_;clear n0_;(try clear hb);(try clear hb2);(try clear hk);(try clear hi))|((with_reducible refine gate_callee (f:=237) rfl ?_);refine goesL_ (some 9) rfl rfl Tryz.func237 (by kernel_rfl) rfl #[.int .i64 (Int.tmod a0 60)] rfl (by (try simp only [List.map_toArray,List.map_cons,List.map_nil]);first|done|rfl|(simp only [List.length_drop,List.length_take];rfl)) ?_;(with_reducible refine (hours_two.calls (Int.tmod a0 60) t185 _ A4.out).mono ?_);rintro e w7 ⟨rfl,hb⟩;refine ⟨_,rfl,?_⟩;have n0_:=am (below_step (by repeat (first|(with_reducible first|exact HB.out|apply below_alloc|apply pw_below_drewN|apply below_drew1)|exact HB.out)) hb);clear HB;have HB:=n0_;clear n0_;(try clear hb);(try clear hb2);(try clear hk);(try clear hi)))
   (first|go_ret|go_ret2)
   exact ⟨by first|rfl|(simp [errW_none,errW_some]<;>rfl)|(simp [*,errW_none,errW_some]<;>rfl),by repeat (first|(with_reducible first|exact HB.out|apply below_alloc|apply pw_below_drewN|apply below_drew1)|exact HB.out)⟩
  ·rw [if_neg c5] at H
   exact absurd H (by simp)
 ·rw [if_neg c3] at H
  exact absurd H (by simp)
theorem infoStr:(Tryz.prog.info? 9).map (fun i=>(i.zero,i.size,i.bytes))=some (some (.string ⟨#[]⟩),1,16):=by kernel_rfl
def dayB (d:Int) (i:Nat):Bool:=Go.bits .and .i64 (d/2 ^ i) 1 == 1
def daysL (d:Int) (k:Nat):List ByteArray:=((List.range k).filter (dayB d)).map fun i=>namesL.getD i ByteArray.empty
theorem index_names (i:Nat) (hi:i<7) (w:World):(Instr.index 227 (.agg #[.string ⟨#[109,111,110]⟩,.string ⟨#[116,117,101]⟩,.string ⟨#[119,101,100]⟩,.string ⟨#[116,104,117]⟩,.string ⟨#[102,114,105]⟩,.string ⟨#[115,97,116]⟩,.string ⟨#[115,117,110]⟩]) (.int .i64 (i:Int))).run Tryz.prog w=.ok (.string (namesL.getD i ByteArray.empty)) w:=by
 have hx:(#[.string ⟨#[109,111,110]⟩,.string ⟨#[116,117,101]⟩,.string ⟨#[119,101,100]⟩,.string ⟨#[116,104,117]⟩,.string ⟨#[102,114,105]⟩,.string ⟨#[115,97,116]⟩,.string ⟨#[115,117,110]⟩]:Array Value)[i]?=some (.string (namesL.getD i ByteArray.empty)):=by
  match i,hi with
  | 0,_=>rfl|1,_=>rfl|2,_=>rfl|3,_=>rfl|4,_=>rfl|5,_=>rfl|6,_=>rfl
 generalize (#[.string ⟨#[109,111,110]⟩,.string ⟨#[116,117,101]⟩,.string ⟨#[119,101,100]⟩,.string ⟨#[116,104,117]⟩,.string ⟨#[102,114,105]⟩,.string ⟨#[115,97,116]⟩,.string ⟨#[115,117,110]⟩]:Array Value)=X at hx ⊢
 have hn:(0≤(i:Int)∧(i:Int)<(7:Nat)):=by omega
 simp [Instr.index,run_underlying Tryz.underlying227,asIntOf,hn,go_sem,hx]
 omega
theorem held2 {W W':World} {b:Nat} {x y:Value} (h:W.cell? ⟨b,2,none⟩=some x∧W.cell? ⟨b,3,none⟩=some y) (hb:Below W.heap.size W W'):W'.cell? ⟨b,2,none⟩=some x∧W'.cell? ⟨b,3,none⟩=some y :=
 ⟨(hb.cell (World.block_lt_of_cell? W _ h.1)).trans h.1,(hb.cell (World.block_lt_of_cell? W _ h.2)).trans h.2⟩
theorem clock_size {n:Int} {r:ByteArray} (h:hours_clock.f n=some r):r.size≤10:=by
 unfold hours_clock.f hours_two.f at h
 simp only [Option.bind_some] at h
 split at h
 ·split at h
  ·obtain rfl:=Option.some.inj h
   simp only [ByteArray.size_append,strOfNums_size,List.length_cons,List.length_nil]
   decide
  ·cases h
 ·cases h
theorem days_true (d:Int) (k:Nat) (X:ByteArray) (h:dayB d k=true) (hX:namesL.getD k ByteArray.empty=X):daysL d (k+1)=daysL d k++[X]:=by
 unfold daysL
 rw [List.range_succ,List.filter_append,List.filter_cons,if_pos h,List.filter_nil,List.map_append,List.map_cons,List.map_nil,hX]
theorem days_false (d:Int) (k:Nat) (h:dayB d k=false):daysL d (k+1)=daysL d k:=by
 unfold daysL
 rw [List.range_succ,List.filter_append,List.filter_cons,if_neg (by rw [h];decide),List.filter_nil,List.append_nil]
theorem days_length (d:Int) (k:Nat):(daysL d k).length≤k:=by
 unfold daysL
 rw [List.length_map]
 exact Nat.le_trans (List.length_filter_le _ _) (by simp)
theorem days_some (d:Int) (h1:1≤d) (h2:d≤127):0<(daysL d 7).length:=by
 have h:∀ n:Fin 128,0<n.1→0<(daysL ((n.1:Nat):Int) 7).length:=by decide +kernel
 obtain ⟨n,rfl⟩:=Int.eq_ofNat_of_zero_le (show 0≤d by omega)
 exact h ⟨n,by omega⟩ (by simp;omega)
theorem join_length (d:Int):(Lib.join ((daysL d 7).map (·.data.toList)) [44]).length≤1000:=by
 have h3:∀ i,(namesL.getD i ByteArray.empty).data.toList.length≤3:=by
  intro i
  match i with
  | 0=>decide|1=>decide|2=>decide|3=>decide|4=>decide|5=>decide|6=>decide
  | i+7=>simp [namesL]
 have hj:∀ l:List (List UInt8),(∀ x∈l,x.length≤3)→(Lib.join l [44]).length≤4*l.length:=by
  intro l
  induction l with
  | nil=>intro _;simp [Lib.join]
  | cons x l ih =>
    intro hl
    have hx:=hl x (by simp)
    have hi:=ih (fun y hy=>hl y (by simp [hy]))
    cases l with
    | nil=>simp [Lib.join];omega
    | cons y l =>
      have e:Lib.join (x::y::l) [44]=x++([44]++Lib.join (y::l) [44]):=by simp [Lib.join,List.intercalate]
      rw [e]
      simp only [List.length_append,List.length_cons,List.length_nil] at hi ⊢
      omega
 have hlen:=days_length d 7
 have:=hj ((daysL d 7).map (·.data.toList)) (by
  intro x hx
  obtain ⟨b,hb,rfl⟩:=List.mem_map.1 hx
  unfold daysL at hb
  obtain ⟨i,_,rfl⟩:=List.mem_map.1 hb
  exact h3 i)
 rw [List.length_map] at this
 omega
theorem text_wrong (nmm:ByteArray) (d f t:Int) (w:World) (hr:rightB nmm d f t=false) :
 Calls Tryz.prog 138 #[.agg #[.string nmm,.int .i64 d,.int .i64 f,.int .i64 t]] w fun e w'=>e=.returned (.tuple #[.string ⟨#[]⟩,.int .i64 1])∧Below w.heap.size w w':=by
 have hc:=fun W=>right_any nmm d f t W
 rw [hr] at hc
 have HC:=am hc
 clear hc hr
 go_in
 go_wp2_with (go_at_call 19;refine (HC.out _).mono ?_;rintro e w' ⟨rfl,hb⟩;have HB:=am hb;clear hb)
 go_ret2
 exact ⟨rfl,below_step (below_alloc (Below.refl _ _) _) HB.out⟩
theorem text_right (nmm:ByteArray) (d f t:Int) (cf ct:ByteArray) (w:World) (hr:rightB nmm d f t=true) (hcf:hours_clock.f f=some cf) (hct:hours_clock.f t=some ct) (hK:KeysIn w) :
 Calls Tryz.prog 138 #[.agg #[.string nmm,.int .i64 d,.int .i64 f,.int .i64 t]] w fun e w'=>e=.returned (.tuple #[.string (⟨(Lib.join ((daysL d 7).map (·.data.toList)) [44]).toArray⟩++⟨#[32]⟩++cf++⟨#[45]⟩++ct),.int .i64 0])∧Below w.heap.size w w':=by
 have hc:=fun W=>right_any nmm d f t W
 rw [hr] at hc
 have HC:=am hc
 have HK:=am hK
 have HCF:=am hcf
 have HCT:=am hct
 have HR:=am hr
 clear hc hr hcf hct hK
 obtain ⟨i0,hi,hz0,hz1,hz2⟩:=info_parts infoStr
 go_in
 go_wp2_with (first
  | (go_at_call 19;refine (HC.out _).mono ?_;rintro e w4 ⟨rfl,hb⟩;have HB:=am hb;clear hb;have HK4:=am (keys_step (keys_step HK.out (below_alloc (Below.refl _ _) _)) HB.out))
  | (obtain ⟨kty,hkty⟩:=HK4.out;refine wpList_load_row rfl 227 (.global 1) rfl 1 rfl kty _ (0,0) _ hkty Tryz.underlying227 rfl (by kernel_rfl) ?_))
 have hz:w.heap.size+1≤w4.heap.size:=by have:=HB.out.size;simp at this;omega
 have hbox:w4.heap[w.heap.size]?=some (.cells #[.string nmm,.int .i64 d,.int .i64 f,.int .i64 t] 54 (0,0)):=blk_below (blk_new w _) HB.out
 have hB4:Below w.heap.size w w4:=below_step (below_alloc (Below.refl _ _) _) HB.out
 have HBOX:=am hbox
 have HB4:=am hB4
 have hix:=index_names
 have HIX:=am hix
 clear hbox hB4 hix HB
 go_loopw [4,11] (fun v i wr=>∃ k:Nat,k≤7∧i=.int .i64 k∧w.heap.size+1≤wr.heap.size∧Aside0 (wr.ownsRow (w.heap.size+1) 9 1 v (daysL d k).length ((daysL d k).map Value.string))∧Aside0 (wr.heap[w.heap.size]?=some (.cells #[.string nmm,.int .i64 d,.int .i64 f,.int .i64 t] 54 (0,0)))∧Aside0 (Below w.heap.size w wr)) (fun _ i _=>7-(intOf i).toNat)
 case atStart=>exact ⟨0,by omega,rfl,hz,⟨World.ownsRow_nil w4 _ _ _⟩,HBOX,HB4⟩
 case round =>
  clear HBOX HB4 hz
  obtain ⟨k,hk7,rfl,hz,hO,hX,hb⟩:=hrel
  by_cases hlt:k<7
  ·have hix:=HIX.out k hlt
   obtain ⟨X,hXX⟩:∃ X,namesL.getD k ByteArray.empty=X:=⟨_,rfl⟩
   rw [hXX] at hix
   have HXX:=am hXX
   have hc1:wr.cell? ⟨w.heap.size,1,none⟩=some (.int .i64 d):=by unfold World.cell?;rw [hX.out];rfl
   clear hXX
   cases hday:dayB d k with
   | true =>
     have HDAY:=am hday
     unfold dayB at hday
     have hle:w.heap.size≤wr.heap.size:=by omega
     have hlen:(daysL d k).length≤7:=by have:=days_length d k;omega
     have HLEN:=am hlen
     clear hlen
     go_wp2_with (at_builtin;refine wpList_append_own _ rfl _ _ 24 rfl (w.heap.size+1) 9 i0 (.string ⟨#[]⟩) 1 16 Tryz.underlying24 hi hz0 hz1 hz2 rfl (by decide) _ _ _ rfl (hO.out.alloc _) ⟨wr.heap.size,0,none⟩ 1 1 [.string X] rfl rfl ?c1 ?c2 ?c3 ?c4 ?c5 ?_)
     case c1 =>
      intro j u hj
      match j,hj with
      | 0,hj=>simp at hj;subst hj;simp [Addr.add]
     case c2=>intro u hu;simp at hu;subst hu;rfl
     case c3=>have:=HLEN.out;unfold maxLen;omega
     case c4=>have:=HLEN.out;omega
     case c5=>simp;omega
     intro v5 w5 hO5 hg5 _
     have hz5:w.heap.size+1≤w5.heap.size:=by have:=hg5.size;simp at this;omega
     have HO5:=am hO5
     have HB5:=am ((hb.out.alloc hle _).grown hg5 (by simp;omega) (fun j hj=>by have:=own_base hO.out j hj;omega))
     have HX5:=am ((hg5.block w.heap.size (by simp;omega) (fun e=>by have:=own_base hO.out _ e.symm;omega)).trans ((heap_alloc_old wr _ (by omega)).trans hX.out))
     clear hO5 hg5
     go_wp2
     go_roundw
     case rel =>
      refine ⟨k+1,by omega,by go_num,hz5,?_,HX5,HB5⟩
      constructor
      rw [days_true d k X HDAY.out HXX.out,List.length_append,List.map_append]
      exact HO5.out
     case measure=>simp [intOf];omega
   | false =>
     have HDAY:=am hday
     unfold dayB at hday
     go_wp2
     go_roundw
     case rel =>
      refine ⟨k+1,by omega,by go_num,hz,?_,hX,hb⟩
      rw [days_false d k HDAY.out]
      exact hO
     case measure=>simp [intOf];omega
  ·obtain rfl:k=7:=by omega
   have hd12:1≤d∧d≤127:=by
    have:=HR.out
    unfold rightB at this
    simp at this
    omega
   have hpos:=days_some d hd12.1 hd12.2
   have hlen:=days_length d 7
   have hjl:=join_length d
   obtain ⟨DL,hDL⟩:∃ DL,daysL d 7=DL:=⟨_,rfl⟩
   rw [hDL] at hO hpos hlen hjl
   have HDL:=am hDL
   have hO2:=hO.out
   rcases hO2.2 with ⟨_,h0⟩|⟨g,cap,cur,rfl,hg1,hg2,hg3,hg4,hg5,hg6⟩
   ·omega
   ·have hcells:∀ (j:Nat) x,DL[j]?=some x→wr.cell? ⟨g,0+j,none⟩=some (.string x):=by
     intro j x hj
     have:=hO2.cells (g:=g) rfl j (.string x) (by rw [List.getElem?_map,hj];rfl)
     simp only [Addr.add] at this
     split at this<;>simp_all
    have hbk:g<wr.heap.size:=blk_lt hg2
    obtain ⟨J,hJ⟩:∃ J:ByteArray,(⟨(Lib.join (DL.map (·.data.toList)) [44]).toArray⟩:ByteArray)=J:=⟨_,rfl⟩
    have hJs:J.size≤1000:=by rw [← hJ];simpa [ByteArray.size] using hjl
    have hjoin:=Tryz.strings_Join g 0 cap DL ⟨#[44]⟩ wr.drew (fun j x hj=>hcells j x hj) hbk (by omega) hg3 (by rw [show (⟨#[44]⟩:ByteArray).data.toList=[44] from rfl];omega)
    rw [show (⟨#[44]⟩:ByteArray).data.toList=[44] from rfl,hJ] at hjoin
    have HJ:=am hJ
    have HJOIN:=am hjoin
    have hb0:=hb.out
    have hX0:=hX.out
    have hcf:=clock_size HCF.out
    have hct:=clock_size HCT.out
    have l1:¬ 9223372036854775807<J.size+1:=by omega
    have l2:¬ 9223372036854775807<J.size+1+cf.size:=by omega
    have l3:¬ 9223372036854775807<J.size+1+cf.size+1:=by omega
    have l4:¬ 9223372036854775807<J.size+1+cf.size+1+ct.size:=by omega
    have hc2:wr.drew.cell? ⟨w.heap.size,2,none⟩=some (.int .i64 f):=by show wr.cell? _=_;unfold World.cell?;rw [hX0];rfl
    have hc3:wr.drew.cell? ⟨w.heap.size,3,none⟩=some (.int .i64 t):=by show wr.cell? _=_;unfold World.cell?;rw [hX0];rfl
    have hzB:w.heap.size<wr.drew.heap.size:=by show _<wr.heap.size;omega
    have hBB:Below w.heap.size w wr.drew:=below_drew hb0
    have HBB:=am hBB
    have HZB:=am hzB
    clear hO hO2 hX hb hb0 hX0 hjoin hcells hg1 hg2 hg3 hg4 hg5 hg6 hBB hzB hDL hJ hcf hct
    go_upto_region 10 with (fail)
    have hHeld0:=And.intro hc2 hc3
    refine start_ (n:=14) (S:=fun w'=>w'.cell? ⟨w.heap.size,2,none⟩=some (.int .i64 f)∧w'.cell? ⟨w.heap.size,3,none⟩=some (.int .i64 t)) (ds:=[]) #[false,false,false,false,false,false,false,false,false,false,false,false,false,false] (by kernel_rfl) rfl rfl hHeld0 (fun hHeld=>?_)
    refine pure_ (i:=0) (N:=some 26) (v:=?_) (a':=?_) #[true,false,false,false,false,false,false,false,false,false,false,false,false,false] rfl rfl (by kernel_rfl) (fun _ _ _ h=>h) (Or.inl ⟨by rfl,?_⟩) ?_ ?_
    rotate_left
    ·intro w'
     go_simp
     with_reducible rfl
    rotate_left
    ·simp only [nm]
     rfl
    refine pure_ (i:=3) (N:=some 29) (v:=?_) (a':=?_) #[true,false,false,true,false,false,false,false,false,false,false,false,false,false] rfl rfl (by kernel_rfl) (fun _ _ _ h=>h) (Or.inl ⟨by rfl,?_⟩) ?_ ?_
    rotate_left
    ·intro w'
     go_simp
     with_reducible rfl
    rotate_left
    ·simp only [nm]
     rfl
    refine pure_ (i:=8) (N:=some 34) (v:=?_) (a':=?_) #[true,false,false,true,false,false,false,false,true,false,false,false,false,false] rfl rfl (by kernel_rfl) (fun _ _ _ h=>h) (Or.inl ⟨by rfl,?_⟩) ?_ ?_
    rotate_left
    ·intro w'
     go_simp
     with_reducible rfl
    rotate_left
    ·simp only [nm]
     rfl
    refine take_ (i:=4) (N:=some 30) (v:=?_) (a':=?_) #[true,false,false,true,true,false,false,false,true,false,false,false,false,false] rfl rfl (by kernel_rfl) (fun _ _ _ h=>h) (Or.inl ⟨by rfl,?_⟩) hHeld ?_ ?_
    rotate_left
    ·rintro w' ⟨s0,s1⟩
     go_simp
     with_reducible rfl
    rotate_left
    ·simp only [nm]
     rfl
    refine take_ (i:=9) (N:=some 35) (v:=?_) (a':=?_) #[true,false,false,true,true,false,false,false,true,true,false,false,false,false] rfl rfl (by kernel_rfl) (fun _ _ _ h=>h) (Or.inl ⟨by rfl,?_⟩) hHeld ?_ ?_
    rotate_left
    ·rintro w' ⟨s0,s1⟩
     go_simp
     with_reducible rfl
    rotate_left
    ·simp only [nm]
     rfl
    refine one_ (i:=1) (N:=some 27) #[true,true,false,true,true,false,false,false,true,true,false,false,false,false] rfl rfl (by kernel_rfl) (by decide) (fun K hK=>?_)
    refine gv #[.slice (some ⟨g,0,none⟩) DL.length cap,.string ⟨#[44]⟩] ?_
    with_reducible refine (HJOIN.out).mono ?_
    rintro e w' ⟨rfl,hb6⟩
    refine ⟨_,rfl,?_⟩
    have HB1:=bS HBB hb6
    refine hK.out _ _ (held2 hHeld hb6) (fun hHeld=>?_)
    clear hK K
    refine nv 27 ?_
    refine pure_ (i:=2) (N:=some 28) (v:=?_) (a':=?_) #[true,true,true,true,true,false,false,false,true,true,false,false,false,false] rfl rfl (by kernel_rfl) (fun _ _ _ h=>h) (Or.inl ⟨by rfl,?_⟩) ?_ ?_
    rotate_left
    ·intro w'
     go_simp
     with_reducible rfl
    rotate_left
    ·simp only [nm]
     rfl
    refine one_ (i:=5) (N:=some 31) #[true,true,true,true,true,true,false,false,true,true,false,false,false,false] rfl rfl (by kernel_rfl) (by decide) (fun K hK=>?_)
    refine gv #[.int .i64 f] ?_
    with_reducible refine (hours_clock.calls f cf _ HCF.out).mono ?_
    rintro e w' ⟨rfl,hb6⟩
    refine ⟨_,rfl,?_⟩
    have HB2:=bS HB1 hb6
    refine hK.out _ _ (held2 hHeld hb6) (fun hHeld=>?_)
    clear hK K
    refine nv 31 ?_
    refine pure_ (i:=6) (N:=some 32) (v:=?_) (a':=?_) #[true,true,true,true,true,true,true,false,true,true,false,false,false,false] rfl rfl (by kernel_rfl) (fun _ _ _ h=>h) (Or.inl ⟨by rfl,?_⟩) ?_ ?_
    rotate_left
    ·intro w'
     go_simp
     with_reducible rfl
    rotate_left
    ·simp only [nm]
     rfl
    refine pure_ (i:=7) (N:=some 33) (v:=?_) (a':=?_) #[true,true,true,true,true,true,true,true,true,true,false,false,false,false] rfl rfl (by kernel_rfl) (fun _ _ _ h=>h) (Or.inl ⟨by rfl,?_⟩) ?_ ?_
    rotate_left
    ·intro w'
     go_simp
     with_reducible rfl
    rotate_left
    ·simp only [nm]
     rfl
    refine one_ (i:=10) (N:=some 36) #[true,true,true,true,true,true,true,true,true,true,true,false,false,false] rfl rfl (by kernel_rfl) (by decide) (fun K hK=>?_)
    refine gv #[.int .i64 t] ?_
    with_reducible refine (hours_clock.calls t ct _ HCT.out).mono ?_
    rintro e w' ⟨rfl,hb6⟩
    refine ⟨_,rfl,?_⟩
    have HBZ:=bS HB2 hb6
    refine hK.out _ _ (held2 hHeld hb6) (fun hHeld=>?_)
    clear hK K
    refine nv 36 ?_
    refine pure_ (i:=11) (N:=some 37) (v:=?_) (a':=?_) #[true,true,true,true,true,true,true,true,true,true,true,true,false,false] rfl rfl (by kernel_rfl) (fun _ _ _ h=>h) (Or.inl ⟨by rfl,?_⟩) ?_ ?_
    rotate_left
    ·intro w'
     go_simp
     with_reducible rfl
    rotate_left
    ·simp only [nm]
     rfl
    refine pure_ (i:=12) (N:=some 2) (v:=?_) (a':=?_) #[true,true,true,true,true,true,true,true,true,true,true,true,true,false] rfl rfl (by kernel_rfl) (fun _ _ _ h=>h) (Or.inl ⟨by rfl,?_⟩) ?_ ?_
    rotate_left
    ·intro w'
     go_simp
     with_reducible rfl
    rotate_left
    ·simp only [nm]
     rfl
    refine pure_ (i:=13) (N:=some 3) (v:=?_) (a':=?_) #[true,true,true,true,true,true,true,true,true,true,true,true,true,true] rfl rfl (by kernel_rfl) (fun _ _ _ h=>h) (Or.inl ⟨by rfl,?_⟩) ?_ ?_
    rotate_left
    ·intro w'
     go_simp
     with_reducible rfl
    rotate_left
    ·simp only [nm]
     rfl
    refine done_ (by kernel_rfl) ?_
    go_wp2
    go_ret2
    refine ⟨?_,HBZ.out⟩
    rw [HDL.out,HJ.out]
    rfl
def hours_Text.f (a0_0:ByteArray) (a0_1 a0_2 a0_3:Int):Option (ByteArray×Int) :=
 if rightB a0_0 a0_1 a0_2 a0_3=true then (hours_clock.f a0_2).bind fun cf=>(hours_clock.f a0_3).bind fun ct=>some ((⟨(Lib.join ((daysL a0_1 7).map (·.data.toList)) [44]).toArray⟩++⟨#[32]⟩++cf++⟨#[45]⟩++ct),0) else some (⟨#[]⟩,1)
theorem hours_Text.calls (a0_0:ByteArray) (a0_1 a0_2 a0_3:Int) (r0:ByteArray) (r1:Int) (w:World) (h:hours_Text.f a0_0 a0_1 a0_2 a0_3=some (r0,r1)) (hK:KeysIn w) :
 Calls Tryz.prog 138 #[.agg #[.string a0_0,.int .i64 a0_1,.int .i64 a0_2,.int .i64 a0_3]] w fun e w'=>e=.returned (.tuple #[.string r0,.int .i64 r1])∧Below w.heap.size w w':=by
 unfold hours_Text.f at h
 cases hr:rightB a0_0 a0_1 a0_2 a0_3 with
 | false =>
   rw [if_neg (by rw [hr];decide)] at h
   obtain ⟨rfl,rfl⟩:=Prod.mk.inj (Option.some.inj h)
   exact text_wrong a0_0 a0_1 a0_2 a0_3 w hr
 | true =>
   rw [if_pos hr] at h
   cases hcf:hours_clock.f a0_2 with
   | none=>rw [hcf] at h;cases h
   | some cf =>
     cases hct:hours_clock.f a0_3 with
     | none=>rw [hcf,hct] at h;cases h
     | some ct =>
       rw [hcf,hct] at h
       obtain ⟨rfl,rfl⟩:=Prod.mk.inj (Option.some.inj h)
       exact text_right a0_0 a0_1 a0_2 a0_3 cf ct w hr hcf hct hK
def PrB (b:UInt8):Prop:=32≤b.toNat∧b.toNat≤126∧b.toNat≠59
def Pr (s:ByteArray):Prop:=∀ b∈s.data.toList,PrB b
theorem mem_bytesOf {s:ByteArray} {b:UInt8} (h:b∈s.data.toList):(b.toNat:Int)∈bytesOf s:=by
 unfold bytesOf
 exact List.mem_map.2 ⟨b,h,rfl⟩
theorem mem_of_bytes {s:ByteArray} {c:Int} (h:c∈bytesOf s):∃ b∈s.data.toList,c=(b.toNat:Int):=by
 unfold bytesOf at h
 obtain ⟨b,hb,rfl⟩:=List.mem_map.1 h
 exact ⟨b,hb,rfl⟩
theorem pr_any {s:ByteArray} (h:Pr s) (p:Int→Bool) (hp:∀ n:Nat,32≤n→n≤126→n≠59→p (n:Int)=false):(bytesOf s).any p=false:=by
 rw [List.any_eq_false]
 intro c hc
 obtain ⟨b,hb,rfl⟩:=mem_of_bytes hc
 obtain ⟨h1,h2,h3⟩:=h b hb
 rw [hp _ h1 h2 h3]
 exact Bool.false_ne_true
theorem oword_of {s:ByteArray} (h:Pr s) (hs:s.size≤200):owordB s=true:=by
 unfold owordB
 rw [decide_eq_true hs,pr_any h unprB (fun n h1 h2 h3=>by unfold unprB;rw [decide_eq_false (by omega),decide_eq_false (by omega)];rfl)]
 rfl
theorem pr_of_any {s:ByteArray} {p:Int→Bool} (h:(bytesOf s).any p=false) (hp:∀ n:Nat,n<256→p (n:Int)=false→32≤n∧n≤126∧n≠59):Pr s:=by
 intro b hb
 rw [List.any_eq_false] at h
 have:=h _ (mem_bytesOf hb)
 exact hp b.toNat (UInt8.toNat_lt b) (by simpa using this)
theorem pr_app {a b:ByteArray} (ha:Pr a) (hb:Pr b):Pr (a++b):=by
 intro c hc
 rw [ByteArray.data_append,Array.toList_append,List.mem_append] at hc
 exact hc.elim (ha c) (hb c)
theorem pr_lit {l:List UInt8} (h:∀ b∈l,PrB b):Pr ⟨l.toArray⟩:=h
theorem pr_one {c:UInt8} (h:PrB c):Pr ⟨#[c]⟩:=by
 intro b hb
 have:b=c:=by simpa using hb
 rw [this];exact h
theorem pr_nil:Pr ⟨#[]⟩:=by
 intro b hb
 simp at hb
theorem digits_ok:∀ (n u:Nat),u≤n→∀ b∈Lib.decDigits u,48≤b.toNat∧b.toNat≤57:=by
 intro n
 induction n with
 | zero =>
   intro u hu b hb
   rw [Lib.decDigits,dif_pos (by omega)] at hb
   obtain rfl:=List.mem_singleton.1 hb
   rw [UInt8.toNat_ofNat_of_lt' (by show _<256;omega)]
   omega
 | succ n ih =>
   intro u hu b hb
   rw [Lib.decDigits] at hb
   split at hb
   ·obtain rfl:=List.mem_singleton.1 hb
    rw [UInt8.toNat_ofNat_of_lt' (by show _<256;omega)]
    omega
   ·rw [List.mem_append] at hb
    rcases hb with hb|hb
    ·exact ih (u/10) (by omega) b hb
    ·obtain rfl:=List.mem_singleton.1 hb
     rw [UInt8.toNat_ofNat_of_lt' (by show _<256;omega)]
     omega
def numT (n:Int):ByteArray:=⟨(Lib.itoa n).toArray⟩
theorem pr_num (n:Int):Pr (numT n):=by
 refine pr_lit ?_
 intro b hb
 unfold Lib.itoa at hb
 split at hb
 ·rcases List.mem_cons.1 hb with rfl|hb
  ·exact ⟨by decide,by decide,by decide⟩
  ·have:=digits_ok _ _ (Nat.le_refl _) b hb
   exact ⟨by omega,by omega,by omega⟩
 ·have:=digits_ok _ _ (Nat.le_refl _) b hb
  exact ⟨by omega,by omega,by omega⟩
theorem num_size {n:Int} (h0:-9223372036854775808≤n) (h1:n≤9223372036854775807):(numT n).size≤21:=by
 show (Lib.itoa n).toArray.size≤21
 rw [List.size_toArray]
 exact Lib.itoa_length_le n h0 h1
theorem pr_bword {s:ByteArray} (h:bwordB s=true):Pr s:=by
 unfold bwordB at h
 simp only [Bool.and_eq_true,Bool.not_eq_true'] at h
 refine pr_of_any h.2 (fun n hn hp=>?_)
 unfold unsmB at hp
 simp only [Bool.and_eq_false_iff,Bool.or_eq_false_iff,decide_eq_false_iff_not,bne_eq_false_iff_eq] at hp
 omega
theorem pr_word {s:ByteArray} (h:wordB s=true):Pr s:=by
 unfold wordB at h
 simp only [Bool.and_eq_true,Bool.not_eq_true'] at h
 refine pr_of_any h.2 (fun n hn hp=>?_)
 have hd:∀ m:Fin 256,(!plainB ((m.1:Nat):Int))=false→32≤m.1∧m.1≤126∧m.1≠59:=by decide +kernel
 exact hd ⟨n,hn⟩ hp
theorem bt_mem {s:ByteArray} {b:UInt8} (h:b∈s.data.toList):∃ i,i<s.size∧bt s (i:Int)=(b.toNat:Int):=by
 obtain ⟨i,hi,he⟩:=List.getElem_of_mem h
 have hi':i<s.size:=by rw [← data_length];exact hi
 refine ⟨i,hi',?_⟩
 unfold bt
 rw [Int.toNat_natCast,dif_pos hi']
 congr 2
theorem pr_name {s:ByteArray} (h:nameB s=true):Pr s:=by
 unfold nameB at h
 simp only [Bool.and_eq_true] at h
 intro b hb
 obtain ⟨i,hi,he⟩:=bt_mem hb
 have:=(upTo_iff _ _).1 h.1 i hi
 unfold nmAt at this
 rw [he] at this
 unfold letterB at this
 simp only [Bool.or_eq_true,Bool.and_eq_true,decide_eq_true_eq,beq_iff_eq,Bool.not_eq_true',decide_eq_false_iff_not] at this
 have h256:=UInt8.toNat_lt b
 unfold PrB
 omega
theorem pr_join (c:UInt8) (hc:PrB c):∀ (l:List ByteArray),(∀ x∈l,Pr x)→Pr (joinT l ⟨#[c]⟩):=by
 intro l h b hb
 have hb':b∈Lib.join (l.map (·.data.toList)) [c]:=by simpa [joinT] using hb
 unfold Lib.join List.intercalate at hb'
 obtain ⟨y,hy,hby⟩:=List.mem_flatten.1 hb'
 have:∀ (ls:List (List UInt8)),(∀ z∈ls,∀ b∈z,PrB b)→∀ z∈ls.intersperse [c],∀ b∈z,PrB b:=by
  intro ls
  induction ls with
  | nil=>intro _ z hz;simp at hz
  | cons a ls ih =>
    intro hls z hz
    cases ls with
    | nil=>simp at hz;rw [hz];exact hls a List.mem_cons_self
    | cons a2 ls =>
      rw [List.intersperse_cons_cons] at hz
      rcases List.mem_cons.1 hz with rfl|hz
      ·exact hls _ List.mem_cons_self
      ·rcases List.mem_cons.1 hz with rfl|hz
       ·intro b hb;obtain rfl:=List.mem_singleton.1 hb;exact hc
       ·exact ih (fun z hz=>hls z (List.mem_cons_of_mem _ hz)) z hz
 exact this _ (fun z hz b hb=>by obtain ⟨x,hx,rfl⟩:=List.mem_map.1 hz;exact h x hx b hb) y hy b hby
theorem pr_mtext {x:S108} (h:matchB x=true):Pr (mtextB x):=by
 have hn:nameB x.f0=true:=by
  unfold matchB at h
  simp only [Bool.and_eq_true] at h
  have h2:=h.2.1.1.2
  unfold setB at h2
  simp only [Bool.and_eq_true] at h2
  have h3:setAt [⟨x.f0,⟨#[120]⟩⟩] 0=true:=(upTo_iff _ _).1 h2.1 0 (by simp)
  unfold setAt lmayB lab at h3
  simp only [Bool.and_eq_true] at h3
  exact h3.1.1
 have hw:∀ w∈x.f2,Pr w:=by
  intro w hw
  obtain ⟨i,hi,he⟩:=List.getElem_of_mem hw
  unfold matchB at h
  simp only [Bool.and_eq_true] at h
  have:=(upTo_iff _ _).1 h.1 i hi
  unfold mwAt at this
  simp only [Bool.and_eq_true] at this
  have e:wd x.f2 i=w:=by unfold wd;rw [List.getD_eq_getElem?_getD,List.getElem?_eq_getElem hi];exact he
  rw [e] at this
  exact pr_word this.1
 have hs:Pr (signOf x.f1):=by
  unfold signOf
  have:∀ l:List UInt8,(∀ b∈l,PrB b)→Pr ⟨l.toArray⟩:=fun l h=>pr_lit h
  split
  ·exact pr_one ⟨by decide,by decide,by decide⟩
  split
  ·refine this [33,61] ?_;intro b hb;simp at hb;rcases hb with rfl|rfl<;>exact ⟨by decide,by decide,by decide⟩
  split
  ·refine this [61,126] ?_;intro b hb;simp at hb;rcases hb with rfl|rfl<;>exact ⟨by decide,by decide,by decide⟩
  split
  ·refine this [33,126] ?_;intro b hb;simp at hb;rcases hb with rfl|rfl<;>exact ⟨by decide,by decide,by decide⟩
  ·exact pr_nil
 have h34:Pr ⟨#[34]⟩:=pr_one ⟨by decide,by decide,by decide⟩
 unfold mtextB
 exact pr_app (pr_app (pr_app (pr_app (pr_name hn) hs) h34) (pr_join 124 ⟨by decide,by decide,by decide⟩ _ hw)) h34
def clockOk (n:Nat):Bool:=match hours_clock.f (n:Int) with
 | some r=>r.size == 5 && r.data.toList.all (fun b=>decide (48≤b.toNat) && decide (b.toNat≤58))
 | none=>false
theorem clock_ok:∀ n:Fin 1441,clockOk n.1=true:=by decide +kernel
theorem clock_some {n:Int} (h0:0≤n) (h1:n≤1440):∃ r,hours_clock.f n=some r∧r.size=5∧∀ b∈r.data.toList,48≤b.toNat∧b.toNat≤58:=by
 obtain ⟨m,rfl⟩:∃ m:Nat,n=(m:Int):=⟨n.toNat,by omega⟩
 have h:=clock_ok ⟨m,by omega⟩
 unfold clockOk at h
 cases hc:hours_clock.f (m:Int) with
 | none=>simp only [hc] at h;cases h
 | some r =>
   simp only [hc,Bool.and_eq_true,beq_iff_eq,List.all_eq_true,decide_eq_true_eq] at h
   exact ⟨r,rfl,h.1,h.2⟩
theorem day_ok:∀ i:Fin 7,(namesL.getD i.1 ByteArray.empty).size=3∧∀ b∈(namesL.getD i.1 ByteArray.empty).data.toList,97≤b.toNat∧b.toNat≤122:=by decide +kernel
theorem day_of {d:Int} {x:ByteArray} (h:x∈daysL d 7):x.size=3∧∀ b∈x.data.toList,97≤b.toNat∧b.toNat≤122:=by
 unfold daysL at h
 obtain ⟨i,hi,rfl⟩:=List.mem_map.1 h
 have:=List.mem_range.1 (List.mem_filter.1 hi).1
 exact day_ok ⟨i,this⟩
def htextB (d f t:Int) (cf ct:ByteArray):ByteArray:=joinT (daysL d 7) ⟨#[44]⟩++⟨#[32]⟩++cf++⟨#[45]⟩++ct
theorem htext_some {nm:ByteArray} {d f t:Int} (h:rightB nm d f t=true):∃ cf ct,hours_Text.f nm d f t=some (htextB d f t cf ct,0)∧cf.size=5∧ct.size=5∧(∀ b∈cf.data.toList,48≤b.toNat∧b.toNat≤58)∧(∀ b∈ct.data.toList,48≤b.toNat∧b.toNat≤58):=by
 have hr:=h
 unfold rightB at h
 simp only [Bool.and_eq_true,decide_eq_true_eq] at h
 obtain ⟨cf,h1,h2,h3⟩:=clock_some (n:=f) (by omega) (by omega)
 obtain ⟨ct,h4,h5,h6⟩:=clock_some (n:=t) (by omega) (by omega)
 refine ⟨cf,ct,?_,h2,h5,h3,h6⟩
 unfold hours_Text.f
 rw [if_pos hr,h1,h4]
 rfl
theorem htext_pr {d f t:Int} {cf ct:ByteArray} (h1:cf.size=5) (h2:ct.size=5) (h3:∀ b∈cf.data.toList,48≤b.toNat∧b.toNat≤58) (h4:∀ b∈ct.data.toList,48≤b.toNat∧b.toNat≤58):Pr (htextB d f t cf ct)∧(htextB d f t cf ct).size≤200:=by
 constructor
 ·unfold htextB
  refine pr_app (pr_app (pr_app (pr_app (pr_join 44 ⟨by decide,by decide,by decide⟩ _ (fun x hx b hb=>?_)) (pr_one ⟨by decide,by decide,by decide⟩)) (fun b hb=>?_)) (pr_one ⟨by decide,by decide,by decide⟩)) (fun b hb=>?_)
  ·have:=(day_of hx).2 b hb;exact ⟨by omega,by omega,by omega⟩
  ·have:=h3 b hb;exact ⟨by omega,by omega,by omega⟩
  ·have:=h4 b hb;exact ⟨by omega,by omega,by omega⟩
 ·have hj:=joinT_size 44 (daysL d 7) 3 (fun i hi=>by
   have hm:wd (daysL d 7) i∈daysL d 7:=by unfold wd;rw [List.getD_eq_getElem?_getD,List.getElem?_eq_getElem hi];exact List.getElem_mem hi
   have:=(day_of hm).1
   omega)
  have hl:=days_length d 7
  have h7:(daysL d 7).length*(1+3)≤7*(1+3):=Nat.mul_le_mul_right _ hl
  unfold htextB
  simp only [ByteArray.size_append,h1,h2]
  show (joinT (daysL d 7) ⟨#[44]⟩).size+1+5+1+5≤200
  omega
def addL (out l:List ByteArray):List ByteArray:=l.foldl (fun o x=>if Lib.containsS o x=true then o else o++[x]) out
def gatherL (f:S27→List ByteArray):Nat→S27→List ByteArray→List ByteArray
 | 0,_,out=>out
 | k+1,x,out=>x.f8.foldl (fun o y=>gatherL f k y o) (addL out (f x))
def ODep (f:S27→List ByteArray):Nat→S27→Prop
 | 0,_=>False
 | k+1,x=>(f x).length≤8∧x.f8.length≤16∧∀ y∈x.f8,ODep f k y
theorem fold_take {α β:Type} (f:β→α→β) (a:β) (l:List α) (d:α) (i:Nat) (h:i<l.length):(l.take (i+1)).foldl f a=f ((l.take i).foldl f a) (l.getD i d):=by
 rw [List.take_succ_eq_append_getElem h,List.foldl_append,List.getD_eq_getElem?_getD,List.getElem?_eq_getElem h]
 rfl
theorem addL_len:∀ (l out:List ByteArray),(addL out l).length≤out.length+l.length
 | [],out=>Nat.le_refl _
 | x::l,out=>by
   have h:=addL_len l (if Lib.containsS out x=true then out else out++[x])
   have h2:(if Lib.containsS out x=true then out else out++[x]).length≤out.length+1:=by split<;>simp
   show (addL (if Lib.containsS out x=true then out else out++[x]) l).length≤_
   rw [List.length_cons]
   omega
theorem foldl_len {α:Type} (f:List ByteArray→α→List ByteArray) (m:Nat):∀ (l:List α) (out:List ByteArray),(∀ y∈l,∀ o,(f o y).length≤o.length+m)→(l.foldl f out).length≤out.length+l.length*m
 | [],out,_=>by simp
 | y::l,out,h=>by
   have h1:=foldl_len f m l (f out y) (fun z hz=>h z (List.mem_cons_of_mem _ hz))
   have h2:=h y List.mem_cons_self out
   rw [List.foldl_cons,List.length_cons,Nat.succ_mul]
   omega
theorem gather_len (f:S27→List ByteArray):∀ (k:Nat) (x:S27) (out:List ByteArray),ODep f k x→(gatherL f k x out).length≤out.length+8*17 ^ k
 | 0,x,out,h=>h.elim
 | k+1,x,out,h=>by
   have h1:=foldl_len (fun o y=>gatherL f k y o) (8*17 ^ k) x.f8 (addL out (f x)) (fun y hy o=>gather_len f k y o (h.2.2 y hy))
   have h2:=addL_len (f x) out
   have h3:x.f8.length*(8*17 ^ k)≤16*(8*17 ^ k):=Nat.mul_le_mul_right _ h.2.1
   have h4:1≤17 ^ k:=Nat.one_le_pow _ _ (by omega)
   have h5:=h.1
   show (x.f8.foldl (fun o y=>gatherL f k y o) (addL out (f x))).length≤_
   rw [Nat.pow_succ]
   omega
def GInv (F:Nat) (W0 W:World) (gf gt gw:Nat) (v:Value) (xs:List ByteArray):Prop :=
 W0.heap.size≤gf∧W0.heap.size≤gt∧W0.heap.size≤gw∧W.heap[gf]?=some (.cells #[.func (.func F) #[] #[]] 116 (0,0))∧W.heap[gw]?=some (.cells #[.func (.func 137) #[] #[.pointer (some ⟨gf,0,none⟩),.pointer (some ⟨gt,0,none⟩),.pointer (some ⟨gw,0,none⟩)]] 177 (0,0)) ∧
 W.heap[gt]?=some (.cells #[v] 24 (0,0))∧Kd.R Kd.string 9 W W0.heap.size (fun _=>True) v xs∧Below W0.heap.size W0 W
theorem GInv.below {F gf gt gw:Nat} {W0 W W1:World} {v:Value} {xs:List ByteArray} (h:GInv F W0 W gf gt gw v xs) (hb:Below W.heap.size W W1):GInv F W0 W1 gf gt gw v xs:=by
 obtain ⟨h1,h2,h3,h4,h5,h6,h7,h8⟩:=h
 exact ⟨h1,h2,h3,blk_below h4 hb,blk_below h5 hb,blk_below h6 hb,Kd.R_below h7 hb,below_step h8 hb⟩
theorem GInv.own {F gf gt gw:Nat} {W0 W:World} {v:Value} {xs:List ByteArray} (h:GInv F W0 W gf gt gw v xs):∃ A c,v=.slice A xs.length c∧xs.length≤c∧Kd.C Kd.string W A xs.length xs:=Kd.R_reads h.2.2.2.2.2.2.1
theorem GInv.put {F gf gt gw:Nat} {W0 W w1:World} {v v1:Value} {xs ys:List ByteArray} (h:GInv F W0 W gf gt gw v xs) (ho:Kd.R Kd.string 9 w1 W0.heap.size (fun _=>True) v1 ys) (hb:Below W0.heap.size W0 w1) (hg:W.grownBy w1 v.ownBlock):GInv F W0 (w1.setCell ⟨gt,0,none⟩ v1) gf gt gw v1 ys:=by
 obtain ⟨h1,h2,h3,h4,h5,h6,h7,h8⟩:=h
 have k4:=blk_grown h4 hg (Kd.R_ne h7 h4 (by decide))
 have k5:=blk_grown h5 hg (Kd.R_ne h7 h5 (by decide))
 have k6:=blk_grown h6 hg (Kd.R_ne h7 h6 (by decide))
 exact ⟨h1,h2,h3,blk_far k4 (blk_ne k4 k6 (by decide)) _,blk_far k5 (blk_ne k5 k6 (by decide)) _,blk_set k6 0 v1,Kd.R_set ho k6 (by decide) 0 v1,below_set hb h2⟩
theorem GInv.kept {F gf gt gw:Nat} {W0 W w1:World} {v v1:Value} {xs:List ByteArray} (h:GInv F W0 W gf gt gw v xs) (hg:W.grownBy w1 v.ownBlock):Kept W (w1.setCell ⟨gt,0,none⟩ v1) (fun k=>k=gt∨v.ownBlock=some k) :=
 Kept.setCell (Kept.of_grown (S:=fun k=>k=gt∨v.ownBlock=some k) hg (Kept.refl _ _) (fun k hk=>.inl (.inr hk))) (.inl (.inl rfl)) v1
theorem GInv.apart {F gf gt gw b:Nat} {W0 W:World} {v:Value} {xs:List ByteArray} (h:GInv F W0 W gf gt gw v xs) (hb:b<W0.heap.size∨W.heap.size≤b):¬ (b=gt∨v.ownBlock=some b):=by
 obtain ⟨h1,h2,h3,h4,h5,h6,h7,h8⟩:=h
 obtain ⟨inner,ho⟩:=Kd.R_own h7
 have k6:=blk_lt h6
 rintro (rfl|e)
 ·omega
 ·have q1:=own_base ho b e
  have q2:=own_lt ho b e
  omega
theorem kept_next {w2 w4 W3:World} {gt:Nat} {v v2:Value} (h1:Kept w2 w4 (fun k=>k=gt∨v.ownBlock=some k)) (hv:v2.ownBlock=v.ownBlock∨∃ b,v2.ownBlock=some b∧w2.heap.size≤b) (h2:Kept w4 W3 (fun k=>k=gt∨v2.ownBlock=some k)):Kept w2 W3 (fun k=>k=gt∨v.ownBlock=some k) :=
 h1.then_ h2 (fun k hk=>by
  rcases hk with e|e
  ·exact .inl (.inl e)
  ·rcases hv with h|⟨b,h,hb⟩
   ·exact .inl (.inr (h ▸ e))
   ·rw [h] at e
    injection e with e
    exact .inr (e ▸ hb))
theorem own_next {w2 w4:World} {S:Nat→Prop} {v v1 v2:Value} (hv:v2.ownBlock=v.ownBlock∨∃ b,v2.ownBlock=some b∧w2.heap.size≤b) (hk:Kept w2 w4 S) (hat:v1.ownBlock=v2.ownBlock∨∃ b,v1.ownBlock=some b∧w4.heap.size≤b):v1.ownBlock=v.ownBlock∨∃ b,v1.ownBlock=some b∧w2.heap.size≤b:=by
 rcases hat with h|⟨b,h,hb⟩
 ·rw [h];exact hv
 ·exact .inr ⟨b,h,Nat.le_trans hk.1 hb⟩
def OfAt (F:Nat) (f:S27→List ByteArray) (W0:World):Prop:=∀ (y:S27) (cs:List Value) (W:World),k27.K W0 y cs→Below W0.heap.size W0 W→Calls Tryz.prog F (#[.agg cs.toArray]++#[]) W fun e W'=>(∃ A c,e=.returned (.slice A (f y).length c)∧Kd.C Kd.string W' A (f y).length (f y)∧∀ ad,A=some ad→0<(f y).length→ad.block<W0.heap.size∨W.heap.size≤ad.block)∧Below W.heap.size W W'
def WalkAt (F:Nat) (f:S27→List ByteArray) (W0:World) (gf gt gw:Nat) (k:Nat):Prop:=∀ (x:S27) (W:World) (cs:List Value) (v:Value) (out:List ByteArray),ODep f k x→k27.K W0 x cs→out.length+8*17 ^ k≤100000000→GInv F W0 W gf gt gw v out→Calls Tryz.prog 137 (#[.agg cs.toArray]++#[.pointer (some ⟨gf,0,none⟩),.pointer (some ⟨gt,0,none⟩),.pointer (some ⟨gw,0,none⟩)]) W fun e W'=>e=.returned (.tuple #[])∧∃ v',GInv F W0 W' gf gt gw v' (gatherL f k x out)
theorem conts_any (A:Option Addr) (c:Nat) (xs:List ByteArray) (x:ByteArray) (W:World) (hc:Kd.C Kd.string W A xs.length xs) (hl:xs.length≤c):Calls Tryz.prog 33 #[.slice A xs.length c,.string x] W fun e w'=>e=.returned (.bool (Lib.containsS xs x))∧Below W.heap.size W w' :=
 slices_Contains.calls A c xs x _ W hc hl rfl
theorem walk_step (F : Nat) (fn : Func) (f : S27 → List ByteArray) (W0 : World) (gf gt gw k : Nat) (hF : Tryz.prog.funcs[F]? = some fn ∧ (fn.name == "runtime.NumGoroutine") = false ∧ fn.body.isSome = true) (hof : OfAt F f W0) (hk : WalkAt F f W0 gf gt gw k) : WalkAt F f W0 gf gt gw (k + 1) := by
 intro x W cs v out hs h hlen hinv
 have hcall:=fun W2 (hb:Below W0.heap.size W0 W2)=>hof x cs W2 h hb
 obtain ⟨A1,c1,A2,c2,A6,c6,A8,c8,rfl,l1,g1,l2,g2,l6,g6,l8,g8⟩:=k27_open h
 obtain ⟨hn8,hs16,hs8⟩:=hs
 show Calls Tryz.prog 137 #[.agg #[.string x.f0,.slice A1 x.f1.length c1,.slice A2 x.f2.length c2,.int .i64 x.f3,.int .i64 x.f4,.int .i64 x.f5,.slice A6 x.f6.length c6,.bool x.f7,.slice A8 x.f8.length c8],.pointer (some ⟨gf,0,none⟩),.pointer (some ⟨gt,0,none⟩),.pointer (some ⟨gw,0,none⟩)] W fun e W'=>e=.returned (.tuple #[])∧∃ v',GInv F W0 W' gf gt gw v' (x.f8.foldl (fun o y=>gatherL f k y o) (addL out (f x)))
 have HF:=am hF
 have HO:=am hcall
 have HR:=am g8
 have HS8:=am hs8
 have HI0:=am hinv
 have m8:x.f8.length≤16:=hs16
 have HN8:Aside0 ((f x).length≤8):=⟨hn8⟩
 obtain ⟨p,hp⟩:∃ p,p=17 ^ k:=⟨_,rfl⟩
 have hlen':out.length+8*(p*17)≤100000000:=by rw [hp,← Nat.pow_succ];exact hlen
 have hp1:1≤p:=by rw [hp];exact Nat.one_le_pow _ _ (by omega)
 have hk:∀ (x:S27) (W:World) (cs:List Value) (v:Value) (out:List ByteArray),ODep f k x→k27.K W0 x cs→out.length+8*p≤100000000→GInv F W0 W gf gt gw v out→Calls Tryz.prog 137 (#[.agg cs.toArray]++#[.pointer (some ⟨gf,0,none⟩),.pointer (some ⟨gt,0,none⟩),.pointer (some ⟨gw,0,none⟩)]) W fun e W'=>e=.returned (.tuple #[])∧∃ v',GInv F W0 W' gf gt gw v' (gatherL f k x out):=by rw [hp];exact hk
 have hgl:∀ (x:S27) (o:List ByteArray),ODep f k x→(gatherL f k x o).length≤o.length+8*p:=by rw [hp];exact gather_len f k
 have HGL:=am hgl
 have HP1:=am hp1
 have HLEN:=am hlen'
 have HK:=am hk
 clear hp hgl hp1 hlen'
 clear h hs16 hs8 hk hF hof hcall hinv hn8 hlen g1 g2 g6 g8
 go_in
 have HC:=am (fun W2 (hb:Below W0.heap.size W0 W2)=>HO.out W2 hb)
 clear HO
 go_wp2_with (first|((with_reducible refine bv 4 #[.string x.f0,.slice A1 x.f1.length c1,.slice A2 x.f2.length c2,.int .i64 x.f3,.int .i64 x.f4,.int .i64 x.f5,.slice A6 x.f6.length c6,.bool x.f7,.slice A8 x.f8.length c8] 27 ?_);intro gb hgb w1 hbox hb;obtain ⟨y0,y1,y2,y3,y4,y5,y6,y7,y8⟩:=cc9 hbox;have HI1:=am (HI0.out.below hb);have yf:w1.cell? ⟨gf,0,none⟩=some (.func (.func F) #[] #[]):=(blk_cell HI1.out.2.2.2.1 0).trans rfl;have HX1:=am hbox;have HB1:=am hb;have HGHX1:=am hgb;clear hb hbox hgb)|((with_reducible refine gate_dst (N:=11) rfl ?_);go_must (refine gV 11 HF.out.1 HF.out.2.1 HF.out.2.2 #[.agg #[.string x.f0,.slice A1 x.f1.length c1,.slice A2 x.f2.length c2,.int .i64 x.f3,.int .i64 x.f4,.int .i64 x.f5,.slice A6 x.f6.length c6,.bool x.f7,.slice A8 x.f8.length c8]] ?_);refine (HC.out _ HI1.out.2.2.2.2.2.2.2).mono ?_;rintro e w2 ⟨⟨A,c,rfl,hC,hap⟩,hb⟩;refine ⟨_,rfl,?_⟩;have HC2:=am hC;have HAP:=am hap;have HI2:=am (HI1.out.below hb);have HX2:=bB HX1 hb;clear hC hap hb))
 have HCL:=am (Kd.C_foot_neS (S:=(fun k=>k=gt∨v.ownBlock=some k)) (fun h=>h) HC2.out (fun ad e hn=>HI1.out.apart (HAP.out ad e hn)))
 have HXN:Aside0 (¬ (gb=gt∨v.ownBlock=some gb)):=⟨fun h=>h.elim (blk_ne HX1.out HI1.out.2.2.2.2.2.1 (by decide)) (fun e=>Kd.R_ne HI1.out.2.2.2.2.2.2.1 HX1.out (by decide) e.symm)⟩
 clear y0 y1 y2 y3 y4 y5 y6 y7 y8 yf HX1 HI1 HC2 HAP HC
 have m1:((f x).length:Int)≤9223372036854775807:=by have:=HN8.out;omega
 go_loopw [13] (fun u wr=>∃ (i:Nat) (v2:Value),u=.int .i64 i∧Aside0 (i≤(f x).length)∧Aside0 (GInv F W0 wr gf gt gw v2 (addL out ((f x).take i)))∧Aside0 (v2.ownBlock=v.ownBlock∨∃ b,v2.ownBlock=some b∧w2.heap.size≤b)∧Aside0 (Kept w2 wr (fun k=>k=gt∨v.ownBlock=some k))) (fun u _=>(f x).length-(intOf u).toNat)
 case atStart=>exact ⟨0,v,rfl,⟨Nat.zero_le _⟩,HI2,⟨.inl rfl⟩,⟨Kept.refl _ _⟩⟩
 case round =>
  obtain ⟨i,v2,rfl,HI,HG,HV,HKP⟩:=hrel
  by_cases hlt:i<(f x).length
  ·obtain ⟨ad,e,hc0⟩:=Kd.at_string (HCL.out wr HKP.out) i (by omega) (by omega)
   cases e
   rw [rd_wd,Int.toNat_natCast] at hc0
   have b1:decide ((i:Int)<((f x).length:Int))=true:=decide_eq_true (by omega)
   have hw1:wrap64 ((i:Int)+1)=((i+1:Nat):Int):=by unfold wrap64;omega
   obtain ⟨A2,c2,rfl,hl2,hC2⟩:=HG.out.own
   have yt:wr.cell? ⟨gt,0,none⟩=some (.slice A2 (addL out ((f x).take i)).length c2):=(blk_cell HG.out.2.2.2.2.2.1 0).trans rfl
   have hst:addL out ((f x).take (i+1))=if Lib.containsS (addL out ((f x).take i)) (wd (f x) i)=true then addL out ((f x).take i) else addL out ((f x).take i)++[wd (f x) i]:=fold_take _ _ _ _ _ hlt
   have hyl:(addL out ((f x).take i)).length≤100000008:=by
    have h5:out.length≤100000000:=Nat.le_trans (Nat.le_add_right _ _) HLEN.out
    have h6:((f x).take i).length≤8:=Nat.le_trans (List.length_take_le _ _) (Nat.le_trans (Nat.le_of_lt hlt) HN8.out)
    exact Nat.le_trans (addL_len ((f x).take i) out) (Nat.add_le_add h5 h6)
   generalize addL out ((f x).take i)=ys at *
   generalize wd (f x) i=s at *
   have hcon:=conts_any A2 c2 ys s wr hC2 hl2
   rcases e1:Lib.containsS ys s with _|_
   ·rw [e1] at hcon
    rw [if_neg (by rw [e1];simp)] at hst
    obtain ⟨ys1,hy1⟩:∃ l,l=ys++[s]:=⟨_,rfl⟩
    rw [← hy1] at hst
    have HY1:=am hy1
    have HCON:=am hcon
    have HST:=am hst
    have HYL:=am hyl
    have HW1:=am hw1
    have HLT:=am hlt
    clear hcon hst hyl hw1 e1 hC2 hl2 hy1
    go_wp2_with (first|(go_at_call 33;refine HCON.out.mono ?_;rintro e w4 ⟨rfl,hb⟩;have HG4:=am (HG.out.below hb);have HK4:=am (HKP.out.below hb);have y4:w4.cell? ⟨gt,0,none⟩=some (.slice A2 ys.length c2):=(blk_cell HG4.out.2.2.2.2.2.1 0).trans rfl;clear hb)|((with_reducible refine gate_builtin (b:=.append) (xs:=#[.tmp 21,.tmp 23]) rfl ?_);at_builtin;go_loud (refine Kd.R_append Kd.string (w0:=W0) W0.heap.size rfl (.tmp 21) (.tmp 23) 24 9 (.string (⟨#[]⟩:ByteArray)) 16 rfl Tryz.underlying24 (by kernel_rfl) rfl (by decide) (by omega) (.slice A2 ys.length c2) ys s [.string s] (fun _=>True) (fun _=>False) rfl (by first|rfl|(go_simp;done)|(go_simp;rfl)) ?aP ?aK ?aF ?aO ?aB ?aS ?aL ?_);(case aP=>exact rfl);(case aK=>exact fun _ hk=>hk.elim);(case aF=>exact fun _ _=>trivial);(case aO=>exact HG4.out.2.2.2.2.2.2.1);(case aB=>exact HG4.out.2.2.2.2.2.2.2);(case aS=>exact HG4.out.2.2.2.2.2.2.2.size);(case aL=>have:=HYL.out;omega);intro v1 wa ho hb hg hat;rw [← HY1.out] at ho;obtain ⟨Av,cv,rfl⟩:=Kd.R_slice ho;have HG5:=am (HG4.out.put ho hb hg);have x5:=blk_grown HG4.out.2.2.2.2.2.1 hg (Kd.R_ne HG4.out.2.2.2.2.2.2.1 HG4.out.2.2.2.2.2.1 (by decide));have y5:wa.cell? ⟨gt,0,none⟩=some (.slice A2 ys.length c2):=bz x5 0 rfl;have f5:=blk_frozen x5 0;have HV5:=am (own_next HV.out HK4.out hat);have HK5:=am (kept_next HK4.out HV.out (HG4.out.kept (v1:=.slice Av ys1.length cv) hg));clear ho hb hg hat x5))
    go_roundw
    case rel=>exact ⟨i+1,_,by first|exact congrArg (Value.int .i64) HW1.out|rfl,⟨HLT.out⟩,⟨by rw [HST.out];exact HG5.out⟩,HV5,HK5⟩
    case measure=>first|exact meas_wrap rfl HLT.out HW1.out|exact meas_plain HLT.out
   ·rw [e1] at hcon
    rw [if_pos e1] at hst
    have HCON:=am hcon
    have HST:=am hst
    have HW1:=am hw1
    have HLT:=am hlt
    clear hcon hst hyl hw1 e1 hC2 hl2
    go_wp2_with (go_at_call 33;refine HCON.out.mono ?_;rintro e w4 ⟨rfl,hb⟩;have HG4:=am (HG.out.below hb);have HK4:=am (HKP.out.below hb);have y4:w4.cell? ⟨gt,0,none⟩=some (.slice A2 ys.length c2):=(blk_cell HG4.out.2.2.2.2.2.1 0).trans rfl;clear hb)
    go_roundw
    case rel=>exact ⟨i+1,_,by first|exact congrArg (Value.int .i64) HW1.out|rfl,⟨HLT.out⟩,⟨by rw [HST.out];exact HG4.out⟩,HV,HK4⟩
    case measure=>first|exact meas_wrap rfl HLT.out HW1.out|exact meas_plain HLT.out
  ·obtain rfl:i=(f x).length:=by have:=HI.out;omega
   have b1:decide (((f x).length:Int)<((f x).length:Int))=false:=decide_eq_false (by omega)
   have y8:wr.cell? ⟨gb,8,none⟩=some (.slice A8 x.f8.length c8):=(blk_cell (blk_kept HX2.out HKP.out HXN.out) 8).trans rfl
   have hg:=HG.out
   rw [List.take_length] at hg
   have HG2:=am hg
   have HLA:Aside0 ((addL out (f x)).length≤out.length+8):=⟨Nat.le_trans (addL_len (f x) out) (Nat.add_le_add_left HN8.out _)⟩
   clear hg HG HCL HX2 HI2
   obtain ⟨o1,ho1⟩:∃ l,l=addL out (f x):=⟨_,rfl⟩
   have hg2:=HG2.out
   have hla:=HLA.out
   rw [← ho1] at hg2 hla
   clear HG2 HLA
   have HG2:=am hg2
   have HLA:=am hla
   have HO1:=am ho1
   clear hg2 hla ho1
   go_wp2
   go_loopw [29] (fun u wr=>∃ (i:Nat) (v3:Value),u=.int .i64 i∧Aside0 (i≤x.f8.length)∧Aside0 (GInv F W0 wr gf gt gw v3 ((x.f8.take i).foldl (fun o y=>gatherL f k y o) o1))) (fun u _=>x.f8.length-(intOf u).toNat)
   case atStart=>exact ⟨0,v2,rfl,⟨Nat.zero_le _⟩,HG2⟩
   case round =>
    obtain ⟨i,v3,rfl,HI,HG⟩:=hrel
    clear y8 HG2 HKP
    by_cases hlt:i<x.f8.length
    ·obtain ⟨ad,B1,d1,B2,d2,B6,d6,B8,d8,e,hx0,hx1,hx2,hx3,hx4,hx5,hx6,hx7,hx8,hl1,hg1,hl2,hg2,hl6,hg6,hl8,hg8⟩:=at_T27 HR.out (i:Int) (by omega) (by omega)
     cases e
     simp only [Int.toNat_natCast] at hx0 hx1 hx2 hx3 hx4 hx5 hx6 hx7 hx8
     have b1:decide ((i:Int)<(x.f8.length:Int))=true:=decide_eq_true (by omega)
     have hw1:wrap64 ((i:Int)+1)=((i+1:Nat):Int):=by unfold wrap64;omega
     have hmem:rd_T27 x.f8 (i:Int)∈x.f8:=by
      unfold rd_T27
      rw [Int.toNat_natCast,List.getD_eq_getElem?_getD,List.getElem?_eq_getElem hlt]
      exact List.getElem_mem hlt
     have hst:(x.f8.take (i+1)).foldl (fun o y=>gatherL f k y o) o1=gatherL f k (rd_T27 x.f8 (i:Int)) ((x.f8.take i).foldl (fun o y=>gatherL f k y o) o1):=by
      have:=fold_take (fun o y=>gatherL f k y o) o1 x.f8 z27 i hlt
      unfold rd_T27
      rw [Int.toNat_natCast]
      exact this
     have hdep:=HS8.out _ hmem
     have hpl:((x.f8.take i).foldl (fun o y=>gatherL f k y o) o1).length+8*p≤100000000:=by
      have h1:=foldl_len (fun o y=>gatherL f k y o) (8*p) (x.f8.take i) o1 (fun y hy o=>HGL.out y o (HS8.out y (List.mem_of_mem_take hy)))
      have h2:(x.f8.take i).length+1≤16:=Nat.le_trans (Nat.succ_le_succ (List.length_take_le i x.f8)) (Nat.le_trans hlt m8)
      have h3:((x.f8.take i).length+1)*(8*p)≤16*(8*p):=Nat.mul_le_mul_right _ h2
      have h4:=HP1.out
      have h5:=HLEN.out
      have h6:=HLA.out
      rw [Nat.add_mul,Nat.one_mul] at h3
      clear hst hdep hmem
      generalize ((x.f8.take i).foldl (fun o y=>gatherL f k y o) o1).length=u1 at *
      generalize (x.f8.take i).length=u2 at *
      generalize u2*(8*p)=u3 at *
      omega
     have hB:=HG.out.2.2.2.2.2.2.2
     replace hx0:=(hB.cell (World.block_lt_of_cell? W0 _ hx0)).trans hx0
     replace hx1:=(hB.cell (World.block_lt_of_cell? W0 _ hx1)).trans hx1
     replace hx2:=(hB.cell (World.block_lt_of_cell? W0 _ hx2)).trans hx2
     replace hx3:=(hB.cell (World.block_lt_of_cell? W0 _ hx3)).trans hx3
     replace hx4:=(hB.cell (World.block_lt_of_cell? W0 _ hx4)).trans hx4
     replace hx5:=(hB.cell (World.block_lt_of_cell? W0 _ hx5)).trans hx5
     replace hx6:=(hB.cell (World.block_lt_of_cell? W0 _ hx6)).trans hx6
     replace hx7:=(hB.cell (World.block_lt_of_cell? W0 _ hx7)).trans hx7
     replace hx8:=(hB.cell (World.block_lt_of_cell? W0 _ hx8)).trans hx8
     generalize rd_T27 x.f8 (i:Int)=y at *
     generalize (x.f8.take i).foldl (fun o y=>gatherL f k y o) o1=ys at *
     have hcall:=fun W2 (hb:Below wr.heap.size wr W2)=>HK.out y W2 _ v3 ys hdep (k27_mk W0 y hl1 hg1 hl2 hg2 hl6 hg6 hl8 hg8) hpl (HG.out.below hb)
     have HST:=am hst
     have HW1:=am hw1
     have HLT:=am hlt
     have HC:=am hcall
     have HB:=am hB
     clear hst hw1 hcall hmem hdep hpl hB hg1 hg2 hg6 hg8
     go_upto_region 10 with (((with_reducible refine bv 8 #[.string (⟨#[]⟩:ByteArray),.slice none 0 0,.slice none 0 0,.int .i64 0,.int .i64 0,.int .i64 0,.slice none 0 0,.bool false,.slice none 0 0] 27 ?_);intro gk hgb w2 hbox hb;obtain ⟨y0,y1,y2,y3,y4,y5,y6,y7,y8⟩:=cc9 hbox;have z0:=blk_frozen hbox 0;have z1:=blk_frozen hbox 1;have z2:=blk_frozen hbox 2;have z3:=blk_frozen hbox 3;have z4:=blk_frozen hbox 4;have z5:=blk_frozen hbox 5;have z6:=blk_frozen hbox 6;have z7:=blk_frozen hbox 7;have z8:=blk_frozen hbox 8;have HX2:=am hbox;have HB2:=am hb;have HG2:=am hgb;clear hb hbox hgb))
     obtain ⟨W2,hW2⟩:∃ W2,W2=(((((((((w2.setCell ⟨gk,0,none⟩ (.string y.f0)).setCell ⟨gk,1,none⟩ (.slice B1 y.f1.length d1)).setCell ⟨gk,2,none⟩ (.slice B2 y.f2.length d2)).setCell ⟨gk,3,none⟩ (.int .i64 y.f3)).setCell ⟨gk,4,none⟩ (.int .i64 y.f4)).setCell ⟨gk,5,none⟩ (.int .i64 y.f5)).setCell ⟨gk,6,none⟩ (.slice B6 y.f6.length d6)).setCell ⟨gk,7,none⟩ (.bool y.f7)).setCell ⟨gk,8,none⟩ (.slice B8 y.f8.length d8)):=⟨_,rfl⟩
     rw [← hW2]
     have HX3:Aside0 (W2.heap[gk]?=some (.cells #[.string y.f0,.slice B1 y.f1.length d1,.slice B2 y.f2.length d2,.int .i64 y.f3,.int .i64 y.f4,.int .i64 y.f5,.slice B6 y.f6.length d6,.bool y.f7,.slice B8 y.f8.length d8] 27 (0,0))):=⟨by rw [hW2,(blk_set (blk_set (blk_set (blk_set (blk_set (blk_set (blk_set (blk_set (blk_set HX2.out 0 _) 1 _) 2 _) 3 _) 4 _) 5 _) 6 _) 7 _) 8 _)];simp only [nm]⟩
     have HBr:Aside0 (Below wr.heap.size wr W2):=⟨by rw [hW2];exact (below_set (below_set (below_set (below_set (below_set (below_set (below_set (below_set (below_set HB2.out (by have:=HG2.out;omega)) (by have:=HG2.out;omega)) (by have:=HG2.out;omega)) (by have:=HG2.out;omega)) (by have:=HG2.out;omega)) (by have:=HG2.out;omega)) (by have:=HG2.out;omega)) (by have:=HG2.out;omega)) (by have:=HG2.out;omega))⟩
     clear hW2 HX2 HB2 HG2 y0 z0 y1 z1 y2 z2 y3 z3 y4 z4 y5 z5 y6 z6 y7 z7 y8 z8 hx0 hx1 hx2 hx3 hx4 hx5 hx6 hx7 hx8
     obtain ⟨y0,y1,y2,y3,y4,y5,y6,y7,y8⟩:=cc9 HX3.out
     have yg:W2.cell? ⟨gw,0,none⟩=some (.func (.func 137) #[] #[.pointer (some ⟨gf,0,none⟩),.pointer (some ⟨gt,0,none⟩),.pointer (some ⟨gw,0,none⟩)]):=(blk_cell (HG.out.below HBr.out).2.2.2.2.1 0).trans rfl
     go_wp2_with ((go_at_call 137;refine (HC.out _ HBr.out).mono ?_;rintro e w4 ⟨rfl,v4,h4⟩;have HG6:=am h4;clear h4))
     go_roundw
     case rel=>exact ⟨i+1,v4,by first|exact congrArg (Value.int .i64) HW1.out|rfl,⟨HLT.out⟩,⟨by rw [HST.out];exact HG6.out⟩⟩
     case measure=>first|exact meas_wrap rfl HLT.out HW1.out|exact meas_plain HLT.out
    ·obtain rfl:i=x.f8.length:=by have:=HI.out;omega
     have b1:decide ((x.f8.length:Int)<(x.f8.length:Int))=false:=decide_eq_false (by omega)
     have hg:=HG.out
     rw [List.take_length] at hg
     have HG7:=am hg
     clear hg
     go_wp2
     go_end0
     exact ⟨rfl,_,by have h7:=HG7.out;rw [HO1.out] at h7;exact h7⟩
theorem walk_all (F : Nat) (fn : Func) (f : S27 → List ByteArray) (W0 : World) (gf gt gw : Nat) (hF : Tryz.prog.funcs[F]? = some fn ∧ (fn.name == "runtime.NumGoroutine") = false ∧ fn.body.isSome = true) (hof : OfAt F f W0) : ∀ k, WalkAt F f W0 gf gt gw k
 | 0=>fun x W cs v out h _ _ _=>h.elim
 | k+1=>walk_step F fn f W0 gf gt gw k hF hof (walk_all F fn f W0 gf gt gw hF hof k)
theorem gather_any (F : Nat) (fn : Func) (f : S27 → List ByteArray) (W : World) (hF : Tryz.prog.funcs[F]? = some fn ∧ (fn.name == "runtime.NumGoroutine") = false ∧ fn.body.isSome = true) (hof : OfAt F f W) (x : S27) (cs : List Value) (hd : ODep f 4 x) (h : k27.K W x cs) (out : List ByteArray) (hout : gatherL f 4 x [] = out) :
 Calls Tryz.prog 68 #[.agg cs.toArray,.func (.func F) #[] #[]] W fun e W'=>∃ A c,e=.returned (.slice A out.length c)∧Kd.C Kd.string W' A out.length out∧out.length≤c∧Below W.heap.size W W':=by
 have hwalk:∀ gf gt gw W2 v,GInv F W W2 gf gt gw v []→Calls Tryz.prog 137 (#[.agg cs.toArray]++#[.pointer (some ⟨gf,0,none⟩),.pointer (some ⟨gt,0,none⟩),.pointer (some ⟨gw,0,none⟩)]) W2 fun e W'=>e=.returned (.tuple #[])∧∃ v',GInv F W W' gf gt gw v' out:=fun gf gt gw W2 v hi=>by
  have:=walk_all F fn f W gf gt gw hF hof 4 x W2 cs v [] hd h (by decide) hi
  rwa [hout] at this
 obtain ⟨A1,c1,A2,c2,A6,c6,A8,c8,rfl,l1,g1,l2,g2,l6,g6,l8,g8⟩:=k27_open h
 clear hout
 have HW:=am hwalk
 clear hwalk h hof hd hF g1 g2 g6 g8
 show Calls Tryz.prog 68 #[.agg #[.string x.f0,.slice A1 x.f1.length c1,.slice A2 x.f2.length c2,.int .i64 x.f3,.int .i64 x.f4,.int .i64 x.f5,.slice A6 x.f6.length c6,.bool x.f7,.slice A8 x.f8.length c8],.func (.func F) #[] #[]] W fun e W'=>∃ A c,e=.returned (.slice A out.length c)∧Kd.C Kd.string W' A out.length out∧out.length≤c∧Below W.heap.size W W'
 go_in
 have hfs:=fun (a:Addr) (caps:Array Value) (m:Mode) (W2:World)=>run_store Tryz.prog W2 a (.func (.func 137) #[] caps) m rfl
 go_upto_region 4 with (first|((with_reducible refine bv 2 #[.string x.f0,.slice A1 x.f1.length c1,.slice A2 x.f2.length c2,.int .i64 x.f3,.int .i64 x.f4,.int .i64 x.f5,.slice A6 x.f6.length c6,.bool x.f7,.slice A8 x.f8.length c8] 27 ?_);intro gb hgb w1 hbox hb;have HX1:=am hbox;have HB1:=am hb;have HG1:=am hgb;clear hb hbox hgb)|((with_reducible refine bv 3 #[.func (.func F) #[] #[]] 116 ?_);intro gf hgb w2 hbox hb;have HX2:=am hbox;have HB2:=bS HB1 hb;have HG2:=am hgb;have HY3:=bB HX1 hb;clear hb hbox hgb)|((with_reducible refine bv 5 #[.slice none 0 0] 24 ?_);intro gt hgb w3 hbox hb;have HX3:=am hbox;have HB3:=bS HB2 hb;have HG3:=am hgb;have HY5:=bB HY3 hb;have HZ5:=bB HX2 hb;clear hb hbox hgb)|((with_reducible refine bv 6 #[.nilFunc] 177 ?_);intro gw hgb w4 hbox hb;have yw:w4.cell? ⟨gw,0,none⟩=some .nilFunc:=bz hbox 0 rfl;have fw:=blk_frozen hbox 0;have HX4:=am hbox;have HB4:=bS HB3 hb;have HG4:=am hgb;have HY6:=bB HY5 hb;have HZ6:=bB HZ5 hb;have HT6:=bB HX3 hb;clear hb hbox hgb))
 have HG:Aside0 (W.heap.size≤gf∧W.heap.size≤gt∧W.heap.size≤gw):=⟨by have h1:=HG1.out;have h2:=HG2.out;have h3:=HG3.out;have h4:=HG4.out;have h5:=HB1.out.size;have h6:=HB2.out.size;have h7:=HB3.out.size;omega⟩
 obtain ⟨W5,hW5⟩:∃ W5,W5=w4.setCell ⟨gw,0,none⟩ (.func (.func 137) #[] #[.pointer (some ⟨gf,0,none⟩),.pointer (some ⟨gt,0,none⟩),.pointer (some ⟨gw,0,none⟩)]):=⟨_,rfl⟩
 rw [← hW5]
 have k1:gf≠gw:=blk_ne HZ6.out HX4.out (by decide)
 have k2:gt≠gw:=blk_ne HT6.out HX4.out (by decide)
 have k3:gb≠gw:=blk_ne HY6.out HX4.out (by decide)
 have HI5:Aside0 (GInv F W W5 gf gt gw (.slice none 0 0) []):=⟨by
  rw [hW5]
  exact ⟨HG.out.1,HG.out.2.1,HG.out.2.2,blk_far HZ6.out k1 _,blk_set HX4.out 0 _,blk_far HT6.out k2 _,Kd.R_nil _ _ _ _ _,below_set HB4.out HG.out.2.2⟩⟩
 have HX5:Aside0 (W5.heap[gb]?=some (.cells #[.string x.f0,.slice A1 x.f1.length c1,.slice A2 x.f2.length c2,.int .i64 x.f3,.int .i64 x.f4,.int .i64 x.f5,.slice A6 x.f6.length c6,.bool x.f7,.slice A8 x.f8.length c8] 27 (0,0))):=⟨by rw [hW5];exact blk_far HY6.out k3 _⟩
 clear hW5 HX1 HX2 HX3 HX4 HY3 HY5 HY6 HZ5 HZ6 HT6 HG1 HG2 HG3 HG4 yw fw
 obtain ⟨y0,y1,y2,y3,y4,y5,y6,y7,y8⟩:=cc9 HX5.out
 have yg:W5.cell? ⟨gw,0,none⟩=some (.func (.func 137) #[] #[.pointer (some ⟨gf,0,none⟩),.pointer (some ⟨gt,0,none⟩),.pointer (some ⟨gw,0,none⟩)]):=(blk_cell HI5.out.2.2.2.2.1 0).trans rfl
 go_wp2_with (go_at_call 137;refine (HW.out _ _ _ _ _ HI5.out).mono ?_;rintro e w6 ⟨rfl,v6,h6⟩;obtain ⟨A,c,rfl,hl,hC⟩:=h6.own;have y6:w6.cell? ⟨gt,0,none⟩=some (.slice A out.length c):=(blk_cell h6.2.2.2.2.2.1 0).trans rfl;have H6:=am h6;have HL:=am hl;have HCC:=am hC;clear h6 hl hC)
 go_ret
 exact ⟨A,c,rfl,HCC.out,HL.out,H6.out.2.2.2.2.2.2.2⟩
theorem names1_at (W0:World):OfAt 69 (fun x=>[x.f0]) W0:=by
 intro x cs W h hb0
 obtain ⟨A1,c1,A2,c2,A6,c6,A8,c8,rfl,l1,g1,l2,g2,l6,g6,l8,g8⟩:=k27_open h
 clear h g1 g2 g6 g8
 show Calls Tryz.prog 69 #[.agg #[.string x.f0,.slice A1 x.f1.length c1,.slice A2 x.f2.length c2,.int .i64 x.f3,.int .i64 x.f4,.int .i64 x.f5,.slice A6 x.f6.length c6,.bool x.f7,.slice A8 x.f8.length c8]] W fun e W'=>(∃ A c,e=.returned (.slice A 1 c)∧Kd.C Kd.string W' A 1 [x.f0]∧∀ ad,A=some ad→0<1→ad.block<W0.heap.size∨W.heap.size≤ad.block)∧Below W.heap.size W W'
 go_in
 go_wp2_with (first|((with_reducible refine bv 1 #[.string x.f0,.slice A1 x.f1.length c1,.slice A2 x.f2.length c2,.int .i64 x.f3,.int .i64 x.f4,.int .i64 x.f5,.slice A6 x.f6.length c6,.bool x.f7,.slice A8 x.f8.length c8] 27 ?_);intro gb hgb w1 hbox hb;obtain ⟨y0,y1,y2,y3,y4,y5,y6,y7,y8⟩:=cc9 hbox;have HX1:=am hbox;have HB1:=am hb;have HGHX1:=am hgb;clear hb hbox hgb)|((with_reducible refine lv 5 #[.string x.f0] 9 1 ?_);intro gl hgb w2 hbox hb;have HX2:=am hbox;have HG2:=am hgb;have HB2:=bS HB1 hb;clear hb hbox hgb))
 go_ret
 exact ⟨⟨_,_,rfl,C_single HX2.out rfl,fun ad e _=>by cases e;have h1:=HG2.out;have h2:=HB1.out.size;exact .inr (by show W.heap.size≤gl;omega)⟩,HB2.out⟩
theorem names2_at (W0:World):OfAt 70 (fun x=>x.f6) W0:=by
 intro x cs W h hb0
 obtain ⟨A1,c1,A2,c2,A6,c6,A8,c8,rfl,l1,g1,l2,g2,l6,g6,l8,g8⟩:=k27_open h
 have HC6:=am g6
 have HB0:=am hb0
 clear h hb0 g1 g2 g6 g8
 show Calls Tryz.prog 70 #[.agg #[.string x.f0,.slice A1 x.f1.length c1,.slice A2 x.f2.length c2,.int .i64 x.f3,.int .i64 x.f4,.int .i64 x.f5,.slice A6 x.f6.length c6,.bool x.f7,.slice A8 x.f8.length c8]] W fun e W'=>(∃ A c,e=.returned (.slice A x.f6.length c)∧Kd.C Kd.string W' A x.f6.length x.f6∧∀ ad,A=some ad→0<x.f6.length→ad.block<W0.heap.size∨W.heap.size≤ad.block)∧Below W.heap.size W W'
 go_in
 go_wp2_with ((with_reducible refine bv 1 #[.string x.f0,.slice A1 x.f1.length c1,.slice A2 x.f2.length c2,.int .i64 x.f3,.int .i64 x.f4,.int .i64 x.f5,.slice A6 x.f6.length c6,.bool x.f7,.slice A8 x.f8.length c8] 27 ?_);intro gb hgb w1 hbox hb;obtain ⟨y0,y1,y2,y3,y4,y5,y6,y7,y8⟩:=cc9 hbox;have HX1:=am hbox;have HB1:=am hb;have HGHX1:=am hgb;clear hb hbox hgb)
 go_ret
 exact ⟨⟨_,_,rfl,Kd.C_below HC6.out (below_step HB0.out HB1.out),fun ad e hn=>.inl (by subst e;exact Kd.C_lt HC6.out hn (by decide))⟩,HB1.out⟩
def namesR (x:S27):List ByteArray:=gatherL (fun x=>[x.f0]) 4 x []
def namesM (x:S27):List ByteArray:=gatherL (fun x=>x.f6) 4 x []
theorem names_any' (x:S27) (ns1 ns2:List ByteArray) (e1:gatherL (fun x=>[x.f0]) 4 x []=ns1) (e2:gatherL (fun x=>x.f6) 4 x []=ns2) (h1:ODep (fun x=>[x.f0]) 4 x) (h2:ODep (fun x=>x.f6) 4 x) (W:World) (cs:List Value) (h:k27.K W x cs) :
 Calls Tryz.prog 28 #[.agg cs.toArray] W fun e W'=>(∃ A c B d,e=.returned (.tuple #[.slice A ns1.length c,.slice B ns2.length d])∧Kd.C Kd.string W' A ns1.length ns1∧ns1.length≤c∧Kd.C Kd.string W' B ns2.length ns2∧ns2.length≤d)∧Below W.heap.size W W':=by
 have u1:=fun W2 (hb:Below W.heap.size W W2)=>gather_any 69 _ _ W2 ⟨Tryz.func69,by kernel_rfl,rfl⟩ (names1_at W2) x cs h1 (k27.K_below hb h) ns1 e1
 have u2:=fun W2 (hb:Below W.heap.size W W2)=>gather_any 70 _ _ W2 ⟨Tryz.func70,by kernel_rfl,rfl⟩ (names2_at W2) x cs h2 (k27.K_below hb h) ns2 e2
 clear e1 e2
 obtain ⟨A1,c1,A2,c2,A6,c6,A8,c8,rfl,l1,g1,l2,g2,l6,g6,l8,g8⟩:=k27_open h
 have C1:=am u1
 have C2:=am u2
 clear u1 u2 h h1 h2 g1 g2 g6 g8
 show Calls Tryz.prog 28 #[.agg #[.string x.f0,.slice A1 x.f1.length c1,.slice A2 x.f2.length c2,.int .i64 x.f3,.int .i64 x.f4,.int .i64 x.f5,.slice A6 x.f6.length c6,.bool x.f7,.slice A8 x.f8.length c8]] W fun e W'=>(∃ A c B d,e=.returned (.tuple #[.slice A ns1.length c,.slice B ns2.length d])∧Kd.C Kd.string W' A ns1.length ns1∧ns1.length≤c∧Kd.C Kd.string W' B ns2.length ns2∧ns2.length≤d)∧Below W.heap.size W W'
 go_in
 go_wp2_with (first|((with_reducible refine bv 1 #[.string x.f0,.slice A1 x.f1.length c1,.slice A2 x.f2.length c2,.int .i64 x.f3,.int .i64 x.f4,.int .i64 x.f5,.slice A6 x.f6.length c6,.bool x.f7,.slice A8 x.f8.length c8] 27 ?_);intro gb hgb w1 hbox hb;obtain ⟨y0,y1,y2,y3,y4,y5,y6,y7,y8⟩:=cc9 hbox;have HX1:=am hbox;have HB1:=am hb;have HGHX1:=am hgb;clear hb hbox hgb)|(go_at_call 68;refine (C2.out _ HB2.out).mono ?_;rintro e w3 ⟨B,d,rfl,hC,hl,hb⟩;have HB3:=bS HB2 hb;have HCB:=am hC;have HLB:=am hl;have HCA3:=am (Kd.C_below HCA.out hb);clear hC hl hb)|(go_at_call 68;refine (C1.out _ HB1.out).mono ?_;rintro e w2 ⟨A,c,rfl,hC,hl,hb⟩;have HB2:=bS HB1 hb;have HX2:=bB HX1 hb;have HCA:=am hC;have HLA:=am hl;obtain ⟨z0,z1,z2,z3,z4,z5,z6,z7,z8⟩:=cc9 HX2.out;clear hC hl hb))
 go_ret2
 exact ⟨⟨_,_,_,_,rfl,HCA3.out,HLA.out,HCB.out,HLB.out⟩,HB3.out⟩
theorem names_any (x:S27) (h1:ODep (fun x=>[x.f0]) 4 x) (h2:ODep (fun x=>x.f6) 4 x) (W:World) (cs:List Value) (h:k27.K W x cs) :
 Calls Tryz.prog 28 #[.agg cs.toArray] W fun e W'=>(∃ A c B d,e=.returned (.tuple #[.slice A (namesR x).length c,.slice B (namesM x).length d])∧Kd.C Kd.string W' A (namesR x).length (namesR x)∧(namesR x).length≤c∧Kd.C Kd.string W' B (namesM x).length (namesM x)∧(namesM x).length≤d)∧Below W.heap.size W W':=names_any' x (namesR x) (namesM x) rfl rfl h1 h2 W cs h
def isHour (s:ByteArray) (x:S54):Bool:=x.f0.toList == s.toList
theorem hour_any (x:S54) (s:ByteArray) (g:Nat) (W:World) (cs:List Value) (hg:W.heap[g]?=some (.cells #[.string s] 9 (0,0))) (h:k54.K W x cs):Calls Tryz.prog 31 (#[.agg cs.toArray]++#[.pointer (some ⟨g,0,none⟩)]) W fun e W'=>e=.returned (.bool (isHour s x))∧Below W.heap.size W W':=by
 obtain rfl:=k54_open h
 have HG:=am hg
 clear hg h
 unfold isHour
 show Calls Tryz.prog 31 #[.agg #[.string x.f0,.int .i64 x.f1,.int .i64 x.f2,.int .i64 x.f3],.pointer (some ⟨g,0,none⟩)] W fun e W'=>e=.returned (.bool (x.f0.toList == s.toList))∧Below W.heap.size W W'
 go_in
 go_wp2_with (first|((with_reducible refine bv 2 #[.string x.f0,.int .i64 x.f1,.int .i64 x.f2,.int .i64 x.f3] 54 ?_);intro gb hgb w1 hbox hb;obtain ⟨y0,y1,y2,y3⟩:=cc4 hbox;have ys:w1.cell? ⟨g,0,none⟩=some (.string s):=(blk_cell (blk_below HG.out hb) 0).trans rfl;have HX1:=am hbox;have HB1:=am hb;clear hb hbox hgb))
 go_ret
 exact ⟨rfl,HB1.out⟩
theorem hours_has (A:Option Addr) (c:Nat) (xs:List S54) (s:ByteArray) (gc:Nat) (w:World) (hr:Kd.C k54 w A xs.length xs) (hc:w.cell? ⟨gc,12,none⟩=some (.slice A xs.length c)) :
 Calls Tryz.prog 29 #[.string s,.pointer (some ⟨gc,0,none⟩)] w fun e w'=>e=.returned (.bool (xs.any (isHour s)))∧Below w.heap.size w w':=by
 have hin:=fun g W (hb:Below w.heap.size w W) (hg:W.heap[g]?=some (.cells #[.string s] 9 (0,0)))=>has_Hours 31 _ #[.pointer (some ⟨g,0,none⟩)] (isHour s) A c xs W ⟨Tryz.func31,by kernel_rfl,rfl⟩ (Kd.C_below hr hb) (fun x _ W2 cs hb2 hk=>hour_any x s g W2 cs (blk_below hg hb2) hk)
 generalize xs.any (isHour s)=q at *
 have HIN:=am hin
 have HC:=am hc
 clear hin hr hc
 go_in
 go_wp2_with (first|((with_reducible refine bv 2 #[.string s] 9 ?_);intro gb hgb w1 hbox hb;have yc:w1.cell? ⟨gc,12,none⟩=some (.slice A xs.length c):=pw_cell_below hb HC.out;have HX1:=am hbox;have HB1:=am hb;clear hb hbox hgb)|(go_at_call 30;refine (HIN.out _ _ HB1.out HX1.out).mono ?_;rintro e w2 ⟨rfl,hb⟩;have HB2:=bS HB1 hb;clear hb))
 go_ret
 exact ⟨rfl,HB2.out⟩
theorem receivers_has (A:Option Addr) (c:Nat) (xs:List ByteArray) (s:ByteArray) (gc:Nat) (w:World) (hr:Kd.C Kd.string w A xs.length xs) (hl:xs.length≤c) (hc:w.cell? ⟨gc,10,none⟩=some (.slice A xs.length c)) :
 Calls Tryz.prog 32 #[.string s,.pointer (some ⟨gc,0,none⟩)] w fun e w'=>e=.returned (.bool (Lib.containsS xs s))∧Below w.heap.size w w':=by
 have hin:=slices_Contains.calls A c xs s _ w hr hl rfl
 generalize Lib.containsS xs s=q at *
 have HIN:=am hin
 clear hin hr
 go_in
 go_wp2_with (first|(go_at_call 33;refine (HIN.out).mono ?_;rintro e w2 ⟨rfl,hb⟩;have HB2:=am hb;clear hb))
 go_ret
 exact ⟨rfl,HB2.out⟩
def oddL (x:S105):Bool:=decide (0≤Lib.indexByte x.f1.data.toList 59) || Lib.hasSuffix x.f1.data.toList [32]
theorem oddl_any (x:S105) (hz:x.f1.size≤9223372036854775807) (W:World) (cs:List Value) (h:k105.K W x cs):Calls Tryz.prog 80 (#[.agg cs.toArray]++#[]) W fun e W'=>e=.returned (.bool (oddL x))∧Below W.heap.size W W':=by
 obtain rfl:=k105_open h
 have h1:=fun W2=>Tryz.strings_Contains_one x.f1 59 W2
 have h2:=fun W2=>Tryz.strings_HasSuffix x.f1 ⟨#[32]⟩ W2 hz
 have hv:oddL x=(decide (0≤Lib.indexByte x.f1.data.toList 59) || Lib.hasSuffix x.f1.data.toList [32]):=rfl
 have hd:(⟨#[32]⟩:ByteArray).data.toList=[32]:=rfl
 simp only [hd] at h2
 show Calls Tryz.prog 80 #[.agg #[.string x.f0,.string x.f1]] W fun e W'=>e=.returned (.bool (oddL x))∧Below W.heap.size W W'
 generalize oddL x=q at *
 generalize decide (0≤Lib.indexByte x.f1.data.toList 59)=q1 at *
 generalize Lib.hasSuffix x.f1.data.toList [32]=q2 at *
 subst hv
 have H1:=am h1
 have H2:=am h2
 clear h1 h2 hz h hd
 cases q1 <;>
 (go_in
  go_wp2_with (first|((with_reducible refine bv 1 #[.string x.f0,.string x.f1] 105 ?_);intro gb hgb w1 hbox hb;obtain ⟨y0,y1⟩:=cc2 hbox;have HX1:=am hbox;have HB1:=am hb;clear hb hbox hgb)|(go_at_call 143;refine (H1.out _).mono ?_;rintro e w2 ⟨rfl,rfl⟩)|(go_at_call 144;refine (H2.out _).mono ?_;rintro e w3 ⟨rfl,rfl⟩))
  go_ret
  exact ⟨rfl,HB1.out⟩)
theorem why2_any (x:S44) (W:World) (cs:List Value) (h:k44.K W x cs):Calls Tryz.prog 76 (#[.agg cs.toArray]++#[]) W fun e W'=>e=.returned (.bool (x.f4 != 0))∧Below W.heap.size W W':=by
 obtain ⟨A7,c7,rfl,l7,g7⟩:=k44_open h
 clear h g7
 show Calls Tryz.prog 76 #[.agg #[.string x.f0,.string x.f1,.int .i64 x.f2,.int .i64 x.f3,.int .i64 x.f4,.int .i64 x.f5,.int .i64 x.f6,.slice A7 x.f7.length c7]] W fun e W'=>e=.returned (.bool (x.f4 != 0))∧Below W.heap.size W W'
 go_in
 go_wp2_with (first|((with_reducible refine bv 1 #[.string x.f0,.string x.f1,.int .i64 x.f2,.int .i64 x.f3,.int .i64 x.f4,.int .i64 x.f5,.int .i64 x.f6,.slice A7 x.f7.length c7] 44 ?_);intro gb hgb w1 hbox hb;obtain ⟨y0,y1,y2,y3,y4,y5,y6,y7⟩:=cc8 hbox;have HX1:=am hbox;have HB1:=am hb;clear hb hbox hgb))
 go_ret
 exact ⟨rfl,HB1.out⟩
theorem why3_any (x:S44) (W:World) (cs:List Value) (h:k44.K W x cs):Calls Tryz.prog 77 (#[.agg cs.toArray]++#[]) W fun e W'=>e=.returned (.bool (x.f5 != 0))∧Below W.heap.size W W':=by
 obtain ⟨A7,c7,rfl,l7,g7⟩:=k44_open h
 clear h g7
 show Calls Tryz.prog 77 #[.agg #[.string x.f0,.string x.f1,.int .i64 x.f2,.int .i64 x.f3,.int .i64 x.f4,.int .i64 x.f5,.int .i64 x.f6,.slice A7 x.f7.length c7]] W fun e W'=>e=.returned (.bool (x.f5 != 0))∧Below W.heap.size W W'
 go_in
 go_wp2_with (first|((with_reducible refine bv 1 #[.string x.f0,.string x.f1,.int .i64 x.f2,.int .i64 x.f3,.int .i64 x.f4,.int .i64 x.f5,.int .i64 x.f6,.slice A7 x.f7.length c7] 44 ?_);intro gb hgb w1 hbox hb;obtain ⟨y0,y1,y2,y3,y4,y5,y6,y7⟩:=cc8 hbox;have HX1:=am hbox;have HB1:=am hb;clear hb hbox hgb))
 go_ret
 exact ⟨rfl,HB1.out⟩
theorem why4_any (x:S44) (hz:∀ y∈x.f7,y.f1.size≤9223372036854775807) (W:World) (cs:List Value) (h:k44.K W x cs):Calls Tryz.prog 78 (#[.agg cs.toArray]++#[]) W fun e W'=>e=.returned (.bool (x.f7.any oddL))∧Below W.heap.size W W':=by
 obtain ⟨A7,c7,rfl,l7,g7⟩:=k44_open h
 have hin:=fun W2 (hb:Below W.heap.size W W2)=>has_Label 80 _ #[] oddL A7 c7 x.f7 W2 ⟨Tryz.func80,by kernel_rfl,rfl⟩ (Kd.C_below g7 hb) (fun y hy W3 cs3 _ h3=>oddl_any y (hz y hy) W3 cs3 h3)
 generalize x.f7.any oddL=q at *
 have HIN:=am hin
 clear hin hz h g7
 show Calls Tryz.prog 78 #[.agg #[.string x.f0,.string x.f1,.int .i64 x.f2,.int .i64 x.f3,.int .i64 x.f4,.int .i64 x.f5,.int .i64 x.f6,.slice A7 x.f7.length c7]] W fun e W'=>e=.returned (.bool q)∧Below W.heap.size W W'
 go_in
 go_wp2_with (first|((with_reducible refine bv 1 #[.string x.f0,.string x.f1,.int .i64 x.f2,.int .i64 x.f3,.int .i64 x.f4,.int .i64 x.f5,.int .i64 x.f6,.slice A7 x.f7.length c7] 44 ?_);intro gb hgb w1 hbox hb;obtain ⟨y0,y1,y2,y3,y4,y5,y6,y7⟩:=cc8 hbox;have HX1:=am hbox;have HB1:=am hb;clear hb hbox hgb)|(go_at_call 79;refine (HIN.out _ HB1.out).mono ?_;rintro e w2 ⟨rfl,hb⟩;have HB2:=bS HB1 hb;clear hb))
 go_ret
 exact ⟨rfl,HB2.out⟩
theorem why1_any (F : Nat) (fn : Func) (p : S44 → Bool) (A : Option Addr) (c : Nat) (xs : List S44) (gc : Nat) (w : World) (hF : Tryz.prog.funcs[F]? = some fn ∧ (fn.name == "runtime.NumGoroutine") = false ∧ fn.body.isSome = true) (hr : Kd.C k44 w A xs.length xs) (hc : ClosA Tryz.prog F #[] k44 w p xs) (hg : w.cell? ⟨gc, 0, none⟩ = some (.slice A xs.length c)) :
 Calls Tryz.prog 75 #[.func (.func F) #[] #[],.pointer (some ⟨gc,0,none⟩)] w fun e w'=>e=.returned (.bool (xs.any p))∧Below w.heap.size w w':=by
 have hin:=has_Rule F fn #[] p A c xs w hF hr hc
 generalize xs.any p=q at *
 have HIN:=am hin
 clear hin hr hc hF
 go_in
 go_wp2_with (first|(go_at_call 51;refine (HIN.out).mono ?_;rintro e w2 ⟨rfl,hb⟩;have HB2:=am hb;clear hb))
 go_ret
 exact ⟨rfl,HB2.out⟩
def sameName (r x:S44):Bool:=x.f0.toList == r.f0.toList
theorem same_any (r x:S44) (A7:Option Addr) (c7:Nat) (g:Nat) (W:World) (cs:List Value) (hg:W.heap[g]?=some (.cells #[.string r.f0,.string r.f1,.int .i64 r.f2,.int .i64 r.f3,.int .i64 r.f4,.int .i64 r.f5,.int .i64 r.f6,.slice A7 r.f7.length c7] 44 (0,0))) (h:k44.K W x cs):Calls Tryz.prog 81 (#[.agg cs.toArray]++#[.pointer (some ⟨g,0,none⟩)]) W fun e W'=>e=.returned (.bool (sameName r x))∧Below W.heap.size W W':=by
 obtain ⟨B7,d7,rfl,l7,g7⟩:=k44_open h
 have HG:=am hg
 clear hg h g7
 unfold sameName
 show Calls Tryz.prog 81 #[.agg #[.string x.f0,.string x.f1,.int .i64 x.f2,.int .i64 x.f3,.int .i64 x.f4,.int .i64 x.f5,.int .i64 x.f6,.slice B7 x.f7.length d7],.pointer (some ⟨g,0,none⟩)] W fun e W'=>e=.returned (.bool (x.f0.toList == r.f0.toList))∧Below W.heap.size W W'
 go_in
 go_wp2_with (first|((with_reducible refine bv 2 #[.string x.f0,.string x.f1,.int .i64 x.f2,.int .i64 x.f3,.int .i64 x.f4,.int .i64 x.f5,.int .i64 x.f6,.slice B7 x.f7.length d7] 44 ?_);intro gb hgb w1 hbox hb;obtain ⟨y0,y1,y2,y3,y4,y5,y6,y7⟩:=cc8 hbox;have yr:w1.cell? ⟨g,0,none⟩=some (.string r.f0):=(blk_cell (blk_below HG.out hb) 0).trans rfl;have HX1:=am hbox;have HB1:=am hb;clear hb hbox hgb))
 go_ret
 exact ⟨rfl,HB1.out⟩
def ru (l:List S44) (i:Nat):S44:=l.getD i z44
def phAt (l:List S44) (i:Nat):Bool:=ruleB (ru l i) && !((ru l i).f6 != 1) && !(l.take i).any (sameName (ru l i))
def pholdsB (l:List S44):Bool:=upTo (phAt l) l.length && (decide (1≤(l.length:Int)) && decide ((l.length:Int)≤16))
theorem chain3 (q1 q2 q3:Bool):(q1=false)∨(q1=true∧q2=true)∨(q1=true∧q2=false∧q3=true)∨(q1=true∧q2=false∧q3=false):=by
 cases q1<;>cases q2<;>cases q3<;>simp
theorem pholds_any (l:List S44) (hz:∀ x∈l,SetSz x.f7) (A:Option Addr) (c:Nat) (w:World) (hlc:l.length≤c) (hr:Kd.C k44 w A l.length l):Calls Tryz.prog 36 #[.slice A l.length c] w fun e w'=>e=.returned (.bool (pholdsB l))∧Below w.heap.size w w':=by
 have hm:(l.length:Int)≤9223372036854775807:=by have:=hr.2.1;omega
 have HR:=am hr
 have HZ:=am hz
 clear hr hz
 go_in
 go_wp2
 go_loopw [7] (fun v wr=>∃ i:Nat,v=.int .i64 i∧Aside0 (i≤l.length)∧Aside0 (upTo (phAt l) i=true)∧Aside0 (Below w.heap.size w wr)) (fun v _=>l.length-(intOf v).toNat)
 case atStart=>exact ⟨0,rfl,⟨Nat.zero_le _⟩,⟨rfl⟩,⟨Below.refl _ _⟩⟩
 case round =>
  obtain ⟨i,rfl,HI,HU,HB⟩:=hrel
  by_cases hlt:i<l.length
  ·obtain ⟨ad,A7,c7,e,hx0,hx1,hx2,hx3,hx4,hx5,hx6,hx7,hl7,hg7⟩:=at_T44 (Kd.C_below HR.out HB.out) (i:Int) (by omega) (by omega)
   cases e
   have hru:rd_T44 l (i:Int)=ru l i:=by unfold rd_T44 ru;rw [Int.toNat_natCast]
   simp only [hru,Int.toNat_natCast] at hx0 hx1 hx2 hx3 hx4 hx5 hx6 hx7 hl7 hg7
   have b1:decide ((i:Int)<(l.length:Int))=true:=decide_eq_true (by omega)
   have b2:((i:Int)≤(c:Int))=True:=eq_true (by omega)
   have hw1:wrap64 ((i:Int)+1)=((i+1:Nat):Int):=by unfold wrap64;omega
   have hmem:ru l i∈l:=by
    unfold ru
    rw [List.getD_eq_getElem?_getD,List.getElem?_eq_getElem hlt]
    exact List.getElem_mem hlt
   have hsz:=HZ.out _ hmem
   have hok:phAt l i=(ruleB (ru l i) && !((ru l i).f6 != 1) && !(l.take i).any (sameName (ru l i))):=rfl
   have htl:(l.take i).length=i:=by rw [List.length_take];omega
   have htk:∀ W2,Below w.heap.size w W2→Kd.C k44 W2 (some ad) i (l.take i):=fun W2 hb=>by
    have:=Kd.C_take (Kd.C_below HR.out hb) (m:=i) (by omega)
    rwa [htl] at this
   generalize ru l i=x at *
   have hcall:=fun W2 (hb:Below wr.heap.size wr W2)=>rright_any x A7 c7 W2 hsz hl7 (Kd.C_below hg7 hb)
   have hany:∀ g W2,Below w.heap.size w W2→W2.heap[g]?=some (.cells #[.string x.f0,.string x.f1,.int .i64 x.f2,.int .i64 x.f3,.int .i64 x.f4,.int .i64 x.f5,.int .i64 x.f6,.slice A7 x.f7.length c7] 44 (0,0))→Calls Tryz.prog 51 #[.slice (some ad) i c,.func (.func 81) #[] #[.pointer (some ⟨g,0,none⟩)]] W2 fun e w'=>e=.returned (.bool ((l.take i).any (sameName x)))∧Below W2.heap.size W2 w':=fun g W2 hb hg=>by
    have h:=has_Rule 81 _ #[.pointer (some ⟨g,0,none⟩)] (sameName x) (some ad) c (l.take i) W2 ⟨Tryz.func81,by kernel_rfl,rfl⟩ (by rw [htl];exact htk W2 hb) (fun y hy W3 cs3 hb3 h3=>same_any x y A7 c7 g W3 cs3 (blk_below hg hb3) h3)
    rw [htl] at h
    exact h
   obtain ⟨q1,e1⟩:∃ q,ruleB x=q:=⟨_,rfl⟩
   obtain ⟨q2,e2⟩:∃ q,(x.f6 != 1)=q:=⟨_,rfl⟩
   obtain ⟨q3,e3⟩:∃ q,(l.take i).any (sameName x)=q:=⟨_,rfl⟩
   rw [e1,e2,e3] at hok
   simp only [e1] at hcall
   simp only [e3] at hany
   have HOK:=am hok
   have HC:=am hcall
   have HA:=am hany
   have HW1:=am hw1
   have HLT:=am hlt
   clear hok hcall hany hw1 hmem hsz htl htk hru hg7 e1 e3
   go_upto_region 4 with (((with_reducible refine bv 4 #[.string (⟨#[]⟩:ByteArray),.string (⟨#[]⟩:ByteArray),.int .i64 0,.int .i64 0,.int .i64 0,.int .i64 0,.int .i64 0,.slice none 0 0] 44 ?_);intro gk hgb w2 hbox hb;obtain ⟨y0,y1,y2,y3,y4,y5,y6,y7⟩:=cc8 hbox;have z0:=blk_frozen hbox 0;have z1:=blk_frozen hbox 1;have z2:=blk_frozen hbox 2;have z3:=blk_frozen hbox 3;have z4:=blk_frozen hbox 4;have z5:=blk_frozen hbox 5;have z6:=blk_frozen hbox 6;have z7:=blk_frozen hbox 7;have HX2:=am hbox;have HG2:=am hgb;have HB2:=am hb;clear hb hbox hgb))
   have HGE:Aside0 (w.heap.size≤gk):=⟨by have:=HG2.out;have:=HB.out.size;omega⟩
   obtain ⟨W2,hW2⟩:∃ W2,W2=((((((((w2.setCell ⟨gk,0,none⟩ (.string x.f0)).setCell ⟨gk,1,none⟩ (.string x.f1)).setCell ⟨gk,2,none⟩ (.int .i64 x.f2)).setCell ⟨gk,3,none⟩ (.int .i64 x.f3)).setCell ⟨gk,4,none⟩ (.int .i64 x.f4)).setCell ⟨gk,5,none⟩ (.int .i64 x.f5)).setCell ⟨gk,6,none⟩ (.int .i64 x.f6)).setCell ⟨gk,7,none⟩ (.slice A7 x.f7.length c7)):=⟨_,rfl⟩
   rw [← hW2]
   have HX3:Aside0 (W2.heap[gk]?=some (.cells #[.string x.f0,.string x.f1,.int .i64 x.f2,.int .i64 x.f3,.int .i64 x.f4,.int .i64 x.f5,.int .i64 x.f6,.slice A7 x.f7.length c7] 44 (0,0))):=⟨by rw [hW2,(blk_set (blk_set (blk_set (blk_set (blk_set (blk_set (blk_set (blk_set HX2.out 0 _) 1 _) 2 _) 3 _) 4 _) 5 _) 6 _) 7 _)];simp only [nm]⟩
   have HB3:Aside0 (Below w.heap.size w W2):=⟨by rw [hW2];exact (below_set (below_set (below_set (below_set (below_set (below_set (below_set (below_set (below_step HB.out HB2.out) HGE.out) HGE.out) HGE.out) HGE.out) HGE.out) HGE.out) HGE.out) HGE.out)⟩
   have HBr:Aside0 (Below wr.heap.size wr W2):=⟨by rw [hW2];exact (below_set (below_set (below_set (below_set (below_set (below_set (below_set (below_set HB2.out (by have:=HG2.out;omega)) (by have:=HG2.out;omega)) (by have:=HG2.out;omega)) (by have:=HG2.out;omega)) (by have:=HG2.out;omega)) (by have:=HG2.out;omega)) (by have:=HG2.out;omega)) (by have:=HG2.out;omega))⟩
   clear hW2 HX2 HB2 HG2 HGE y0 y1 y2 y3 y4 y5 y6 y7 z0 z1 z2 z3 z4 z5 z6 z7 hx0 hx1 hx2 hx3 hx4 hx5 hx6 hx7
   obtain ⟨y0,y1,y2,y3,y4,y5,y6,y7⟩:=cc8 HX3.out
   rcases chain3 q1 q2 q3 with rfl|⟨rfl,rfl⟩|⟨rfl,rfl,rfl⟩|⟨rfl,rfl,rfl⟩ <;>
   (go_wp2_with (first|(go_at_call 13;refine (HC.out _ HBr.out).mono ?_;rintro e w4 ⟨rfl,hb⟩;have HB4:=bS HB3 hb;have HX4:=bB HX3 hb;have y6':w4.cell? ⟨gk,6,none⟩=some (.int .i64 x.f6):=bz HX4.out 6 rfl;clear hb)|(go_at_call 51;refine (HA.out _ _ HB4.out HX4.out).mono ?_;rintro e w5 ⟨rfl,hb⟩;have HB5:=bS HB4 hb;clear hb))
    first
    | (go_roundw
       case rel=>exact ⟨i+1,by first|exact congrArg (Value.int .i64) HW1.out|rfl,⟨HLT.out⟩,⟨upTo_step HU.out HOK.out⟩,HB5⟩
       case measure=>first|exact meas_wrap rfl HLT.out HW1.out|exact meas_plain HLT.out)
    | (go_ret
       refine ⟨congrArg (fun b:Bool=>Ending.returned (.bool b)) ?_,by first|exact HB5.out|exact HB4.out⟩
       unfold pholdsB
       rw [upTo_no HLT.out HOK.out]
       rfl))
  ·obtain rfl:i=l.length:=by have:=HI.out;omega
   have b1:decide ((l.length:Int)<(l.length:Int))=false:=decide_eq_false (by omega)
   have hval:pholdsB l=(decide (1≤(l.length:Int)) && decide ((l.length:Int)≤16)):=by
    unfold pholdsB
    rw [HU.out,Bool.true_and]
   obtain ⟨q1,e1⟩:∃ q,decide (1≤(l.length:Int))=q:=⟨_,rfl⟩
   obtain ⟨q2,e2⟩:∃ q,decide ((l.length:Int)≤16)=q:=⟨_,rfl⟩
   rw [e1,e2] at hval
   have HV:=am hval
   clear hval
   cases q1<;>cases q2 <;>
   (go_wp2
    go_ret
    exact ⟨congrArg (fun b:Bool=>Ending.returned (.bool b)) HV.out.symm,HB.out⟩)
def ManyAt (x:S27):Prop:=∀ (most:Int) (W:World) (cs:List Value),k27.K W x cs→Calls Tryz.prog 11 #[.agg cs.toArray,.int .i64 most] W fun e W'=>(∃ n:Int,e=.returned (.int .i64 n))∧Below W.heap.size W W'
theorem many_step (x:S27) (hk:∀ y∈x.f8,ManyAt y):ManyAt x:=by
 intro most W cs h
 obtain ⟨A1,c1,A2,c2,A6,c6,A8,c8,rfl,l1,g1,l2,g2,l6,g6,l8,g8⟩:=k27_open h
 show Calls Tryz.prog 11 #[.agg #[.string x.f0,.slice A1 x.f1.length c1,.slice A2 x.f2.length c2,.int .i64 x.f3,.int .i64 x.f4,.int .i64 x.f5,.slice A6 x.f6.length c6,.bool x.f7,.slice A8 x.f8.length c8],.int .i64 most] W fun e W'=>(∃ n:Int,e=.returned (.int .i64 n))∧Below W.heap.size W W'
 have m8:(x.f8.length:Int)≤9223372036854775807:=by have:=g8.2.1;omega
 have HR:=am g8
 have HK:=am hk
 clear h hk g1 g2 g6 g8
 go_in
 go_wp2_with ((with_reducible refine bv 2 #[.string x.f0,.slice A1 x.f1.length c1,.slice A2 x.f2.length c2,.int .i64 x.f3,.int .i64 x.f4,.int .i64 x.f5,.slice A6 x.f6.length c6,.bool x.f7,.slice A8 x.f8.length c8] 27 ?_);intro gb hgb w1 hbox hb;obtain ⟨y0,y1,y2,y3,y4,y5,y6,y7,y8⟩:=cc9 hbox;have HX1:=am hbox;have HB1:=am hb;clear hb hbox hgb)
 go_loopw [5,11] (fun a v wr=>∃ (i:Nat) (n:Int),v=.int .i64 i∧a=.int .i64 n∧Aside0 (i≤x.f8.length)∧Aside0 (Below W.heap.size W wr)) (fun _ v _=>x.f8.length-(intOf v).toNat)
 case atStart=>exact ⟨0,1,rfl,rfl,⟨Nat.zero_le _⟩,HB1⟩
 case round =>
  obtain ⟨i,n,rfl,rfl,HI,HB⟩:=hrel
  clear y0 y1 y2 y3 y4 y5 y6 y7 y8 HB1 HX1
  by_cases hlt:i<x.f8.length
  ·obtain ⟨ad,B1,d1,B2,d2,B6,d6,B8,d8,e,hx0,hx1,hx2,hx3,hx4,hx5,hx6,hx7,hx8,hl1,hg1,hl2,hg2,hl6,hg6,hl8,hg8⟩:=at_T27 (Kd.C_below HR.out HB.out) (i:Int) (by omega) (by omega)
   cases e
   simp only [Int.toNat_natCast] at hx0 hx1 hx2 hx3 hx4 hx5 hx6 hx7 hx8
   have b1:decide ((i:Int)<(x.f8.length:Int))=true:=decide_eq_true (by omega)
   have hw1:wrap64 ((i:Int)+1)=((i+1:Nat):Int):=by unfold wrap64;omega
   have hmem:rd_T27 x.f8 (i:Int)∈x.f8:=by
    unfold rd_T27
    rw [Int.toNat_natCast,List.getD_eq_getElem?_getD,List.getElem?_eq_getElem hlt]
    exact List.getElem_mem hlt
   generalize rd_T27 x.f8 (i:Int)=y at *
   have hcall:=fun m W2 (hb:Below wr.heap.size wr W2)=>HK.out y hmem m W2 _ (k27_mk W2 y hl1 (Kd.C_below hg1 hb) hl2 (Kd.C_below hg2 hb) hl6 (Kd.C_below hg6 hb) hl8 (Kd.C_below hg8 hb))
   have HW1:=am hw1
   have HLT:=am hlt
   have HC:=am hcall
   clear hw1 hcall hmem hg1 hg2 hg6 hg8
   go_upto_region 5 with (((with_reducible refine bv 7 #[.string (⟨#[]⟩:ByteArray),.slice none 0 0,.slice none 0 0,.int .i64 0,.int .i64 0,.int .i64 0,.slice none 0 0,.bool false,.slice none 0 0] 27 ?_);intro gk hgb w2 hbox hb;obtain ⟨y0,y1,y2,y3,y4,y5,y6,y7,y8⟩:=cc9 hbox;have z0:=blk_frozen hbox 0;have z1:=blk_frozen hbox 1;have z2:=blk_frozen hbox 2;have z3:=blk_frozen hbox 3;have z4:=blk_frozen hbox 4;have z5:=blk_frozen hbox 5;have z6:=blk_frozen hbox 6;have z7:=blk_frozen hbox 7;have z8:=blk_frozen hbox 8;have HX2:=am hbox;have HG2:=am hgb;have HB2:=am hb;clear hb hbox hgb))
   have HGE:Aside0 (W.heap.size≤gk):=⟨by have:=HG2.out;have:=HB.out.size;omega⟩
   obtain ⟨W2,hW2⟩:∃ W2,W2=(((((((((w2.setCell ⟨gk,0,none⟩ (.string y.f0)).setCell ⟨gk,1,none⟩ (.slice B1 y.f1.length d1)).setCell ⟨gk,2,none⟩ (.slice B2 y.f2.length d2)).setCell ⟨gk,3,none⟩ (.int .i64 y.f3)).setCell ⟨gk,4,none⟩ (.int .i64 y.f4)).setCell ⟨gk,5,none⟩ (.int .i64 y.f5)).setCell ⟨gk,6,none⟩ (.slice B6 y.f6.length d6)).setCell ⟨gk,7,none⟩ (.bool y.f7)).setCell ⟨gk,8,none⟩ (.slice B8 y.f8.length d8)):=⟨_,rfl⟩
   rw [← hW2]
   have HX3:Aside0 (W2.heap[gk]?=some (.cells #[.string y.f0,.slice B1 y.f1.length d1,.slice B2 y.f2.length d2,.int .i64 y.f3,.int .i64 y.f4,.int .i64 y.f5,.slice B6 y.f6.length d6,.bool y.f7,.slice B8 y.f8.length d8] 27 (0,0))):=⟨by rw [hW2,(blk_set (blk_set (blk_set (blk_set (blk_set (blk_set (blk_set (blk_set (blk_set HX2.out 0 _) 1 _) 2 _) 3 _) 4 _) 5 _) 6 _) 7 _) 8 _)];simp only [nm]⟩
   have HB3:Aside0 (Below W.heap.size W W2):=⟨by rw [hW2];exact (below_set (below_set (below_set (below_set (below_set (below_set (below_set (below_set (below_set (below_step HB.out HB2.out) HGE.out) HGE.out) HGE.out) HGE.out) HGE.out) HGE.out) HGE.out) HGE.out) HGE.out)⟩
   have HBr:Aside0 (Below wr.heap.size wr W2):=⟨by rw [hW2];exact (below_set (below_set (below_set (below_set (below_set (below_set (below_set (below_set (below_set HB2.out (by have:=HG2.out;omega)) (by have:=HG2.out;omega)) (by have:=HG2.out;omega)) (by have:=HG2.out;omega)) (by have:=HG2.out;omega)) (by have:=HG2.out;omega)) (by have:=HG2.out;omega)) (by have:=HG2.out;omega)) (by have:=HG2.out;omega))⟩
   clear hW2 HX2 HB2 HG2 HGE y0 y1 y2 y3 y4 y5 y6 y7 y8 z0 z1 z2 z3 z4 z5 z6 z7 z8 hx0 hx1 hx2 hx3 hx4 hx5 hx6 hx7 hx8
   obtain ⟨y0,y1,y2,y3,y4,y5,y6,y7,y8⟩:=cc9 HX3.out
   rcases e1:decide (most<n) with _|_
   ·go_wp2_with (go_at_call 11;refine (HC.out _ _ HBr.out).mono ?_;rintro e w4 ⟨⟨m,rfl⟩,hb⟩;have HB4:=bS HB3 hb;clear hb)
    go_roundw
    case rel=>exact ⟨i+1,_,by first|exact congrArg (Value.int .i64) HW1.out|rfl,rfl,⟨HLT.out⟩,HB4⟩
    case measure=>first|exact meas_wrap rfl HLT.out HW1.out|exact meas_plain HLT.out
   ·go_wp2
    go_ret
    exact ⟨⟨_,rfl⟩,HB3.out⟩
  ·obtain rfl:i=x.f8.length:=by have:=HI.out;omega
   have b1:decide ((x.f8.length:Int)<(x.f8.length:Int))=false:=decide_eq_false (by omega)
   go_wp2
   go_ret
   exact ⟨⟨_,rfl⟩,HB.out⟩
theorem many_any (x:S27):ManyAt x:=many_step x fun y hy=>many_any y
termination_by SizeOf.sizeOf x
decreasing_by
 have h1:=List.sizeOf_lt_of_mem hy
 cases x
 simp only [S27.mk.sizeOf_spec] at *
 omega
structure Cfg where
 r:List S44
 t:S27
 v:List ByteArray
 i:List S50
 h:List S54
def CfgK (w:World) (x:Cfg) (cs:List Value):Prop:=∃ A0 c0 A2 c2 A3 c3 A7 c7 A9 c9 A10 c10 A11 c11 A12 c12,cs=[.slice A0 x.r.length c0,.string x.t.f0,.slice A2 x.t.f1.length c2,.slice A3 x.t.f2.length c3,.int .i64 x.t.f3,.int .i64 x.t.f4,.int .i64 x.t.f5,.slice A7 x.t.f6.length c7,.bool x.t.f7,.slice A9 x.t.f8.length c9,.slice A10 x.v.length c10,.slice A11 x.i.length c11,.slice A12 x.h.length c12]∧x.r.length≤c0∧Kd.C k44 w A0 x.r.length x.r∧x.t.f1.length≤c2∧Kd.C k108 w A2 x.t.f1.length x.t.f1∧x.t.f2.length≤c3∧Kd.C Kd.string w A3 x.t.f2.length x.t.f2∧x.t.f6.length≤c7∧Kd.C Kd.string w A7 x.t.f6.length x.t.f6∧x.t.f8.length≤c9∧Kd.C k27 w A9 x.t.f8.length x.t.f8∧x.v.length≤c10∧Kd.C Kd.string w A10 x.v.length x.v∧x.i.length≤c11∧Kd.C k50 w A11 x.i.length x.i∧x.h.length≤c12∧Kd.C k54 w A12 x.h.length x.h
theorem CfgK.below {w w1:World} {x:Cfg} {cs:List Value} (h:CfgK w x cs) (hb:Below w.heap.size w w1):CfgK w1 x cs:=by
 obtain ⟨A0,c0,A2,c2,A3,c3,A7,c7,A9,c9,A10,c10,A11,c11,A12,c12,rfl,l0,g0,l2,g2,l3,g3,l7,g7,l9,g9,l10,g10,l11,g11,l12,g12⟩:=h
 exact ⟨A0,c0,A2,c2,A3,c3,A7,c7,A9,c9,A10,c10,A11,c11,A12,c12,rfl,l0,Kd.C_below g0 hb,l2,Kd.C_below g2 hb,l3,Kd.C_below g3 hb,l7,Kd.C_below g7 hb,l9,Kd.C_below g9 hb,l10,Kd.C_below g10 hb,l11,Kd.C_below g11 hb,l12,Kd.C_below g12 hb⟩
theorem big_any (x:Cfg) (W:World) (cs:List Value) (h:CfgK W x cs):Calls Tryz.prog 4 #[.agg cs.toArray] W fun e W'=>(∃ b:Bool,e=.returned (.bool b))∧Below W.heap.size W W':=by
 obtain ⟨A0,c0,A2,c2,A3,c3,A7,c7,A9,c9,A10,c10,A11,c11,A12,c12,rfl,l0,g0,l2,g2,l3,g3,l7,g7,l9,g9,l10,g10,l11,g11,l12,g12⟩:=h
 have hc:=fun m W2 (hb:Below W.heap.size W W2)=>many_any x.t m W2 _ (k27_mk W2 x.t l2 (Kd.C_below g2 hb) l3 (Kd.C_below g3 hb) l7 (Kd.C_below g7 hb) l9 (Kd.C_below g9 hb))
 have HC:=am hc
 clear hc g0 g2 g3 g7 g9 g10 g11 g12
 show Calls Tryz.prog 4 #[.agg #[.slice A0 x.r.length c0,.string x.t.f0,.slice A2 x.t.f1.length c2,.slice A3 x.t.f2.length c3,.int .i64 x.t.f3,.int .i64 x.t.f4,.int .i64 x.t.f5,.slice A7 x.t.f6.length c7,.bool x.t.f7,.slice A9 x.t.f8.length c9,.slice A10 x.v.length c10,.slice A11 x.i.length c11,.slice A12 x.h.length c12]] W fun e W'=>(∃ b:Bool,e=.returned (.bool b))∧Below W.heap.size W W'
 obtain ⟨q2,e2⟩:∃ q,decide (18<(x.r.length:Int))=q:=⟨_,rfl⟩
 obtain ⟨q3,e3⟩:∃ q,decide (18<(x.v.length:Int))=q:=⟨_,rfl⟩
 obtain ⟨q4,e4⟩:∃ q,decide (10<(x.i.length:Int))=q:=⟨_,rfl⟩
 obtain ⟨q5,e5⟩:∃ q,decide (10<(x.h.length:Int))=q:=⟨_,rfl⟩
 go_in
 go_wp2_with (first|((with_reducible refine bv 1 #[.slice A0 x.r.length c0,.string x.t.f0,.slice A2 x.t.f1.length c2,.slice A3 x.t.f2.length c3,.int .i64 x.t.f3,.int .i64 x.t.f4,.int .i64 x.t.f5,.slice A7 x.t.f6.length c7,.bool x.t.f7,.slice A9 x.t.f8.length c9,.slice A10 x.v.length c10,.slice A11 x.i.length c11,.slice A12 x.h.length c12] 31 ?_);intro gb hgb w1 hbox hb;obtain ⟨y0,y1,y2,y3,y4,y5,y6,y7,y8,y9,y10,y11,y12⟩:=c13 hbox;have HX1:=am hbox;have HB1:=am hb;clear hb hbox hgb)|(go_at_call 11;refine (HC.out _ _ HB1.out).mono ?_;rintro e w2 ⟨⟨n,rfl⟩,hb⟩;obtain ⟨q1,e1⟩:∃ q,decide (30<n)=q:=⟨_,rfl⟩;have HB2:=bS HB1 hb;have hx:=blk_below HX1.out hb;obtain ⟨z0,-,-,-,-,-,-,-,-,-,z10,z11,z12⟩:=c13 hx;clear hb hx;cases q1<;>cases q2<;>cases q3<;>cases q4))
 all_goals
  go_wp2
  go_ret
  exact ⟨⟨_,rfl⟩,HB2.out⟩
end Go.Proofs.YthofmfaeccdckaaGreatDoor.P
