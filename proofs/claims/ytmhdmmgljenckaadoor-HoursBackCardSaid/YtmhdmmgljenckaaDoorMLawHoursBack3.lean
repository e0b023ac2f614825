/- What these functions of the program and of the plain reference compute, and plain lemmas on it: HoursLaw, HoursLaw2, PureHoursBack. Conditions: as each lemma says. -/
import Derived.Test.YtmhdmmgljenckaaDoorMLawHoursBack0
import Derived.Test.YtmhdmmgljenckaaDoorMLawHoursBack1
import Derived.Test.YtmhdmmgljenckaaDoorMLawHoursBack2
/- What the hours' functions come to, in plain words. Conditions: none. -/
namespace Go.Proofs.YtmhdmmgljenckaaDoor.P
open Go.RowKit Go.Proofs.YtmhdmmgljenckaaDoorW.PrintWords Go.Proofs.YtmhdmmgljenckaaDoorW.PrintLast Go.Proofs.YtmhdmmgljenckaaDoorW.PrintMore

theorem mn_nat (a b:Nat):mn (a:Int) (b:Int)=((min a b:Nat):Int):=by
 unfold mn
 split<;>omega
theorem wrap_id {n:Int} (h1:-9223372036854775808≤n) (h2:n<9223372036854775808):wrap64 n=n:=by
 unfold wrap64
 omega
theorem known_alive:transhipmentlaw07_alive.f=some true:=by decide +kernel
def cutN (nm:ByteArray):ByteArray:=nm.extract 0 (min nm.size 70)
theorem hours_cut_eq (nm:ByteArray) (d f t:Int):transhipmentlaw07_cut.f nm d f t=some (cutN nm,d,f,t):=by
 unfold transhipmentlaw07_cut.f
 rw [show mn (nm.size:Int) 70=((min nm.size 70:Nat):Int) from mn_nat _ 70,if_pos (by omega),if_pos (by omega),Int.toNat_natCast]
 rfl
def inM (d f t m:Int):Bool:=bitB d (m % 10080/1440) && decide (f≤m % 10080 % 1440) && decide (m % 10080 % 1440<t)
theorem inB_M (nm:ByteArray) (d f t tick:Int) (hr:rightB nm d f t=true) (h0:0≤tick) (h1:tick≤1099511627776):inB nm d f t tick=inM d f t (tick/60000):=by
 unfold inB inM withinB minuteI
 rw [hr,decide_eq_true h0,decide_eq_true h1]
 rfl
theorem inB_wrong (nm:ByteArray) (d f t tick:Int) (hr:rightB nm d f t=false):inB nm d f t tick=false:=by
 unfold inB
 rw [hr]
 rfl
theorem right_ranges {nm:ByteArray} {d f t:Int} (hr:rightB nm d f t=true):1≤d∧d≤127∧0≤f∧f<1440∧f<t∧t≤1440:=by
 unfold rightB at hr
 simp only [Bool.and_eq_true,decide_eq_true_eq] at hr
 omega
end Go.Proofs.YtmhdmmgljenckaaDoor.P

/- The text of hours, read again, is the hours. Conditions: none. -/
set_option linter.unusedVariables false
namespace Go.Proofs.YtmhdmmgljenckaaDoor.P
open Go.RowKit Go.Proofs.YtmhdmmgljenckaaDoorW.PrintWords Go.Proofs.YtmhdmmgljenckaaDoorW.PrintLast Go.Proofs.YtmhdmmgljenckaaDoorW.PrintMore

def clockB (n:Nat):ByteArray:=⟨#[UInt8.ofNat (48+n/60/10),UInt8.ofNat (48+n/60 % 10),58,UInt8.ofNat (48+n % 60/10),UInt8.ofNat (48+n % 60 % 10)]⟩
theorem clock_eq (n:Nat) (h:n≤1440):hours_clock.f (n:Int)=some (clockB n):=by
 have hd:∀ n:Fin 1441,hours_clock.f ((n.1:Nat):Int)=some (clockB n.1):=by decide +kernel
 exact hd ⟨n,by omega⟩
theorem minutes_clock (n:Nat) (h:n≤1440):minutesI (clockB n)=(n:Int):=by
 have hd:∀ n:Fin 1441,minutesI (clockB n.1)=((n.1:Nat):Int):=by decide +kernel
 exact hd ⟨n,by omega⟩
theorem clock_no (n:Nat) (h:n≤1440):(45:UInt8) ∉ (clockB n).data.toList:=by
 have hd:∀ n:Fin 1441,(clockB n.1).data.toList.contains (45:UInt8)=false:=by decide +kernel
 have:=hd ⟨n,by omega⟩
 simpa using this
def joinB (d:Int):ByteArray:=⟨(Lib.join ((daysL d 7).map (·.data.toList)) [44]).toArray⟩
theorem join_no (d:Int) (h1:1≤d) (h2:d≤127):(32:UInt8) ∉ (joinB d).data.toList:=by
 have hd:∀ n:Fin 128,(joinB ((n.1:Nat):Int)).data.toList.contains (32:UInt8)=false:=by decide +kernel
 obtain ⟨n,rfl⟩:=Int.eq_ofNat_of_zero_le (show 0≤d by omega)
 have:=hd ⟨n,by omega⟩
 simpa using this
theorem join_days (d:Int) (h1:1≤d) (h2:d≤127):daysOf (splitL (joinB d))=d:=by
 have hd:∀ n:Fin 128,1≤n.1→daysOf (splitL (joinB ((n.1:Nat):Int)))=((n.1:Nat):Int):=by decide +kernel
 obtain ⟨n,rfl⟩:=Int.eq_ofNat_of_zero_le (show 0≤d by omega)
 exact hd ⟨n,by omega⟩ (by show 1≤n;omega)
theorem index_at (c:UInt8):∀ a b:List UInt8,c ∉ a→Lib.indexByte (a++c::b) c=(a.length:Int)
 | [],b,_=>by simp [Lib.indexByte]
 | x::a,b,h=>by
  have ih:=index_at c a b (fun hc=>h (List.mem_cons_of_mem x hc))
  have hx:x≠c:=fun e=>h (by rw [e];exact List.mem_cons_self)
  rw [List.cons_append,Lib.indexByte,if_neg (by simpa using hx),ih,if_neg (by first|(simp;done)|(simp;omega))]
  simp
theorem cut_here (a b:ByteArray) (c:UInt8) (h:c ∉ a.data.toList):cutAt (a++⟨#[c]⟩++b) c=(a,b,true):=by
 have e:(a++⟨#[c]⟩++b).data.toList=a.data.toList++c::b.data.toList:=by simp
 have hi:Lib.indexByte (a++⟨#[c]⟩++b).data.toList c=(a.data.toList.length:Int):=by
  rw [e]
  exact index_at c _ _ h
 unfold cutAt
 rw [hi,if_pos (by omega),Int.toNat_natCast]
 have e1:(a++⟨#[c]⟩++b).extract 0 a.data.toList.length=a:=by
  apply ByteArray.ext
  apply Array.ext'
  rw [ByteArray.data_extract,Array.toList_extract,e]
  simp [List.extract]
 have e2:(a++⟨#[c]⟩++b).extract (a.data.toList.length+1) (a++⟨#[c]⟩++b).size=b:=by
  apply ByteArray.ext
  apply Array.ext'
  rw [Lib.extract_to_end,e,← List.drop_drop]
  simp
 rw [e1,e2]
def textB (d f t:Int):ByteArray:=joinB d++⟨#[32]⟩++clockB f.toNat++⟨#[45]⟩++clockB t.toNat
theorem hours_Text_eq (nm:ByteArray) (d f t:Int):hours_Text.f nm d f t=some (if rightB nm d f t then (textB d f t,0) else (⟨#[]⟩,1)):=by
 unfold hours_Text.f
 cases hr:rightB nm d f t with
 | false=>rfl
 | true =>
  obtain ⟨r1,r2,r3,r4,r5,r6⟩:=right_ranges hr
  obtain ⟨a,rfl⟩:=Int.eq_ofNat_of_zero_le r3
  obtain ⟨b,rfl⟩:=Int.eq_ofNat_of_zero_le (show 0≤t by omega)
  rw [if_pos rfl,if_pos rfl,clock_eq a (by omega),Option.bind_some,clock_eq b (by omega),Option.bind_some]
  rfl
theorem right_x {nm:ByteArray} {d f t:Int} (hr:rightB nm d f t=true):rightB ⟨#[120]⟩ d f t=true:=by
 obtain ⟨r1,r2,r3,r4,r5,r6⟩:=right_ranges hr
 unfold rightB
 rw [decide_eq_true r1,decide_eq_true r2,decide_eq_true r3,decide_eq_true r4,decide_eq_true r5,decide_eq_true r6]
 decide
theorem clock_size' (n:Nat):(clockB n).size=5:=rfl
theorem textB_size (d f t:Int) (h1:1≤d) (h2:d≤127):(textB d f t).size≤2000:=by
 have h:=join_length d
 have e:(joinB d).size=(Lib.join ((daysL d 7).map (·.data.toList)) [44]).length:=by simp [joinB,ByteArray.size]
 unfold textB
 simp only [ByteArray.size_append,clock_size']
 have e1:(⟨#[32]⟩:ByteArray).size=1:=rfl
 have e2:(⟨#[45]⟩:ByteArray).size=1:=rfl
 omega
theorem parse_text (nm:ByteArray) (d f t:Int) (hr:rightB nm d f t=true):hours_Parse.f (textB d f t)=some (⟨#[120]⟩,d,f,t,0):=by
 obtain ⟨r1,r2,r3,r4,r5,r6⟩:=right_ranges hr
 have hz:=textB_size d f t r1 r2
 have c1:cutAt (textB d f t) 32=(joinB d,clockB f.toNat++⟨#[45]⟩++clockB t.toNat,true):=by
  have e:textB d f t=joinB d++⟨#[32]⟩++(clockB f.toNat++⟨#[45]⟩++clockB t.toNat):=by
   unfold textB
   simp only [ByteArray.append_assoc]
  rw [e]
  exact cut_here _ _ _ (join_no d r1 r2)
 have c2:=cut_here (clockB f.toNat) (clockB t.toNat) 45 (clock_no f.toNat (by omega))
 unfold hours_Parse.f
 rw [if_pos (by omega),c1]
 dsimp only
 rw [c2]
 dsimp only
 rw [join_days d r1 r2,minutes_clock _ (by omega),minutes_clock _ (by omega),Int.toNat_of_nonneg r3,Int.toNat_of_nonneg (by omega),hours_Text_eq,right_x hr,if_pos rfl,Option.bind_some,if_pos ⟨rfl,rfl⟩]
end Go.Proofs.YtmhdmmgljenckaaDoor.P

/- What is written is read, but the name; what any text is read as, written, is the text; a week later it is the same. Conditions: none. -/
set_option linter.unusedVariables false
namespace Go.Proofs.YtmhdmmgljenckaaDoor.Pure
open Go.RowKit Go.Proofs.YtmhdmmgljenckaaDoor.P Go.Proofs.YtmhdmmgljenckaaDoorW.PrintWords Go.Proofs.YtmhdmmgljenckaaDoorW.PrintLast Go.Proofs.YtmhdmmgljenckaaDoorW.PrintMore

theorem week_same (nm:ByteArray) (d f t tick:Int) (h0:0≤tick) (h1:tick<549755813888):inB nm d f t (tick+604800000)=inB nm d f t tick:=by
 cases hr:rightB nm d f t with
 | false=>rw [inB_wrong nm d f t _ hr,inB_wrong nm d f t _ hr]
 | true =>
  rw [inB_M nm d f t _ hr (by omega) (by omega),inB_M nm d f t _ hr h0 (by omega)]
  unfold inM
  rw [show (tick+604800000)/60000 % 10080=tick/60000 % 10080 by omega]
theorem back_last (nm:ByteArray) (d f t tick:Int) (h0:0≤tick) (h1:tick<549755813888) :
  ((transhipmentlaw07_alive.f).bind fun t198=>(if t198=true then ((hours_In.f nm d f t tick).bind fun t199=>((hours_In.f nm d f t (wrap64 (tick+604800000))).bind fun t200=>(some (t199 == t200)))) else (some false)))=some true:=by
 unfold hours_In.f
 rw [known_alive,Option.bind_some,if_pos rfl,Option.bind_some,Option.bind_some,wrap_id (by omega) (by omega),week_same nm d f t tick h0 h1]
 exact congrArg some (beq_iff_eq.2 rfl)
theorem back_j0 (nm:ByteArray) (d f t tick:Int) (h0:0≤tick) (h1:tick<549755813888) (s:ByteArray) (hs:s.size≤60) (k:Nat) (hk:5<k) :
  transhipmentlaw07_HoursBack.j0 k s tick nm d f t=some true:=by
 obtain ⟨k,rfl⟩:∃ j,k=j+2:=⟨k-2,by omega⟩
 have hl:=back_last nm d f t tick h0 h1
 simp only [transhipmentlaw07_HoursBack.j0]
 have hp:∃ D F T:Int,hours_Parse.f s=some (if (if rightB ⟨#[120]⟩ D F T then (textB D F T,(0:Int)) else (⟨#[]⟩,1)).2=0∧(if rightB ⟨#[120]⟩ D F T then (textB D F T,(0:Int)) else (⟨#[]⟩,1)).1=s then (⟨#[120]⟩,D,F,T,0) else (⟨#[]⟩,0,0,0,6)):=by
  unfold hours_Parse.f
  rw [if_pos (by omega),hours_Text_eq,Option.bind_some]
  exact ⟨_,_,_,rfl⟩
 obtain ⟨D,F,T,hp⟩:=hp
 rw [hp,Option.bind_some]
 by_cases hok:(if rightB ⟨#[120]⟩ D F T then (textB D F T,(0:Int)) else (⟨#[]⟩,1)).2=0∧(if rightB ⟨#[120]⟩ D F T then (textB D F T,(0:Int)) else (⟨#[]⟩,1)).1=s
 ·rw [if_pos hok]
  dsimp only
  rw [if_pos rfl,hours_Text_eq,Option.bind_some,if_pos hok.1,hok.2]
  simp only [transhipmentlaw07_HoursBack.j1]
  rw [if_neg (by simp)]
  exact hl
 ·rw [if_neg hok]
  dsimp only
  rw [if_neg (by decide)]
  exact hl
theorem tmod_tick (a:Int):∃ b,0≤b∧b<549755813888∧Int.tmod (wrap64 (Int.tmod a 549755813888+549755813888)) 549755813888=b:=by
 have h1:=Int.tmod_lt_of_pos a (b:=549755813888) (by decide)
 have h2:-549755813888<Int.tmod a 549755813888:=Int.lt_tmod_of_pos a (by decide)
 rw [wrap_id (by omega) (by omega),Int.tmod_eq_emod_of_nonneg (by omega)]
 exact ⟨_,Int.emod_nonneg _ (by decide),Int.emod_lt_of_pos _ (by decide),rfl⟩
theorem HoursBack (nm:ByteArray) (d f t:Int) (a1:ByteArray) (a2:Int) (ws:nm.size≤maxLen) (w1:(Lit.int .i64 d).wf=true) (w2:(Lit.int .i64 f).wf=true) (w3:(Lit.int .i64 t).wf=true) (w4:a1.size≤maxLen) (w5:(Lit.int .i64 a2).wf=true) :
  ∃ k,transhipmentlaw07_HoursBack.f k nm d f t a1 a2=some true:=by
 refine ⟨20,?_⟩
 unfold transhipmentlaw07_HoursBack.f
 rw [hours_cut_eq,Option.bind_some]
 generalize cutN nm=nm
 dsimp only
 rw [show mn (a1.size:Int) 60=((min a1.size 60:Nat):Int) from mn_nat _ 60,if_pos (by omega),if_pos (by omega),Int.toNat_natCast]
 have hz:(a1.extract 0 (min a1.size 60)).size≤60:=by rw [ByteArray.size_extract];omega
 generalize a1.extract 0 (min a1.size 60)=s at *
 obtain ⟨b,hb0,hb1,hb⟩:=tmod_tick a2
 have hj:=back_j0 nm d f t b hb0 hb1 s hz 20 (by decide)
 rw [hb,hours_Text_eq,Option.bind_some]
 cases hr:rightB nm d f t with
 | true =>
  rw [if_pos rfl]
  dsimp only
  rw [if_pos rfl,parse_text nm d f t hr,Option.bind_some]
  dsimp only
  rw [if_pos rfl,if_neg (by simp)]
  exact hj
 | false =>
  rw [if_neg (show ¬ (if false=true then (textB d f t,(0:Int)) else ((⟨#[]⟩:ByteArray),1)).2=0 by rw [if_neg (by decide)];decide)]
  exact hj
end Go.Proofs.YtmhdmmgljenckaaDoor.Pure
