/- What these functions of the program and of the plain reference compute, and plain lemmas on it: HoursLaw2, RefHours2, PureHoursTell. Conditions: as each lemma says. -/
import Derived.Test.YtmhdmmgljenckaaDoorMLawHoursTell2
import Derived.Test.YtmhdmmgljenckaaDoorMLawHoursTell0
import Derived.Test.YtmhdmmgljenckaaDoorMLawHoursTell1
import Derived.Test.YtmhdmmgljenckaaDoorMLawHoursTell3
/- The text of hours, read again, is the hours. Conditions: none. -/
set_option linter.unusedVariables false
namespace Go.Proofs.YtmhdmmgljenckaaDoor.P
open Go.RowKit Go.Proofs.YtmhdmmgljenckaaDoorW.PrintWords Go.Proofs.YtmhdmmgljenckaaDoorW.PrintLast Go.Proofs.YtmhdmmgljenckaaDoorW.PrintMore

def clockB (n:Nat):ByteArray:=⟨#[UInt8.ofNat (48+n/60/10),UInt8.ofNat (48+n/60 % 10),58,UInt8.ofNat (48+n % 60/10),UInt8.ofNat (48+n % 60 % 10)]⟩
theorem clock_eq (n:Nat) (h:n≤1440):hours_clock.f (n:Int)=some (clockB n):=by
 have hd:∀ n:Fin 1441,hours_clock.f ((n.1:Nat):Int)=some (clockB n.1):=by decide +kernel
 exact hd ⟨n,by omega⟩
theorem minutes_clock (n:Nat) (h:n≤1440):minutesI (clockB n)=(n:Int):=by
 have hd:∀ n:Fin 1441,minutesI (clockB n.1)=((n.1:Nat):Int):=by decide +kernel
 exact hd ⟨n,by omega⟩
theorem clock_no (n:Nat) (h:n≤1440):(45:UInt8) ∉ (clockB n).data.toList:=by
 have hd:∀ n:Fin 1441,(clockB n.1).data.toList.contains (45:UInt8)=false:=by decide +kernel
 have:=hd ⟨n,by omega⟩
 simpa using this
def joinB (d:Int):ByteArray:=⟨(Lib.join ((daysL d 7).map (·.data.toList)) [44]).toArray⟩
theorem join_no (d:Int) (h1:1≤d) (h2:d≤127):(32:UInt8) ∉ (joinB d).data.toList:=by
 have hd:∀ n:Fin 128,(joinB ((n.1:Nat):Int)).data.toList.contains (32:UInt8)=false:=by decide +kernel
 obtain ⟨n,rfl⟩:=Int.eq_ofNat_of_zero_le (show 0≤d by omega)
 have:=hd ⟨n,by omega⟩
 simpa using this
theorem join_days (d:Int) (h1:1≤d) (h2:d≤127):daysOf (splitL (joinB d))=d:=by
 have hd:∀ n:Fin 128,1≤n.1→daysOf (splitL (joinB ((n.1:Nat):Int)))=((n.1:Nat):Int):=by decide +kernel
 obtain ⟨n,rfl⟩:=Int.eq_ofNat_of_zero_le (show 0≤d by omega)
 exact hd ⟨n,by omega⟩ (by show 1≤n;omega)
theorem index_at (c:UInt8):∀ a b:List UInt8,c ∉ a→Lib.indexByte (a++c::b) c=(a.length:Int)
 | [],b,_=>by simp [Lib.indexByte]
 | x::a,b,h=>by
  have ih:=index_at c a b (fun hc=>h (List.mem_cons_of_mem x hc))
  have hx:x≠c:=fun e=>h (by rw [e];exact List.mem_cons_self)
  rw [List.cons_append,Lib.indexByte,if_neg (by simpa using hx),ih,if_neg (by first|(simp;done)|(simp;omega))]
  simp
theorem cut_here (a b:ByteArray) (c:UInt8) (h:c ∉ a.data.toList):cutAt (a++⟨#[c]⟩++b) c=(a,b,true):=by
 have e:(a++⟨#[c]⟩++b).data.toList=a.data.toList++c::b.data.toList:=by simp
 have hi:Lib.indexByte (a++⟨#[c]⟩++b).data.toList c=(a.data.toList.length:Int):=by
  rw [e]
  exact index_at c _ _ h
 unfold cutAt
 rw [hi,if_pos (by omega),Int.toNat_natCast]
 have e1:(a++⟨#[c]⟩++b).extract 0 a.data.toList.length=a:=by
  apply ByteArray.ext
  apply Array.ext'
  rw [ByteArray.data_extract,Array.toList_extract,e]
  simp [List.extract]
 have e2:(a++⟨#[c]⟩++b).extract (a.data.toList.length+1) (a++⟨#[c]⟩++b).size=b:=by
  apply ByteArray.ext
  apply Array.ext'
  rw [Lib.extract_to_end,e,← List.drop_drop]
  simp
 rw [e1,e2]
def textB (d f t:Int):ByteArray:=joinB d++⟨#[32]⟩++clockB f.toNat++⟨#[45]⟩++clockB t.toNat
theorem hours_Text_eq (nm:ByteArray) (d f t:Int):hours_Text.f nm d f t=some (if rightB nm d f t then (textB d f t,0) else (⟨#[]⟩,1)):=by
 unfold hours_Text.f
 cases hr:rightB nm d f t with
 | false=>rfl
 | true =>
  obtain ⟨r1,r2,r3,r4,r5,r6⟩:=right_ranges hr
  obtain ⟨a,rfl⟩:=Int.eq_ofNat_of_zero_le r3
  obtain ⟨b,rfl⟩:=Int.eq_ofNat_of_zero_le (show 0≤t by omega)
  rw [if_pos rfl,if_pos rfl,clock_eq a (by omega),Option.bind_some,clock_eq b (by omega),Option.bind_some]
  rfl
theorem right_x {nm:ByteArray} {d f t:Int} (hr:rightB nm d f t=true):rightB ⟨#[120]⟩ d f t=true:=by
 obtain ⟨r1,r2,r3,r4,r5,r6⟩:=right_ranges hr
 unfold rightB
 rw [decide_eq_true r1,decide_eq_true r2,decide_eq_true r3,decide_eq_true r4,decide_eq_true r5,decide_eq_true r6]
 decide
theorem clock_size' (n:Nat):(clockB n).size=5:=rfl
theorem textB_size (d f t:Int) (h1:1≤d) (h2:d≤127):(textB d f t).size≤2000:=by
 have h:=join_length d
 have e:(joinB d).size=(Lib.join ((daysL d 7).map (·.data.toList)) [44]).length:=by simp [joinB,ByteArray.size]
 unfold textB
 simp only [ByteArray.size_append,clock_size']
 have e1:(⟨#[32]⟩:ByteArray).size=1:=rfl
 have e2:(⟨#[45]⟩:ByteArray).size=1:=rfl
 omega
theorem parse_text (nm:ByteArray) (d f t:Int) (hr:rightB nm d f t=true):hours_Parse.f (textB d f t)=some (⟨#[120]⟩,d,f,t,0):=by
 obtain ⟨r1,r2,r3,r4,r5,r6⟩:=right_ranges hr
 have hz:=textB_size d f t r1 r2
 have c1:cutAt (textB d f t) 32=(joinB d,clockB f.toNat++⟨#[45]⟩++clockB t.toNat,true):=by
  have e:textB d f t=joinB d++⟨#[32]⟩++(clockB f.toNat++⟨#[45]⟩++clockB t.toNat):=by
   unfold textB
   simp only [ByteArray.append_assoc]
  rw [e]
  exact cut_here _ _ _ (join_no d r1 r2)
 have c2:=cut_here (clockB f.toNat) (clockB t.toNat) 45 (clock_no f.toNat (by omega))
 unfold hours_Parse.f
 rw [if_pos (by omega),c1]
 dsimp only
 rw [c2]
 dsimp only
 rw [join_days d r1 r2,minutes_clock _ (by omega),minutes_clock _ (by omega),Int.toNat_of_nonneg r3,Int.toNat_of_nonneg (by omega),hours_Text_eq,right_x hr,if_pos rfl,Option.bind_some,if_pos ⟨rfl,rfl⟩]
end Go.Proofs.YtmhdmmgljenckaaDoor.P

/- The reference's Text and Parse are the program's. Conditions: as each lemma says. -/
set_option linter.unusedVariables false
set_option linter.unusedSimpArgs false
namespace Go.Proofs.YtmhdmmgljenckaaDoor.P
open Go.RowKit Go.Proofs.YtmhdmmgljenckaaDoorW.PrintWords Go.Proofs.YtmhdmmgljenckaaDoorW.PrintLast Go.Proofs.YtmhdmmgljenckaaDoorW.PrintMore

theorem refclock_eq (n:Nat) (h:n≤1440):transhipmentref07_Clock.f (n:Int)=some (clockB n):=by
 have hd:∀ n:Fin 1441,transhipmentref07_Clock.f ((n.1:Nat):Int)=some (clockB n.1):=by decide +kernel
 exact hd ⟨n,by omega⟩
def accStep (d:Int) (i:Nat) (acc:ByteArray):ByteArray:=if bitB d (i:Int)=true then (if acc.toList=[] then acc else acc++⟨#[44]⟩)++rdOf ByteArray.empty namesL (i:Int) else acc
def accN (d:Int):Nat→ByteArray
 | 0=>⟨#[]⟩
 | i+1=>accStep d i (accN d i)
theorem name_three (i:Nat) (hi:i<7):(rdOf ByteArray.empty namesL (i:Int)).size=3:=by
 match i,hi with
 | 0,_=>rfl
 | 1,_=>rfl
 | 2,_=>rfl
 | 3,_=>rfl
 | 4,_=>rfl
 | 5,_=>rfl
 | 6,_=>rfl
theorem accStep_size (d:Int) (i:Nat) (hi:i<7) (acc:ByteArray):(accStep d i acc).size≤acc.size+4:=by
 have h3:=name_three i hi
 have e1:(⟨#[44]⟩:ByteArray).size=1:=rfl
 unfold accStep
 (repeat' split)<;>(try simp only [ByteArray.size_append,h3,e1])<;>omega
theorem accN_size (d:Int):∀ i:Nat,i≤7→(accN d i).size≤4*i
 | 0,_=>Nat.le_refl _
 | i+1,h=>by
  have h1:=accN_size d i (by omega)
  have h2:=accStep_size d i (by omega) (accN d i)
  show (accStep d i (accN d i)).size≤_
  omega
theorem accN_join (d:Int) (h1:1≤d) (h2:d≤127):accN d 7=joinB d:=by
 have hd:∀ n:Fin 128,accN ((n.1:Nat):Int) 7=joinB ((n.1:Nat):Int):=by decide +kernel
 obtain ⟨n,rfl⟩:=Int.eq_ofNat_of_zero_le (show 0≤d by omega)
 exact hd ⟨n,by omega⟩
theorem text_end (d:Int) (acc:ByteArray) (ha:acc.size≤100) (nm:ByteArray) (f t:Int) (hf:0≤f∧f≤1440) (ht:0≤t∧t≤1440) (k:Nat) :
  transhipmentref07_Text.l0 (k+1) acc namesL 7 nm d f t=some (acc++⟨#[32]⟩++clockB f.toNat++⟨#[45]⟩++clockB t.toNat):=by
 obtain ⟨a,rfl⟩:=Int.eq_ofNat_of_zero_le hf.1
 obtain ⟨b,rfl⟩:=Int.eq_ofNat_of_zero_le ht.1
 have c1:=refclock_eq a (by omega)
 have c2:=refclock_eq b (by omega)
 have s1:=clock_size' a
 have s2:=clock_size' b
 have e1:(⟨#[32]⟩:ByteArray).size=1:=rfl
 have e2:(⟨#[45]⟩:ByteArray).size=1:=rfl
 rw [Int.toNat_natCast,Int.toNat_natCast]
 simp only [transhipmentref07_Text.l0]
 rw [if_neg (by decide),if_pos (by omega),c1,Option.bind_some,if_pos (by simp only [ByteArray.size_append,s1,e1];omega),if_pos (by simp only [ByteArray.size_append,s1,e1];omega),c2,Option.bind_some,
  if_pos (by simp only [ByteArray.size_append,s1,s2,e1,e2];omega)]
theorem text_round (d:Int) (h1:1≤d) (h2:d≤127) (acc:ByteArray) (ha:acc.size≤100) (nm:ByteArray) (f t:Int) (i:Nat) (hi:i<7) (k:Nat) (hk:8≤k) :
  transhipmentref07_Text.l0 (k+2) acc namesL (i:Int) nm d f t=transhipmentref07_Text.l0 k (accStep d i acc) namesL ((i:Int)+1) nm d f t:=by
 have h3:=name_three i hi
 have e1:(⟨#[44]⟩:ByteArray).size=1:=rfl
 have hl:((namesL.length:Nat):Int)=7:=rfl
 obtain ⟨n,rfl⟩:=Int.eq_ofNat_of_zero_le (show 0≤d by omega)
 have s0:=refset_eq n i (by show n<128;omega) hi k hk
 have s1:=refset_eq n i (by show n<128;omega) hi (k+1) (by omega)
 have hw:wrap64 ((i:Int)+1)=(i:Int)+1:=wrap_id (by omega) (by omega)
 simp only [transhipmentref07_Text.l0]
 rw [if_pos (show (i:Int)<7 by omega),s1,Option.bind_some]
 unfold accStep
 cases hb:bitB (n:Int) (i:Int) with
 | false =>
  rw [if_neg (by decide),if_neg (by decide)]
  simp only [transhipmentref07_Text.j1]
  rw [if_neg (by decide),s0,hb,Option.bind_some,if_neg (by decide),hw]
 | true =>
  rw [if_pos rfl,if_pos rfl]
  by_cases he:acc.toList=[]
  ·rw [if_pos he]
   simp only [transhipmentref07_Text.j1]
   rw [if_neg (by rw [he];decide),s0,hb,Option.bind_some,if_pos rfl,if_pos (by omega),if_pos (by omega),if_pos (by omega),hw]
  ·rw [if_neg he]
   simp only [transhipmentref07_Text.j1]
   rw [if_pos (by simpa using he),if_pos (by omega),s0,hb,Option.bind_some,if_pos rfl,if_pos (by omega),if_pos (by omega),if_pos (by simp only [ByteArray.size_append,e1];omega),hw]
theorem text_from (d:Int) (h1:1≤d) (h2:d≤127) (nm:ByteArray) (f t:Int) (hf:0≤f∧f≤1440) (ht:0≤t∧t≤1440) (r:Nat):∀ (i k:Nat),i+r=7→8+2*r<k →
  transhipmentref07_Text.l0 k (accN d i) namesL (i:Int) nm d f t=some (textB d f t):=by
 induction r with
 | zero =>
  intro i k hi hk
  obtain rfl:i=7:=by omega
  obtain ⟨k,rfl⟩:∃ m,k=m+1:=⟨k-1,by omega⟩
  have ha:=accN_size d 7 (Nat.le_refl _)
  have:=text_end d (accN d 7) (by omega) nm f t hf ht k
  rw [show ((7:Nat):Int)=7 from rfl,this,accN_join d h1 h2]
  rfl
 | succ r ih =>
  intro i k hi hk
  obtain ⟨k,rfl⟩:∃ m,k=m+2:=⟨k-2,by omega⟩
  have ha:=accN_size d i (by omega)
  rw [text_round d h1 h2 (accN d i) (by omega) nm f t i (by omega) k (by omega)]
  have:=ih (i+1) k (by omega) (by omega)
  rw [Int.natCast_succ] at this
  exact this
theorem reftext_eq (nm:ByteArray) (d f t:Int) (hr:rightB nm d f t=true) (k:Nat) (hk:22<k):transhipmentref07_Text.f k nm d f t=some (textB d f t):=by
 obtain ⟨r1,r2,r3,r4,r5,r6⟩:=right_ranges hr
 exact text_from d r1 r2 nm f t ⟨r3,by omega⟩ ⟨by omega,r6⟩ 7 0 k (by omega) (by omega)
def digB (c:Int):Bool:=decide (48≤c) && decide (c≤57)
def numB (s:ByteArray) (a:Int):Int :=
 if digB (bt s a) && digB (bt s (a+1)) && digB (bt s (a+3)) && digB (bt s (a+4)) then 600*(bt s a-48)+60*(bt s (a+1)-48)+10*(bt s (a+3)-48)+(bt s (a+4)-48) else -1
theorem num_round (s:ByteArray) (a:Int) (h0:0≤a) (h1:a+5≤s.size) (hs:s.size≤maxLen) (i:Nat) (hi:i<4) (k:Nat) (j:Int) (hj:rd [0,1,3,4] (i:Int)=j) (hj0:0≤j∧j≤4) :
  transhipmentref07_number.l0 (k+1) s a [0,1,3,4] 4 (i:Int)=if digB (bt s (a+j)) then transhipmentref07_number.l0 k s a [0,1,3,4] 4 ((i:Int)+1) else some (-1):=by
 unfold maxLen at hs
 have hl:((([0,1,3,4]:List Int).length:Nat):Int)=4:=rfl
 have hw:wrap64 (a+j)=a+j:=wrap_id (by omega) (by omega)
 simp only [transhipmentref07_number.l0]
 rw [if_pos (by omega),if_pos (by omega),if_pos (by rw [hl];omega),hj,hw,if_pos (by omega),if_pos (by omega),wrap_id (by omega) (by omega)]
 unfold digB
 by_cases c1:bt s (a+j)<48
 ·rw [if_pos c1,decide_eq_false (by omega)]
  rfl
 ·rw [if_neg c1,decide_eq_true (by omega)]
  by_cases c2:bt s (a+j)>57
  ·rw [if_pos c2,decide_eq_false (by omega)]
   rfl
  ·rw [if_neg c2,decide_eq_true (by omega)]
   rfl
theorem num_eq (s:ByteArray) (a:Int) (h0:0≤a) (h1:a+5≤s.size) (hs:s.size≤maxLen) (k:Nat) (hk:4<k):transhipmentref07_number.f k s a=some (numB s a):=by
 have hs':=hs
 unfold maxLen at hs'
 obtain ⟨k,rfl⟩:∃ m,k=m+5:=⟨k-5,by omega⟩
 unfold transhipmentref07_number.f
 rw [Option.bind_some]
 have e0:=num_round s a h0 h1 hs 0 (by decide) (k+4) 0 rfl (by decide)
 have e1:=num_round s a h0 h1 hs 1 (by decide) (k+3) 1 rfl (by decide)
 have e2:=num_round s a h0 h1 hs 2 (by decide) (k+2) 3 rfl (by decide)
 have e3:=num_round s a h0 h1 hs 3 (by decide) (k+1) 4 rfl (by decide)
 show transhipmentref07_number.l0 (k+4+1) s a [0,1,3,4] 4 ((0:Nat):Int)=_
 unfold numB
 rw [e0,show a+0=a by omega]
 cases d0:digB (bt s a) with
 | false=>rfl
 | true =>
  rw [if_pos rfl]
  show transhipmentref07_number.l0 (k+3+1) s a [0,1,3,4] 4 ((1:Nat):Int)=_
  rw [e1]
  cases d1:digB (bt s (a+1)) with
  | false=>rfl
  | true =>
   rw [if_pos rfl]
   show transhipmentref07_number.l0 (k+2+1) s a [0,1,3,4] 4 ((2:Nat):Int)=_
   rw [e2]
   cases d2:digB (bt s (a+3)) with
   | false=>rfl
   | true =>
    rw [if_pos rfl]
    show transhipmentref07_number.l0 (k+1+1) s a [0,1,3,4] 4 ((3:Nat):Int)=_
    rw [e3]
    cases d3:digB (bt s (a+4)) with
    | false=>rfl
    | true =>
     rw [if_pos rfl]
     simp only [digB,Bool.and_eq_true,decide_eq_true_eq] at d0 d1 d2 d3
     simp only [transhipmentref07_number.l0]
     rw [if_neg (by decide),wrap_id (n:=a+1) (by omega) (by omega),wrap_id (n:=a+3) (by omega) (by omega),wrap_id (n:=a+4) (by omega) (by omega),
      if_pos (by omega),if_pos (by omega),if_pos (by omega),if_pos (by omega),if_pos (by omega),if_pos (by omega),if_pos (by omega),if_pos (by omega)]
     rw [if_pos (by rfl)]
     congr 1
     omega
theorem bt_append_right (a b:ByteArray) (j:Nat):bt (a++b) ((a.size:Int)+(j:Int))=bt b (j:Int):=by
 rw [← rd_bytesOf,← rd_bytesOf]
 unfold rd bytesOf
 rw [show ((a.size:Int)+(j:Int)).toNat=a.size+j by omega,Int.toNat_natCast,ByteArray.data_append,Array.toList_append,List.map_append,List.getD_eq_getElem?_getD,List.getD_eq_getElem?_getD,List.getElem?_append_right (by rw [List.length_map,data_length];omega),
  List.length_map,data_length,show a.size+j-a.size=j by omega]
theorem bt_append_left (a b:ByteArray) (j:Nat) (h:j<a.size):bt (a++b) (j:Int)=bt a (j:Int):=by
 rw [← rd_bytesOf,← rd_bytesOf]
 unfold rd bytesOf
 rw [Int.toNat_natCast,ByteArray.data_append,Array.toList_append,List.map_append,List.getD_eq_getElem?_getD,List.getD_eq_getElem?_getD,List.getElem?_append_left (by rw [List.length_map,data_length];omega)]
theorem num_right (a b:ByteArray):numB (a++b) (a.size:Int)=numB b 0:=by
 have h0:=bt_append_right a b 0
 have h1:=bt_append_right a b 1
 have h3:=bt_append_right a b 3
 have h4:=bt_append_right a b 4
 rw [show ((a.size:Int)+((0:Nat):Int))=a.size by omega] at h0
 unfold numB
 rw [h0,show (a.size:Int)+1=(a.size:Int)+((1:Nat):Int) from rfl,show (a.size:Int)+3=(a.size:Int)+((3:Nat):Int) from rfl,show (a.size:Int)+4=(a.size:Int)+((4:Nat):Int) from rfl,h1,h3,h4]
 rfl
theorem num_left (a b:ByteArray) (h:5≤a.size):numB (a++b) 0=numB a 0:=by
 have h0:=bt_append_left a b 0 (by omega)
 have h1:=bt_append_left a b 1 (by omega)
 have h3:=bt_append_left a b 3 (by omega)
 have h4:=bt_append_left a b 4 (by omega)
 unfold numB
 rw [show (0:Int)+1=((1:Nat):Int) from rfl,show (0:Int)+3=((3:Nat):Int) from rfl,show (0:Int)+4=((4:Nat):Int) from rfl,show (0:Int)=((0:Nat):Int) from rfl,h0,h1,h3,h4]
theorem num_clock (n:Nat) (h:n≤1440):numB (clockB n) 0=(n:Int):=by
 have hd:∀ n:Fin 1441,numB (clockB n.1) 0=((n.1:Nat):Int):=by decide +kernel
 exact hd ⟨n,by omega⟩
theorem join_size (d:Int) (h1:1≤d) (h2:d≤127):3≤(joinB d).size∧(joinB d).size≤30:=by
 have hd:∀ n:Fin 128,1≤n.1→3≤(joinB ((n.1:Nat):Int)).size∧(joinB ((n.1:Nat):Int)).size≤30:=by decide +kernel
 obtain ⟨n,rfl⟩:=Int.eq_ofNat_of_zero_le (show 0≤d by omega)
 exact hd ⟨n,by omega⟩ (by show 1≤n;omega)
theorem textB_two (d f t:Int):textB d f t=joinB d++⟨#[32]⟩++(clockB f.toNat++(⟨#[45]⟩++clockB t.toNat)):=by
 unfold textB
 simp only [ByteArray.append_assoc]
theorem textB_numbers (d f t:Int) (h1:1≤d) (h2:d≤127) (hf:0≤f∧f≤1440) (ht:0≤t∧t≤1440) :
  15≤(textB d f t).size∧(textB d f t).size≤50∧numB (textB d f t) (((textB d f t).size:Int)-11)=f∧numB (textB d f t) (((textB d f t).size:Int)-5)=t:=by
 obtain ⟨j1,j2⟩:=join_size d h1 h2
 obtain ⟨a,rfl⟩:=Int.eq_ofNat_of_zero_le hf.1
 obtain ⟨b,rfl⟩:=Int.eq_ofNat_of_zero_le ht.1
 have s1:=clock_size' a
 have s2:=clock_size' b
 have e1:(⟨#[32]⟩:ByteArray).size=1:=rfl
 have e2:(⟨#[45]⟩:ByteArray).size=1:=rfl
 have hz:(textB d (a:Int) (b:Int)).size=(joinB d).size+12:=by
  unfold textB
  simp only [ByteArray.size_append,Int.toNat_natCast,s1,s2,e1,e2]
 refine ⟨by omega,by omega,?_,?_⟩
 ·have hp:((textB d (a:Int) (b:Int)).size:Int)-11=((joinB d++⟨#[32]⟩).size:Int):=by
   rw [hz,ByteArray.size_append,e1]
   omega
  rw [hp,textB_two,num_right,num_left _ _ (by rw [clock_size'];omega),Int.toNat_natCast,num_clock a (by omega)]
 ·have hp:((textB d (a:Int) (b:Int)).size:Int)-5=((joinB d++⟨#[32]⟩++clockB a++⟨#[45]⟩).size:Int):=by
   rw [hz]
   simp only [ByteArray.size_append,s1,e1,e2]
   omega
  rw [hp]
  unfold textB
  rw [Int.toNat_natCast,Int.toNat_natCast,num_right,num_clock b (by omega)]
theorem textB_days {d d' f t f' t':Int} (h1:1≤d) (h2:d≤127) (h1':1≤d') (h2':d'≤127) (h:textB d f t=textB d' f' t'):d=d':=by
 have c1:cutAt (textB d f t) 32=(joinB d,clockB f.toNat++(⟨#[45]⟩++clockB t.toNat),true):=by
  rw [textB_two]
  exact cut_here _ _ _ (join_no d h1 h2)
 have c2:cutAt (textB d' f' t') 32=(joinB d',clockB f'.toNat++(⟨#[45]⟩++clockB t'.toNat),true):=by
  rw [textB_two]
  exact cut_here _ _ _ (join_no d' h1' h2')
 rw [h,c2] at c1
 have e:joinB d'=joinB d:=congrArg Prod.fst c1
 rw [← join_days d h1 h2,← join_days d' h1' h2',e]
def isB (s:ByteArray) (F T d:Int):Prop:=rightB ⟨#[120]⟩ d F T=true∧textB d F T=s
theorem parse_round (s:ByteArray) (F T x1:Int) (i:Nat) (h1:1≤i) (hi:i<128) (k:Nat) (hk:30≤k) (hno:¬ isB s F T (i:Int)) :
  transhipmentref07_Parse.l0 (k+1) s (i:Int) ⟨#[120]⟩ x1 F T=transhipmentref07_Parse.l0 k s ((i:Int)+1) ⟨#[120]⟩ (i:Int) F T:=by
 have hr:=refright_eq ⟨#[120]⟩ (i:Int) F T (by decide) k (by have:(⟨#[120]⟩:ByteArray).size=1:=rfl;omega)
 simp only [transhipmentref07_Parse.l0]
 rw [if_pos (by omega),hr,Option.bind_some,wrap_id (by omega) (by omega)]
 cases hR:rightB ⟨#[120]⟩ (i:Int) F T with
 | false=>rw [if_neg (by decide)]
 | true =>
  rw [if_pos rfl,reftext_eq _ _ _ _ hR k (by omega),Option.bind_some,if_neg]
  intro he
  exact hno ⟨hR,by apply ByteArray.ext;apply Array.ext';simpa [ByteArray.toList_eq] using he⟩
theorem parse_none (s:ByteArray) (F T:Int) (hno:∀ d:Int,¬ isB s F T d) (r:Nat):∀ (i k:Nat) (x1:Int),1≤i→i+r=128→31+r≤k→transhipmentref07_Parse.l0 k s (i:Int) ⟨#[120]⟩ x1 F T=some (⟨#[]⟩,0,0,0,false):=by
 induction r with
 | zero =>
  intro i k x1 h1 hi hk
  obtain rfl:i=128:=by omega
  obtain ⟨k,rfl⟩:∃ m,k=m+1:=⟨k-1,by omega⟩
  simp only [transhipmentref07_Parse.l0]
  rw [if_neg (by decide)]
 | succ r ih =>
  intro i k x1 h1 hi hk
  obtain ⟨k,rfl⟩:∃ m,k=m+1:=⟨k-1,by omega⟩
  rw [parse_round s F T x1 i h1 (by omega) k (by omega) (hno _)]
  have:=ih (i+1) k (i:Int) (by omega) (by omega) (by omega)
  rw [Int.natCast_succ] at this
  exact this
theorem parse_some (s:ByteArray) (F T:Int) (D:Nat) (hD:isB s F T (D:Int)) (hno:∀ d:Nat,1≤d→d<D→¬ isB s F T (d:Int)) (hD2:D<128) (r:Nat):∀ (i k:Nat) (x1:Int),1≤i→i+r=D→31+r≤k →
  transhipmentref07_Parse.l0 k s (i:Int) ⟨#[120]⟩ x1 F T=some (⟨#[120]⟩,(D:Int),F,T,true):=by
 induction r with
 | zero =>
  intro i k x1 h1 hi hk
  obtain rfl:i=D:=by omega
  obtain ⟨k,rfl⟩:∃ m,k=m+1:=⟨k-1,by omega⟩
  obtain ⟨hR,hs⟩:=hD
  have hr:=refright_eq ⟨#[120]⟩ (i:Int) F T (by decide) k (by have:(⟨#[120]⟩:ByteArray).size=1:=rfl;omega)
  simp only [transhipmentref07_Parse.l0]
  rw [if_pos (by omega),hr,Option.bind_some,hR,if_pos rfl,reftext_eq _ _ _ _ hR k (by omega),Option.bind_some,hs,if_pos rfl]
 | succ r ih =>
  intro i k x1 h1 hi hk
  obtain ⟨k,rfl⟩:∃ m,k=m+1:=⟨k-1,by omega⟩
  rw [parse_round s F T x1 i h1 (by omega) k (by omega) (hno i h1 (by omega))]
  have:=ih (i+1) k (i:Int) (by omega) (by omega) (by omega)
  rw [Int.natCast_succ] at this
  exact this
theorem parse_same (s:ByteArray) (hs:s.size≤60) :
  (∃ D F T:Int,rightB ⟨#[120]⟩ D F T=true∧hours_Parse.f s=some (⟨#[120]⟩,D,F,T,0)∧transhipmentref07_Parse.f 200 s=some (⟨#[120]⟩,D,F,T,true)) ∨
  (hours_Parse.f s=some (⟨#[]⟩,0,0,0,6)∧transhipmentref07_Parse.f 200 s=some (⟨#[]⟩,0,0,0,false)):=by
 by_cases hx:∃ D F T:Int,rightB ⟨#[120]⟩ D F T=true∧s=textB D F T
 ·left
  obtain ⟨D,F,T,hR,rfl⟩:=hx
  refine ⟨D,F,T,hR,parse_text ⟨#[120]⟩ D F T hR,?_⟩
  obtain ⟨r1,r2,r3,r4,r5,r6⟩:=right_ranges hR
  obtain ⟨z1,z2,n1,n2⟩:=textB_numbers D F T r1 r2 ⟨r3,by omega⟩ ⟨by omega,r6⟩
  obtain ⟨D,rfl⟩:=Int.eq_ofNat_of_zero_le (show 0≤D by omega)
  generalize hS:textB (D:Int) F T=S at *
  unfold transhipmentref07_Parse.f
  rw [if_neg (by omega),wrap_id (by omega) (by omega),wrap_id (by omega) (by omega),num_eq S _ (by omega) (by omega) (by unfold maxLen;omega) 200 (by decide),Option.bind_some,
   num_eq S _ (by omega) (by omega) (by unfold maxLen;omega) 200 (by decide),Option.bind_some,n1,n2]
  exact parse_some S F T D ⟨hR,hS⟩ (fun d hd1 hd2 ⟨hr,ht⟩=>by
   obtain ⟨q1,q2,-,-,-,-⟩:=right_ranges hr
   have:=textB_days q1 q2 r1 r2 (ht.trans hS.symm)
   omega) (by omega) (D-1) 1 200 0 (Nat.le_refl _) (by omega) (by omega)
 ·right
  constructor
  ·unfold hours_Parse.f
   rw [if_pos (by omega),hours_Text_eq,Option.bind_some]
   generalize daysOf (splitL (cutAt s 32).1)=D at *
   generalize minutesI (cutAt (cutAt s 32).2.1 45).1=F at *
   generalize minutesI (cutAt (cutAt s 32).2.1 45).2.1=T at *
   cases hR:rightB ⟨#[120]⟩ D F T with
   | false=>rfl
   | true =>
    rw [if_pos rfl,if_neg]
    rintro ⟨-,h2⟩
    exact hx ⟨D,F,T,hR,h2.symm⟩
  ·unfold transhipmentref07_Parse.f
   by_cases hz:(s.size:Int)<15
   ·rw [if_pos hz]
   ·rw [if_neg hz,wrap_id (by omega) (by omega),wrap_id (by omega) (by omega),num_eq s _ (by omega) (by omega) (by unfold maxLen;omega) 200 (by decide),Option.bind_some,
     num_eq s _ (by omega) (by omega) (by unfold maxLen;omega) 200 (by decide),Option.bind_some]
    exact parse_none s _ _ (fun d ⟨h1,h2⟩=>hx ⟨d,_,_,h1,h2.symm⟩) 127 1 200 0 (Nat.le_refl _) (by decide) (by decide)
end Go.Proofs.YtmhdmmgljenckaaDoor.P

/- Which hours may be, which ticks are within any, their text, and what any text is read as, is as the reference says, or refused. Conditions: none. -/
set_option linter.unusedVariables false
namespace Go.Proofs.YtmhdmmgljenckaaDoor.Pure
open Go.RowKit Go.Proofs.YtmhdmmgljenckaaDoor.P Go.Proofs.YtmhdmmgljenckaaDoorW.PrintWords Go.Proofs.YtmhdmmgljenckaaDoorW.PrintLast Go.Proofs.YtmhdmmgljenckaaDoorW.PrintMore

theorem tell_last (nm:ByteArray) (d f t:Int) (hs:nm.size≤70) (k:Nat) (hk:100<k) :
  transhipmentlaw07_HoursTell.j0 k (if rightB nm d f t then (textB d f t,(0:Int)) else (⟨#[]⟩,1)).1 (if rightB nm d f t then (textB d f t,(0:Int)) else (⟨#[]⟩,1)).2 false nm d f t=some true:=by
 obtain ⟨k,rfl⟩:∃ j,k=j+1:=⟨k-1,by omega⟩
 simp only [transhipmentlaw07_HoursTell.j0]
 rw [if_neg (by decide),refright_eq nm d f t (by unfold maxLen;omega) k (by omega),Option.bind_some]
 cases hr:rightB nm d f t with
 | true =>
  rw [if_pos rfl,if_pos rfl]
  dsimp only
  rw [if_pos rfl,reftext_eq nm d f t hr k (by omega),Option.bind_some]
  exact congrArg some (beq_iff_eq.2 rfl)
 | false =>
  rw [if_neg (by decide)]
  simp [ByteArray.toList_eq]
theorem bne_self (b:Bool):¬ (b != b)=true:=by cases b<;>decide
theorem HoursTell (nm:ByteArray) (d f t:Int) (a1:Int) (a2:ByteArray) (ws:nm.size≤maxLen) (w1:(Lit.int .i64 d).wf=true) (w2:(Lit.int .i64 f).wf=true) (w3:(Lit.int .i64 t).wf=true) (w4:(Lit.int .i64 a1).wf=true) (w5:a2.size≤maxLen) :
  ∃ k,transhipmentlaw07_HoursTell.f k nm d f t a1 a2=some true:=by
 refine ⟨200,?_⟩
 unfold transhipmentlaw07_HoursTell.f
 rw [hours_cut_eq,Option.bind_some]
 have hn:(cutN nm).size≤70:=by unfold cutN;rw [ByteArray.size_extract];omega
 generalize cutN nm=nm at *
 dsimp only
 rw [show mn (a2.size:Int) 60=((min a2.size 60:Nat):Int) from mn_nat _ 60,if_pos (by omega),if_pos (by omega),Int.toNat_natCast]
 have hz:(a2.extract 0 (min a2.size 60)).size≤60:=by rw [ByteArray.size_extract];omega
 generalize a2.extract 0 (min a2.size 60)=s at *
 have hl:=tell_last nm d f t hn 200 (by decide)
 have hR:hours_Right.f nm d f t=some (rightB nm d f t):=rfl
 have hI:hours_In.f nm d f t a1=some (inB nm d f t a1):=rfl
 have hI2:transhipmentref07_In.f nm d f t a1=some (inB nm d f t a1):=by
  unfold transhipmentref07_In.f
  rw [if_pos (by unfold maxLen;omega)]
 have hR2:=refright_eq nm d f t (by unfold maxLen;omega) 200 (by omega)
 rw [hours_Text_eq,Option.bind_some,hR,hR2,hI,hI2]
 rcases parse_same s hz with ⟨D,F,T,hr,hp,hq⟩|⟨hp,hq⟩
 ·rw [hp,hq,Option.bind_some,Option.bind_some,Option.bind_some,Option.bind_some,if_neg (bne_self _),Option.bind_some,Option.bind_some,if_neg (bne_self _)]
  dsimp only
  rw [if_neg (by simp),if_neg (by decide),if_pos rfl,known_alive,Option.bind_some]
  exact hl
 ·rw [hp,hq,Option.bind_some,Option.bind_some,Option.bind_some,Option.bind_some,if_neg (bne_self _),Option.bind_some,Option.bind_some,if_neg (bne_self _)]
  dsimp only
  rw [if_neg (by simp),if_neg (by decide),if_neg (by decide),if_pos rfl,known_alive,Option.bind_some]
  exact hl
end Go.Proofs.YtmhdmmgljenckaaDoor.Pure
