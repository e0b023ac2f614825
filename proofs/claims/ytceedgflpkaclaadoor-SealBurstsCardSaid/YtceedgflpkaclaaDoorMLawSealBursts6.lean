/- What these functions of the program and of the plain reference compute, and plain lemmas on it: FrameLawA, FrameLawB, FrameLawC, FrameLawD, FrameLawE, CrcLawA, SealLaw1, SealLaw2, SealLaw3, ShaLaw, ShaLaw2, RefCrc, FrameRef, SealRef, CrcBitsA, BurstBits, PureSealBursts, Opens. Conditions: as each lemma says. -/
import Derived.Test.YtceedgflpkaclaaDoorMLawSealBursts2
import Derived.Test.YtceedgflpkaclaaDoorMLawSealBursts1
import Derived.Test.YtceedgflpkaclaaDoorMLawSealBursts0
import Derived.Laws.BitsLemmas
import Derived.Test.YtceedgflpkaclaaDoorMLawSealBursts4
import Derived.Laws.BytesArg
import Derived.Test.YtceedgflpkaclaaDoorMLawSealBursts5
import Derived.ChangeArms
import Derived.ChangeSlices
import Derived.DataReads
import Derived.ChangeShapes
/- What the numbers of layer 1 come to: the program's functions and the document's, each as one plain Lean function. Conditions: as each lemma says. -/
namespace Go.Proofs.YtceedgflpkaclaaDoor.P
open Go.RowKit Go.Proofs.YtceedgflpkaclaaDoorW.PrintWords Go.Proofs.YtceedgflpkaclaaDoorW.PrintLast Go.Proofs.YtceedgflpkaclaaDoorW.PrintMore

def numL (n:Nat):List Int:=if h:n<128 then [(n:Int)] else ((n % 128+128:Nat):Int)::numL (n/128)
termination_by n
decreasing_by omega
theorem numL_length_pos (n:Nat):0<(numL n).length:=by
 unfold numL
 split<;>simp
theorem numL_length_le (n:Nat):∀ d,n<128 ^ (d+1)→(numL n).length≤d+1:=by
 induction n using Nat.strongRecOn with
 | _ n ih =>
  intro d hd
  unfold numL
  split
  ·simp
  ·rename_i h
   cases d with
   | zero=>simp at hd;omega
   | succ d =>
    have:=ih (n/128) (by omega) d (by rw [Nat.pow_succ] at hd;omega)
    simp only [List.length_cons]
    omega
theorem wrap64_id {x:Int} (h0:-9223372036854775808≤x) (h1:x<9223372036854775808):wrap64 x=x:=by unfold wrap64;omega
theorem frame_Number_l0:∀ (d:Nat) (k n:Nat) (acc:List Int),n<128 ^ (d+1)→n<9223372036854775808→d<100→d<k→acc.length+d<1000 →
  frame_Number.l0 k (n:Int) acc=some (strOfNums (acc++numL n),0):=by
 intro d
 induction d with
 | zero =>
  intro k n acc hn hb hd hk ha
  obtain ⟨k,rfl⟩:∃ m,k=m+1:=⟨k-1,by omega⟩
  have h128:n<128:=by simpa using hn
  simp only [frame_Number.l0]
  rw [if_neg (by omega),if_pos (by omega)]
  unfold numL
  rw [dif_pos h128,show (n:Int) % 256=n by omega]
 | succ d ih =>
  intro k n acc hn hb hd hk ha
  obtain ⟨k,rfl⟩:∃ m,k=m+1:=⟨k-1,by omega⟩
  simp only [frame_Number.l0]
  by_cases h:n<128
  ·rw [if_neg (by omega),if_pos (by omega)]
   unfold numL
   rw [dif_pos h,show (n:Int) % 256=n by omega]
  ·rw [if_pos (by omega),if_pos (by omega)]
   have e1:wrap64 (Int.tdiv (n:Int) 128)=((n/128:Nat):Int):=by
    rw [Int.tdiv_eq_ediv_of_nonneg (by omega)]
    rw [wrap64_id (by omega) (by omega)]
    omega
   have e2:wrap64 (Int.tmod (n:Int) 128+128) % 256=((n % 128+128:Nat):Int):=by
    rw [Int.tmod_eq_emod_of_nonneg (by omega)]
    rw [wrap64_id (by omega) (by omega)]
    omega
   rw [e1,e2,ih k (n/128) _ (by rw [Nat.pow_succ] at hn;omega) (by omega) (by omega) (by omega) (by simp;omega)]
   conv=>rhs;unfold numL
   rw [dif_neg h,List.append_assoc]
   rfl
def numB (n:Int):ByteArray:=strOfNums (numL n.toNat)
theorem frame_Number_eq (k:Nat) (hk:20<k) (n:Int) (h:-9223372036854775808≤n∧n<9223372036854775808) :
  frame_Number.f k n=some (if 0≤n∧n<4611686018427387904 then (numB n,0) else (⟨#[]⟩,1)):=by
 unfold frame_Number.f
 obtain ⟨k,rfl⟩:∃ m,k=m+1:=⟨k-1,by omega⟩
 by_cases h0:n<0
 ·rw [if_pos h0,if_neg (by omega)]
  simp only [frame_Number.j0]
  rfl
 ·rw [if_neg h0]
  simp only [frame_Number.j0]
  by_cases h1:n<4611686018427387904
  ·rw [if_neg (by simp;omega),if_pos (by omega)]
   obtain ⟨m,rfl⟩:=Int.eq_ofNat_of_zero_le (Int.not_lt.1 h0)
   rw [frame_Number_l0 10 k m [] (by omega) (by omega) (by omega) (by omega) (by simp)]
   simp [numB]
  ·rw [if_pos (by simp;omega),if_neg (by omega)]
def val (s:ByteArray):Nat→Int
 | 0=>0
 | i+1=>val s i+bt s i % 128*128 ^ i
theorem val_range (s:ByteArray):∀ i,0≤val s i∧val s i<128 ^ i
 | 0=>by simp [val]
 | i+1=>by
  obtain ⟨h0,h1⟩:=val_range s i
  have hp:(0:Int)<128 ^ i:=Int.pow_pos (by decide)
  have hm0:0≤bt s i % 128:=Int.emod_nonneg _ (by decide)
  have hm1:bt s i % 128≤127:=by have:=Int.emod_lt_of_pos (bt s i) (show (0:Int)<128 by decide);omega
  have h2:0≤bt s i % 128*128 ^ i:=Int.mul_nonneg hm0 (Int.le_of_lt hp)
  have h3:bt s i % 128*128 ^ i≤127*128 ^ i:=Int.mul_le_mul_of_nonneg_right hm1 (Int.le_of_lt hp)
  simp only [val,Int.pow_succ]
  omega
def scan (s:ByteArray):Nat→Nat→Option Nat
 | 0,_=>none
 | d+1,i=>if bt s i<128 then some i else scan s d (i+1)
def readAt (s:ByteArray):Option Nat→Int×Int×Int
 | none=>if 9≤s.size then (0,0,2) else (0,0,3)
 | some L=>if bt s L=0∧0<L then (0,0,6) else (val s (L+1),(L:Int)+1,0)
def readB (s:ByteArray):Int×Int×Int:=readAt s (scan s (min s.size 9) 0)
theorem bits_or_comm (k:IntKind) (x y:Int):Go.bits .or k x y=Go.bits .or k y x:=by simp only [Go.bits,BitVec.or_comm]
theorem pow128 (i:Nat):(128:Int) ^ i=2 ^ (7*i):=by rw [Int.pow_mul];rfl
theorem pow128_le (i:Nat) (hi:i≤8):(128:Int) ^ i≤72057594037927936:=by
 have h:128 ^ i≤128 ^ 8:=Nat.pow_le_pow_right (by decide) hi
 have h2:((128 ^ i:Nat):Int)≤((128 ^ 8:Nat):Int):=by exact_mod_cast h
 simpa using h2
theorem wrap_small {x:Int} (h0:0≤x) (h1:x<2 ^ 63):IntKind.i64.wrap x=x:=by
 rw [IntKind.wrap_i64]
 omega
theorem or_low (x y:Int) (i:Nat) (hi:i≤8) (hx0:0≤x) (hx1:x<128 ^ i) (hy0:0≤y) (hy1:y<128):Go.bits .or .i64 x (y*128 ^ i)=x+y*128 ^ i:=by
 have hp:(0:Int)<128 ^ i:=Int.pow_pos (by decide)
 have hle:=pow128_le i hi
 have h1:0≤y*128 ^ i:=Int.mul_nonneg hy0 (Int.le_of_lt hp)
 have h2:y*128 ^ i≤127*128 ^ i:=Int.mul_le_mul_of_nonneg_right (by omega) (Int.le_of_lt hp)
 rw [bits_or_comm,bits_join .i64 63 (by decide) (fun n a b=>wrap_small a b) (7*i) (y*128 ^ i) x h1 (by rw [← pow128];exact Int.mul_emod_left _ _) (by omega) hx0 (by rw [← pow128];exact hx1) (by omega)]
 omega
theorem shl7 (y:Int) (i:Nat) (hi:i≤8) (hy0:0≤y) (hy1:y<128):shl .i64 y (7*(i:Int))=y*128 ^ i:=by
 have hp:(0:Int)<128 ^ i:=Int.pow_pos (by decide)
 have hle:=pow128_le i hi
 have h1:0≤y*128 ^ i:=Int.mul_nonneg hy0 (Int.le_of_lt hp)
 have h2:y*128 ^ i≤127*128 ^ i:=Int.mul_le_mul_of_nonneg_right (by omega) (Int.le_of_lt hp)
 unfold shl
 rw [show min (7*(i:Int)).toNat IntKind.i64.bits=7*i by simp [IntKind.bits];omega,← pow128]
 exact wrap_small h1 (by omega)
theorem or_step (s:ByteArray) (i:Nat) (hi:i≤8):Go.bits .or .i64 (val s i) (shl .i64 (bt s i % 128) (7*(i:Int)))=val s (i+1):=by
 have h0:0≤bt s i % 128:=Int.emod_nonneg _ (by decide)
 have h1:bt s i % 128<128:=Int.emod_lt_of_pos _ (by decide)
 rw [shl7 _ i hi h0 h1,or_low _ _ i hi (val_range s i).1 (val_range s i).2 h0 h1]
 rfl
theorem mn_min (a b:Nat):mn (a:Int) (b:Int)=((min a b:Nat):Int):=by
 unfold mn
 split<;>omega
theorem frame_Read_l0 (s:ByteArray) (hs:s.size≤9223372036854775807):∀ (d i k:Nat),i+d=min s.size 9→d<k →
  frame_Read.l0 k s (val s i) ((min s.size 9:Nat):Int) i=some (readAt s (scan s d i)):=by
 intro d
 induction d with
 | zero =>
  intro i k hi hk
  obtain ⟨k,rfl⟩:∃ m,k=m+1:=⟨k-1,by omega⟩
  simp only [frame_Read.l0,scan,readAt]
  rw [if_neg (by omega)]
  by_cases h:9≤s.size
  ·rw [if_pos (by omega),if_pos h]
  ·rw [if_neg (by omega),if_neg h]
 | succ d ih =>
  intro i k hi hk
  obtain ⟨k,rfl⟩:∃ m,k=m+1:=⟨k-1,by omega⟩
  have hb:=bt_range s i
  have hi9:i≤8:=by omega
  have his:i<s.size:=by omega
  have e1:wrap64 (7*(i:Int))=7*(i:Int):=wrap64_id (by omega) (by omega)
  have e2:wrap64 (bt s (i:Int))=bt s i:=wrap64_id (by omega) (by omega)
  have e3:wrap64 ((i:Int)+1)=((i+1:Nat):Int):=wrap64_id (by omega) (by omega)
  have e4:Int.tmod (bt s i) 128=bt s i % 128:=Int.tmod_eq_emod_of_nonneg (by omega)
  have e5:Go.bits .or .i64 (val s i) (shl .i64 (bt s i % 128) (7*(i:Int)))=val s (i+1):=or_step s i hi9
  simp only [frame_Read.l0,scan]
  rw [if_pos (by omega),if_pos (by omega),if_pos (by omega),e1,if_pos (by omega),e2,e3,e4,e5]
  by_cases hlow:bt s i<128
  ·rw [if_neg (by omega),if_pos hlow]
   simp only [readAt]
   by_cases hz:bt s i=0
   ·rw [if_pos hz]
    by_cases hi0:0<i
    ·rw [if_pos (by omega),if_pos ⟨hz,hi0⟩]
    ·rw [if_neg (by omega),if_neg (by omega)]
     rfl
   ·rw [if_neg hz,if_neg (fun h=>hz h.1)]
    rfl
  ·rw [if_pos (by omega),if_neg hlow]
   exact ih (i+1) k (by omega) (by omega)
theorem frame_Read_eq (s:ByteArray) (hs:s.size≤9223372036854775807) (k:Nat) (hk:20<k):frame_Read.f k s=some (readB s):=by
 unfold frame_Read.f readB
 rw [show mn (s.size:Int) 9=((min s.size 9:Nat):Int) from mn_min _ 9]
 exact frame_Read_l0 s hs (min s.size 9) 0 k (by omega) (by omega)
theorem scan_lt (s:ByteArray):∀ d i L,scan s d i=some L→i≤L∧L<i+d∧bt s L<128:=by
 intro d
 induction d with
 | zero=>intro i L h;simp [scan] at h
 | succ d ih =>
  intro i L h
  simp only [scan] at h
  split at h
  ·rename_i hl
   obtain rfl:=Option.some.inj h
   exact ⟨by omega,by omega,hl⟩
  ·obtain ⟨h1,h2,h3⟩:=ih _ _ h
   exact ⟨by omega,by omega,h3⟩
end Go.Proofs.YtceedgflpkaclaaDoor.P

/- What texts that are bound, and taken apart, come to: the program's functions and the document's, each as one plain Lean function; what is bound is read as it was. Conditions: as each lemma says. -/
namespace Go.Proofs.YtceedgflpkaclaaDoor.P
open Go.RowKit Go.Proofs.YtceedgflpkaclaaDoorW.PrintWords Go.Proofs.YtceedgflpkaclaaDoorW.PrintLast Go.Proofs.YtceedgflpkaclaaDoorW.PrintMore

def bound:List ByteArray→List UInt8
 | []=>[]
 | p::ps=>(numB (p.size:Int)).data.toList++(p.data.toList++bound ps)
def boundB (l:List ByteArray):ByteArray:=⟨(bound l).toArray⟩
def mayB (l:List ByteArray):Prop:=l.length≤512∧∀ p∈l,p.size≤8192
instance (l:List ByteArray):Decidable (mayB l):=by unfold mayB;exact inferInstance
theorem numB_size (n:Int) (h0:0≤n) (h1:n<9223372036854775808):(numB n).size≤10:=by
 unfold numB
 rw [strOfNums_size]
 exact numL_length_le _ 9 (by omega)
theorem bindGo_eq (k:Nat) (hk:20<k):∀ (l:List ByteArray) (out:List UInt8),(∀ p∈l,p.size≤8200)→out.length+l.length*9000≤100000000000 →
  bindGo k l out=some (if ∀ p∈l,p.size≤8192 then (⟨(out++bound l).toArray⟩,0) else (⟨#[]⟩,2))
 | [],out,_,_=>by simp [bindGo,bound]
 | p::ps,out,hp,hl=>by
  have h1:p.size≤8200:=hp p (by simp)
  simp only [List.length_cons] at hl
  unfold bindGo
  by_cases h:p.size>8192
  ·rw [if_pos h,if_neg]
   intro hh
   have:=hh p (by simp)
   omega
  ·have hn:=numB_size (p.size:Int) (by omega) (by omega)
   rw [if_neg h,frame_Number_eq k hk _ (by omega),if_pos (by omega)]
   simp only [Option.bind_some]
   rw [if_pos (by omega),bindGo_eq k hk ps _ (fun q hq=>hp q (by simp [hq])) (by
    simp only [List.length_append]
    have e1:=data_length (numB (p.size:Int))
    have e2:=data_length p
    omega)]
   have e:(∀ q∈p::ps,q.size≤8192)↔∀ q∈ps,q.size≤8192:=by
    constructor
    ·intro hh q hq
     exact hh q (by simp [hq])
    ·intro hh q hq
     rcases List.mem_cons.1 hq with rfl|hq
     ·omega
     ·exact hh q hq
   by_cases hq:∀ q∈ps,q.size≤8192
   ·rw [if_pos hq,if_pos (e.2 hq)]
    simp [bound]
   ·rw [if_neg hq,if_neg (fun hh=>hq (e.1 hh))]
theorem frame_Bind_eq (k:Nat) (hk:20<k) (l:List ByteArray) (hp:∀ p∈l,p.size≤8200):frame_Bind.f k l=some (if mayB l then (boundB l,0) else (⟨#[]⟩,2)):=by
 unfold frame_Bind.f
 by_cases h:l.length>512
 ·rw [if_pos h,if_neg (fun hm=>by have:=hm.1;omega)]
 ·rw [if_neg h,bindGo_eq k hk l [] hp (by simp;omega)]
  by_cases hq:∀ p∈l,p.size≤8192
  ·rw [if_pos hq,if_pos ⟨by omega,hq⟩]
   rfl
  ·rw [if_neg hq,if_neg (fun hm=>hq hm.2)]
end Go.Proofs.YtceedgflpkaclaaDoor.P

/- What a text that is taken apart comes to, by the program and by the document; what is bound is read as it was. Conditions: as each lemma says. -/
namespace Go.Proofs.YtceedgflpkaclaaDoor.P
open Go.RowKit Go.Proofs.YtceedgflpkaclaaDoorW.PrintWords Go.Proofs.YtceedgflpkaclaaDoorW.PrintLast Go.Proofs.YtceedgflpkaclaaDoorW.PrintMore

theorem readB_ok (s:ByteArray) (h:(readB s).2.2=0):0≤(readB s).1∧(readB s).1<9223372036854775808∧1≤(readB s).2.1∧(readB s).2.1≤s.size∧(readB s).2.1≤9:=by
 unfold readB at *
 cases hs:scan s (min s.size 9) 0 with
 | none =>
  rw [hs] at h
  unfold readAt at h
  simp only at h
  split at h<;>simp at h
 | some L =>
  rw [hs] at h
  have hL:=scan_lt s _ _ _ hs
  unfold readAt at *
  simp only at *
  split at h
  ·simp at h
  ·rename_i hz
   rw [if_neg hz]
   have hv:=val_range s (L+1)
   have h9:(128:Int) ^ (L+1)≤128 ^ 9:=by
    have h:128 ^ (L+1)≤128 ^ 9:=Nat.pow_le_pow_right (by decide) (by omega)
    exact_mod_cast h
   have e:(128:Int) ^ 9=9223372036854775808:=by decide
   generalize (128:Int) ^ (L+1)=a at *
   rw [e] at h9
   refine ⟨hv.1,by omega,?_,?_,?_⟩<;>dsimp only<;>omega
def looseGo:Nat→ByteArray→List ByteArray→List ByteArray×Int
 | 0,_,out=>(out,0)
 | d+1,s,out =>
  if s.size=0 then (out,0)
  else if (readB s).2.2≠0 then ([],(readB s).2.2)
  else if (readB s).1>8192∨out.length=512 then ([],2)
  else if (readB s).1>s.size-(readB s).2.1 then ([],3)
  else looseGo d (s.extract ((readB s).2.1.toNat+(readB s).1.toNat) s.size) (out++[s.extract (readB s).2.1.toNat ((readB s).2.1.toNat+(readB s).1.toNat)])
def looseB (s:ByteArray):List ByteArray×Int:=looseGo (s.size+1) s []
theorem size_zero_iff (s:ByteArray):s.toList=[]↔s.size=0:=by
 rw [ByteArray.toList_eq,← data_length,List.length_eq_zero_iff]
theorem frame_Loose_l0:∀ (d k:Nat) (s:ByteArray) (out:List ByteArray),s.size<d→s.size<100000000000→2*d+100<k→out.length≤512 →
  frame_Loose.l0 k s out=some (looseGo d s out):=by
 intro d
 induction d with
 | zero=>intro k s out h;omega
 | succ d ih =>
  intro k s out hd hs hk ho
  obtain ⟨k,rfl⟩:∃ m,k=m+1:=⟨k-1,by omega⟩
  simp only [frame_Loose.l0,looseGo]
  by_cases h0:s.size=0
  ·rw [if_pos ((size_zero_iff s).2 h0),if_pos h0]
  ·rw [if_neg (fun h=>h0 ((size_zero_iff s).1 h)),if_neg h0,frame_Read_eq s (by omega) k (by omega)]
   simp only [Option.bind_some]
   by_cases he:(readB s).2.2=0
   ·have hr:=readB_ok s he
    rw [if_pos he,if_neg (show ¬ ((readB s).2.2≠0) from fun h=>h he)]
    have go:∀ b:Bool,b=decide ((readB s).1>8192∨out.length=512)→frame_Loose.j1 k s out (readB s).1 (readB s).2.1 b=some (if (readB s).1>8192∨out.length=512 then ([],2) else if (readB s).1>s.size-(readB s).2.1 then ([],3) else looseGo d (s.extract ((readB s).2.1.toNat+(readB s).1.toNat) s.size) (out++[s.extract (readB s).2.1.toNat ((readB s).2.1.toNat+(readB s).1.toNat)])):=by
     intro b hb
     generalize (readB s).1=n at *
     generalize (readB s).2.1=u at *
     obtain ⟨k,rfl⟩:∃ m,k=m+1:=⟨k-1,by omega⟩
     simp only [frame_Loose.j1]
     by_cases hbig:n>8192∨out.length=512
     ·rw [hb,if_pos hbig,if_pos (by simp [hbig])]
     ·rw [hb,if_neg hbig,if_neg (by simp [hbig])]
      rw [wrap64_id (x:=(s.size:Int)-u) (by omega) (by omega)]
      by_cases hshort:n>s.size-u
      ·rw [if_pos hshort,if_pos hshort]
      ·rw [if_neg hshort,if_neg hshort,wrap64_id (x:=u+n) (by omega) (by omega),if_pos (by omega),if_pos (by omega),if_pos (by omega),if_pos (by omega),if_pos (by omega)]
       rw [show (u+n).toNat=u.toNat+n.toNat by omega]
       exact ih k _ _ (by rw [ByteArray.size_extract];omega) (by rw [ByteArray.size_extract];omega) (by omega) (by simp only [List.length_append,List.length_singleton];omega)
    by_cases hbig:(readB s).1>8192
    ·rw [if_pos hbig]
     exact go true (by simp [hbig])
    ·rw [if_neg hbig]
     refine go _ ?_
     by_cases h5:out.length=512
     ·simp [h5]
     ·rw [show ((out.length:Int) == 512)=false from beq_eq_false_iff_ne.2 (by omega)]
      symm
      exact decide_eq_false (by omega)
   ·rw [if_neg he,if_pos he]
theorem frame_Loose_eq (s:ByteArray) (hs:s.size<100000000000) (k:Nat) (hk:2*s.size+200<k):frame_Loose.f k s=some (looseB s):=by
 unfold frame_Loose.f looseB
 exact frame_Loose_l0 (s.size+1) k s [] (by omega) hs (by omega) (by simp)
theorem looseGo_length:∀ (d:Nat) (s:ByteArray) (out:List ByteArray),out.length≤512→(looseGo d s out).1.length≤512
 | 0,_,_,h=>h
 | d+1,s,out,h=>by
  unfold looseGo
  split
  ·exact h
  ·split
   ·simp
   ·split
    ·simp
    ·rename_i h1
     split
     ·simp
     ·exact looseGo_length d _ _ (by simp only [List.length_append,List.length_singleton];omega)
theorem looseB_length (s:ByteArray):(looseB s).1.length≤512:=looseGo_length _ _ _ (by simp)
end Go.Proofs.YtceedgflpkaclaaDoor.P

/- Numbers, and texts that are bound, are read as they were. Conditions: as each lemma says. -/
namespace Go.Proofs.YtceedgflpkaclaaDoor.P
open Go.RowKit Go.Proofs.YtceedgflpkaclaaDoorW.PrintWords Go.Proofs.YtceedgflpkaclaaDoorW.PrintLast Go.Proofs.YtceedgflpkaclaaDoorW.PrintMore

def HasNum (s:ByteArray) (i n:Nat):Prop:=∀ j,j<(numL n).length→bt s ((i+j:Nat):Int)=(numL n).getD j 0
theorem HasNum.read:∀ (n i d:Nat) (s:ByteArray),HasNum s i n→(numL n).length≤d →
  scan s d i=some (i+(numL n).length-1)∧val s (i+(numL n).length)=val s i+(n:Int)*128 ^ i∧(bt s ((i+(numL n).length-1:Nat):Int)=0→n=0):=by
 intro n
 induction n using Nat.strongRecOn with
 | _ n ih =>
  intro i d s h hd
  have hp:=numL_length_pos n
  obtain ⟨d,rfl⟩:∃ m,d=m+1:=⟨d-1,by omega⟩
  have h0:=h 0 hp
  by_cases hn:n<128
  ·have e:numL n=[(n:Int)]:=by unfold numL;rw [dif_pos hn]
   rw [e] at h0
   simp at h0
   rw [e]
   simp only [scan,List.length_singleton,Nat.add_sub_cancel]
   rw [h0,if_pos (by omega)]
   refine ⟨rfl,?_,fun h=>by omega⟩
   simp only [val]
   rw [h0,show (n:Int) % 128=n by omega]
  ·have e:numL n=((n % 128+128:Nat):Int)::numL (n/128):=by
    conv=>lhs;unfold numL
    rw [dif_neg hn]
   have hq:=numL_length_pos (n/128)
   rw [e] at h0 hd
   simp only [Nat.add_zero,List.getD_cons_zero] at h0
   simp only [List.length_cons] at hd
   have ht:HasNum s (i+1) (n/128):=by
    intro j hj
    have:=h (j+1) (by rw [e];simp;exact hj)
    rw [e,List.getD_cons_succ] at this
    rw [← this]
    congr 2
    omega
   obtain ⟨h1,h2,h3⟩:=ih (n/128) (by omega) (i+1) d s ht (by omega)
   rw [e]
   simp only [scan,List.length_cons]
   rw [h0,if_neg (by omega),h1]
   refine ⟨by congr 1;omega,?_,?_⟩
   ·rw [show i+((numL (n/128)).length+1)=i+1+(numL (n/128)).length by omega,h2]
    simp only [val,h0,Int.pow_succ]
    have e2:(((n % 128+128:Nat):Int) % 128)=((n % 128:Nat):Int):=by omega
    have e3:(n:Int)=((n % 128:Nat):Int)+((n/128:Nat):Int)*128:=by omega
    rw [e2]
    conv=>rhs;rw [e3]
    rw [Int.add_mul,Int.mul_comm (128 ^ i) 128,← Int.mul_assoc]
    omega
   ·intro hz
    exfalso
    have:=h3 (by rw [← hz];congr 2;omega)
    omega
theorem numL_byte (n:Nat):∀ j,j<(numL n).length→0≤(numL n).getD j 0∧(numL n).getD j 0<256:=by
 induction n using Nat.strongRecOn with
 | _ n ih =>
  intro j hj
  by_cases hn:n<128
  ·have e:numL n=[(n:Int)]:=by unfold numL;rw [dif_pos hn]
   rw [e] at hj ⊢
   simp at hj
   subst hj
   simp
   omega
  ·have e:numL n=((n % 128+128:Nat):Int)::numL (n/128):=by
    conv=>lhs;unfold numL
    rw [dif_neg hn]
   rw [e] at hj ⊢
   cases j with
   | zero=>simp;omega
   | succ j =>
    rw [List.getD_cons_succ]
    exact ih (n/128) (by omega) j (by simpa using hj)
theorem bt_data (s:ByteArray) (j:Nat):bt s (j:Int)=((s.data.toList.getD j 0).toNat:Int):=by
 unfold bt
 rw [Int.toNat_natCast]
 split
 ·rename_i h
  rw [List.getD_eq_getElem?_getD,List.getElem?_eq_getElem (by rw [data_length];exact h)]
  simp [ByteArray.getElem_eq_getElem_data]
 ·rename_i h
  rw [List.getD_eq_getElem?_getD,List.getElem?_eq_none (by rw [data_length];omega)]
  rfl
theorem hasNum_append (n:Nat) (rest:ByteArray):HasNum (numB (n:Int)++rest) 0 n:=by
 intro j hj
 have hb:=numL_byte n j hj
 rw [bt_data,ByteArray.data_append,Array.toList_append]
 unfold numB
 rw [strOfNums_data,Int.toNat_natCast]
 rw [List.getD_eq_getElem?_getD,List.getElem?_append_left (by simp;exact hj),List.getElem?_map]
 rw [List.getD_eq_getElem?_getD] at hb ⊢
 rw [Nat.zero_add,List.getElem?_eq_getElem hj] at *
 simp at hb ⊢
 omega
theorem numL_length_eq (n:Nat):(numL n).length=(numB (n:Int)).size:=by
 unfold numB
 rw [strOfNums_size,Int.toNat_natCast]
theorem readB_back (n:Nat) (hn:n<4611686018427387904) (rest:ByteArray):readB (numB (n:Int)++rest)=((n:Int),((numB (n:Int)).size:Int),0):=by
 have hp:=numL_length_pos n
 have hle:(numL n).length≤9:=numL_length_le n 8 (by omega)
 have hs:(numB (n:Int)).size≤(numB (n:Int)++rest).size:=by rw [ByteArray.size_append];omega
 rw [← numL_length_eq] at hs
 obtain ⟨h1,h2,h3⟩:=(HasNum.read n 0 (min (numB (n:Int)++rest).size 9) _ (hasNum_append n rest) (by omega))
 unfold readB
 rw [h1]
 simp only [readAt,Nat.zero_add] at *
 rw [show (numL n).length-1+1=(numL n).length by omega,h2,← numL_length_eq]
 rw [if_neg]
 ·simp [val]
  omega
 ·intro hz
  have:=h3 hz.1
  subst this
  have e:numL 0=[((0:Nat):Int)]:=by unfold numL;rw [dif_pos (by decide)]
  rw [e] at hz
  simp at hz
theorem extract_list (s:ByteArray) (a b:Nat):(s.extract a b).data.toList=(s.data.toList.drop a).take (b-a):=by
 rw [ByteArray.data_extract,Array.toList_extract,List.extract_eq_take_drop]
theorem extract_mid (a b c:ByteArray):(a++(b++c)).extract a.size (a.size+b.size)=b:=by
 apply ByteArray.ext
 apply Array.ext'
 rw [extract_list,ByteArray.data_append,ByteArray.data_append,Array.toList_append,Array.toList_append,← data_length a,List.drop_left,Nat.add_sub_cancel_left,← data_length b,List.take_left]
theorem extract_tail (a b c:ByteArray) (n:Nat) (hn:n=(a++(b++c)).size):(a++(b++c)).extract (a.size+b.size) n=c:=by
 apply ByteArray.ext
 apply Array.ext'
 subst hn
 rw [extract_list,ByteArray.data_append,ByteArray.data_append,Array.toList_append,Array.toList_append,← List.append_assoc,show a.size+b.size=(a.data.toList++b.data.toList).length by rw [List.length_append,data_length,data_length],List.drop_left]
 apply List.take_of_length_le
 rw [data_length,List.length_append,data_length,data_length,ByteArray.size_append,ByteArray.size_append]
 omega
theorem boundB_nil:boundB []=ByteArray.empty:=rfl
theorem boundB_cons (p:ByteArray) (ps:List ByteArray):boundB (p::ps)=numB (p.size:Int)++(p++boundB ps):=by
 apply ByteArray.ext
 apply Array.ext'
 simp [boundB,bound,ByteArray.data_append]
theorem looseGo_back:∀ (l:List ByteArray) (d:Nat) (out:List ByteArray),(∀ p∈l,p.size≤8192)→out.length+l.length≤512→(boundB l).size<d →
  looseGo d (boundB l) out=(out++l,0)
 | [],d,out,_,_,hd=>by
  obtain ⟨d,rfl⟩:∃ m,d=m+1:=⟨d-1,by omega⟩
  unfold looseGo
  rw [boundB_nil,if_pos (by rfl),List.append_nil]
 | p::ps,d,out,hp,hl,hd=>by
  obtain ⟨d,rfl⟩:∃ m,d=m+1:=⟨d-1,by omega⟩
  have h1:p.size≤8192:=hp p (by simp)
  have hb:=readB_back p.size (by omega) (p++boundB ps)
  have hn:0<(numB (p.size:Int)).size:=by rw [← numL_length_eq];exact numL_length_pos _
  simp only [List.length_cons] at hl
  rw [boundB_cons] at hd ⊢
  have hs:(numB (p.size:Int)++(p++boundB ps)).size=(numB (p.size:Int)).size+(p.size+(boundB ps).size):=by rw [ByteArray.size_append,ByteArray.size_append]
  unfold looseGo
  rw [hb]
  simp only
  rw [if_neg (by omega),if_neg (by simp),if_neg (by omega),if_neg (by omega),Int.toNat_natCast,Int.toNat_natCast]
  have e1:(numB (p.size:Int)++(p++boundB ps)).extract (numB (p.size:Int)).size ((numB (p.size:Int)).size+p.size)=p:=by
   exact extract_mid _ _ _
  have e2:(numB (p.size:Int)++(p++boundB ps)).extract ((numB (p.size:Int)).size+p.size) (numB (p.size:Int)++(p++boundB ps)).size=boundB ps:=extract_tail _ _ _ _ rfl
  rw [e1,e2,looseGo_back ps d _ (fun q hq=>hp q (by simp [hq])) (by simp only [List.length_append,List.length_singleton];omega) (by omega)]
  simp
theorem looseB_back (l:List ByteArray) (h:mayB l):looseB (boundB l)=(l,0):=by
 unfold looseB
 rw [looseGo_back l _ [] h.2 (by simp;exact h.1) (by omega)]
 simp
theorem bound_size (l:List ByteArray) (h:∀ p∈l,p.size≤8200):(boundB l).size≤l.length*9000:=by
 induction l with
 | nil=>rw [boundB_nil];simp
 | cons p ps ih =>
  have:=ih (fun q hq=>h q (by simp [hq]))
  have h1:=h p (by simp)
  have hn:=numB_size (p.size:Int) (by omega) (by omega)
  rw [boundB_cons,ByteArray.size_append,ByteArray.size_append,List.length_cons]
  omega
end Go.Proofs.YtceedgflpkaclaaDoor.P

/- A number that is read was written so; what a text is taken apart to, bound again, is the text. Conditions: none. -/
namespace Go.Proofs.YtceedgflpkaclaaDoor.P
open Go.RowKit Go.Proofs.YtceedgflpkaclaaDoorW.PrintWords Go.Proofs.YtceedgflpkaclaaDoorW.PrintLast Go.Proofs.YtceedgflpkaclaaDoorW.PrintMore

theorem boundB_one (p:ByteArray):boundB [p]=numB (p.size:Int)++p:=by
 rw [boundB_cons,boundB_nil]
 congr 1
 apply ByteArray.ext
 apply Array.ext'
 simp
theorem looseGo_sizes:∀ (d:Nat) (s:ByteArray) (out:List ByteArray),(∀ p∈out,p.size≤8192)→∀ p∈(looseGo d s out).1,p.size≤8192
 | 0,_,_,h=>h
 | d+1,s,out,h=>by
  rw [looseGo]
  split
  ·exact h
  ·split
   ·simp
   ·split
    ·simp
    ·split
     ·simp
     ·rename_i h1 h2 h3
      refine looseGo_sizes d _ _ ?_
      intro p hp
      rcases List.mem_append.1 hp with hp|hp
      ·exact h p hp
      ·obtain rfl:=List.mem_singleton.1 hp
       rw [ByteArray.size_extract]
       omega
theorem looseB_sizes (s:ByteArray):∀ p∈(looseB s).1,p.size≤8192:=looseGo_sizes _ _ _ (by simp)
end Go.Proofs.YtceedgflpkaclaaDoor.P

/- The check, over words of 32 bits: linear, byte by byte, bit by bit; a burst of 32 bits or fewer changes it. Conditions: none. -/
namespace Go.Proofs.YtceedgflpkaclaaDoor.P
open Go.RowKit Go.Proofs.YtceedgflpkaclaaDoorW.PrintWords Go.Proofs.YtceedgflpkaclaaDoorW.PrintLast Go.Proofs.YtceedgflpkaclaaDoorW.PrintMore

def polB (b:Bool):BitVec 32:=if b then 3988292384#32 else 0#32
def stepB (x:BitVec 32):BitVec 32:=(x >>> 1) ^^^ polB (x.getLsbD 0)
theorem polB_xor (a b:Bool):polB (a ^^ b)=polB a ^^^ polB b:=by cases a<;>cases b<;>decide
theorem stepB_xor (x y:BitVec 32):stepB (x ^^^ y)=stepB x ^^^ stepB y:=by
 unfold stepB
 rw [BitVec.getLsbD_xor,polB_xor,BitVec.ushiftRight_xor_distrib]
 apply BitVec.eq_of_getLsbD_eq
 intro i hi
 simp only [BitVec.getLsbD_xor]
 cases (x >>> 1).getLsbD i<;>cases (y >>> 1).getLsbD i<;>cases (polB (x.getLsbD 0)).getLsbD i<;>cases (polB (y.getLsbD 0)).getLsbD i<;>rfl
theorem stepB_zero:stepB 0#32=0#32:=by decide
theorem stepB_eq_zero {x:BitVec 32} (h:stepB x=0#32):x=0#32:=by
 have h31:(stepB x).getLsbD 31=false:=by rw [h];rfl
 have h0:x.getLsbD 0=false:=by
  cases hx:x.getLsbD 0 with
  | false=>rfl
  | true =>
   unfold stepB at h31
   rw [hx,BitVec.getLsbD_xor,BitVec.getLsbD_ushiftRight,BitVec.getLsbD_of_ge x (1+31) (by decide)] at h31
   exact absurd h31 (by decide)
 apply BitVec.eq_of_getLsbD_eq
 intro i hi
 cases i with
 | zero=>rw [h0];rfl
 | succ i =>
  have:(stepB x).getLsbD i=false:=by rw [h];simp
  unfold stepB at this
  rw [h0,BitVec.getLsbD_xor,BitVec.getLsbD_ushiftRight] at this
  have e:(polB false).getLsbD i=false:=by simp [polB]
  rw [e,Bool.xor_false,Nat.add_comm] at this
  rw [this]
  simp
def stepsB:Nat→BitVec 32→BitVec 32
 | 0,x=>x
 | n+1,x=>stepB (stepsB n x)
theorem stepsB_eq_zero {x:BitVec 32}:∀ n,stepsB n x=0#32→x=0#32
 | 0,h=>h
 | n+1,h=>stepsB_eq_zero n (stepB_eq_zero h)
def bitB (b:Bool):BitVec 32:=if b then 1#32 else 0#32
def runB (m:Nat→Bool) (x:BitVec 32):Nat→BitVec 32
 | 0=>x
 | j+1=>stepB (runB m x j ^^^ bitB (m j))
theorem bitB_xor (a b:Bool):bitB (a ^^ b)=bitB a ^^^ bitB b:=by cases a<;>cases b<;>decide
theorem step_bit (g w:BitVec 32):stepB (g ^^^ w)=stepB (g ^^^ bitB (w.getLsbD 0)) ^^^ (w >>> 1):=by
 have e:bitB (w.getLsbD 0) >>> 1=0#32:=by cases w.getLsbD 0<;>decide
 have e2:(bitB (w.getLsbD 0)).getLsbD 0=w.getLsbD 0:=by cases w.getLsbD 0<;>decide
 unfold stepB
 rw [BitVec.getLsbD_xor,BitVec.getLsbD_xor,e2,BitVec.ushiftRight_xor_distrib,BitVec.ushiftRight_xor_distrib,e]
 apply BitVec.eq_of_getLsbD_eq
 intro i hi
 simp only [BitVec.getLsbD_xor,BitVec.getLsbD_zero]
 cases (g >>> 1).getLsbD i<;>cases (w >>> 1).getLsbD i<;>cases (polB (g.getLsbD 0 ^^ w.getLsbD 0)).getLsbD i<;>rfl
theorem steps_bits (x y:BitVec 32):∀ n,stepsB n (x ^^^ y)=runB (fun i=>y.getLsbD i) x n ^^^ (y >>> n)
 | 0=>by simp [stepsB,runB]
 | n+1=>by
  rw [stepsB,steps_bits x y n,step_bit]
  rw [runB,BitVec.shiftRight_add,show (y >>> n).getLsbD 0=y.getLsbD n by simp]
theorem runB_add (m:Nat→Bool) (x:BitVec 32) (a:Nat):∀ b,runB m x (a+b)=runB (fun i=>m (a+i)) (runB m x a) b
 | 0=>rfl
 | b+1=>by rw [← Nat.add_assoc,runB,runB_add m x a b];rfl
theorem runB_congr {m m':Nat→Bool} (x:BitVec 32):∀ n,(∀ i,i<n→m i=m' i)→runB m x n=runB m' x n
 | 0,_=>rfl
 | n+1,h=>by rw [runB,runB,runB_congr x n (fun i hi=>h i (by omega)),h n (by omega)]
theorem runB_xor (m m':Nat→Bool) (x y:BitVec 32):∀ n,runB (fun i=>m i ^^ m' i) (x ^^^ y) n=runB m x n ^^^ runB m' y n
 | 0=>rfl
 | n+1=>by
  rw [runB,runB_xor m m' x y n,bitB_xor,runB,runB,← stepB_xor]
  congr 1
  apply BitVec.eq_of_getLsbD_eq
  intro i hi
  simp only [BitVec.getLsbD_xor]
  cases (runB m x n).getLsbD i<;>cases (runB m' y n).getLsbD i<;>cases (bitB (m n)).getLsbD i<;>cases (bitB (m' n)).getLsbD i<;>rfl
theorem burst_ne (e:Nat→Bool) (at_ q N:Nat) (hq:q≤32) (hN:at_+q≤N) (y:BitVec 32) (hy:y≠0#32) (hyq:∀ i,q≤i→y.getLsbD i=false)
  (h:∀ j,j<N→e j=(decide (at_≤j) && decide (j<at_+q) && y.getLsbD (j-at_))):runB e 0#32 N≠0#32:=by
 have h1:∀ j,j≤at_→runB e 0#32 j=0#32:=by
  intro j
  induction j with
  | zero=>intro _;rfl
  | succ j ih =>
   intro hj
   rw [runB,ih (by omega),h j (by omega),decide_eq_false (by omega:¬ at_≤j)]
   simp only [Bool.false_and]
   rw [show bitB false=0#32 from rfl,BitVec.xor_zero]
   exact stepB_zero
 have h2:runB e 0#32 (at_+q)=stepsB q y:=by
  rw [runB_add,h1 at_ (Nat.le_refl _)]
  have:=steps_bits 0#32 y q
  rw [show (0#32 ^^^ y)=y by simp] at this
  rw [this]
  have e0:y >>> q=0#32:=by
   apply BitVec.eq_of_getLsbD_eq
   intro i hi
   rw [BitVec.getLsbD_ushiftRight,hyq (q+i) (by omega)]
   simp
  rw [e0,BitVec.xor_zero]
  apply runB_congr
  intro i hi
  rw [h (at_+i) (by omega),decide_eq_true (by omega:at_≤at_+i),decide_eq_true (by omega:at_+i<at_+q),Nat.add_sub_cancel_left]
  rfl
 have h3:∀ r,at_+q+r≤N→runB e 0#32 (at_+q+r)=stepsB (q+r) y:=by
  intro r
  induction r with
  | zero=>intro _;exact h2
  | succ r ih =>
   intro hr
   rw [← Nat.add_assoc,runB,ih (by omega),h (at_+q+r) (by omega),decide_eq_false (by omega:¬ at_+q+r<at_+q)]
   simp only [Bool.and_false,Bool.false_and]
   rw [show bitB false=0#32 from rfl,BitVec.xor_zero,← Nat.add_assoc]
   rfl
 have h4:=h3 (N-(at_+q)) (by omega)
 rw [show at_+q+(N-(at_+q))=N by omega] at h4
 rw [h4]
 intro hz
 exact hy (stepsB_eq_zero _ hz)
theorem ofInt_toNat (x:BitVec 32):BitVec.ofInt 32 (x.toNat:Int)=x:=by
 rw [BitVec.ofInt_natCast,BitVec.ofNat_toNat,BitVec.setWidth_eq]
theorem wrap_toNat (x:BitVec 32):IntKind.u32.wrap (x.toNat:Int)=(x.toNat:Int):=by
 rw [IntKind.wrap_u32]
 have:=x.isLt
 omega
theorem bits_xor_B (x y:BitVec 32):Go.bits .xor .u32 (x.toNat:Int) (y.toNat:Int)=((x ^^^ y).toNat:Int):=by
 have h:Go.bits .xor .u32 (x.toNat:Int) (y.toNat:Int)=IntKind.u32.wrap (((BitVec.ofInt 32 (x.toNat:Int)) ^^^ (BitVec.ofInt 32 (y.toNat:Int))).toNat:Int):=rfl
 rw [h,ofInt_toNat,ofInt_toNat,wrap_toNat]
theorem bits_and_B (x y:BitVec 32):Go.bits .and .u32 (x.toNat:Int) (y.toNat:Int)=((x &&& y).toNat:Int):=by
 have h:Go.bits .and .u32 (x.toNat:Int) (y.toNat:Int)=IntKind.u32.wrap (((BitVec.ofInt 32 (x.toNat:Int)) &&& (BitVec.ofInt 32 (y.toNat:Int))).toNat:Int):=rfl
 rw [h,ofInt_toNat,ofInt_toNat,wrap_toNat]
theorem half_B (x:BitVec 32):(x.toNat:Int)/(2:Int)=((x >>> 1).toNat:Int):=by
 rw [BitVec.toNat_ushiftRight,Nat.shiftRight_eq_div_pow]
 omega
theorem low_B (x:BitVec 32):x.getLsbD 0=decide (x.toNat % 2=1):=by
 rw [BitVec.getLsbD,Nat.testBit_zero]
theorem crcStep_B (x:BitVec 32):crcStep (x.toNat:Int)=((stepB x).toNat:Int):=by
 unfold crcStep stepB
 have e1:(1:Int)=((1#32).toNat:Int):=rfl
 have e2:(3988292384:Int)=((3988292384#32).toNat:Int):=rfl
 have ha:Go.bits .and .u32 (x.toNat:Int) 1=((x.toNat % 2:Nat):Int):=by
  conv=>lhs;rw [e1]
  rw [bits_and_B,BitVec.toNat_and]
  exact congrArg Int.ofNat (Nat.and_one_is_mod _)
 rw [ha,half_B,low_B]
 by_cases h:x.toNat % 2=1
 ·rw [if_pos (by omega),decide_eq_true h,e2,bits_xor_B]
  rfl
 ·rw [if_neg (by omega),decide_eq_false h]
  simp [polB]
theorem crcSteps_B (x:BitVec 32):∀ n,crcSteps n (x.toNat:Int)=((stepsB n x).toNat:Int)
 | 0=>rfl
 | n+1=>by rw [crcSteps,crcSteps_B x n,crcStep_B];rfl
def byteB (x:BitVec 32) (b:Nat):BitVec 32:=stepsB 8 (x ^^^ BitVec.ofNat 32 b)
theorem crcByte_B (x:BitVec 32) (b:Nat) (hb:b<256):crcByte (x.toNat:Int) (b:Int)=((byteB x b).toNat:Int):=by
 unfold crcByte byteB
 have e:(b:Int)=((BitVec.ofNat 32 b).toNat:Int):=by
  rw [BitVec.toNat_ofNat]
  congr 1
  omega
 rw [e,bits_xor_B,crcSteps_B]
def nat (s:ByteArray) (i:Nat):Nat:=(bt s (i:Int)).toNat
theorem nat_lt (s:ByteArray) (i:Nat):nat s i<256:=by have:=bt_range s i;unfold nat;omega
theorem nat_cast (s:ByteArray) (i:Nat):bt s (i:Int)=(nat s i:Int):=by have:=bt_range s i;unfold nat;omega
def foldB (b:Nat→Nat) (x:BitVec 32):Nat→BitVec 32
 | 0=>x
 | n+1=>byteB (foldB b x n) (b n)
theorem crcFold_B (s:ByteArray):∀ n,crcFold s n=((foldB (nat s) 4294967295#32 n).toNat:Int)
 | 0=>rfl
 | n+1=>by rw [crcFold,crcFold_B s n,nat_cast,crcByte_B _ _ (nat_lt s n)];rfl
def mbits (b:Nat→Nat) (j:Nat):Bool:=(b (j/8)).testBit (j % 8)
theorem foldB_bits (b:Nat→Nat) (hb:∀ i,b i<256) (x:BitVec 32):∀ n,foldB b x n=runB (mbits b) x (8*n)
 | 0=>rfl
 | n+1=>by
  rw [foldB,foldB_bits b hb x n,byteB,steps_bits,show 8*(n+1)=8*n+8 by omega,runB_add]
  have e0:BitVec.ofNat 32 (b n) >>> 8=0#32:=by
   apply BitVec.eq_of_toNat_eq
   rw [BitVec.toNat_ushiftRight,Nat.shiftRight_eq_div_pow,BitVec.toNat_ofNat]
   have:=hb n
   simp
   omega
  rw [e0,BitVec.xor_zero]
  apply runB_congr
  intro i hi
  rw [BitVec.getLsbD,BitVec.toNat_ofNat,Nat.mod_eq_of_lt (by have:=hb n;omega)]
  unfold mbits
  rw [show (8*n+i)/8=n by omega,show (8*n+i) % 8=i by omega]
theorem foldB_add (b:Nat→Nat) (x:BitVec 32) (a:Nat):∀ c,foldB b x (a+c)=foldB (fun j=>b (a+j)) (foldB b x a) c
 | 0=>rfl
 | c+1=>by rw [← Nat.add_assoc,foldB,foldB_add b x a c];rfl
theorem foldB_congr {b b':Nat→Nat} (x:BitVec 32):∀ n,(∀ i,i<n→b i=b' i)→foldB b x n=foldB b' x n
 | 0,_=>rfl
 | n+1,h=>by rw [foldB,foldB,foldB_congr x n (fun i hi=>h i (by omega)),h n (by omega)]
theorem foldB_first (b:Nat→Nat) (x:BitVec 32) (n:Nat):foldB b x (n+1)=foldB (fun j=>b (1+j)) (byteB x (b 0)) n:=by
 rw [Nat.add_comm,foldB_add];rfl
theorem stepsB_first (x:BitVec 32):∀ n,stepsB (n+1) x=stepsB n (stepB x)
 | 0=>rfl
 | n+1=>by rw [stepsB,stepsB_first x n];rfl
theorem not_B (x:BitVec 32):(4294967295-(x.toNat:Int)) % (4294967296:Int)=((x ^^^ 4294967295#32).toNat:Int):=by
 have e:x ^^^ 4294967295#32 = ~~~x:=BitVec.xor_allOnes
 have:=x.isLt
 rw [e,BitVec.toNat_not]
 omega
def crcB (s:ByteArray):BitVec 32:=foldB (nat s) 4294967295#32 s.size
theorem frame_Crc_B (s:ByteArray) (h:s.size≤9223372036854775807):frame_Crc.f s=some ((crcB s ^^^ 4294967295#32).toNat:Int):=by
 unfold frame_Crc.f
 rw [if_pos h,crcFold_B]
 have e:(4294967295:Int)=((4294967295#32).toNat:Int):=rfl
 rw [e,bits_xor_B]
 rfl
theorem bt_list (s:ByteArray) (j:Nat):bt s (j:Int)=((s.data.toList.getD j 0).toNat:Int):=by
 unfold bt
 rw [Int.toNat_natCast]
 split
 ·rename_i h
  rw [List.getD_eq_getElem?_getD,List.getElem?_eq_getElem (by rw [data_length];exact h)]
  simp [ByteArray.getElem_eq_getElem_data]
 ·rename_i h
  rw [List.getD_eq_getElem?_getD,List.getElem?_eq_none (by rw [data_length];omega)]
  rfl
theorem nat_list (s:ByteArray) (i:Nat):nat s i=(s.data.toList.getD i 0).toNat:=by
 have h:bt s (i:Int)=((s.data.toList.getD i 0).toNat:Int):=bt_list s i
 unfold nat
 rw [h]
 rfl
end Go.Proofs.YtceedgflpkaclaaDoor.P

/- What sections that are sealed, and bytes that are opened, come to: the program's functions, each as one plain Lean function. Conditions: as each lemma says. -/
namespace Go.Proofs.YtceedgflpkaclaaDoor.P
open Go.RowKit Go.Proofs.YtceedgflpkaclaaDoorW.PrintWords Go.Proofs.YtceedgflpkaclaaDoorW.PrintLast Go.Proofs.YtceedgflpkaclaaDoorW.PrintMore

theorem bytes_eq (a b:ByteArray):a.toList=b.toList↔a=b:=by
 rw [ByteArray.toList_eq,ByteArray.toList_eq]
 exact ⟨fun h=>ByteArray.ext (Array.ext' h),fun h=>by rw [h]⟩
def sealT:ByteArray:=⟨#[115,101,97,108]⟩
def crcI (s:ByteArray):Int:=((crcB s ^^^ 4294967295#32).toNat:Int)
def checkB (s:ByteArray):ByteArray:=strOfNums [crcI s % 256,crcI s/256 % 256,crcI s/65536 % 256,crcI s/16777216 % 256]
theorem checkB_size (s:ByteArray):(checkB s).size=4:=by
 unfold checkB
 rw [strOfNums_size]
 rfl
theorem seal_checked_eq (s:ByteArray) (h:s.size≤9223372036854775807):seal_checked.f s=some (checkB s):=by
 unfold seal_checked.f
 rw [frame_Crc_B s h]
 rfl
def frameB (x:ByteArray):ByteArray:=boundB [x,checkB x]
theorem frameB_size (x:ByteArray) (h:x.size≤4100):(frameB x).size≤4200:=by
 unfold frameB
 have h1:=numB_size (x.size:Int) (by omega) (by omega)
 have h2:=numB_size ((checkB x).size:Int) (by omega) (by rw [checkB_size];omega)
 rw [boundB_cons,boundB_one]
 simp only [ByteArray.size_append]
 rw [checkB_size] at h2 ⊢
 omega
def mayS (l:List ByteArray):Prop:=l.length≤64∧∀ p∈l,p.size≤4096
instance (l:List ByteArray):Decidable (mayS l):=by unfold mayS;exact inferInstance
theorem sumV_32 (s:ByteArray):(sumV s).size=32:=by
 unfold sumV
 show (List.toArray _).size=32
 rw [List.size_toArray,outB_length]
theorem seal_Sum_eq (s:ByteArray) (h:s.size≤70368744177664):seal_Sum.f s=some (sumV s):=by
 unfold seal_Sum.f
 rw [if_pos h]
def sectionB (f:ByteArray):ByteArray×Int :=
 match (looseB f).1 with
 | [x,c]=>if c.size≠4 then (⟨#[]⟩,6) else if 4096<x.size then (⟨#[]⟩,2) else if c≠checkB x then (⟨#[]⟩,4) else if boundB [x,c]≠f then (⟨#[]⟩,6) else (x,0)
 | _=>(⟨#[]⟩,6)
theorem section_j0_true (k:Nat) (f:ByteArray) (l:List ByteArray):seal_section.j0 (k+1) f l true=some (⟨#[]⟩,6):=by
 simp only [seal_section.j0,if_true]
theorem seal_section_eq (f:ByteArray) (hf:f.size<100000000) (k:Nat) (hk:2*f.size+1000<k):seal_section.f k f=some (sectionB f):=by
 obtain ⟨k,rfl⟩:∃ m,k=m+1:=⟨k-1,by omega⟩
 unfold seal_section.f
 rw [frame_Loose_eq f (by omega) _ (by omega)]
 simp only [Option.bind_some]
 unfold sectionB
 match (looseB f).1 with
 | []=>exact section_j0_true k f []
 | [x]=>exact section_j0_true k f [x]
 | x::c::y::r =>
  have e:((x::c::y::r).length:Int)≠2:=by simp;omega
  rw [if_neg e]
  exact section_j0_true k f (x::c::y::r)
 | [x,c] =>
  have e1:rdOf ByteArray.empty [x,c] 1=c:=rfl
  have e0:rdOf ByteArray.empty [x,c] 0=x:=rfl
  have e2:(([x,c]:List ByteArray).length:Int)=2:=rfl
  rw [e1,e2,if_pos (by trivial),if_pos (by decide)]
  by_cases hc:c.size=4
  ·have hb:((c.size:Int) != 4)=false:=by simp;omega
   rw [hb]
   simp only [seal_section.j0]
   rw [e0,e1,e2,if_neg (by simp),if_pos (by decide),if_neg (by simp [hc]:¬ c.size≠4)]
   by_cases hx:4096<x.size
   ·rw [if_pos (by omega),if_pos hx]
   ·rw [if_neg (by omega),if_neg hx,if_pos (by decide),seal_checked_eq x (by omega)]
    simp only [Option.bind_some]
    by_cases hk2:c=checkB x
    ·rw [if_pos ((bytes_eq _ _).2 hk2),if_neg (not_not_intro hk2)]
     have hsz:∀ p∈[x,c],p.size≤8192:=by
      intro p hp2
      simp only [List.mem_cons,List.not_mem_nil,or_false] at hp2
      rcases hp2 with rfl|rfl<;>omega
     rw [frame_Bind_eq k (by omega) _ (fun p hp=>by have:=hsz p hp;omega),if_pos ⟨by simp,hsz⟩]
     simp only [Option.bind_some,if_true]
     by_cases hb2:boundB [x,c]=f
     ·rw [if_pos ((bytes_eq _ _).2 hb2),if_neg (not_not_intro hb2)]
     ·rw [if_neg (fun h=>hb2 ((bytes_eq _ _).1 h)),if_pos hb2]
    ·rw [if_neg (fun h=>hk2 ((bytes_eq _ _).1 h)),if_pos hk2]
  ·have hb:((c.size:Int) != 4)=true:=by simp;omega
   rw [hb]
   dsimp only
   rw [if_pos hc]
   exact section_j0_true k f [x,c]
def openGo:List ByteArray→List ByteArray→List ByteArray×Int
 | [],out=>(out,0)
 | f::fs,out=>if (sectionB f).2=0 then openGo fs (out++[(sectionB f).1]) else ([],(sectionB f).2)
def openB (s:ByteArray):List ByteArray×Int :=
 if s.size<36 then ([],3)
 else if s.extract 0 4≠sealT then ([],6)
 else if sumV (s.extract 0 (s.size-32))≠s.extract (s.size-32) s.size then ([],5)
 else if (looseB (s.extract 4 (s.size-32))).2≠0 then ([],(looseB (s.extract 4 (s.size-32))).2)
 else if (looseB (s.extract 4 (s.size-32))).1.length>64 then ([],2)
 else openGo (looseB (s.extract 4 (s.size-32))).1 []
theorem seal_Open_l0 (fs:List ByteArray) (hl:fs.length≤512) (hs:∀ f∈fs,f.size≤8192):∀ (d i k:Nat) (out:List ByteArray),i+d=fs.length→d+20000<k→out.length=i →
  seal_Open.l0 k out fs (fs.length:Int) (i:Int)=some (openGo (fs.drop i) out):=by
 intro d
 induction d with
 | zero =>
  intro i k out hi hk ho
  obtain ⟨k,rfl⟩:∃ m,k=m+1:=⟨k-1,by omega⟩
  simp only [seal_Open.l0]
  rw [if_neg (by omega),List.drop_of_length_le (by omega)]
  rfl
 | succ d ih =>
  intro i k out hi hk ho
  obtain ⟨k,rfl⟩:∃ m,k=m+1:=⟨k-1,by omega⟩
  have hlt:i<fs.length:=by omega
  have h1:fs[i].size≤8192:=hs _ (List.getElem_mem hlt)
  simp only [seal_Open.l0]
  rw [rdOf_string fs i hlt,if_pos (by omega),if_pos (by omega),if_pos (by omega),seal_section_eq _ (by omega) k (by omega),List.drop_eq_getElem_cons hlt,openGo]
  simp only [Option.bind_some]
  by_cases h:(sectionB fs[i]).2=0
  ·rw [if_pos h,if_pos h,if_pos (by omega),wrap64_id (by omega) (by omega),show ((i:Int)+1)=((i+1:Nat):Int) by omega]
   exact ih (i+1) k _ (by omega) (by omega) (by simp [ho])
  ·rw [if_neg h,if_neg h]
theorem prefix_eq (a b:ByteArray) (h:b.size≤a.size):strings_HasPrefix.f a b=some (decide (a.extract 0 b.size=b)):=by
 unfold strings_HasPrefix.f stringslite_HasPrefix.f
 rw [if_pos (by omega),if_pos (by omega),if_pos (by omega),Int.toNat_natCast]
 simp only [Option.bind_some]
 congr 1
 by_cases he:a.extract 0 b.size=b
 ·rw [decide_eq_true he,he]
  exact beq_iff_eq.2 rfl
 ·rw [decide_eq_false he]
  exact beq_eq_false_iff_ne.2 (fun e=>he ((bytes_eq _ _).1 e))
theorem seal_Open_eq (s:ByteArray) (hs:s.size<10000000) (k:Nat) (hk:100000000<k):seal_Open.f k s=some (openB s):=by
 unfold seal_Open.f openB
 rw [wrap64_id (by omega) (by omega)]
 by_cases h0:s.size<36
 ·rw [if_pos (by omega),if_pos h0]
 ·rw [if_neg (by omega),if_neg h0]
  have e:(s.size:Int)-32=((s.size-32:Nat):Int):=by omega
  have ep:=prefix_eq s sealT (by show 4≤_;omega)
  have es:sealT.size=4:=rfl
  rw [es] at ep
  rw [show (⟨#[115,101,97,108]⟩:ByteArray)=sealT from rfl,ep,e]
  simp only [Option.bind_some,Int.toNat_natCast]
  by_cases h1:s.extract 0 4=sealT
  ·rw [if_pos (decide_eq_true h1),if_neg (not_not_intro h1),if_pos (by omega),if_pos (by omega),seal_Sum_eq _ (by rw [ByteArray.size_extract];omega)]
   simp only [Option.bind_some]
   by_cases h2:sumV (s.extract 0 (s.size-32))=s.extract (s.size-32) s.size
   ·rw [if_pos ((bytes_eq _ _).2 h2),if_neg (not_not_intro h2),if_pos (by omega)]
    have hz:(s.extract 4 (s.size-32)).size≤s.size:=by rw [ByteArray.size_extract];omega
    generalize s.extract 4 (s.size-32)=t at hz ⊢
    rw [frame_Loose_eq t (by omega) k (by omega)]
    simp only [Option.bind_some]
    have hl:=looseB_length t
    have hsz:=looseB_sizes t
    generalize looseB t=q at hl hsz ⊢
    by_cases h3:q.2=0
    ·rw [if_pos h3,if_neg (not_not_intro h3)]
     by_cases h4:q.1.length>64
     ·rw [if_pos (by omega),if_pos h4]
     ·rw [if_neg (by omega),if_neg h4,show (0:Int)=((0:Nat):Int) from rfl,seal_Open_l0 q.1 hl hsz q.1.length 0 k [] (by omega) (by omega) rfl,List.drop_zero]
    ·rw [if_neg h3,if_pos h3]
   ·rw [if_neg (fun h=>h2 ((bytes_eq _ _).1 h)),if_pos h2]
  ·rw [if_neg (fun h=>h1 (of_decide_eq_true h)),if_pos h1]
end Go.Proofs.YtceedgflpkaclaaDoor.P

/- What is sealed is opened as it was; what bytes are opened to, sealed again, is these bytes. Conditions: as each lemma says. -/
namespace Go.Proofs.YtceedgflpkaclaaDoor.P
open Go.RowKit Go.Proofs.YtceedgflpkaclaaDoorW.PrintWords Go.Proofs.YtceedgflpkaclaaDoorW.PrintLast Go.Proofs.YtceedgflpkaclaaDoorW.PrintMore

theorem section_back (x:ByteArray) (h:x.size≤4096):sectionB (frameB x)=(x,0):=by
 have hc:=checkB_size x
 have hm:mayB [x,checkB x]:=⟨by simp,by
  intro p hp2
  simp only [List.mem_cons,List.not_mem_nil,or_false] at hp2
  rcases hp2 with rfl|rfl<;>omega⟩
 unfold sectionB frameB
 rw [looseB_back _ hm]
 simp only
 rw [if_neg (by simp [hc]),if_neg (by omega),if_neg (by simp),if_neg (by simp)]
theorem extract_front (a b:ByteArray):(a++b).extract 0 a.size=a:=by
 apply ByteArray.ext
 apply Array.ext'
 rw [extract_list,List.drop_zero,ByteArray.data_append,Array.toList_append,Nat.sub_zero,← data_length a,List.take_left]
theorem extract_back (a b:ByteArray) (n:Nat) (hn:n=a.size+b.size):(a++b).extract a.size n=b:=by
 apply ByteArray.ext
 apply Array.ext'
 subst hn
 rw [extract_list,ByteArray.data_append,Array.toList_append,← data_length a,List.drop_left,Nat.add_sub_cancel_left,← data_length b,List.take_length]
end Go.Proofs.YtceedgflpkaclaaDoor.P

/- A text's mark; the known text's is as it is known. Conditions: as each lemma says. -/
namespace Go.Proofs.YtceedgflpkaclaaDoor.P
open Go.RowKit Go.Proofs.YtceedgflpkaclaaDoorW.PrintWords Go.Proofs.YtceedgflpkaclaaDoorW.PrintLast Go.Proofs.YtceedgflpkaclaaDoorW.PrintMore

def markB (s:ByteArray):ByteArray:=⟨(markL (bytesOf ((sumV s).extract 0 8)) 8).toArray⟩
theorem seal_Mark_eq (s:ByteArray) (h:s.size≤70368744177664):seal_Mark.f s=some (markB s):=by
 unfold seal_Mark.f
 rw [if_pos h]
 rfl
theorem known_mark:markB (⟨#[97,98,99]⟩:ByteArray)=⟨#[98,97,55,56,49,54,98,102,56,102,48,49,99,102,101,97]⟩:=by decide +kernel
theorem alive_true:transhipmentlaw02_alive.f=some true:=by
 unfold transhipmentlaw02_alive.f
 rw [seal_Mark_eq _ (by decide),known_mark]
 simp only [Option.bind_some,ByteArray.toList_eq]
 decide
theorem wf_u32 {n:Int} (h:(Lit.int .u32 n).wf=true):0≤n∧n<4294967296:=by
 simp [Lit.wf,IntKind.min,IntKind.max,IntKind.signed,IntKind.bits] at h
 omega
end Go.Proofs.YtceedgflpkaclaaDoor.P

/- The program's words behind a block are those of the plain reference. Conditions: as each lemma says. -/
namespace Go.Proofs.YtceedgflpkaclaaDoor.P
open Go.RowKit Go.Proofs.YtceedgflpkaclaaDoorW.PrintWords Go.Proofs.YtceedgflpkaclaaDoorW.PrintLast Go.Proofs.YtceedgflpkaclaaDoorW.PrintMore

def W32 (x:Int):Prop:=0≤x∧x<4294967296
theorem wraps_u32 (n:Int) (h0:0≤n) (h1:n<2 ^ 32):IntKind.u32.wrap n=n:=by rw [IntKind.wrap_u32];omega
theorem wrap_W32 (x:Int):W32 (IntKind.u32.wrap x):=by
 rw [IntKind.wrap_u32]
 exact ⟨Int.emod_nonneg _ (by decide),Int.emod_lt_of_pos _ (by decide)⟩
theorem or_W32 (a b:Int):W32 (Go.bits .or .u32 a b):=by
 have h:Go.bits .or .u32 a b=IntKind.u32.wrap (((BitVec.ofInt 32 a) ||| (BitVec.ofInt 32 b)).toNat:Int):=rfl
 rw [h]
 exact wrap_W32 _
theorem wid (x:Int) (h0:-9223372036854775808≤x) (h1:x<9223372036854775808):wrap64 x=x:=by unfold wrap64;omega
def turn1 (x:Int):Int:=x/2+x % 2*2147483648
def turnsI (x:Int):Nat→Int
 | 0=>x
 | n+1=>turn1 (turnsI x n)
theorem turns_formula (x:Int) (hx:0≤x):∀ n:Nat,n≤32→turnsI x n=x/2 ^ n+x % 2 ^ n*2 ^ (32-n)
 | 0,_=>by simp [turnsI,Int.emod_one]
 | n+1,hn=>by
  rw [turnsI,turns_formula x hx n (by omega)]
  obtain ⟨p,hp⟩:∃ p:Int,p=2 ^ (32-(n+1)):=⟨_,rfl⟩
  obtain ⟨q,hq⟩:∃ q:Int,q=2 ^ n:=⟨_,rfl⟩
  have e1:(2:Int) ^ (32-n)=p*2:=by rw [hp,← Int.pow_succ];congr 1;omega
  have e2:(2:Int) ^ (n+1)=q*2:=by rw [hq,Int.pow_succ]
  have e3:q*p=2147483648:=by
   rw [hp,hq,← Int.pow_add,show n+(32-(n+1))=31 by omega]
   decide
  have hq0:0<q:=by rw [hq];exact Int.pow_pos (by decide)
  rw [e1,e2,← hq,← hp]
  have e4:x/(q*2)=x/q/2:=(Int.ediv_ediv_of_nonneg (by omega)).symm
  have e5:x % (q*2)=x % q+q*(x/q % 2):=by
   obtain ⟨a,rfl⟩:=Int.eq_ofNat_of_zero_le hx
   obtain ⟨b,rfl⟩:=Int.eq_ofNat_of_zero_le (Int.le_of_lt hq0)
   exact_mod_cast (Nat.mod_mul:a % (b*2)=_)
  rw [e4,e5,Int.add_mul]
  have e6:q*(x/q % 2)*p=x/q % 2*2147483648:=by rw [← e3,Int.mul_comm q,Int.mul_assoc]
  rw [e6]
  unfold turn1
  have e7:x % q*(p*2)=(x % q*p)*2:=by rw [Int.mul_assoc]
  rw [e7]
  generalize x % q*p=r
  generalize x/q=y
  omega
theorem turn_W32 {x:Int} (h:W32 x):W32 (turn1 x):=by
 unfold W32 turn1 at *
 omega
theorem turns_W32 {x:Int} (h:W32 x):∀ n,W32 (turnsI x n)
 | 0=>h
 | n+1=>turn_W32 (turns_W32 h n)
theorem turnI_eq {x:Int} (h:W32 x) (n:Nat) (hn:n≤32):turnI x n=turnsI x n:=by
 rw [turns_formula x h.1 n hn]
 unfold turnI
 have hq0:(0:Int)<2 ^ n:=Int.pow_pos (by decide)
 have hp0:(0:Int)<2 ^ (32-n):=Int.pow_pos (by decide)
 have e3:(2:Int) ^ n*2 ^ (32-n)=4294967296:=by
  rw [← Int.pow_add,show n+(32-n)=32 by omega]
  decide
 have e1:IntKind.u32.wrap (x*2 ^ (32-n))=x % 2 ^ n*2 ^ (32-n):=by
  rw [IntKind.wrap_u32,← e3,Int.mul_comm x,Int.mul_comm (2 ^ n),Int.mul_emod_mul_of_pos _ _ hp0,Int.mul_comm]
 have h1:=Int.emod_nonneg x (b:=2 ^ n) (by omega)
 have h2:=Int.emod_lt_of_pos x (b:=2 ^ n) hq0
 have h3:x/2 ^ n<2 ^ (32-n):=by
  apply Int.ediv_lt_of_lt_mul hq0
  rw [Int.mul_comm,e3]
  exact h.2
 have h4:x % 2 ^ n*2 ^ (32-n)<4294967296:=by
  rw [← e3]
  exact Int.mul_lt_mul_of_pos_right h2 hp0
 have h5:x/2 ^ n≤x:=Int.ediv_le_self _ h.1
 rw [e1,bits_join .u32 32 (by decide) wraps_u32 (32-n) _ _ (Int.mul_nonneg h1 (by omega)) (Int.mul_emod_left _ _) (by omega) (Int.ediv_nonneg h.1 (by omega)) h3 (by have:=h.2;omega),Int.add_comm]
theorem ref_turn_l0 (x:Int) (h:W32 x) (n:Nat) (hn:n≤32):∀ (d i k:Nat),i+d=n→d<k→transhipmentref02_turn.l0 k (turnsI x i) (n:Int) (i:Int)=some (turnsI x n):=by
 intro d
 induction d with
 | zero =>
  intro i k hi hk
  obtain ⟨k,rfl⟩:∃ m,k=m+1:=⟨k-1,by omega⟩
  simp only [transhipmentref02_turn.l0]
  rw [if_neg (by omega),show i=n by omega]
 | succ d ih =>
  intro i k hi hk
  obtain ⟨k,rfl⟩:∃ m,k=m+1:=⟨k-1,by omega⟩
  simp only [transhipmentref02_turn.l0]
  have ht:=turns_W32 h i
  have e:(((Int.tdiv (turnsI x i) 2) % 4294967296)+(((Int.tmod (turnsI x i) 2)*2147483648) % 4294967296)) % 4294967296=turnsI x (i+1):=by
   rw [turnsI,turn1,Int.tdiv_eq_ediv_of_nonneg ht.1,Int.tmod_eq_emod_of_nonneg ht.1]
   have:=ht.1
   have:=ht.2
   omega
  rw [if_pos (by omega),e,wid _ (by omega) (by omega)]
  exact ih (i+1) k (by omega) (by omega)
theorem ref_turn_eq (x:Int) (h:W32 x) (n:Nat) (hn:n≤32) (k:Nat) (hk:40<k):transhipmentref02_turn.f k x (n:Int)=some (turnI x n):=by
 unfold transhipmentref02_turn.f
 rw [turnI_eq h n hn]
 exact ref_turn_l0 x h n hn n 0 k (by omega) (by omega)
def toL (v:Nat→Int):List Int:=[v 0,v 1,v 2,v 3,v 4,v 5,v 6,v 7]
theorem not_eq (x:Int) (h:W32 x):notI x=(4294967295-x) % 4294967296:=by
 unfold notI
 obtain ⟨n,rfl⟩:=Int.eq_ofNat_of_zero_le h.1
 have hn:n<4294967296:=by have:=h.2;omega
 have e:Go.bits .xor .u32 (if IntKind.u32.signed=true then -1 else IntKind.u32.max) (n:Int)=IntKind.u32.wrap (((BitVec.ofInt 32 4294967295) ^^^ (BitVec.ofInt 32 (n:Int))).toNat:Int):=rfl
 rw [e,show (BitVec.ofInt 32 4294967295)=BitVec.allOnes 32 by decide,BitVec.allOnes_xor,BitVec.toNat_not,BitVec.ofInt_natCast,BitVec.toNat_ofNat,IntKind.wrap_u32]
 omega
theorem ref_Round_eq (v:Nat→Int) (h0:W32 (v 0)) (h4:W32 (v 4)) (kk x:Int) (k:Nat) (hk:40<k):transhipmentref02_Round.f k (toL v) kk x=some (toL (roundI v kk x)):=by
 unfold transhipmentref02_Round.f
 have e:((toL v).length:Int)=8:=rfl
 have r0:rd (toL v) 0=v 0:=rfl
 have r1:rd (toL v) 1=v 1:=rfl
 have r2:rd (toL v) 2=v 2:=rfl
 have r3:rd (toL v) 3=v 3:=rfl
 have r4:rd (toL v) 4=v 4:=rfl
 have r5:rd (toL v) 5=v 5:=rfl
 have r6:rd (toL v) 6=v 6:=rfl
 have r7:rd (toL v) 7=v 7:=rfl
 have t:=fun (n:Nat) (hn:n≤32)=>ref_turn_eq (v 4) h4 n hn k hk
 have u:=fun (n:Nat) (hn:n≤32)=>ref_turn_eq (v 0) h0 n hn k hk
 have t6:=t 6 (by decide)
 have t11:=t 11 (by decide)
 have t25:=t 25 (by decide)
 have u2:=u 2 (by decide)
 have u13:=u 13 (by decide)
 have u22:=u 22 (by decide)
 simp only [Int.cast_ofNat_Int] at t6 t11 t25 u2 u13 u22
 rw [e,r0,r1,r2,r3,r4,r5,r6,r7,← not_eq _ h4]
 rw [t6,t11,t25,u2,u13,u22]
 simp only [Option.bind_some]
 rw [if_pos (by decide),if_pos (by decide),if_pos (by decide),if_pos (by decide),if_pos (by decide),if_pos (by decide),if_pos (by decide),if_pos (by decide)]
 simp only [← IntKind.wrap_u32]
 rfl
end Go.Proofs.YtceedgflpkaclaaDoor.P

/- The program's words behind a block, and behind all blocks, are those of the plain reference. Conditions: as each lemma says. -/
namespace Go.Proofs.YtceedgflpkaclaaDoor.P
open Go.RowKit Go.Proofs.YtceedgflpkaclaaDoorW.PrintWords Go.Proofs.YtceedgflpkaclaaDoorW.PrintLast Go.Proofs.YtceedgflpkaclaaDoorW.PrintMore

theorem wordB_W32 (s:ByteArray) (t:Nat):∀ n,W32 (wordB s t n)
 | 0=>by unfold wordB W32;omega
 | n+1=>or_W32 _ _
theorem word_next (s:ByteArray) (t n:Nat):(((256*wordB s t n) % 4294967296)+((bt s ((4*t+n:Nat):Int)) % 4294967296)) % 4294967296=wordB s t (n+1):=by
 have hb:=bt_range s ((4*t+n:Nat):Int)
 have hw:=wordB_W32 s t n
 rw [wordB]
 generalize bt s ((4*t+n:Nat):Int)=b at *
 generalize wordB s t n=x at *
 have e1:IntKind.u32.wrap (x*256)=x % 16777216*256:=by
  rw [IntKind.wrap_u32]
  omega
 have h0:0≤x % 16777216*256:=by omega
 rw [e1,bits_join .u32 32 (by decide) wraps_u32 8 _ _ h0 (by omega) (by omega) (by omega) (by omega) (by omega)]
 omega
theorem ref_l1 (h ws:List Int) (s:ByteArray) (hs:s.size=64) (t:Nat) (ht:t<16) (hl:ws.length<100):∀ (d i k:Nat),i+d=4 →
  transhipmentref02_Block.l1 (k+d+1) h s ws (t:Int) (wordB s t i) (i:Int)=transhipmentref02_Block.l0 k h s (ws++[wordB s t 4]) ((t+1:Nat):Int):=by
 intro d
 induction d with
 | zero =>
  intro i k hi
  rw [Nat.add_zero,transhipmentref02_Block.l1,if_neg (by omega),if_pos (by omega),wid _ (by omega) (by omega),show i=4 by omega]
  rfl
 | succ d ih =>
  intro i k hi
  rw [show k+(d+1)+1=(k+d+1)+1 by omega,transhipmentref02_Block.l1]
  rw [if_pos (by omega),wid (4*(t:Int)) (by omega) (by omega),wid (4*(t:Int)+(i:Int)) (by omega) (by omega),if_pos (by omega),if_pos (by omega),show (4*(t:Int)+(i:Int))=((4*t+i:Nat):Int) by omega,word_next,wid ((i:Int)+1) (by omega) (by omega)]
  exact ih (i+1) k (by omega)
theorem ref_l0 (h:List Int) (s:ByteArray) (hs:s.size=64):∀ (d t k:Nat),t+d=16 →
  transhipmentref02_Block.l0 (k+6*d+1) h s ((List.range t).map fun j=>wordB s j 4) (t:Int)=transhipmentref02_Block.l2 k h ((List.range 16).map fun j=>wordB s j 4) 16:=by
 intro d
 induction d with
 | zero =>
  intro t k ht
  rw [Nat.mul_zero,Nat.add_zero,transhipmentref02_Block.l0,if_neg (by omega),show t=16 by omega]
 | succ d ih =>
  intro t k ht
  rw [show k+6*(d+1)+1=((k+6*d+1)+4+1)+1 by omega,transhipmentref02_Block.l0,if_pos (by omega)]
  have e:=ref_l1 h ((List.range t).map fun j=>wordB s j 4) s hs t (by omega) (by simp;omega) 4 0 (k+6*d+1) rfl
  rw [show wordB s t 0=0 from rfl] at e
  rw [show (((0:Nat):Int))=0 from rfl] at e
  rw [e]
  have e2:((List.range t).map fun j=>wordB s j 4)++[wordB s t 4]=(List.range (t+1)).map fun j=>wordB s j 4:=by rw [List.range_succ,List.map_append];rfl
  rw [e2]
  exact ih (t+1) k (by omega)
theorem spreadF_next (s:ByteArray) (n j:Nat) (hj:j<n+16):spreadF s (n+1) j=spreadF s n j:=by
 rw [spreadF]
 unfold upd
 rw [if_neg (by omega)]
theorem spreadF_stable (s:ByteArray) (n j:Nat) (hj:j<n+16):∀ d,spreadF s (n+d) j=spreadF s n j
 | 0=>rfl
 | d+1=>by rw [← Nat.add_assoc,spreadF_next s (n+d) j (by omega),spreadF_stable s n j hj d]
theorem spreadF_head (s:ByteArray) (t:Nat) (ht:t<16):spreadF s 48 t=wordB s t 4:=by
 have:=spreadF_stable s 0 t (by omega) 48
 rw [Nat.zero_add] at this
 rw [this,spreadF,headF,if_pos ht]
theorem spreadF_step (s:ByteArray) (t:Nat) (h1:16≤t) (h2:t<64):spreadF s 48 t=stepW (spreadF s 48) t:=by
 obtain ⟨n,hn⟩:∃ n,t=n+16:=⟨t-16,by omega⟩
 have e1:=spreadF_stable s (n+1) t (by omega) (48-(n+1))
 rw [show n+1+(48-(n+1))=48 by omega] at e1
 have e2:∀ j,j<t→spreadF s 48 j=spreadF s n j:=by
  intro j hj
  have:=spreadF_stable s n j (by omega) (48-n)
  rw [show n+(48-n)=48 by omega] at this
  exact this
 rw [e1,spreadF]
 unfold upd
 rw [← hn,if_pos rfl]
 unfold stepW
 rw [e2 (t-2) (by omega),e2 (t-7) (by omega),e2 (t-15) (by omega),e2 (t-16) (by omega)]
theorem spreadF_W32 (s:ByteArray) (t:Nat) (ht:t<64):W32 (spreadF s 48 t):=by
 by_cases h:t<16
 ·rw [spreadF_head s t h]
  exact wordB_W32 s t 4
 ·rw [spreadF_step s t (by omega) ht]
  exact wrap_W32 _
theorem rd_range (F:Nat→Int) (n j:Nat) (h:j<n):rd ((List.range n).map F) (j:Int)=F j:=by
 unfold rd
 rw [Int.toNat_natCast,List.getD_eq_getElem?_getD,List.getElem?_map,List.getElem?_range h]
 rfl
theorem ref_l2 (h:List Int) (s:ByteArray):∀ (d t k:Nat),t+d=64→16≤t→60<k →
  transhipmentref02_Block.l2 (k+d+1) h ((List.range t).map (spreadF s 48)) (t:Int)=transhipmentref02_Block.l3 k h ((List.range 64).map (spreadF s 48)) h keysL 0:=by
 intro d
 induction d with
 | zero =>
  intro t k ht h16 hk
  rw [Nat.add_zero,transhipmentref02_Block.l2,if_neg (by omega),show t=64 by omega]
  rfl
 | succ d ih =>
  intro t k ht h16 hk
  rw [show k+(d+1)+1=(k+d+1)+1 by omega,transhipmentref02_Block.l2]
  have hl:(((List.range t).map (spreadF s 48)).length:Int)=(t:Int):=by simp
  have hl':((List.range t).map (spreadF s 48)).length=t:=by simp
  rw [hl,hl',wid ((t:Int)-15) (by omega) (by omega),wid ((t:Int)-2) (by omega) (by omega),wid ((t:Int)-7) (by omega) (by omega),wid ((t:Int)-16) (by omega) (by omega),wid ((t:Int)+1) (by omega) (by omega)]
  rw [show (t:Int)-15=((t-15:Nat):Int) by omega,show (t:Int)-2=((t-2:Nat):Int) by omega,show (t:Int)-7=((t-7:Nat):Int) by omega,show (t:Int)-16=((t-16:Nat):Int) by omega]
  rw [rd_range _ t _ (by omega),rd_range _ t _ (by omega),rd_range _ t _ (by omega),rd_range _ t _ (by omega)]
  have w2:=spreadF_W32 s (t-2) (by omega)
  have w15:=spreadF_W32 s (t-15) (by omega)
  have t17:=ref_turn_eq _ w2 17 (by decide) (k+d+1) (by omega)
  have t19:=ref_turn_eq _ w2 19 (by decide) (k+d+1) (by omega)
  have t7:=ref_turn_eq _ w15 7 (by decide) (k+d+1) (by omega)
  have t18:=ref_turn_eq _ w15 18 (by decide) (k+d+1) (by omega)
  simp only [Int.cast_ofNat_Int] at t17 t19 t7 t18
  rw [if_pos (by omega),if_pos (by omega),if_pos (by omega),if_pos (by omega),if_pos (by omega),t17]
  simp only [Option.bind_some]
  rw [t19]
  simp only [Option.bind_some]
  rw [if_pos (by omega),if_pos (by omega),t7]
  simp only [Option.bind_some]
  rw [t18]
  simp only [Option.bind_some]
  rw [if_pos (by omega),if_pos (by omega),if_pos (by omega)]
  have e3:Int.tdiv (spreadF s 48 (t-2)) 1024 % 4294967296=spreadF s 48 (t-2)/1024:=by
   rw [Int.tdiv_eq_ediv_of_nonneg w2.1]
   have:=w2.1
   have:=w2.2
   omega
  have e4:Int.tdiv (spreadF s 48 (t-15)) 8 % 4294967296=spreadF s 48 (t-15)/8:=by
   rw [Int.tdiv_eq_ediv_of_nonneg w15.1]
   have:=w15.1
   have:=w15.2
   omega
  rw [e3,e4]
  simp only [← IntKind.wrap_u32]
  have e5:((List.range t).map (spreadF s 48))++[IntKind.u32.wrap (IntKind.u32.wrap (IntKind.u32.wrap (Go.bits .xor .u32 (Go.bits .xor .u32 (turnI (spreadF s 48 (t-2)) 17) (turnI (spreadF s 48 (t-2)) 19)) (spreadF s 48 (t-2)/1024)+spreadF s 48 (t-7))+Go.bits .xor .u32 (Go.bits .xor .u32 (turnI (spreadF s 48 (t-15)) 7) (turnI (spreadF s 48 (t-15)) 18)) (spreadF s 48 (t-15)/8))+spreadF s 48 (t-16))]=(List.range (t+1)).map (spreadF s 48):=by
   rw [List.range_succ,List.map_append,List.map_cons,List.map_nil,spreadF_step s t h16 (by omega)]
   rfl
  rw [e5]
  exact ih (t+1) k (by omega) (by omega) hk
theorem rounds_W32 (H:Nat→Int) (hH:∀ j,j<8→W32 (H j)) (Y:Nat→Int):∀ t j,j<8→W32 (roundsI H Y t j)
 | 0,j,hj=>hH j hj
 | t+1,j,hj=>by
  rw [roundsI]
  unfold roundI
  split
  ·exact wrap_W32 _
  ·split
   ·exact wrap_W32 _
   ·exact rounds_W32 H hH Y t (j-1) (by omega)
theorem rd_nat2 (l:List Int) (t:Nat):rd l (t:Int)=l.getD t 0:=by
 unfold rd
 rw [Int.toNat_natCast]
theorem toL_length (v:Nat→Int):((toL v).length:Int)=8:=rfl
theorem ref_l3_any (L K:List Int) (Y:Nat→Int) (R:Nat→Nat→Int) (hL:(L.length:Int)=8) (hK:(K.length:Int)=64) (hR:∀ t,R (t+1)=roundI (R t) (K.getD t 0) (Y t)) (hW:∀ t j,j<8→W32 (R t j)) (N:Nat) (hN:N=64):∀ (d t k:Nat),t+d=N→60<k →
  transhipmentref02_Block.l3 (k+d+1) L ((List.range N).map Y) (toL (R t)) K (t:Int)=transhipmentref02_Block.l4 k L (toL (R N)) [] 8 0:=by
 intro d
 induction d with
 | zero =>
  intro t k ht hk
  have e:t=N:=by omega
  rw [e,Nat.add_zero,transhipmentref02_Block.l3,if_neg (by omega),hL]
 | succ d ih =>
  intro t k ht hk
  rw [show k+(d+1)+1=(k+d+1)+1 by omega,transhipmentref02_Block.l3]
  have hl:(((List.range N).map Y).length:Int)=(N:Int):=by simp
  rw [hl,hK,if_pos (by omega),if_pos (by omega),if_pos (by omega),if_pos (by omega),rd_range Y N t (by omega)]
  rw [ref_Round_eq _ (hW t 0 (by decide)) (hW t 4 (by decide)) _ _ _ (by omega)]
  rw [Option.bind_some,wid ((t:Int)+1) (by omega) (by omega),rd_nat2,← hR,show ((t:Int)+1)=((t+1:Nat):Int) by omega]
  exact ih (t+1) k (by omega) hk
theorem ref_l3 (H:Nat→Int) (hH:∀ j,j<8→W32 (H j)) (Y:Nat→Int) (k:Nat) (hk:60<k) :
  transhipmentref02_Block.l3 (k+64+1) (toL H) ((List.range 64).map Y) (toL H) keysL 0=transhipmentref02_Block.l4 k (toL H) (toL (roundsI H Y 64)) [] 8 0:=by
 have h:=ref_l3_any (toL H) keysL Y (roundsI H Y) (toL_length H) rfl (fun t=>by rw [roundsI]) (rounds_W32 H hH Y) 64 rfl 64 0 k rfl hk
 rw [show roundsI H Y 0=H from rfl,Int.natCast_zero] at h
 exact h
theorem rd_toL (v:Nat→Int) (j:Nat) (h:j<8):rd (toL v) (j:Int)=v j:=by
 match j,h with
 | 0,_=>rfl|1,_=>rfl|2,_=>rfl|3,_=>rfl|4,_=>rfl|5,_=>rfl|6,_=>rfl|7,_=>rfl
theorem ref_l4 (H V:Nat→Int):∀ (d i k:Nat),i+d=8→d<k →
  transhipmentref02_Block.l4 k (toL H) (toL V) ((List.range i).map fun j=>IntKind.u32.wrap (H j+V j)) 8 (i:Int)=some (toL fun j=>IntKind.u32.wrap (H j+V j)):=by
 intro d
 induction d with
 | zero =>
  intro i k hi hk
  obtain ⟨k,rfl⟩:∃ m,k=m+1:=⟨k-1,by omega⟩
  rw [transhipmentref02_Block.l4,if_neg (by omega),show i=8 by omega]
  rfl
 | succ d ih =>
  intro i k hi hk
  obtain ⟨k,rfl⟩:∃ m,k=m+1:=⟨k-1,by omega⟩
  have hl:∀ v:Nat→Int,((toL v).length:Int)=8:=fun _=>rfl
  rw [transhipmentref02_Block.l4,hl,hl,if_pos (by omega),if_pos (by omega),if_pos (by omega),if_pos (by omega),if_pos (by simp;omega),rd_toL _ i (by omega),rd_toL _ i (by omega),wid ((i:Int)+1) (by omega) (by omega),← IntKind.wrap_u32]
  have e:((List.range i).map fun j=>IntKind.u32.wrap (H j+V j))++[IntKind.u32.wrap (H i+V i)]=(List.range (i+1)).map fun j=>IntKind.u32.wrap (H j+V j):=by rw [List.range_succ,List.map_append];rfl
  rw [e]
  exact ih (i+1) k (by omega) (by omega)
theorem ref_Block_eq (H:Nat→Int) (hH:∀ j,j<8→W32 (H j)) (s:ByteArray) (hs:s.size=64) (k:Nat) (hk:1000<k) :
  transhipmentref02_Block.f k (toL H) s=some (toL fun i=>IntKind.u32.wrap (H i+roundsI H (spreadF s 48) 64 i)):=by
 obtain ⟨m,rfl⟩:∃ m,k=((m+64+1)+48+1)+6*16+1:=⟨k-211,by omega⟩
 unfold transhipmentref02_Block.f
 have e0:=ref_l0 (toL H) s hs 16 0 ((m+64+1)+48+1) rfl
 rw [show ((List.range 0).map fun j=>wordB s j 4)=[] from rfl,show (((0:Nat):Int))=0 from rfl] at e0
 rw [e0]
 have e1:((List.range 16).map fun j=>wordB s j 4)=(List.range 16).map (spreadF s 48):=by
  apply List.map_congr_left
  intro j hj
  rw [spreadF_head s j (List.mem_range.1 hj)]
 have e2:=ref_l2 (toL H) s 48 16 (m+64+1) rfl (by decide) (by omega)
 rw [show (((16:Nat):Int))=16 from rfl] at e2
 rw [e1,e2]
 rw [ref_l3 H hH (spreadF s 48) m (by omega)]
 generalize roundsI H (spreadF s 48) 64=V
 have e4:=ref_l4 H V 8 0 m rfl (by omega)
 exact e4
theorem first_W32 (j:Nat) (h:j<8):W32 (firstF j):=by
 unfold W32
 match j,h with
 | 0,_=>decide|1,_=>decide|2,_=>decide|3,_=>decide|4,_=>decide|5,_=>decide|6,_=>decide|7,_=>decide
theorem blocks_W32 (P:ByteArray):∀ t j,j<8→W32 (blocksF P t j)
 | 0,j,hj=>first_W32 j hj
 | _+1,_,_=>wrap_W32 _
theorem cut_bytes (P:ByteArray) (a b:Nat):strOfNums (((bytesOf P).take b).drop a)=P.extract a b:=by
 apply ByteArray.ext
 apply Array.ext'
 rw [strOfNums_data,ByteArray.data_extract,Array.toList_extract,List.extract_eq_take_drop]
 unfold bytesOf
 rw [← List.map_take,← List.map_drop,List.map_map,List.drop_take]
 have:((fun n:Int=>UInt8.ofNat n.toNat) ∘ fun b:UInt8=>(b.toNat:Int))=id:=by
  funext x
  simp
 rw [this,List.map_id]
theorem blocksGo_eq (P:ByteArray) (N:Nat) (hP:P.size=64*N) (k:Nat) (hk:1000<k):∀ (d t:Nat),t+d=N→blocksGo k (bytesOf P) d t (toL (blocksF P t))=some (toL (blocksF P N))
 | 0,t,ht=>by rw [blocksGo,show t=N by omega]
 | d+1,t,ht=>by
  rw [blocksGo,cut_bytes,ref_Block_eq (blocksF P t) (blocks_W32 P t) _ (by rw [ByteArray.size_extract];omega) k hk]
  simp only [Option.bind_some]
  exact blocksGo_eq P N hP k hk d (t+1) (by omega)
theorem bytesOf_append (a b:ByteArray):bytesOf (a++b)=bytesOf a++bytesOf b:=by
 unfold bytesOf
 rw [ByteArray.data_append,Array.toList_append,List.map_append]
theorem repeat_list (c:Nat):Lib.repeatL [0] c=List.replicate c 0:=by
 induction c with
 | zero=>rfl
 | succ c ih=>rw [Lib.repeatL,ih,List.replicate_succ];rfl
theorem bytesOf_head (s:ByteArray):bytesOf (headT s)=padL s (padZ s.size):=by
 unfold headT padL
 rw [bytesOf_append,bytesOf_append]
 congr 1
 have e:(⟨#[0]⟩:ByteArray).data.toList=[0]:=rfl
 rw [e,repeat_list]
 simp [bytesOf]
theorem bytesOf_one (x:Int):bytesOf (strOfNums [x % 256])=[x % 256]:=by
 have h0:=Int.emod_nonneg x (b:=256) (by decide)
 have h1:=Int.emod_lt_of_pos x (b:=256) (by decide)
 unfold bytesOf
 rw [strOfNums_data]
 simp
 omega
theorem pw_two:∀ q,q<8→pw q=2 ^ (56-8*q):=by decide
theorem bytesOf_acc (U:ByteArray) (n:Nat):∀ j,j≤8→bytesOf (accT U n j)=bytesOf U++lenB n j
 | 0,_=>by rw [accT,lenB,List.append_nil]
 | j+1,hj=>by
  rw [accT,bytesOf_append,bytesOf_acc U n j (by omega),lenB,List.append_assoc,bytesOf_one,pw_two j (by omega)]
theorem bytesOf_sum (s:ByteArray):bytesOf (sumP s)=sumBytes s:=by
 unfold sumP sumBytes
 rw [bytesOf_acc _ _ 8 (by decide),bytesOf_head]
theorem out4_in4 (x:Int) (h:W32 x):(out4 x).map (fun n:Int=>UInt8.ofNat n.toNat)=in4 x 4:=by
 unfold out4
 rw [Int.tdiv_eq_ediv_of_nonneg h.1,Int.tdiv_eq_ediv_of_nonneg h.1,Int.tdiv_eq_ediv_of_nonneg h.1,Int.tmod_eq_emod_of_nonneg h.1]
 simp [in4]
theorem outL_outB (v:Nat→Int) (hv:∀ j,j<8→W32 (v j)):strOfNums (outL (toL v))=⟨(outB v 8).toArray⟩:=by
 unfold strOfNums
 congr 2
 simp only [outL,toL,List.flatMap_cons,List.flatMap_nil,List.map_append,List.append_nil]
 rw [out4_in4 _ (hv 0 (by decide)),out4_in4 _ (hv 1 (by decide)),out4_in4 _ (hv 2 (by decide)),out4_in4 _ (hv 3 (by decide)),out4_in4 _ (hv 4 (by decide)),out4_in4 _ (hv 5 (by decide)),out4_in4 _ (hv 6 (by decide)),out4_in4 _ (hv 7 (by decide))]
 simp only [outB,List.nil_append,List.append_assoc]
theorem ref_Sum_eq (s:ByteArray) (hs:s.size≤70368744177664) (k:Nat) (hk:1000<k):transhipmentref02_Sum.f k s=some (sumV s):=by
 unfold transhipmentref02_Sum.f
 rw [if_pos hs]
 have hb:=bytesOf_sum s
 have hl:=sumBytes_length s
 have hz:(sumP s).size=64*((s.size+9+padZ s.size)/64):=by rw [← bytesOf_length,hb,hl]
 obtain ⟨N,hN⟩:∃ N,(s.size+9+padZ s.size)/64=N:=⟨_,rfl⟩
 rw [hN] at hz ⊢
 have e:=blocksGo_eq (sumP s) N hz k hk N 0 (by omega)
 rw [hb,show toL (blocksF (sumP s) 0)=firstW from rfl] at e
 rw [e]
 simp only [Option.bind_some]
 rw [if_pos (by rfl),outL_outB _ (blocks_W32 _ N)]
 unfold sumV
 rw [hz,show 64*N/64=N by omega]
end Go.Proofs.YtceedgflpkaclaaDoor.P

/- The plain reference's check is the program's. Conditions: as each lemma says. -/
namespace Go.Proofs.YtceedgflpkaclaaDoor.P
open Go.RowKit Go.Proofs.YtceedgflpkaclaaDoorW.PrintWords Go.Proofs.YtceedgflpkaclaaDoorW.PrintLast Go.Proofs.YtceedgflpkaclaaDoorW.PrintMore

theorem ref_On_l0:∀ (d k i:Nat) (X:BitVec 32),i+d=8→d<k→transhipmentref01_On.l0 k (X.toNat:Int) (i:Int)=some ((stepsB d X).toNat:Int):=by
 intro d
 induction d with
 | zero =>
  intro k i X hi hk
  obtain ⟨k,rfl⟩:∃ m,k=m+1:=⟨k-1,by omega⟩
  simp only [transhipmentref01_On.l0]
  rw [if_neg (by omega)]
  rfl
 | succ d ih =>
  intro k i X hi hk
  obtain ⟨k,rfl⟩:∃ m,k=m+1:=⟨k-1,by omega⟩
  have hX:=X.isLt
  simp only [transhipmentref01_On.l0]
  have e1:Int.tmod (X.toNat:Int) 2=((X.toNat % 2:Nat):Int):=by rw [Int.tmod_eq_emod_of_nonneg (by omega)];omega
  have e2:(Int.tdiv (X.toNat:Int) 2) % (4294967296:Int)=((X >>> 1).toNat:Int):=by
   rw [Int.tdiv_eq_ediv_of_nonneg (by omega),half_B]
   have:=(X >>> 1).isLt
   omega
  have e3:(3988292384:Int)=((3988292384#32).toNat:Int):=rfl
  rw [if_pos (by omega),e1,e2,wrap64_id (by omega) (by omega),stepsB_first]
  unfold stepB
  rw [low_B]
  by_cases h:X.toNat % 2=1
  ·rw [if_pos (by omega),decide_eq_true h,e3,bits_xor_B]
   exact ih k (i+1) _ (by omega) (by omega)
  ·rw [if_neg (by omega),decide_eq_false h,show polB false=0#32 from rfl,BitVec.xor_zero]
   exact ih k (i+1) _ (by omega) (by omega)
theorem ref_On_eq (k:Nat) (hk:10<k) (X:BitVec 32) (b:Nat) (_:b<256):transhipmentref01_On.f k (X.toNat:Int) (b:Int)=some ((byteB X b).toNat:Int):=by
 unfold transhipmentref01_On.f byteB
 have e:(b:Int) % (4294967296:Int)=((BitVec.ofNat 32 b).toNat:Int):=by
  rw [BitVec.toNat_ofNat]
  omega
 rw [e,bits_xor_B]
 exact ref_On_l0 8 k 0 _ rfl (by omega)
theorem ref_Crc_l0 (s:ByteArray) (hs:s.size<10000):∀ (d i k:Nat) (X:BitVec 32),i+d=s.size→d+20<k→crcB s=foldB (fun j=>nat s (i+j)) X d →
  transhipmentref01_Crc.l0 k s (X.toNat:Int) (i:Int)=some ((crcB s ^^^ 4294967295#32).toNat:Int):=by
 intro d
 induction d with
 | zero =>
  intro i k X hi hk hX
  obtain ⟨k,rfl⟩:∃ m,k=m+1:=⟨k-1,by omega⟩
  simp only [transhipmentref01_Crc.l0]
  rw [if_neg (by omega),not_B,hX]
  rfl
 | succ d ih =>
  intro i k X hi hk hX
  obtain ⟨k,rfl⟩:∃ m,k=m+1:=⟨k-1,by omega⟩
  simp only [transhipmentref01_Crc.l0]
  rw [if_pos (by omega),if_pos (by omega),nat_cast,ref_On_eq k (by omega) X _ (nat_lt s i),Option.bind_some,wrap64_id (by omega) (by omega)]
  refine ih (i+1) k _ (by omega) (by omega) ?_
  rw [hX,foldB_first]
  refine foldB_congr _ _ (fun j _=>?_)
  rw [Nat.add_assoc]
theorem ref_Crc_eq (s:ByteArray) (hs:s.size<10000) (k:Nat) (hk:10100<k):transhipmentref01_Crc.f k s=some ((crcB s ^^^ 4294967295#32).toNat:Int):=by
 unfold transhipmentref01_Crc.f
 refine ref_Crc_l0 s hs s.size 0 k 4294967295#32 (by omega) (by omega) ?_
 simp only [Nat.zero_add]
 rfl
end Go.Proofs.YtceedgflpkaclaaDoor.P

/- The plain reference's numbers, bound texts and texts taken apart are the program's. Conditions: as each lemma says. -/
namespace Go.Proofs.YtceedgflpkaclaaDoor.P
open Go.RowKit Go.Proofs.YtceedgflpkaclaaDoorW.PrintWords Go.Proofs.YtceedgflpkaclaaDoorW.PrintLast Go.Proofs.YtceedgflpkaclaaDoorW.PrintMore

theorem ref_Number_l0:∀ (d:Nat) (k n:Nat) (acc:List Int),n<128 ^ (d+1)→n<9223372036854775808→d<100→d<k→acc.length+d<1000 →
  transhipmentref01_Number.l0 k (n:Int) acc=some (strOfNums (acc++numL n)):=by
 intro d
 induction d with
 | zero =>
  intro k n acc hn hb hd hk ha
  obtain ⟨k,rfl⟩:∃ m,k=m+1:=⟨k-1,by omega⟩
  have h128:n<128:=by simpa using hn
  simp only [transhipmentref01_Number.l0]
  rw [if_neg (by omega),if_pos (by omega)]
  unfold numL
  rw [dif_pos h128,show (n:Int) % 256=n by omega]
 | succ d ih =>
  intro k n acc hn hb hd hk ha
  obtain ⟨k,rfl⟩:∃ m,k=m+1:=⟨k-1,by omega⟩
  simp only [transhipmentref01_Number.l0]
  by_cases h:n<128
  ·rw [if_neg (by omega),if_pos (by omega)]
   unfold numL
   rw [dif_pos h,show (n:Int) % 256=n by omega]
  ·rw [if_pos (by omega),if_pos (by omega)]
   have e1:wrap64 (Int.tdiv (n:Int) 128)=((n/128:Nat):Int):=by
    rw [Int.tdiv_eq_ediv_of_nonneg (by omega)]
    rw [wrap64_id (by omega) (by omega)]
    omega
   have e2:wrap64 (128+Int.tmod (n:Int) 128) % 256=((n % 128+128:Nat):Int):=by
    rw [Int.tmod_eq_emod_of_nonneg (by omega)]
    rw [wrap64_id (by omega) (by omega)]
    omega
   rw [e1,e2,ih k (n/128) _ (by rw [Nat.pow_succ] at hn;omega) (by omega) (by omega) (by omega) (by simp;omega)]
   conv=>rhs;unfold numL
   rw [dif_neg h,List.append_assoc]
   rfl
theorem ref_Number_eq (k:Nat) (hk:20<k) (n:Int) (h0:0≤n) (h1:n<9223372036854775808):transhipmentref01_Number.f k n=some (numB n):=by
 unfold transhipmentref01_Number.f
 obtain ⟨m,rfl⟩:=Int.eq_ofNat_of_zero_le h0
 rw [ref_Number_l0 10 k m [] (by omega) (by omega) (by omega) (by omega) (by simp)]
 simp [numB]
theorem ref_Bind_l0 (l:List ByteArray) (hb:l.length<5000) (hs:∀ p∈l,p.size≤8200):∀ (d i k:Nat) (out:ByteArray),i+d=l.length→d+30<k→out.size+d*9000≤100000000000 →
  transhipmentref01_Bind.l0 k out l (l.length:Int) (i:Int)=some (out++boundB (l.drop i)):=by
 intro d
 induction d with
 | zero =>
  intro i k out hi hk ho
  obtain ⟨k,rfl⟩:∃ m,k=m+1:=⟨k-1,by omega⟩
  simp only [transhipmentref01_Bind.l0]
  rw [if_neg (by omega),List.drop_of_length_le (by omega)]
  congr 1
  apply ByteArray.ext
  simp [boundB,bound]
 | succ d ih =>
  intro i k out hi hk ho
  obtain ⟨k,rfl⟩:∃ m,k=m+1:=⟨k-1,by omega⟩
  have hlt:i<l.length:=by omega
  have h1:l[i].size≤8200:=hs _ (List.getElem_mem hlt)
  have hn:=numB_size (l[i].size:Int) (by omega) (by omega)
  simp only [transhipmentref01_Bind.l0]
  rw [rdOf_string l i hlt,if_pos (by omega),if_pos (by omega),if_pos (by omega),ref_Number_eq k (by omega) _ (by omega) (by omega)]
  simp only [Option.bind_some]
  rw [if_pos (by omega),if_pos (by rw [ByteArray.size_append];omega),wrap64_id (by omega) (by omega),show ((i:Int)+1)=((i+1:Nat):Int) by omega,
   ih (i+1) k _ (by omega) (by omega) (by simp only [ByteArray.size_append];omega),List.drop_eq_getElem_cons hlt]
  congr 1
  apply ByteArray.ext
  apply Array.ext'
  simp [boundB,bound,ByteArray.data_append]
theorem ref_Bind_eq (l:List ByteArray) (hb:l.length<5000) (hs:∀ p∈l,p.size≤8200) (k:Nat) (hk:5100<k):transhipmentref01_Bind.f k l=some (boundB l):=by
 unfold transhipmentref01_Bind.f
 rw [show (0:Int)=((0:Nat):Int) from rfl,ref_Bind_l0 l hb hs l.length 0 k _ (by omega) (by omega) (by show 0+_≤_;omega)]
 congr 1
end Go.Proofs.YtceedgflpkaclaaDoor.P

/- The plain reference's sealing and opening come to the same as the program's. Conditions: as each lemma says. -/
namespace Go.Proofs.YtceedgflpkaclaaDoor.P
open Go.RowKit Go.Proofs.YtceedgflpkaclaaDoorW.PrintWords Go.Proofs.YtceedgflpkaclaaDoorW.PrintLast Go.Proofs.YtceedgflpkaclaaDoorW.PrintMore

theorem ref_Check_eq (s:ByteArray) (hs:s.size<10000) (k:Nat) (hk:10100<k):transhipmentref02_Check.f k s=some (checkB s):=by
 unfold transhipmentref02_Check.f
 rw [ref_Crc_eq s hs k hk,Option.bind_some]
 unfold checkB crcI
 have h0:(0:Int)≤((crcB s ^^^ 4294967295#32).toNat:Int):=by omega
 have h1:=(crcB s ^^^ 4294967295#32).isLt
 generalize (crcB s ^^^ 4294967295#32).toNat=x at h0 h1 ⊢
 rw [Int.tdiv_eq_ediv_of_nonneg h0,Int.tdiv_eq_ediv_of_nonneg h0,Int.tdiv_eq_ediv_of_nonneg h0,Int.tmod_eq_emod_of_nonneg h0]
 rw [show (x:Int) % 256 % 256=(x:Int) % 256 by omega,show (x:Int)/256 % 4294967296=(x:Int)/256 by omega,show (x:Int)/65536 % 4294967296=(x:Int)/65536 by omega,show (x:Int)/16777216 % 4294967296=(x:Int)/16777216 by omega]
theorem section_two (f x c:ByteArray) (h:(looseB f).1=[x,c]) :
  sectionB f=if c.size≠4 then (⟨#[]⟩,6) else if 4096<x.size then (⟨#[]⟩,2) else if c≠checkB x then (⟨#[]⟩,4) else if boundB [x,c]≠f then (⟨#[]⟩,6) else (x,0):=by
 unfold sectionB
 rw [h]
end Go.Proofs.YtceedgflpkaclaaDoor.P

/- The check of a text, bit by bit; a list of bytes as a text. Conditions: none. -/
namespace Go.Proofs.YtceedgflpkaclaaDoor.P
open Go.RowKit Go.Proofs.YtceedgflpkaclaaDoorW.PrintWords Go.Proofs.YtceedgflpkaclaaDoorW.PrintLast Go.Proofs.YtceedgflpkaclaaDoorW.PrintMore

def lnat (L:List Int) (j:Nat):Nat:=(rd L (j:Int)).toNat
def Bytes (L:List Int):Prop:=∀ j:Nat,0≤rd L (j:Int)∧rd L (j:Int)<256
theorem Bytes.cast {L:List Int} (h:Bytes L) (j:Nat):rd L (j:Int)=(lnat L j:Int):=by have:=(h j).1;unfold lnat;omega
theorem Bytes.lt {L:List Int} (h:Bytes L) (j:Nat):lnat L j<256:=by have:=h j;unfold lnat;omega
theorem rd_nat (t:ByteArray) (i:Nat):rd (bytesOf t) (i:Int)=(nat t i:Int):=by rw [rd_bytesOf,nat_cast]
theorem bytesOf_Bytes (t:ByteArray):Bytes (bytesOf t):=by
 intro j
 rw [rd_nat]
 have:=nat_lt t j
 omega
theorem lnat_bytesOf (t:ByteArray) (j:Nat):lnat (bytesOf t) j=nat t j:=by unfold lnat;rw [rd_nat];rfl
theorem rd_set (L:List Int) (i j:Nat) (v:Int) (hi:i<L.length):rd (L.set i v) (j:Int)=if j=i then v else rd L (j:Int):=by
 unfold rd
 rw [Int.toNat_natCast,List.getD_eq_getElem?_getD,List.getD_eq_getElem?_getD,List.getElem?_set]
 by_cases h:i=j
 ·rw [if_pos h,if_pos (by omega),if_pos h.symm]
  rfl
 ·rw [if_neg h,if_neg (by omega)]
theorem nat_strOfNums (L:List Int) (h:Bytes L) (j:Nat) (hj:j<L.length):nat (strOfNums L) j=lnat L j:=by
 have hh:=h j
 rw [nat_list,strOfNums_data]
 unfold lnat rd at *
 rw [Int.toNat_natCast] at *
 rw [List.getD_eq_getElem?_getD,List.getElem?_map]
 rw [List.getD_eq_getElem?_getD] at hh ⊢
 rw [List.getElem?_eq_getElem hj] at hh ⊢
 simp only [Option.getD_some,Option.map_some] at hh ⊢
 rw [UInt8.toNat_ofNat']
 omega
theorem bits8 (a b:Nat) (ha:a<256) (hb:b<256):Go.bits .xor .u8 (a:Int) (b:Int)=((a ^^^ b:Nat):Int):=by
 have h:Go.bits .xor .u8 (a:Int) (b:Int)=IntKind.u8.wrap (((BitVec.ofInt 8 (a:Int)) ^^^ (BitVec.ofInt 8 (b:Int))).toNat:Int):=rfl
 have hx:a ^^^ b<2 ^ 8:=Nat.xor_lt_two_pow ha hb
 rw [h,BitVec.toNat_xor,BitVec.ofInt_natCast,BitVec.ofInt_natCast,BitVec.toNat_ofNat,BitVec.toNat_ofNat,Nat.mod_eq_of_lt ha,Nat.mod_eq_of_lt hb]
 generalize a ^^^ b=c at *
 have e:IntKind.u8.wrap (c:Int)=(c:Int) % 256:=rfl
 rw [e]
 omega
theorem xor_lt8 {a b:Nat} (ha:a<256) (hb:b<256):a ^^^ b<256:=Nat.xor_lt_two_pow (n:=8) ha hb
theorem crcB_bits (s:ByteArray):crcB s=runB (mbits (nat s)) 4294967295#32 (8*s.size):=by
 unfold crcB
 exact foldB_bits _ (fun i=>nat_lt s i) _ _
theorem crcB_burst (x s:ByteArray) (hx:x.size=s.size) (at_ q:Nat) (hq:q≤32) (hN:at_+q≤8*s.size) (y:BitVec 32) (hy:y≠0#32) (hyq:∀ i,q≤i→y.getLsbD i=false)
  (h:∀ j,j<8*s.size→mbits (nat x) j=(mbits (nat s) j ^^ (decide (at_≤j) && decide (j<at_+q) && y.getLsbD (j-at_)))):crcB x≠crcB s:=by
 intro he
 rw [crcB_bits,crcB_bits,hx] at he
 have e:runB (mbits (nat x)) 4294967295#32 (8*s.size)=runB (fun j=>mbits (nat s) j ^^ (decide (at_≤j) && decide (j<at_+q) && y.getLsbD (j-at_))) (4294967295#32 ^^^ 0#32) (8*s.size):=by
  rw [BitVec.xor_zero]
  exact runB_congr _ _ (fun i hi=>h i hi)
 rw [e,runB_xor] at he
 have h0:runB (fun j=>decide (at_≤j) && decide (j<at_+q) && y.getLsbD (j-at_)) 0#32 (8*s.size)=0#32:=by
  have:=congrArg (fun z=>runB (mbits (nat s)) 4294967295#32 (8*s.size) ^^^ z) he
  simp only [BitVec.xor_self] at this
  rwa [← BitVec.xor_assoc,BitVec.xor_self,BitVec.zero_xor] at this
 exact burst_ne _ at_ q (8*s.size) hq hN y hy hyq (fun j _=>rfl) h0
theorem same_bits (x s:ByteArray) (hx:x.size=s.size) (h:∀ j,j<8*s.size→mbits (nat x) j=mbits (nat s) j):x.toList=s.toList:=by
 have hb:∀ i,i<s.size→nat x i=nat s i:=by
  intro i hi
  apply Nat.eq_of_testBit_eq
  intro r
  by_cases hr:r<8
  ·have:=h (8*i+r) (by omega)
   unfold mbits at this
   rwa [show (8*i+r)/8=i by omega,show (8*i+r) % 8=r by omega] at this
  ·have hp:256≤2 ^ r:=by
    have:2 ^ 8≤2 ^ r:=Nat.pow_le_pow_right (by decide) (by omega)
    simpa using this
   rw [Nat.testBit_lt_two_pow (Nat.lt_of_lt_of_le (nat_lt x i) hp),Nat.testBit_lt_two_pow (Nat.lt_of_lt_of_le (nat_lt s i) hp)]
 rw [ByteArray.toList_eq,ByteArray.toList_eq]
 apply List.ext_getElem
 ·rw [data_length,data_length,hx]
 ·intro i h1 h2
  have h3:i<s.size:=by rw [data_length] at h2;exact h2
  have:=hb i h3
  rw [nat_list,nat_list,List.getD_eq_getElem?_getD,List.getD_eq_getElem?_getD,List.getElem?_eq_getElem h1,List.getElem?_eq_getElem h2] at this
  simp only [Option.getD_some] at this
  exact UInt8.toNat_inj.1 this
end Go.Proofs.YtceedgflpkaclaaDoor.P

/- Bits of one word turned in a row of bytes; the check tells. Conditions: as each lemma says. -/
namespace Go.Proofs.YtceedgflpkaclaaDoor.P
open Go.RowKit Go.Proofs.YtceedgflpkaclaaDoorW.PrintWords Go.Proofs.YtceedgflpkaclaaDoorW.PrintLast Go.Proofs.YtceedgflpkaclaaDoorW.PrintMore

theorem bit_of (y:BitVec 32) (i:Nat) (hi:i<32):(Go.bits .and .u32 (shr .u32 (y.toNat:Int) (i:Int)) 1=1)↔y.getLsbD i=true:=by
 have e1:(1:Int)=((1#32).toNat:Int):=rfl
 have e2:shr .u32 (y.toNat:Int) (i:Int)=((y >>> i).toNat:Int):=by
  unfold shr
  rw [Int.toNat_natCast,show min i IntKind.u32.bits=i by simp [IntKind.bits];omega,BitVec.toNat_ushiftRight,Nat.shiftRight_eq_div_pow]
  simp
 rw [e2]
 conv=>lhs;lhs;rw [e1]
 rw [bits_and_B,BitVec.toNat_and]
 have e3:(y >>> i).toNat &&& (1#32).toNat=(y >>> i).toNat % 2:=Nat.and_one_is_mod _
 rw [e3]
 have e4:=low_B (y >>> i)
 rw [BitVec.getLsbD_ushiftRight,Nat.add_zero] at e4
 rw [e4,decide_eq_true_iff]
 omega
theorem shl8:∀ r:Nat,r<8→shl .u8 1 (r:Int)=((2 ^ r:Nat):Int):=by decide
def Flipped (s:ByteArray) (y:BitVec 32) (p i:Nat) (L:List Int):Prop :=
 ∀ j,j<8*s.size→mbits (lnat L) j=(mbits (nat s) j ^^ (decide (p≤j) && decide (j<p+i) && y.getLsbD (j-p)))
theorem bursts_end (s:ByteArray) (y:BitVec 32) (p:Nat) (hp:p<8*s.size) (L:List Int) (hL:L.length=s.size) (hB:Bytes L) (h:Flipped s y p 32 L) :
  (strOfNums L).toList=s.toList∨crcB (strOfNums L)≠crcB s:=by
 have zx:(strOfNums L).size=s.size:=by rw [strOfNums_size,hL]
 have hx:∀ j,j<8*s.size→mbits (nat (strOfNums L)) j=mbits (lnat L) j:=by
  intro j hj
  unfold mbits
  rw [nat_strOfNums L hB _ (by omega)]
 have hq:min 32 (8*s.size-p)≤32∧p+min 32 (8*s.size-p)≤8*s.size:=by omega
 have hz:∀ i,(BitVec.ofNat 32 (y.toNat % 2 ^ (min 32 (8*s.size-p)))).getLsbD i=(decide (i<min 32 (8*s.size-p)) && y.getLsbD i):=by
  intro i
  rw [BitVec.getLsbD,BitVec.toNat_ofNat,Nat.mod_eq_of_lt (Nat.lt_of_le_of_lt (Nat.mod_le _ _) y.isLt),Nat.testBit_mod_two_pow]
  rfl
 have hm:∀ j,j<8*s.size→mbits (nat (strOfNums L)) j=(mbits (nat s) j ^^ (decide (p≤j) && decide (j<p+min 32 (8*s.size-p)) && (BitVec.ofNat 32 (y.toNat % 2 ^ (min 32 (8*s.size-p)))).getLsbD (j-p))):=by
  intro j hj
  rw [hx j hj,h j hj,hz]
  by_cases h1:p≤j
  ·by_cases h2:j<p+32
   ·rw [decide_eq_true h1,decide_eq_true h2,decide_eq_true (by omega:j<p+min 32 (8*s.size-p)),decide_eq_true (by omega:j-p<min 32 (8*s.size-p))]
    simp
   ·rw [decide_eq_false h2,decide_eq_false (by omega:¬ j<p+min 32 (8*s.size-p))]
    simp
  ·rw [decide_eq_false h1]
   simp
 by_cases h0:BitVec.ofNat 32 (y.toNat % 2 ^ (min 32 (8*s.size-p)))=0#32
 ·left
  apply same_bits _ _ zx
  intro j hj
  rw [hm j hj,h0]
  simp
 ·right
  refine crcB_burst _ s zx p _ hq.1 hq.2 _ h0 ?_ hm
  intro i hi
  rw [hz,decide_eq_false (by omega)]
  rfl
theorem xor_inj (a b o:BitVec 32) (h:a ^^^ o=b ^^^ o):a=b:=by
 have:=congrArg (· ^^^ o) h
 simpa [BitVec.xor_assoc] using this
end Go.Proofs.YtceedgflpkaclaaDoor.P

/- Where 32 bits that follow one another, or fewer, of one section are others, with the sum made anew, it is refused for that section's check. Conditions: none. -/
namespace Go.Proofs.YtceedgflpkaclaaDoor.Pure
open Go.RowKit Go.Proofs.YtceedgflpkaclaaDoor.P Go.Proofs.YtceedgflpkaclaaDoorW.PrintWords Go.Proofs.YtceedgflpkaclaaDoorW.PrintLast Go.Proofs.YtceedgflpkaclaaDoorW.PrintMore

def cut60 (p:ByteArray):ByteArray:=p.extract 0 (min p.size 60)
theorem cut60_size (p:ByteArray):(cut60 p).size≤60:=by
 unfold cut60
 rw [ByteArray.size_extract]
 omega
theorem checkB_inj {a b:ByteArray} (h:checkB a=checkB b):crcB a=crcB b:=by
 have h1:∀ s,0≤crcI s∧crcI s<4294967296:=fun s=>by
  have:=(crcB s ^^^ 4294967295#32).isLt
  unfold crcI
  omega
 have h2:=h1 a
 have h3:=h1 b
 have e:crcI a=crcI b:=by
  have h4:=congrArg (fun t:ByteArray=>t.data.toList.map UInt8.toNat) h
  simp only [checkB,strOfNums_data,List.map_cons,List.map_nil,UInt8.toNat_ofNat',List.cons.injEq,and_true] at h4
  obtain ⟨q0,q1,q2,q3⟩:=h4
  omega
 unfold crcI at e
 exact xor_inj _ _ _ (BitVec.eq_of_toNat_eq (Int.ofNat.inj e))
theorem section_bad (b c:ByteArray) (hb:b.size≤4096) (hc:c.size=4) (hne:c≠checkB b):sectionB (boundB [b,c])=(⟨#[]⟩,4):=by
 have hm:mayB [b,c]:=⟨by simp,by
  intro p hp2
  simp only [List.mem_cons,List.not_mem_nil,or_false] at hp2
  rcases hp2 with rfl|rfl<;>omega⟩
 rw [section_two _ b c (by rw [looseB_back _ hm]),if_neg (not_not_intro hc),if_neg (by omega),if_pos hne]
theorem openGo_bad (bad:ByteArray) (hbad:sectionB bad=(⟨#[]⟩,4)):∀ (m:List ByteArray) (w:Nat) (out:List ByteArray),w<m.length→(∀ p∈m,p.size≤4096)→openGo ((m.map frameB).set w bad) out=([],4)
 | [],w,out,h,_=>by simp at h
 | x::m,0,out,_,_=>by
  rw [List.map_cons,List.set_cons_zero,openGo,hbad,if_neg (by decide)]
 | x::m,w+1,out,h,hs=>by
  rw [List.map_cons,List.set_cons_succ,openGo,section_back x (hs x (by simp)),if_pos rfl]
  exact openGo_bad bad hbad m w _ (by simpa using h) (fun p hp=>hs p (by simp [hp]))
theorem open_sealed (fs:List ByteArray) (hm:mayB fs) (h64:fs.length≤64):openB ((sealT++boundB fs)++sumV (sealT++boundB fs))=openGo fs []:=by
 obtain ⟨T,hT⟩:∃ T,sealT++boundB fs=T:=⟨_,rfl⟩
 have hv:=sumV_32 T
 have h4:T.size=4+(boundB fs).size:=by rw [← hT,ByteArray.size_append];rfl
 rw [hT]
 have hz:(T++sumV T).size=T.size+32:=by rw [ByteArray.size_append,hv]
 have e32:(T++sumV T).size-32=T.size:=by omega
 unfold openB
 rw [if_neg (by omega),e32]
 have e1:(T++sumV T).extract 0 4=sealT:=by
  rw [← hT,show (4:Nat)=sealT.size from rfl,ByteArray.append_assoc]
  exact extract_front _ _
 have e2:(T++sumV T).extract 0 T.size=T:=extract_front _ _
 have e3:(T++sumV T).extract T.size (T++sumV T).size=sumV T:=by
  rw [hz]
  exact extract_back _ _ _ (by rw [hv])
 have e4:(T++sumV T).extract 4 T.size=boundB fs:=by
  rw [h4,← hT,show (4:Nat)=sealT.size from rfl,ByteArray.append_assoc]
  exact extract_mid _ _ _
 rw [e1,e2,e3,e4,looseB_back _ hm,if_neg (by simp),if_neg (by simp),if_neg (by simp)]
 simp only
 rw [if_neg (by omega)]
theorem sb_l2 (m:List ByteArray) (w:Nat) (hw:w<m.length) (hl:m.length≤5) (hs:∀ p∈m,p.size≤60) (L:List Int) (hL:L.length≤60) (hne:crcB (strOfNums L)≠crcB m[w]) :
  ∀ (d i k:Nat) (out:List ByteArray),i+d=m.length→d+200000000<k→out=((m.map frameB).set w (boundB [strOfNums L,checkB m[w]])).take i →
  transhipmentlaw02_SealBursts.l2 k (w:Int) L out m (m.length:Int) (i:Int)=some true:=by
 have hbz:(strOfNums L).size≤60:=by rw [strOfNums_size];exact hL
 have hcz:=checkB_size m[w]
 have hbad:sectionB (boundB [strOfNums L,checkB m[w]])=(⟨#[]⟩,4):=section_bad _ _ (by omega) hcz (fun e=>hne (checkB_inj e).symm)
 have hbf:(boundB [strOfNums L,checkB m[w]]).size≤4200:=by
  have h1:=numB_size ((strOfNums L).size:Int) (by omega) (by omega)
  have h2:=numB_size ((checkB m[w]).size:Int) (by omega) (by omega)
  rw [boundB_cons,boundB_one]
  simp only [ByteArray.size_append]
  omega
 obtain ⟨bad,hB⟩:∃ bad,boundB [strOfNums L,checkB m[w]]=bad:=⟨_,rfl⟩
 rw [hB] at hbad hbf
 rw [hB]
 obtain ⟨F,hF⟩:∃ F,(m.map frameB).set w bad=F:=⟨_,rfl⟩
 have hFl:F.length=m.length:=by rw [← hF,List.length_set,List.length_map]
 have hFs:∀ p∈F,p.size≤4200:=by
  intro p hp
  rw [← hF] at hp
  rcases List.mem_or_eq_of_mem_set hp with hp|hp
  ·obtain ⟨q,hq,rfl⟩:=List.mem_map.1 hp
   exact frameB_size q (by have:=hs q hq;omega)
  ·rw [hp];exact hbf
 have hmay:mayB F:=⟨by omega,fun p hp=>by have:=hFs p hp;omega⟩
 have hgo:openGo F []=([],4):=by
  rw [← hF]
  exact openGo_bad bad hbad m w [] hw (fun p hp=>by have:=hs p hp;omega)
 have hget:∀ i (h:i<m.length),F[i]'(by omega)=if i=w then bad else frameB m[i]:=by
  intro i h
  subst hF
  rw [List.getElem_set]
  by_cases e:w=i
  ·rw [if_pos e,if_pos e.symm]
  ·rw [if_neg e,if_neg (fun h=>e h.symm),List.getElem_map]
 rw [hF]
 have hFz:(boundB F).size≤45000:=by
  have:=bound_size F (fun p hp=>by have:=hFs p hp;omega)
  omega
 intro d
 induction d with
 | zero =>
  intro i k out hi hk ho
  obtain ⟨k,rfl⟩:∃ m,k=m+1:=⟨k-1,by omega⟩
  rw [List.take_of_length_le (by omega)] at ho
  subst ho
  have h4:sealT.size=4:=rfl
  have hT:(sealT++boundB out).size=4+(boundB out).size:=by rw [ByteArray.size_append,h4]
  have hv:=sumV_32 (sealT++boundB out)
  simp only [transhipmentlaw02_SealBursts.l2]
  rw [if_neg (by omega),ref_Bind_eq _ (by omega) (fun p hp=>by have:=hFs p hp;omega) k (by omega),Option.bind_some,if_pos (by omega),show (⟨#[115,101,97,108]⟩:ByteArray)=sealT from rfl,ref_Sum_eq _ (by omega) k (by omega),Option.bind_some,if_pos (by omega),seal_Open_eq _ (by rw [ByteArray.size_append];omega) k (by omega),Option.bind_some,open_sealed out hmay (by omega),hgo,alive_true,Option.bind_some,if_pos (by trivial),if_pos (by trivial)]
  rfl
 | succ d ih =>
  intro i k out hi hk ho
  obtain ⟨k,rfl⟩:∃ m,k=m+1:=⟨k-1,by omega⟩
  have hlt:i<m.length:=by omega
  have h1:m[i].size≤60:=hs _ (List.getElem_mem hlt)
  have hol:out.length≤5:=by rw [ho,List.length_take];omega
  have hci:=checkB_size m[i]
  have e2:F.take i++[if i=w then bad else frameB m[i]]=F.take (i+1):=by rw [List.take_succ_eq_append_getElem (by omega),hget i hlt]
  simp only [transhipmentlaw02_SealBursts.l2]
  rw [rdOf_string m i hlt,if_pos (by omega),if_pos (by omega),if_pos (by omega),ref_Check_eq _ (by omega) k (by omega)]
  by_cases e:i=w
  ·subst e
   rw [if_pos rfl] at e2
   rw [if_pos rfl,Option.bind_some,ref_Bind_eq _ (by simp) (by
    intro p hp2
    simp only [List.mem_cons,List.not_mem_nil,or_false] at hp2
    rcases hp2 with rfl|rfl<;>omega) k (by omega),Option.bind_some,if_pos (by omega),wrap64_id (by omega) (by omega),show ((i:Int)+1)=((i+1:Nat):Int) by omega,hB]
   exact ih (i+1) k _ (by omega) (by omega) (by rw [ho,e2])
  ·rw [if_neg e] at e2
   rw [if_neg (by omega),Option.bind_some,ref_Bind_eq _ (by simp) (by
    intro p hp2
    simp only [List.mem_cons,List.not_mem_nil,or_false] at hp2
    rcases hp2 with rfl|rfl<;>omega) k (by omega),Option.bind_some,if_pos (by omega),wrap64_id (by omega) (by omega),show ((i:Int)+1)=((i+1:Nat):Int) by omega]
   exact ih (i+1) k _ (by omega) (by omega) (by rw [ho,← e2];rfl)
theorem sb_l1 (m:List ByteArray) (w:Nat) (hw:w<m.length) (hl:m.length≤5) (hm:∀ p∈m,p.size≤60) (s:ByteArray) (hsw:m[w]=s) (y:BitVec 32) (p:Nat) (hp:p<8*s.size) :
  ∀ (d i k:Nat) (L:List Int),i+d=32→d+200001000<k→L.length=s.size→Bytes L→Flipped s y p i L →
  transhipmentlaw02_SealBursts.l1 k (w:Int) (p:Int) (y.toNat:Int) m s ((8*s.size:Nat):Int) L (i:Int)=some true:=by
 have hs:s.size≤60:=by rw [← hsw];exact hm _ (List.getElem_mem hw)
 intro d
 induction d with
 | zero =>
  intro i k L hi hk hL hB h
  obtain ⟨k,rfl⟩:∃ m,k=m+1:=⟨k-1,by omega⟩
  obtain rfl:i=32:=by omega
  simp only [transhipmentlaw02_SealBursts.l1]
  rw [if_neg (by omega),alive_true]
  by_cases e2:(strOfNums L).toList=s.toList
  ·rw [if_pos e2]
   rfl
  ·rw [if_neg e2,show (0:Int)=((0:Nat):Int) from rfl]
   rcases bursts_end s y p hp L hL hB h with e|e
   ·exact absurd e e2
   ·exact sb_l2 m w hw hl hm L (by omega) (by rw [hsw];exact e) m.length 0 k [] (by omega) (by omega) rfl
 | succ d ih =>
  intro i k L hi hk hL hB h
  obtain ⟨k,rfl⟩:∃ m,k=m+1:=⟨k-1,by omega⟩
  simp only [transhipmentlaw02_SealBursts.l1]
  rw [if_pos (by omega),if_pos (by omega),wrap64_id (x:=(i:Int)+1) (by omega) (by omega),wrap64_id (x:=(p:Int)+(i:Int)) (by omega) (by omega)]
  have skip:(y.getLsbD i=false∨8*s.size≤p+i)→Flipped s y p (i+1) L:=by
   intro hh j hj
   rw [h j hj]
   by_cases e:j=p+i
   ·subst e
    rcases hh with hh|hh
    ·rw [Nat.add_sub_cancel_left,hh,Bool.and_false,Bool.and_false]
    ·omega
   ·have:decide (j<p+i)=decide (j<p+(i+1)):=decide_eq_decide.2 (by omega)
    rw [this]
  by_cases hb:y.getLsbD i=true
  ·rw [if_pos ((bit_of y i (by omega)).2 hb)]
   by_cases hN:p+i<8*s.size
   ·have e1:wrap64 (Int.tdiv ((p:Int)+(i:Int)) 8)=(((p+i)/8:Nat):Int):=by
     rw [Int.tdiv_eq_ediv_of_nonneg (by omega),wrap64_id (by omega) (by omega)]
     omega
    have e2:Int.tmod ((p:Int)+(i:Int)) 8=(((p+i) % 8:Nat):Int):=by
     rw [Int.tmod_eq_emod_of_nonneg (by omega)]
     omega
    have hpow:2 ^ ((p+i) % 8)<256:=Nat.pow_lt_pow_right (m:=(p+i) % 8) (n:=8) (a:=2) (by decide) (Nat.mod_lt _ (by decide))
    rw [if_pos (by omega),e1,e2,if_pos (by omega),if_pos (by omega),if_pos (by omega),Int.toNat_natCast,shl8 _ (Nat.mod_lt _ (by decide)),hB.cast,bits8 _ _ (hB.lt _) hpow]
    have hv:=xor_lt8 (hB.lt ((p+i)/8)) hpow
    refine ih (i+1) k _ (by omega) (by omega) (by rw [List.length_set,hL]) ?_ ?_
    ·intro j
     rw [rd_set L _ j _ (by omega)]
     by_cases e:j=(p+i)/8
     ·rw [if_pos e]
      omega
     ·rw [if_neg e]
      exact hB j
    ·intro j hj
     have h2:=h j hj
     have e3:mbits (lnat (L.set ((p+i)/8) ((lnat L ((p+i)/8) ^^^ 2 ^ ((p+i) % 8):Nat):Int))) j=(mbits (lnat L) j ^^ decide (j=p+i)):=by
      unfold mbits
      conv=>lhs;unfold lnat
      rw [rd_set L _ _ _ (by omega)]
      by_cases e:j/8=(p+i)/8
      ·rw [if_pos e,Int.toNat_natCast,Nat.testBit_xor,Nat.testBit_two_pow,e]
       have:decide ((p+i) % 8=j % 8)=decide (j=p+i):=decide_eq_decide.2 (by omega)
       rw [this]
       rfl
      ·rw [if_neg e,decide_eq_false (by omega),Bool.xor_false]
       rfl
     rw [e3,h2]
     by_cases e:j=p+i
     ·subst e
      rw [decide_eq_false (by omega:¬ p+i<p+i),decide_eq_true (by omega:p≤p+i),decide_eq_true (by omega:p+i<p+(i+1)),Nat.add_sub_cancel_left,hb]
      simp
     ·have:decide (j<p+i)=decide (j<p+(i+1)):=decide_eq_decide.2 (by omega)
      rw [this,decide_eq_false e,Bool.xor_false]
   ·rw [if_neg (by omega)]
    exact ih (i+1) k L (by omega) (by omega) hL hB (skip (Or.inr (by omega)))
  ·rw [if_neg (fun hh=>hb ((bit_of y i (by omega)).1 hh))]
   exact ih (i+1) k L (by omega) (by omega) hL hB (skip (Or.inl (by simpa using hb)))
theorem at_place (a:Int) (n:Nat) (hn:0<n) (h:n<2000000):∃ b:Nat,b<n∧Int.tmod (wrap64 ((Int.tmod a (n:Int))+(n:Int))) (n:Int)=(b:Int):=by
 have h1:=Int.tmod_lt_of_pos a (b:=(n:Int)) (by omega)
 have h2:-(n:Int)<Int.tmod a n:=Int.lt_tmod_of_pos a (by omega)
 generalize Int.tmod a n=x at *
 rw [wrap64_id (by omega) (by omega),Int.tmod_eq_emod_of_nonneg (by omega)]
 have h3:=Int.emod_nonneg (x+n) (b:=(n:Int)) (by omega)
 have h4:=Int.emod_lt_of_pos (x+n) (b:=(n:Int)) (by omega)
 exact ⟨((x+n) % n).toNat,by omega,by omega⟩
theorem sb_j1 (m:List ByteArray) (hl:m.length≤5) (hm:∀ p∈m,p.size≤60) (a1 a2 a3:Int) (h3:0≤a3∧a3<4294967296) (b:Bool) (hb:b=false→0<m.length) (k:Nat) (hk:250000000<k) :
  transhipmentlaw02_SealBursts.j1 k a1 a2 a3 m b=some true:=by
 obtain ⟨k,rfl⟩:∃ m,k=m+1:=⟨k-1,by omega⟩
 simp only [transhipmentlaw02_SealBursts.j1]
 cases b with
 | true=>rw [if_pos rfl,alive_true];rfl
 | false =>
  have h0:=hb rfl
  obtain ⟨w,hw,hwe⟩:=at_place a1 m.length h0 (by omega)
  rw [if_neg (by simp),if_neg (by omega),hwe,if_pos (by omega),if_pos (by omega),rdOf_string m w hw]
  obtain ⟨s,hs⟩:∃ s,m[w]=s:=⟨_,rfl⟩
  have hsz:s.size≤60:=by rw [← hs];exact hm _ (List.getElem_mem hw)
  rw [hs]
  by_cases e:s.toList=[]
  ·rw [if_pos e,alive_true]
   rfl
  ·have hpos:0<s.size:=by
    rcases Nat.eq_zero_or_pos s.size with h|h
    ·exact absurd ((size_zero_iff s).2 h) e
    ·exact h
   obtain ⟨p,hp,hpe⟩:=at_place a2 (8*s.size) (by omega) (by omega)
   obtain ⟨n,rfl⟩:=Int.eq_ofNat_of_zero_le h3.1
   have ew:((n:Nat):Int)=((BitVec.ofNat 32 n).toNat:Int):=by
    rw [BitVec.toNat_ofNat]
    omega
   rw [if_neg e,wrap64_id (x:=8*(s.size:Int)) (by omega) (by omega),if_neg (by omega),if_pos (by omega),show (8*(s.size:Int))=((8*s.size:Nat):Int) by omega,hpe,ew]
   refine sb_l1 m w hw hl hm s hs (BitVec.ofNat 32 n) p hp 32 0 k _ rfl (by omega) (bytesOf_length s) (bytesOf_Bytes s) ?_
   intro j _
   rw [show mbits (lnat (bytesOf s)) j=mbits (nat s) j by unfold mbits;rw [lnat_bytesOf]]
   by_cases e:p≤j
   ·rw [decide_eq_false (by omega:¬ j<p+0)]
    simp
   ·rw [decide_eq_false e]
    simp
theorem sb_l0 (a1 a2 a3:Int) (h3:0≤a3∧a3<4294967296) (l:List ByteArray) (hl:l.length≤5):∀ (d i k:Nat) (out:List ByteArray),i+d=l.length→d+260000000<k→out=(l.map cut60).take i →
  transhipmentlaw02_SealBursts.l0 k a1 a2 a3 out l (l.length:Int) (i:Int)=some true:=by
 intro d
 induction d with
 | zero =>
  intro i k out hi hk ho
  obtain ⟨k,rfl⟩:∃ m,k=m+1:=⟨k-1,by omega⟩
  rw [List.take_of_length_le (by rw [List.length_map];omega)] at ho
  have hos:∀ p∈out,p.size≤60:=by
   intro p hp
   rw [ho] at hp
   obtain ⟨q,_,rfl⟩:=List.mem_map.1 hp
   exact cut60_size q
  have hol:out.length=l.length:=by rw [ho,List.length_map]
  simp only [transhipmentlaw02_SealBursts.l0]
  rw [if_neg (by omega)]
  by_cases h0:(out.length:Int)=0
  ·rw [if_pos h0]
   exact sb_j1 out (by omega) hos a1 a2 a3 h3 true (by simp) k (by omega)
  ·rw [if_neg h0]
   exact sb_j1 out (by omega) hos a1 a2 a3 h3 _ (fun _=>by omega) k (by omega)
 | succ d ih =>
  intro i k out hi hk ho
  obtain ⟨k,rfl⟩:∃ m,k=m+1:=⟨k-1,by omega⟩
  have hlt:i<l.length:=by omega
  have hol:out.length≤5:=by rw [ho,List.length_take,List.length_map];omega
  simp only [transhipmentlaw02_SealBursts.l0]
  rw [rdOf_string l i hlt,show mn (l[i].size:Int) 60=((min l[i].size 60:Nat):Int) from mn_min _ 60]
  rw [if_pos (by omega),if_pos (by omega),if_pos (by omega),if_pos (by omega),if_pos (by omega),if_pos (by omega),Int.toNat_natCast,wrap64_id (by omega) (by omega),show ((i:Int)+1)=((i+1:Nat):Int) by omega]
  refine ih (i+1) k _ (by omega) (by omega) ?_
  rw [ho,List.take_succ_eq_append_getElem (by rw [List.length_map];exact hlt),List.getElem_map]
  rfl
theorem SealBursts:transhipmentlaw02_SealBursts.Pure:=by
 intro l a1 a2 a3 hl h1 h2 h3
 refine ⟨300000000,?_⟩
 unfold transhipmentlaw02_SealBursts.f
 rw [show mn (l.length:Int) 5=((min l.length 5:Nat):Int) from mn_min _ 5,if_pos (by omega),if_pos (by omega),Int.toNat_natCast,Option.bind_some,show (0:Int)=((0:Nat):Int) from rfl]
 exact sb_l0 a1 a2 a3 (wf_u32 h3) (l.take (min l.length 5)) (by rw [List.length_take];omega) (l.take (min l.length 5)).length 0 300000000 [] (by omega) (by rw [List.length_take];omega) rfl
end Go.Proofs.YtceedgflpkaclaaDoor.Pure

/- What a value that came in reads as: each reading of a type is one of its kind's values, within bounds. Conditions: none. -/
namespace Go.Proofs.YtceedgflpkaclaaDoor.P
open Go.RowKit Go.Proofs.YtceedgflpkaclaaDoorW.PrintWords Go.Proofs.YtceedgflpkaclaaDoorW.PrintLast Go.Proofs.YtceedgflpkaclaaDoorW.PrintMore

def Opens {H:Type} (enc:TypeId×Value→H) (P:Program) (w:World) (base:Nat) (spare:Nat→Bool) (held:Bool) {α:Type} (d:Kd α) (ok:α→Prop) (t:TypeId):Prop :=
 ∀ fuel cs x,DataW.trod enc P w base spare held fuel t cs=some x→∃ a,d.K w a cs∧ok a
section
variable {H:Type} {enc:TypeId×Value→H} {P:Program} {w:World} {base:Nat} {spare:Nat→Bool} {held:Bool} {t e:TypeId}
theorem opens_string (ht:P.underlying t=some .string):Opens enc P w base spare held Kd.string (fun s=>s.size≤maxLen) t:=by
 intro fuel cs x h
 obtain ⟨s,rfl,_,hw⟩:=DataW.trod_string ht h
 exact ⟨s,rfl,hw⟩
theorem list_of {α:Type} (p:Nat→α→Prop):∀ n,(∀ i,i<n→∃ a,p i a)→∃ l:List α,l.length=n∧∀ i a,l[i]?=some a→p i a
 | 0,_=>⟨[],rfl,fun i a h=>by simp at h⟩
 | n+1,h=>by
  obtain ⟨l,hl,hp⟩:=list_of p n (fun i hi=>h i (by omega))
  obtain ⟨a,ha⟩:=h n (by omega)
  refine ⟨l++[a],by simp [hl],fun i b hb=>?_⟩
  rw [List.getElem?_append] at hb
  split at hb
  ·exact hp i b hb
  ·rename_i hi
   have:i=n:=by
    have:=(List.getElem?_eq_some_iff.1 hb).1
    simp at this
    omega
   subst this
   simp [hl] at hb
   subst hb
   exact ha
theorem opens_slice {α:Type} {d:Kd α} {ok:α→Prop} (ht:P.underlying t=some (.slice e)) (hc:P.cellsOf e=d.sz) (he:Opens enc P w base spare held d ok e) :
  Opens enc P w base spare held (Kd.slice e d) (fun l=>l.length≤maxLen∧∀ a∈l,ok a) t:=by
 intro fuel cs x h
 rcases DataW.trod_slice ht h with ⟨rfl,_⟩|⟨a,len,cap,elems,rest,n,_,rfl,_,hb,hl,hm,hlen,hel,_,_⟩
 ·exact ⟨[],⟨none,0,rfl,Nat.le_refl _,Kd.C_nil d w⟩,by simp,fun a ha=>by simp at ha⟩
 ·obtain ⟨l,hll,hp⟩:=list_of (fun i (b:α)=>∃ c,c.length=d.sz∧d.K w b c∧ok b∧∀ j u,c[j]?=some u→w.cell? (a.add (i*d.sz+j))=some u) len (by
   intro i hi
   have h1:=hel i hi
   rw [hc] at h1
   have h2:i<elems.length:=by omega
   rw [List.getElem?_eq_getElem h2] at h1
   obtain ⟨c,hcs,hct⟩:=Option.bind_eq_some_iff.1 h1
   obtain ⟨b,hK,hok⟩:=he _ _ _ hct
   obtain ⟨_,hcl,hcell⟩:=World.cells?_some hcs
   refine ⟨b,c,hcl,hK,hok,fun j u hj=>?_⟩
   have hjl:j<d.sz:=by rw [← hcl];exact (List.getElem?_eq_some_iff.1 hj).1
   have h3:=hcell j hjl
   rw [hj] at h3
   rw [← h3,Addr.add_add])
  refine ⟨l,⟨some a,cap,by rw [hll],by omega,?_⟩,by omega,?_⟩
  ·refine ⟨rfl,by unfold maxLen at hm;omega,fun _=>⟨a,rfl,fun j p hj=>?_⟩⟩
   obtain ⟨c,h1,h2,_,h3⟩:=hp j p hj
   exact ⟨c,h1,h2,h3⟩
  ·intro b hb
   obtain ⟨i,hi⟩:=List.getElem?_of_mem hb
   obtain ⟨_,_,_,h3,_⟩:=hp i b hi
   exact h3
theorem opened_slice {α:Type} {d:Kd α} {ok:List α→Prop} (hs:Opens enc P w base spare held (Kd.slice e d) ok t) {a:Option Addr} {len cap:Nat} {x:DataW H} {ps:List MemPlace}
  (h:DataW.Trod enc P w base spare held t (.slice a len cap) x ps):∃ l:List α,len=l.length∧d.C w a l.length l∧l.length≤cap∧ok l:=by
 obtain ⟨fuel,hf⟩:=h
 obtain ⟨l,⟨A,c,hcs,hle,hC⟩,ho⟩:=hs _ _ _ hf
 simp [Value.cells] at hcs
 obtain ⟨rfl,rfl,rfl⟩:=hcs
 exact ⟨l,rfl,hC,hle,ho⟩
end
end Go.Proofs.YtceedgflpkaclaaDoor.P
