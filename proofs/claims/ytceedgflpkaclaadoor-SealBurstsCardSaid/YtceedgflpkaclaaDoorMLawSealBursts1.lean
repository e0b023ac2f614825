/- What these functions of the program and of the plain reference compute, and plain lemmas on it: SealSum, BuilderFar, SealMark, Plaw02Alive, Pref01Number, Pref01Bind, Pref01On, Pref01Crc, Pref02Check, PStringsliteHasPrefix, PStringsHasPrefix, PFrameRead, PFrameLoose, FrameCrc, PSealChecked. Conditions: as each lemma says. -/
import Derived.Test.YtceedgflpkaclaaDoorMLawSealBursts0
import Derived.OneCell
import Derived.RegionTactic
import Derived.ChangeAlike
/- seal.Sum: the sum of bytes. Conditions: the text has at most 2^46 bytes; the keys lie where the program's text lays them. -/
namespace Go.Proofs.YtceedgflpkaclaaDoor.P
open Go.RowKit Go.Proofs.YtceedgflpkaclaaDoorW.PrintWords Go.Proofs.YtceedgflpkaclaaDoorW.PrintLast Go.Proofs.YtceedgflpkaclaaDoorW.PrintMore
set_option linter.unusedSimpArgs false

def headT (s:ByteArray):ByteArray:=s++((⟨#[128]⟩:ByteArray)++⟨(Lib.repeatL (⟨#[0]⟩:ByteArray).data.toList (padZ s.size)).toArray⟩)
def accT (U:ByteArray) (n:Nat):Nat→ByteArray
 | 0=>U
 | j+1=>accT U n j++strOfNums [(n:Int)*8/2 ^ (56-8*j) % 256]
theorem accT_size (U:ByteArray) (n:Nat):∀ j,(accT U n j).size=U.size+j
 | 0=>rfl
 | j+1=>by rw [accT,ByteArray.size_append,accT_size U n j,strOfNums_size];simp;omega
def strLen:Value→Nat
 | .string s=>s.size
 | _=>0
theorem extract_all (P:ByteArray):P.extract (64*0) P.size=P:=by
 apply ByteArray.ext
 simp
def firstF (i:Nat):Int:=firstL.getD i 0
def blocksF (P:ByteArray):Nat→Nat→Int
 | 0=>firstF
 | t+1=>fun i=>IntKind.u32.wrap (blocksF P t i+roundsI (blocksF P t) (spreadF (P.extract (64*t) (64*t+64)) 48) 64 i)
def in4 (x:Int):Nat→List UInt8
 | 0=>[]
 | j+1=>in4 x j++[UInt8.ofNat (x/2 ^ (24-8*j) % 256).toNat]
def outB (v:Nat→Int):Nat→List UInt8
 | 0=>[]
 | r+1=>outB v r++in4 (v r) 4
theorem in4_length (x:Int):∀ j,(in4 x j).length=j
 | 0=>rfl
 | j+1=>by rw [in4,List.length_append,in4_length x j];rfl
theorem outB_length (v:Nat→Int):∀ r,(outB v r).length=4*r
 | 0=>rfl
 | r+1=>by rw [outB,List.length_append,outB_length v r,in4_length];omega
theorem row_eight {W:World} {b:Nat} {t:TypeId} {v:Nat→Int} (h:rowF W b t 8 v) (g:Nat→Int) :
  rowF ((((((((W.setCell ⟨b,0,none⟩ (.int .u32 (g 0))).setCell ⟨b,1,none⟩ (.int .u32 (g 1))).setCell ⟨b,2,none⟩ (.int .u32 (g 2))).setCell ⟨b,3,none⟩ (.int .u32 (g 3))).setCell ⟨b,4,none⟩ (.int .u32 (g 4))).setCell ⟨b,5,none⟩ (.int .u32 (g 5))).setCell ⟨b,6,none⟩ (.int .u32 (g 6))).setCell ⟨b,7,none⟩ (.int .u32 (g 7))) b t 8 g:=by
 refine rowF_congr (rowF_set (rowF_set (rowF_set (rowF_set (rowF_set (rowF_set (rowF_set (rowF_set h 0 _) 1 _) 2 _) 3 _) 4 _) 5 _) 6 _) 7 _) ?_
 intro i hi
 match i,hi with
 | 0,_=>rfl|1,_=>rfl|2,_=>rfl|3,_=>rfl|4,_=>rfl|5,_=>rfl|6,_=>rfl|7,_=>rfl
theorem below_eight {W w:World} {B b:Nat} (hB:B≤b) (h:Below B w W) (g:Nat→Int) :
  Below B w ((((((((W.setCell ⟨b,0,none⟩ (.int .u32 (g 0))).setCell ⟨b,1,none⟩ (.int .u32 (g 1))).setCell ⟨b,2,none⟩ (.int .u32 (g 2))).setCell ⟨b,3,none⟩ (.int .u32 (g 3))).setCell ⟨b,4,none⟩ (.int .u32 (g 4))).setCell ⟨b,5,none⟩ (.int .u32 (g 5))).setCell ⟨b,6,none⟩ (.int .u32 (g 6))).setCell ⟨b,7,none⟩ (.int .u32 (g 7))) :=
 (((((((h.setCell (p:=⟨b,0,none⟩) hB _).setCell (p:=⟨b,1,none⟩) hB _).setCell (p:=⟨b,2,none⟩) hB _).setCell (p:=⟨b,3,none⟩) hB _).setCell (p:=⟨b,4,none⟩) hB _).setCell (p:=⟨b,5,none⟩) hB _).setCell (p:=⟨b,6,none⟩) hB _).setCell (p:=⟨b,7,none⟩) hB _
theorem index8 (v:Nat→Int) (r:Nat) (hr:r<8) (w:World):(Instr.index 48 (.agg #[.int .u32 (v 0),.int .u32 (v 1),.int .u32 (v 2),.int .u32 (v 3),.int .u32 (v 4),.int .u32 (v 5),.int .u32 (v 6),.int .u32 (v 7)]) (.int .i64 (r:Int))).run Tryd.prog w=.ok (.int .u32 (v r)) w:=by
 have hx:(#[.int .u32 (v 0),.int .u32 (v 1),.int .u32 (v 2),.int .u32 (v 3),.int .u32 (v 4),.int .u32 (v 5),.int .u32 (v 6),.int .u32 (v 7)]:Array Value)[r]?=some (.int .u32 (v r)):=by
  match r,hr with
  | 0,_=>rfl|1,_=>rfl|2,_=>rfl|3,_=>rfl|4,_=>rfl|5,_=>rfl|6,_=>rfl|7,_=>rfl
 generalize (#[.int .u32 (v 0),.int .u32 (v 1),.int .u32 (v 2),.int .u32 (v 3),.int .u32 (v 4),.int .u32 (v 5),.int .u32 (v 6),.int .u32 (v 7)]:Array Value)=X at hx ⊢
 have hn:(0≤(r:Int)∧(r:Int)<(8:Nat)):=by omega
 simp [Instr.index,run_underlying Tryd.underlying48,asIntOf,hn,go_sem,hx]
 omega
def sumP (s:ByteArray):ByteArray:=accT (headT s) s.size 8
def sumV (s:ByteArray):ByteArray:=⟨(outB (blocksF (sumP s) ((sumP s).size/64)) 8).toArray⟩
theorem repeat_size (c:Nat):(⟨(Lib.repeatL [0] c).toArray⟩:ByteArray).size=c:=by
 rw [← data_length]
 simp [Lib.repeatL_length]
set_option maxHeartbeats 4000000 in
set_option maxRecDepth 100000 in
theorem sum_any (s:ByteArray) (w:World) (hs:s.size≤70368744177664) (hK:KeysIn w) :
  Calls Tryd.prog 10 #[.string s] w fun e w'=>e=.returned (.string (sumV s))∧Below w.heap.size w w':=by
 have HK:=Aside0.mk hK
 clear hK
 obtain ⟨c,hc⟩:∃ c,padZ s.size=c:=⟨_,rfl⟩
 obtain ⟨d,hd⟩:∃ d,119-s.size % 64=d:=⟨_,rfl⟩
 have hc2:d % 64=c:=by rw [← hc,← hd];rfl
 have w1:IntKind.u64.wrap (s.size:Int)=(s.size:Int):=by rw [IntKind.wrap_u64];omega
 have w2:IntKind.u64.wrap ((s.size:Int)*8)=(s.size:Int)*8:=by rw [IntKind.wrap_u64];omega
 have w3:IntKind.i64.wrap (119-(s.size:Int) % 64)=(d:Int):=(i64_w _).trans (by unfold wrap64;omega)
 have w4:(d:Int) % 64=(c:Int):=by omega
 have w5:Int.tmod (d:Int) 64=(c:Int):=by rw [Int.tmod_eq_emod_of_nonneg (by omega)];exact w4
 obtain ⟨Z,hZ⟩:∃ Z,(⟨(Lib.repeatL (⟨#[0]⟩:ByteArray).data.toList c).toArray⟩:ByteArray)=Z:=⟨_,rfl⟩
 have hZs:Z.size=c:=by rw [← hZ];exact repeat_size c
 have hrep:=fun w=>Tryd.strings_Repeat (⟨#[0]⟩:ByteArray) c w (by omega) (by show 1*c≤_;omega)
 rw [hZ] at hrep
 have l1:¬ 9223372036854775807<1+Z.size:=by omega
 have l2:¬ 9223372036854775807<s.size+(1+Z.size):=by omega
 have hcv:∀ (W:World) (b:Int),(convert 31 9 (.slice (some ⟨W.heap.size,0,none⟩) 1 1)).run Tryd.prog (W.alloc (.cells #[.int .u8 b] 5))=.ok (.string (strOfNums [b])) (W.alloc (.cells #[.int .u8 b] 5)):=fun W b =>
  run_convert_bytes_arg (P:=Tryd.prog) _ 31 5 Tryd.underlying31 Tryd.underlying5 W.heap.size 0 1 1 [b] rfl (fun i hi=>by
   obtain rfl:i=0:=by omega
   simp) 9 Tryd.underlying9
 have HREP:=Aside0.mk hrep
 have HC:=Aside0.mk (⟨hc,hd,hc2,hZ,hZs⟩:padZ s.size=c∧119-s.size % 64=d∧d % 64=c∧(⟨(Lib.repeatL (⟨#[0]⟩:ByteArray).data.toList c).toArray⟩:ByteArray)=Z∧Z.size=c)
 have HCV:=Aside0.mk hcv
 clear hrep hc hd hc2 hZ hZs hcv
 go_enter Tryd.func10,Tryd.ntmps10
 go_wp2_with (go_at_call 30;refine (HREP.out _).mono ?_;rintro e w1 ⟨rfl,hb1⟩)
 obtain ⟨U,hU⟩:∃ U,s++((⟨#[128]⟩:ByteArray)++Z)=U:=⟨_,rfl⟩
 have hUs:U.size=s.size+(1+c):=by rw [← hU,ByteArray.size_append,ByteArray.size_append,HC.out.2.2.2.2];rfl
 rw [hU]
 have HU:=Aside0.mk (⟨hU,hUs⟩:s++((⟨#[128]⟩:ByteArray)++Z)=U∧U.size=s.size+(1+c))
 have HB1:=Aside0.mk hb1
 clear hU hUs hb1 l1 l2
 go_loopw [0,4] (fun v i wr=>∃ j:Nat,j≤8∧i=.int .i64 (56-8*(j:Int))∧v=.string (accT U s.size j)∧Aside0 (Below w.heap.size w wr)) (fun _ i _=>((intOf i)+8).toNat)
 case atStart=>exact ⟨0,by omega,rfl,rfl,HB1⟩
 case round =>
  clear HB1
  obtain ⟨j,hj,rfl,rfl,hb⟩:=hrel
  by_cases hj8:j<8
  ·obtain ⟨p,hp⟩:∃ p:Nat,p=56-8*j:=⟨_,rfl⟩
   have hpi:(56-8*(j:Int))=(p:Int):=by omega
   rw [hpi]
   have hmin:min p 64=p:=by omega
   have g0:(0:Int)≤(p:Int):=by omega
   obtain ⟨q,hq⟩:∃ q:Int,q=(p:Int)-8:=⟨_,rfl⟩
   have hpw:IntKind.i64.wrap ((p:Int)-8)=q:=(i64_w _).trans (by unfold wrap64;omega)
   obtain ⟨T,hT⟩:∃ T,accT U s.size j=T:=⟨_,rfl⟩
   rw [hT]
   have hTs:T.size≤70368744177764:=by rw [← hT,accT_size,HU.out.2];have:=HC.out.2.2.1;omega
   have l3:¬ 9223372036854775807<T.size+1:=by omega
   have hcv:=HCV.out wr
   have HP:=Aside0.mk (⟨hp,hpi,hq,hT⟩:p=56-8*j∧(56-8*(j:Int))=(p:Int)∧q=(p:Int)-8∧accT U s.size j=T)
   clear hp hpi hq hT hTs
   go_wp2
   go_roundw
   case rel =>
    obtain ⟨hp,hpi,hq,hT⟩:=HP.out
    refine ⟨j+1,by omega,?_,?_,⟨hb.out.alloc hb.out.size _⟩⟩
    ·rw [hq,← hpi]
     congr 1
     omega
    ·rw [accT,hT,hp]
   case measure =>
    obtain ⟨hp,hpi,hq,hT⟩:=HP.out
    simp only [intOf]
    omega
  ·have hj8':j=8:=by omega
   rw [hj8']
   obtain ⟨m,hm⟩:∃ m:Int,m=56-8*((8:Nat):Int):=⟨_,rfl⟩
   rw [← hm]
   have hmneg:¬ 0≤m:=by omega
   obtain ⟨P,hP⟩:∃ P,accT U s.size 8=P:=⟨_,rfl⟩
   rw [hP]
   have hPs:P.size=s.size+9+c:=by rw [← hP,accT_size,HU.out.2];omega
   obtain ⟨N,hN⟩:∃ N,P.size=64*N:=⟨P.size/64,by have:=HC.out.2.2.1;have:=HC.out.2.1;omega⟩
   have HPP:=Aside0.mk (⟨hP,hPs,hN⟩:accT U s.size 8=P∧P.size=s.size+9+c∧P.size=64*N)
   obtain ⟨F,hF⟩:∃ F,firstF=F:=⟨_,rfl⟩
   have hfst:∀ w,Calls Tryd.prog 31 #[] w fun e w'=>e=.returned (.agg #[.int .u32 (F 0),.int .u32 (F 1),.int .u32 (F 2),.int .u32 (F 3),.int .u32 (F 4),.int .u32 (F 5),.int .u32 (F 6),.int .u32 (F 7)])∧Below w.heap.size w w':=by
    rw [← hF]
    exact first_any
   have HFST:=Aside0.mk hfst
   have HF:=Aside0.mk hF
   clear hj8' hm hP hPs hN hfst hF hj hj8
   go_wp2_with (go_at_call 31;refine (HFST.out _).mono ?_;rintro e w5 ⟨rfl,hb5⟩;have HB5:=Aside0.mk hb5;clear hb5)
   have hle5:w.heap.size≤w5.heap.size:=by have:=hb.out.size;have:=HB5.out.size;omega
   have k0:=row8_alloc w5 48 F
   have k1:=Below.alloc (below_step hb.out HB5.out) hle5 (.cells #[.int .u32 (F 0),.int .u32 (F 1),.int .u32 (F 2),.int .u32 (F 3),.int .u32 (F 4),.int .u32 (F 5),.int .u32 (F 6),.int .u32 (F 7)] 48)
   generalize w5.alloc (.cells #[.int .u32 (F 0),.int .u32 (F 1),.int .u32 (F 2),.int .u32 (F 3),.int .u32 (F 4),.int .u32 (F 5),.int .u32 (F 6),.int .u32 (F 7)] 48)=W at k0 k1 ⊢
   generalize w5.heap.size=b at hle5 k0 ⊢
   have K0:=Aside0.mk k0
   have K1:=Aside0.mk k1
   clear k0 k1 HB5 hb
   go_loopw [0] (fun v wr=>∃ t:Nat,t≤N∧v=.string (P.extract (64*t) P.size)∧rowF wr b 48 8 (blocksF P t)∧Aside0 (Below w.heap.size w wr)) (fun v _=>strLen v)
   case atStart=>exact ⟨0,by omega,by rw [extract_all],by rw [blocksF,HF.out];exact K0.out,K1⟩
   case round =>
    clear K0 K1
    obtain ⟨t,ht,rfl,hh,hb⟩:=hrel
    obtain ⟨Q,hQ⟩:∃ Q,P.extract (64*t) P.size=Q:=⟨_,rfl⟩
    rw [hQ]
    by_cases hlt:t<N
    ·have hN:=HPP.out.2.2
     have hQs:Q.size=64*(N-t):=by rw [← hQ,ByteArray.size_extract];omega
     have hne:Q.toList.isEmpty=false:=by
      rw [ByteArray.toList_eq]
      have:0<Q.data.toList.length:=by rw [data_length];omega
      cases h:Q.data.toList with
      | nil=>rw [h] at this;simp at this
      | cons=>rfl
     obtain ⟨Q1,hQ1⟩:∃ Q1,Q.extract 0 64=Q1:=⟨_,rfl⟩
     obtain ⟨Q2,hQ2⟩:∃ Q2,Q.extract 64 Q.size=Q2:=⟨_,rfl⟩
     have hq1:Q1=P.extract (64*t) (64*t+64):=by rw [← hQ1,← hQ,ByteArray.extract_extract];congr 1;omega
     have hq2:Q2=P.extract (64*(t+1)) P.size:=by
      have hs2:Q.size=P.size-64*t:=by rw [← hQ,ByteArray.size_extract];omega
      rw [← hQ2,hs2,← hQ,ByteArray.extract_extract]
      congr 1
      omega
     have hs1:Q1.size=64:=by rw [hq1,ByteArray.size_extract];omega
     have hs2:Q2.size<Q.size:=by rw [← hQ2,ByteArray.size_extract];omega
     obtain ⟨v,hvv⟩:∃ v,blocksF P t=v:=⟨_,rfl⟩
     rw [hvv] at hh
     obtain ⟨g,hg⟩:∃ g:Nat→Int,(fun i=>IntKind.u32.wrap (v i+roundsI v (spreadF Q1 48) 64 i))=g:=⟨_,rfl⟩
     have hbk:∀ W,KeysIn W→Calls Tryd.prog 32 #[.agg #[.int .u32 (v 0),.int .u32 (v 1),.int .u32 (v 2),.int .u32 (v 3),.int .u32 (v 4),.int .u32 (v 5),.int .u32 (v 6),.int .u32 (v 7)],.string Q1] W
       fun e w'=>e=.returned (.agg #[.int .u32 (g 0),.int .u32 (g 1),.int .u32 (g 2),.int .u32 (g 3),.int .u32 (g 4),.int .u32 (g 5),.int .u32 (g 6),.int .u32 (g 7)])∧Below W.heap.size W w':=by
      intro W hW
      have:=block_any v Q1 W (by omega) (by omega) hW
      rw [hg] at this
      exact this
     have HBK:=Aside0.mk hbk
     have HQ:=Aside0.mk (⟨hq1,hq2,hs2,hvv,hg,hlt,hQs⟩:Q1=P.extract (64*t) (64*t+64)∧Q2=P.extract (64*(t+1)) P.size∧Q2.size<Q.size∧blocksF P t=v∧(fun i=>IntKind.u32.wrap (v i+roundsI v (spreadF Q1 48) 64 i))=g∧t<N∧Q.size=64*(N-t))
     have g64:(64:Int)≤(Q.size:Int):=by omega
     have g64n:64≤Q.size:=by omega
     clear hbk hq1 hq2 hs1 hs2 hvv hg hQs hN hQ
     go_wp2
     refine start_ (n:=5) (S:=fun w'=>rowF w' b 48 8 v) (ds:=[4]) #[false,false,false,false,false] (by kernel_rfl) rfl rfl (rowF_drew hh) (fun hHeld=>?_)
     refine pure_ (i:=1) (N:=some 41) (v:=?_) (a':=?_) #[false,true,false,false,false] rfl rfl (by kernel_rfl) (fun _ _ _ h=>h) (Or.inl ⟨by rfl,?_⟩) ?_ ?_
     rotate_left
     ·intro w'
      go_simp
      with_reducible rfl
     rotate_left
     ·simp only [Act.put,List.setIfInBounds_toArray,List.set_cons_zero,List.set_cons_succ,i64_w,i32_w]
      rfl
     refine pure_ (i:=2) (N:=some 42) (v:=?_) (a':=?_) #[false,true,true,false,false] rfl rfl (by kernel_rfl) (fun _ _ _ h=>h) (Or.inl ⟨by rfl,?_⟩) ?_ ?_
     rotate_left
     ·intro w'
      go_simp
      with_reducible rfl
     rotate_left
     ·simp only [Act.put,List.setIfInBounds_toArray,List.set_cons_zero,List.set_cons_succ,i64_w,i32_w]
      rfl
     refine take_ (i:=0) (N:=some 40) (v:=?_) (a':=?_) #[true,true,true,false,false] rfl rfl (by kernel_rfl) (fun _ _ _ h=>h) (Or.inl ⟨by rfl,?_⟩) hHeld ?_ ?_
     rotate_left
     ·rintro w' hs_
      have s0:=rowF_cell hs_ (i:=0) (by decide)
      have s1:=rowF_cell hs_ (i:=1) (by decide)
      have s2:=rowF_cell hs_ (i:=2) (by decide)
      have s3:=rowF_cell hs_ (i:=3) (by decide)
      have s4:=rowF_cell hs_ (i:=4) (by decide)
      have s5:=rowF_cell hs_ (i:=5) (by decide)
      have s6:=rowF_cell hs_ (i:=6) (by decide)
      have s7:=rowF_cell hs_ (i:=7) (by decide)
      go_simp
      with_reducible rfl
     rotate_left
     ·simp only [Act.put,List.setIfInBounds_toArray,List.set_cons_zero,List.set_cons_succ,i64_w,i32_w]
      rfl
     refine one_ (i:=3) (N:=some 43) #[true,true,true,true,false] rfl rfl (by kernel_rfl) (by decide) (fun K hK=>?_)
     refine goes_ Tryd.func32 (by kernel_rfl) rfl #[.agg #[.int .u32 (v 0),.int .u32 (v 1),.int .u32 (v 2),.int .u32 (v 3),.int .u32 (v 4),.int .u32 (v 5),.int .u32 (v 6),.int .u32 (v 7)],.string Q1] (by rfl) rfl rfl (by (try simp only [List.map_toArray,List.map_cons,List.map_nil]);first|done|rfl) ?_
     with_reducible refine (HBK.out _ (keys_step HK.out hb.out.drew)).mono ?_
     rintro e w' ⟨rfl,hb6⟩
     refine ⟨_,rfl,?_⟩
     have HB6:=Aside0.mk (below_step hb.out.drew hb6)
     refine hK.out _ _ (rowF_below hHeld hb6) (fun hHeld=>?_)
     clear hK K
     refine norm_ (a':=?_) ?_ ?_
     rotate_left
     ·show Act.put _ (some 43) _=_
      simp only [Act.put,List.setIfInBounds_toArray,List.set_cons_zero,List.set_cons_succ,i64_w,i32_w]
      rfl
     refine last_ (i:=4) (N:=none) #[true,true,true,true,true] rfl rfl (by kernel_rfl) (by decide) (fun K hK=>?_)
     have y0:=rowF_cell hHeld (i:=0) (by decide)
     have y1:=rowF_cell hHeld (i:=1) (by decide)
     have y2:=rowF_cell hHeld (i:=2) (by decide)
     have y3:=rowF_cell hHeld (i:=3) (by decide)
     have y4:=rowF_cell hHeld (i:=4) (by decide)
     have y5:=rowF_cell hHeld (i:=5) (by decide)
     have y6:=rowF_cell hHeld (i:=6) (by decide)
     have y7:=rowF_cell hHeld (i:=7) (by decide)
     have z0:=rowF_frozen hHeld 0
     have z1:=rowF_frozen hHeld 1
     have z2:=rowF_frozen hHeld 2
     have z3:=rowF_frozen hHeld 3
     have z4:=rowF_frozen hHeld 4
     have z5:=rowF_frozen hHeld 5
     have z6:=rowF_frozen hHeld 6
     have z7:=rowF_frozen hHeld 7
     refine skip_ (w1:=?_) (by rfl) rfl ?_ ?_
     rotate_left
     ·go_simp
      rfl
     refine hK.out _ _ ?_
     clear hK K
     refine norm_ (a':=?_) ?_ ?_
     rotate_left
     ·show Act.put _ (none) _=_
      simp only [Act.put,List.setIfInBounds_toArray,List.set_cons_zero,List.set_cons_succ,i64_w,i32_w]
      rfl
     refine done_ (by kernel_rfl) ?_
     go_wp2
     go_roundw
     case rel =>
      obtain ⟨hq1,hq2,hs2,hvv,hg,hlt,hQs⟩:=HQ.out
      refine ⟨t+1,by omega,by rw [hq2],?_,⟨below_eight hle5 HB6.out g⟩⟩
      have e1:blocksF P (t+1)=g:=by rw [blocksF,hvv,← hq1];exact hg
      rw [e1]
      exact row_eight hHeld g
     case measure=>exact HQ.out.2.2.1
    ·have htN:t=N:=by omega
     have hem:Q.toList.isEmpty=true:=by
      rw [ByteArray.toList_eq]
      have:Q.data.toList.length=0:=by rw [data_length,← hQ,ByteArray.size_extract];have:=HPP.out.2.2;omega
      rw [List.eq_nil_of_length_eq_zero this]
      rfl
     obtain ⟨v,hvv⟩:∃ v,blocksF P t=v:=⟨_,rfl⟩
     rw [hvv] at hh
     have HV:=Aside0.mk (⟨hvv,htN⟩:blocksF P t=v∧t=N)
     have hr1:=World.rowIs.alloc hh (.cells #[.pointer none,.slice none 0 0] 53)
     have c0:=rowF_cell hr1 (i:=0) (by decide)
     have c1:=rowF_cell hr1 (i:=1) (by decide)
     have c2:=rowF_cell hr1 (i:=2) (by decide)
     have c3:=rowF_cell hr1 (i:=3) (by decide)
     have c4:=rowF_cell hr1 (i:=4) (by decide)
     have c5:=rowF_cell hr1 (i:=5) (by decide)
     have c6:=rowF_cell hr1 (i:=6) (by decide)
     have c7:=rowF_cell hr1 (i:=7) (by decide)
     have HBL:=Aside0.mk (Bld.fresh wr)
     have hleB:w.heap.size≤wr.heap.size:=hb.out.size
     have HB7:=Aside0.mk (hb.out.alloc hleB (.cells #[.pointer none,.slice none 0 0] 53))
     clear hvv htN hr1 hh hb hQ
     go_wp2
     clear c0 c1 c2 c3 c4 c5 c6 c7
     generalize wr.alloc (.cells #[.pointer none,.slice none 0 0] 53)=W8 at HBL HB7 ⊢
     generalize wr.heap.size=bb at HBL hleB ⊢
     go_loopw [45] (fun i wr=>∃ r:Nat,r≤8∧i=.int .i64 r∧Aside0 (Bld bb bb (outB v r) wr)∧Aside0 (Below w.heap.size w wr)) (fun i _=>8-(intOf i).toNat)
     case atStart=>exact ⟨0,by omega,rfl,HBL,HB7⟩
     case round =>
      clear HBL HB7
      obtain ⟨r,hr8,rfl,hB,hb⟩:=hrel
      by_cases hlt2:r<8
      ·have hix:=index8 v r hlt2
       obtain ⟨x,hx⟩:∃ x,v r=x:=⟨_,rfl⟩
       rw [hx] at hix
       have HX:=Aside0.mk hx
       clear hx
       have hd8:decide ((r:Int)<8)=true:=decide_eq_true (by omega)
       go_wp2
       (try rw [hd8])
       go_loopw [9] (fun i wr=>∃ j:Nat,j≤4∧i=.int .i64 (24-8*(j:Int))∧Aside0 (Bld bb bb (outB v r++in4 x j) wr)∧Aside0 (Below w.heap.size w wr)) (fun i _=>((intOf i)+8).toNat)
       case atStart=>exact ⟨0,by omega,rfl,by rw [in4,List.append_nil];exact hB,hb⟩
       case round =>
        clear hB hb
        obtain ⟨j,hj,rfl,hB,hb⟩:=hrel
        by_cases hj4:j<4
        ·obtain ⟨p,hp⟩:∃ p:Nat,p=24-8*j:=⟨_,rfl⟩
         have hpi:(24-8*(j:Int))=(p:Int):=by omega
         rw [hpi]
         have hmin:min p 32=p:=by omega
         have g0:(0:Int)≤(p:Int):=by omega
         obtain ⟨q,hq⟩:∃ q:Int,q=(p:Int)-8:=⟨_,rfl⟩
         have hpw:IntKind.i64.wrap ((p:Int)-8)=q:=(i64_w _).trans (by unfold wrap64;omega)
         have hlen:(outB v r++in4 x j).length+1≤140737488355328:=by rw [List.length_append,outB_length,in4_length];omega
         have HP2:=Aside0.mk (⟨hp,hpi,hq,hlen⟩:p=24-8*j∧(24-8*(j:Int))=(p:Int)∧q=(p:Int)-8∧(outB v r++in4 x j).length+1≤140737488355328)
         clear hp hpi hq hlen
         go_wp2_with (go_at_call 33;refine (bld_byte bb bb (outB v r++in4 x j) (x/2 ^ p % 256) ⟨Int.emod_nonneg _ (by decide),Int.emod_lt_of_pos _ (by decide)⟩ _ hB.out HP2.out.2.2.2).mono ?_;rintro e w9 ⟨rfl,hB9,hb9⟩;have HB9:=Aside0.mk hB9;have HB10:=Aside0.mk (hb.out.trans (hb9.mono hleB));clear hB9 hb9)
         go_roundw
         case rel =>
          obtain ⟨hp,hpi,hq,_⟩:=HP2.out
          refine ⟨j+1,by omega,?_,?_,HB10⟩
          ·rw [hq,← hpi]
           congr 1
           omega
          ·rw [in4,← hp,← List.append_assoc]
           exact HB9
         case measure =>
          obtain ⟨hp,hpi,hq,_⟩:=HP2.out
          simp only [intOf]
          omega
        ·have hj4':j=4:=by omega
         rw [hj4']
         obtain ⟨m2,hm2⟩:∃ m:Int,m=24-8*((4:Nat):Int):=⟨_,rfl⟩
         rw [← hm2]
         have hm2n:¬ 0≤m2:=by omega
         rw [hj4'] at hB
         clear hm2 hj4'
         go_wp2
         go_roundw
         case rel=>exact ⟨r+1,by omega,by go_num,by rw [outB,HX.out];exact hB,hb⟩
         case measure=>simp [intOf];omega
      ·have hr8':r=8:=by omega
       rw [hr8'] at hB
       clear hr8'
       go_wp2_with (go_at_call 34;refine (bld_string bb bb (outB v 8) _ hB.out).mono ?_;rintro e w9 ⟨rfl,hb9⟩;have HB9:=Aside0.mk (hb.out.trans (hb9.mono hleB));clear hb9)
       go_ret
       refine ⟨?_,HB9.out⟩
       have e1:headT s=U:=by unfold headT;rw [HC.out.1,HC.out.2.2.2.1];exact HU.out.1
       have e2:sumP s=P:=by unfold sumP;rw [e1];exact HPP.out.1
       have e3:(sumP s).size/64=N:=by rw [e2];have:=HPP.out.2.2;omega
       have e4:sumV s=(⟨(outB v 8).toArray⟩:ByteArray):=by
        unfold sumV
        rw [e3,e2,← HV.out.2,HV.out.1]
       rw [e4]
       rfl
def seal_Sum.f (a0:ByteArray):Option ByteArray:=if a0.size≤70368744177664 then some (sumV a0) else none
theorem seal_Sum.calls (a0:ByteArray) (r:ByteArray) (w:World) (h:seal_Sum.f a0=some r) (hK:KeysIn w) :
  Calls Tryd.prog 10 #[.string a0] w fun e w'=>e=.returned (.string r)∧Below w.heap.size w w':=by
 unfold seal_Sum.f at h
 by_cases hs:a0.size≤70368744177664
 ·rw [if_pos hs] at h
  obtain rfl:=Option.some.inj h
  exact sum_any a0 w hs hK
 ·rw [if_neg hs] at h
  cases h
end Go.Proofs.YtceedgflpkaclaaDoor.P

/- A strings.Builder of the call's own whose bytes lie from block C on: WriteByte leaves the other blocks below C as they were. Conditions: what it holds stays below 2^47 bytes. -/
namespace Go.Proofs.YtceedgflpkaclaaDoor.P
open Go.RowKit Go.Proofs.YtceedgflpkaclaaDoorW.PrintWords Go.Proofs.YtceedgflpkaclaaDoorW.PrintLast Go.Proofs.YtceedgflpkaclaaDoorW.PrintMore
structure BldC (C b:Nat) (l:List UInt8) (w:World):Prop where
 is_:∃ p v,w.heap[b]?=some (.cells #[p,v] 53 (0,0))∧(p=.pointer none∨p=.pointer (some ⟨b,0,none⟩))∧w.ownsRow C 5 1 v l.length (Lib.byteCells l)∧v.ownBlock≠some b∧b<C
structure But (C b:Nat) (w w':World):Prop where
 os:w'.os=w.os
 tape:w'.tape=w.tape
 output:w'.output=w.output
 size:w.heap.size≤w'.heap.size
 block:∀ k,k<C→k≠b→w'.heap[k]?=w.heap[k]?
theorem But.trans {C b:Nat} {w w' w'':World} (h:But C b w w') (k:But C b w' w''):But C b w w'' :=
 ⟨k.os.trans h.os,k.tape.trans h.tape,k.output.trans h.output,Nat.le_trans h.size k.size,fun i hi hb=>(k.block i hi hb).trans (h.block i hi hb)⟩
theorem But.below {C b B:Nat} {w w':World} (h:But C b w w') (hB:B≤b) (hb:b<C):Below B w w' :=
 ⟨h.os,h.tape,h.output,h.size,fun k hk=>h.block k (by omega) (by omega)⟩
theorem own_to {w:World} {C B:Nat} {v:Value} {n:Nat} {xs:List Value} (h:w.ownsRow C 5 1 v n xs) (hB:B≤C):w.ownsRow B 5 1 v n xs:=by
 obtain ⟨h1,h2|⟨g,cap,cur,e1,e2,e3⟩⟩:=h
 ·exact ⟨h1,.inl h2⟩
 ·exact ⟨h1,.inr ⟨g,cap,cur,e1,by omega,e3⟩⟩
theorem BldC.toBld {C b B:Nat} {l:List UInt8} {w:World} (h:BldC C b l w) (hB:B≤b):Bld B b l w:=by
 obtain ⟨p,v,hb,hp,ho,hne,hbC⟩:=h.is_
 rcases hp with rfl|rfl
 ·exact ⟨.inl ⟨hB,v,hb,by rw [Lib.byteCells_length];exact own_to ho (by omega),hne⟩⟩
 ·exact ⟨.inr ⟨hB,v,hb,by rw [Lib.byteCells_length];exact own_to ho (by omega),hne⟩⟩
theorem BldC.fresh (w w':World) (C:Nat) (hC:w.heap.size<C) (hb:Below (w.heap.size+1) (w.alloc (.cells #[.pointer none,.slice none 0 0] 53)) w'):BldC C w.heap.size [] w' :=
 ⟨_,_,(hb.block _ (by omega)).trans (heap_alloc_new w _),.inl rfl,⟨rfl,.inl ⟨rfl,rfl⟩⟩,(fun h=>by cases h),hC⟩
set_option maxHeartbeats 2000000 in
set_option maxRecDepth 100000 in
theorem bld_byteC (C b:Nat) (l:List UInt8) (c:Int) (hc:0≤c∧c<256) (w:World) (h:BldC C b l w) (hlen:l.length+1≤140737488355328) (hCw:C≤w.heap.size) :
  Calls Tryd.prog 33 #[.pointer (some ⟨b,0,none⟩),.int .u8 c] w fun e w'=>e=.returned .nilIface∧BldC C b (l++[UInt8.ofNat c.toNat]) w'∧But C b w w':=by
 obtain ⟨i0,hi,hz0,hz1,hz2⟩:=info_parts infoU8
 have hchk:Calls Tryd.prog 54 #[.pointer (some ⟨b,0,none⟩)] w fun e w'=>e=.returned (.tuple #[]) ∧
   (∃ v,w'.heap[b]?=some (.cells #[.pointer (some ⟨b,0,none⟩),v] 53 (0,0))∧w'.ownsRow C 5 1 v l.length (Lib.byteCells l)∧v.ownBlock≠some b)∧But C b w w':=by
  obtain ⟨p,v,hb,hp,ho,hne,hbC⟩:=h.is_
  rcases hp with rfl|rfl
  ·have hbd:Lib.BuilderAt 53 5 b b (.pointer none) (Lib.byteCells l) w:=⟨Nat.le_refl b,v,hb,by rw [Lib.byteCells_length];exact own_to ho (by omega),hne⟩
   refine (bld_check_fresh b w hbd.cell0 hbd.shape hbd.frozen0).mono ?_
   rintro e w' ⟨rfl,rfl⟩
   refine ⟨rfl,⟨v,?_,?_,hne⟩,⟨rfl,rfl,rfl,by simp,fun k _ hk=>Below.heap_setCell _ _ _ k hk⟩⟩
   ·simp [World.setCell,Array.getElem?_modify,hb]
   ·exact ownsRow_setCell_below ho (a:=⟨b,0,none⟩) hbC _
  ·have hbd:Lib.BuilderAt 53 5 b b (.pointer (some ⟨b,0,none⟩)) (Lib.byteCells l) w:=⟨Nat.le_refl b,v,hb,by rw [Lib.byteCells_length];exact own_to ho (by omega),hne⟩
   refine (bld_check_used b w hbd.cell0).mono ?_
   rintro e w' ⟨rfl,rfl⟩
   exact ⟨rfl,⟨v,hb,ho,hne⟩,⟨rfl,rfl,rfl,Nat.le_refl _,fun _ _ _=>rfl⟩⟩
 have hbC:b<C:=by obtain ⟨p,v,_,_,_,_,hbC⟩:=h.is_;exact hbC
 go_enter Tryd.func33,Tryd.ntmps33
 go_wp2_with (go_at_call 54;refine hchk.mono ?_)
 rintro e w1 ⟨rfl,⟨v,hbk,hown,hne⟩,hb1⟩
 have c0:w1.cell? ⟨b,0,none⟩=some (.pointer (some ⟨b,0,none⟩)):=by rw [Lib.cell_of_heap hbk];rfl
 have c1:w1.cell? ⟨b,1,none⟩=some v:=by rw [Lib.cell_of_heap hbk];rfl
 have hC1:C≤w1.heap.size:=Nat.le_trans hCw hb1.size
 go_wp2_with (at_builtin;refine wpList_append_own _ rfl _ _ 31 rfl C 5 i0 (.int .u8 0) 1 1 Tryd.underlying31 hi hz0 hz1 hz2 rfl (by decide) _ _ _ rfl (hown.alloc _) ⟨w1.heap.size,0,none⟩ 1 1 [.int .u8 c] rfl rfl ?c1 ?c2 ?c3 ?c4 ?c5 ?_)
 case c1 =>
  intro j u hj
  match j,hj with
  | 0,hj=>simp at hj;subst hj;simp [Addr.add]
 case c2=>intro u hu;simp at hu;subst hu;rfl
 case c3=>unfold maxLen;omega
 case c4=>omega
 case c5=>simp;omega
 intro v' w2 hown' hgrow _
 have hb2:w2.heap[b]?=some (.cells #[.pointer (some ⟨b,0,none⟩),v] 53 (0,0)):=by
  rw [hgrow.block b (by simp;omega) (fun e=>hne e.symm),Lib.alloc_old w1 _ b (by omega)]
  exact hbk
 have d0:w2.cell? ⟨b,0,none⟩=some (.pointer (some ⟨b,0,none⟩)):=by rw [Lib.cell_of_heap hb2];rfl
 have d1:w2.cell? ⟨b,1,none⟩=some v:=by rw [Lib.cell_of_heap hb2];rfl
 have f1:w2.frozen? ⟨b,1,none⟩=false:=Lib.frozen_of_heap hb2 1
 have hbase:=own_base hown'
 have hold:∀ k,k<C→k≠b→w2.heap[k]?=w1.heap[k]?:=fun k hk _ =>
  (hgrow.block k (by simp;omega) (fun e=>by have:=own_base hown k e.symm;omega)).trans (Lib.alloc_old w1 _ k (by omega))
 obtain ⟨g,cap,rfl⟩:∃ g cap,v'=.slice (some ⟨g,0,none⟩) (l.length+1) cap:=by
  rcases hown'.2 with ⟨_,h0⟩|⟨g,cap,cur,hv,_⟩
  ·omega
  ·exact ⟨g,cap,hv⟩
 go_wp2
 go_ret
 have hbC2:C≤g:=hbase g rfl
 refine ⟨rfl,⟨_,.slice (some ⟨g,0,none⟩) (l.length+1) cap,?_,.inr rfl,?_,?_,hbC⟩,hb1.trans ⟨hgrow.os,hgrow.tape,hgrow.output,?_,?_⟩⟩
 ·simp [World.setCell,Array.getElem?_modify,hb2]
 ·rw [List.length_append,byteCells_append]
  have e1:Lib.byteCells [UInt8.ofNat c.toNat]=[.int .u8 c]:=by
   simp [Lib.byteCells]
   omega
  rw [e1]
  exact ownsRow_setCell_below hown' (a:=⟨b,1,none⟩) hbC _
 ·intro e
  have:g=b:=by simpa [Value.ownBlock] using e
  omega
 ·have:=hgrow.size
  simp at this ⊢
  omega
 ·intro k hk hkb
  exact (Below.heap_setCell _ _ _ k hkb).trans (hold k hk hkb)
end Go.Proofs.YtceedgflpkaclaaDoor.P

/- seal.Mark: a text's sum in digits. Conditions: as seal.Sum's. -/
namespace Go.Proofs.YtceedgflpkaclaaDoor.P
open Go.RowKit Go.Proofs.YtceedgflpkaclaaDoorW.PrintWords Go.Proofs.YtceedgflpkaclaaDoorW.PrintLast Go.Proofs.YtceedgflpkaclaaDoorW.PrintMore
set_option linter.unusedSimpArgs false

def digitsS:ByteArray:=⟨#[48,49,50,51,52,53,54,55,56,57,97,98,99,100,101,102]⟩
def dig (n:Int):Int:=if n<10 then 48+n else 87+n
def markL (xs:List Int):Nat→List UInt8
 | 0=>[]
 | r+1=>markL xs r++[UInt8.ofNat (dig (xs.getD r 0/16)).toNat]++[UInt8.ofNat (dig (Go.bits .and .u8 (xs.getD r 0) 15)).toNat]
theorem markL_length (xs:List Int):∀ r,(markL xs r).length=2*r
 | 0=>rfl
 | r+1=>by rw [markL,List.length_append,List.length_append,markL_length xs r];simp;omega
theorem index_dig (n:Nat) (hn:n<16) (w:World):(Instr.index 9 (.string digitsS) (.int .u8 (n:Int))).run Tryd.prog w=.ok (.int .u8 (dig (n:Int))) w:=by
 have hx:digitsS[n]?=some (UInt8.ofNat (dig (n:Int)).toNat):=by
  match n,hn with
  | 0,_=>rfl|1,_=>rfl|2,_=>rfl|3,_=>rfl|4,_=>rfl|5,_=>rfl|6,_=>rfl|7,_=>rfl
  | 8,_=>rfl|9,_=>rfl|10,_=>rfl|11,_=>rfl|12,_=>rfl|13,_=>rfl|14,_=>rfl|15,_=>rfl
  | n+16,h=>omega
 have hd:((UInt8.ofNat (dig (n:Int)).toNat).toNat:Int)=dig (n:Int):=by
  rw [UInt8.toNat_ofNat']
  unfold dig
  split<;>omega
 have h0:(0:Int)≤(n:Int):=by omega
 generalize (UInt8.ofNat (dig (n:Int)).toNat)=u at hx hd
 generalize digitsS=S at hx ⊢
 simp [Instr.index,run_underlying Tryd.underlying9,asIntOf,go_sem,hx,hd]
theorem dig_range (n:Int) (h:0≤n∧n<16):0≤dig n∧dig n<256:=by unfold dig;split<;>omega
set_option maxRecDepth 100000 in
theorem and15 (n:Nat) (hn:n<256):Go.bits .and .u8 (n:Int) 15=((n % 16:Nat):Int):=by
 have h:∀ n:Fin 256,Go.bits .and .u8 ((n.1:Nat):Int) 15=((n.1 % 16:Nat):Int):=by decide +kernel
 exact h ⟨n,hn⟩
theorem RowG.but {b g n cap base:Nat} {w w':World} {xs:List Int} (h:RowG w base (.slice (some ⟨g,0,none⟩) n cap) xs) (hg:g≠b) (hb:But (g+1) b w w'):RowG w' base (.slice (some ⟨g,0,none⟩) n cap) xs:=by
 obtain ⟨g',cap',cur,fr,hv,h1,h2,h3⟩:=h.is_
 injection hv with e1 e2 e3
 injection e1 with e1
 injection e1 with e1
 subst e1 e2 e3
 exact ⟨g,cap,cur,fr,rfl,h1,(hb.block g (by omega) hg).trans h2,h3⟩
set_option maxHeartbeats 4000000 in
set_option maxRecDepth 100000 in
theorem mark_any (s:ByteArray) (w:World) (hs:s.size≤70368744177664) (h8:(sumV s).size=32) (hK:KeysIn w) :
  Calls Tryd.prog 12 #[.string s] w fun e w'=>e=.returned (.string ⟨(markL (bytesOf ((sumV s).extract 0 8)) 8).toArray⟩)∧Below w.heap.size w w':=by
 have HK:=Aside0.mk hK
 clear hK
 obtain ⟨S,hS⟩:∃ S,sumV s=S:=⟨_,rfl⟩
 rw [hS] at h8
 rw [hS]
 obtain ⟨Q,hQ⟩:∃ Q,S.extract 0 8=Q:=⟨_,rfl⟩
 have hQs:Q.size=8:=by rw [← hQ,ByteArray.size_extract];omega
 have hsum:∀ W,KeysIn W→Calls Tryd.prog 10 #[.string s] W fun e w'=>e=.returned (.string S)∧Below W.heap.size W w':=fun W hW=>by
  have:=sum_any s W hs hW
  rw [hS] at this
  exact this
 obtain ⟨xs,hxs⟩:∃ xs,bytesOf Q=xs:=⟨_,rfl⟩
 have hxl:xs.length=8:=by rw [← hxs,bytesOf_length,hQs]
 have hconv:=fun W=>Lib.run_convert_string_bytes (P:=Tryd.prog) W 9 31 5 Q Tryd.underlying9 Tryd.underlying31 Tryd.underlying5
 rw [hQ,hxs]
 have HS:=Aside0.mk hsum
 have HQ:=Aside0.mk (⟨hQs,hxs,hxl⟩:Q.size=8∧bytesOf Q=xs∧xs.length=8)
 have g8:(8:Int)≤(S.size:Int):=by omega
 have hkA:KeysIn (w.alloc (.cells #[.pointer none,.slice none 0 0] 53)):=keys_step HK.out (below_alloc (Below.refl _ _) _)
 have HKA:=Aside0.mk hkA
 clear hS hQs hsum hxs hxl hkA h8
 go_enter Tryd.func12,Tryd.ntmps12
 go_wp2_with (go_at_call 10;refine (HS.out _ HKA.out).mono ?_;rintro e w4 ⟨rfl,hb4⟩;have HB4:=Aside0.mk hb4;clear hb4)
 have hle4:w.heap.size≤w4.heap.size:=by have:=HB4.out.size;simp at this;omega
 have hB2:Below w.heap.size w (Lib.bytesWorld w4 5 Q):=bytes_below (((Below.refl w.heap.size w).alloc (Nat.le_refl _) _).trans (HB4.out.mono (by simp))) hle4 _ _
 have hG:=RowG.of_text w4 w.heap.size Q (by have:=HQ.out.1;omega) hle4
 have hs4:w.heap.size+1≤w4.heap.size:=by have:=HB4.out.size;simp at this;omega
 have hBL:=BldC.fresh w (Lib.bytesWorld w4 5 Q) (w4.heap.size+1) (by omega) ((HB4.out.mono (by simp)).trans (bytes_below (Below.refl _ w4) hs4 5 Q))
 have hCs:w4.heap.size+1≤(Lib.bytesWorld w4 5 Q).heap.size:=by rw [Lib.bytesWorld_size];omega
 rw [HQ.out.1,HQ.out.2.1] at hG
 rw [HQ.out.1]
 rw [show ((8:Nat):Int)=(8:Int) from rfl]
 generalize Lib.bytesWorld w4 5 Q=W at hB2 hG hBL hCs ⊢
 generalize grownCap w4 8 0 5=cap at hG ⊢
 generalize w4.heap.size=g at hG hle4 hs4 hBL hCs ⊢
 have HG:=Aside0.mk hG
 have HBL:=Aside0.mk hBL
 have HBW:=Aside0.mk hB2
 clear hB2 hG hBL HB4 hconv
 go_loopw [11] (fun i wr=>∃ r:Nat,r≤8∧i=.int .i64 r∧g+1≤wr.heap.size∧Aside0 (BldC (g+1) w.heap.size (markL xs r) wr)∧Aside0 (RowG wr w.heap.size (.slice (some ⟨g,0,none⟩) 8 cap) xs)∧Aside0 (Below w.heap.size w wr)) (fun i _=>8-(intOf i).toNat)
 case atStart=>exact ⟨0,by omega,rfl,hCs,HBL,HG,HBW⟩
 case round =>
  clear HBL HG HBW hCs
  obtain ⟨r,hr8,rfl,hCs,hB,hG,hb⟩:=hrel
  by_cases hlt:r<8
  ·obtain ⟨n,hn,hn2⟩:∃ n:Nat,xs.getD r 0=(n:Int)∧n<256:=by
    have h1:=bt_range Q (r:Int)
    have h2:xs.getD r 0=bt Q (r:Int):=by
     have:=rd_bytesOf Q (r:Int)
     rw [HQ.out.2.1] at this
     unfold rd at this
     rw [Int.toNat_natCast] at this
     exact this
    exact ⟨(bt Q (r:Int)).toNat,by omega,by omega⟩
   have hc:=hG.out.cell r (by rw [HQ.out.2.2];exact hlt)
   rw [hn] at hc
   have i1:=index_dig (n/16) (by omega)
   have i2:=index_dig (n % 16) (by omega)
   rw [show ((n/16:Nat):Int)=(n:Int)/16 by omega] at i1
   rw [← and15 n hn2] at i2
   have r1:=dig_range ((n:Int)/16) (by omega)
   have r2:=dig_range (Go.bits .and .u8 (n:Int) 15) (by rw [and15 n hn2];omega)
   have b1:(0:Int)≤(n:Int)/16:=by omega
   simp only [digitsS] at i1 i2
   obtain ⟨d1,hd1⟩:∃ d,dig ((n:Int)/16)=d:=⟨_,rfl⟩
   obtain ⟨d2,hd2⟩:∃ d,dig (Go.bits .and .u8 (n:Int) 15)=d:=⟨_,rfl⟩
   rw [hd1] at i1 r1
   rw [hd2] at i2 r2
   have hl:(markL xs r).length+2≤140737488355328:=by rw [markL_length];omega
   have hnext:markL xs (r+1)=markL xs r++[UInt8.ofNat d1.toNat]++[UInt8.ofNat d2.toNat]:=by rw [markL,hn,hd1,hd2]
   have HD:=Aside0.mk (⟨hn,r1,r2,hl,hnext⟩:xs.getD r 0=(n:Int)∧(0≤d1∧d1<256)∧(0≤d2∧d2<256)∧(markL xs r).length+2≤140737488355328∧markL xs (r+1)=markL xs r++[UInt8.ofNat d1.toNat]++[UInt8.ofNat d2.toNat])
   clear hn hn2 r1 r2 hl hnext hd1 hd2
   have hgn:g≠w.heap.size:=by omega
   go_wp2_with (first
    | (go_at_call 33;refine (bld_byteC (g+1) w.heap.size (markL xs r++[UInt8.ofNat d1.toNat]) d2 HD.out.2.2.1 _ HB9.out (by have:=HD.out.2.2.2.1;rw [List.length_append];simp;omega) hC9).mono ?_;rintro e w10 ⟨rfl,hB10,hb10⟩;have HB11:=Aside0.mk hB10;have HG11:=Aside0.mk (HG9.out.but hgn hb10);have HB12:=Aside0.mk (HB10.out.trans (hb10.below (Nat.le_refl _) (by omega)));have hC10:=Nat.le_trans hC9 hb10.size;clear hB10 hb10)
    | (go_at_call 33;refine (bld_byteC (g+1) w.heap.size (markL xs r) d1 HD.out.2.1 _ hB.out (by have:=HD.out.2.2.2.1;omega) hCs).mono ?_;rintro e w9 ⟨rfl,hB9,hb9⟩;have HB9:=Aside0.mk hB9;have HG9:=Aside0.mk (hG.out.but hgn hb9);have HB10:=Aside0.mk (hb.out.trans (hb9.below (Nat.le_refl _) (by omega)));have hC9:=Nat.le_trans hCs hb9.size;clear hB9 hb9))
   go_roundw
   case rel=>exact ⟨r+1,by omega,by go_num,hC10,by rw [HD.out.2.2.2.2];exact HB11,HG11,HB12⟩
   case measure=>simp [intOf];omega
  ·have hr8':r=8:=by omega
   rw [hr8'] at hB
   clear hr8'
   go_wp2_with (go_at_call 34;refine (bld_string w.heap.size w.heap.size (markL xs 8) _ (hB.out.toBld (Nat.le_refl _))).mono ?_;rintro e w9 ⟨rfl,hb9⟩;have HB9:=Aside0.mk (hb.out.trans hb9);clear hb9)
   go_ret
   exact ⟨rfl,HB9.out⟩
theorem sumV_size (s:ByteArray):(sumV s).size=32:=by
 unfold sumV
 rw [← data_length]
 show (outB _ 8).length=32
 rw [outB_length]
def seal_Mark.f (a0:ByteArray):Option ByteArray:=if a0.size≤70368744177664 then some ⟨(markL (bytesOf ((sumV a0).extract 0 8)) 8).toArray⟩ else none
theorem seal_Mark.calls (a0:ByteArray) (r:ByteArray) (w:World) (h:seal_Mark.f a0=some r) (hK:KeysIn w) :
  Calls Tryd.prog 12 #[.string a0] w fun e w'=>e=.returned (.string r)∧Below w.heap.size w w':=by
 unfold seal_Mark.f at h
 by_cases hs:a0.size≤70368744177664
 ·rw [if_pos hs] at h
  obtain rfl:=Option.some.inj h
  exact mark_any a0 w hs (sumV_size a0) hK
 ·rw [if_neg hs] at h
  cases h
end Go.Proofs.YtceedgflpkaclaaDoor.P

/- What one function of the program computes, as a Lean function, and a proof that its call comes to just that. Conditions: none. Written by wip/ownprint.py. -/
namespace Go.Proofs.YtceedgflpkaclaaDoor.P
open Go.RowKit Go.Proofs.YtceedgflpkaclaaDoorW.PrintWords Go.Proofs.YtceedgflpkaclaaDoorW.PrintLast Go.Proofs.YtceedgflpkaclaaDoorW.PrintMore
attribute [local go_sem] max2_int min2_int max_two min_two max_three min_three max_four min_four   -- for this text's walks alone
set_option linter.unusedVariables false
set_option linter.unusedSimpArgs false

def transhipmentlaw02_alive.f :Option (Bool):=(seal_Mark.f (⟨#[97,98,99]⟩:ByteArray)).bind fun t105=>(some (t105.toList == ([98,97,55,56,49,54,98,102,56,102,48,49,99,102,101,97]:List UInt8)))
set_option maxHeartbeats 8000000 in
set_option maxRecDepth 100000 in
theorem transhipmentlaw02_alive.calls  (r:Bool) (w:World) (h:transhipmentlaw02_alive.f =some r) (hK:KeysIn w) :
  Calls Tryd.prog 9 #[] w fun e w'=>e=.returned (.bool r)∧Below w.heap.size w w':=by
 have HB:=Aside0.mk (Below.refl w.heap.size w)
 have HK:=Aside0.mk hK
 clear hK
 have H:((seal_Mark.f (⟨#[97,98,99]⟩:ByteArray)).bind fun t105=>(some (t105.toList == ([98,97,55,56,49,54,98,102,56,102,48,49,99,102,101,97]:List UInt8))))=some r:=h
 clear h
 replace H:=Option.bind_eq_some_iff.mp H
 obtain ⟨t105,A10,H⟩:=H
 replace H:(some (t105.toList == ([98,97,55,56,49,54,98,102,56,102,48,49,99,102,101,97]:List UInt8)))=some r:=H
 have A1:=Aside0.mk A10
 clear A10
 obtain rfl:=Option.some.inj H
 go_enter Tryd.func9,Tryd.ntmps9
 go_wp2_with (first|((with_reducible refine gate_callee (f:=12) rfl ?_);refine goesL_ (some 1) rfl rfl Tryd.func12 (by kernel_rfl) rfl #[.string (⟨#[97,98,99]⟩:ByteArray)] rfl (by (try simp only [List.map_toArray,List.map_cons,List.map_nil]);first|done|rfl|(simp only [List.length_drop,List.length_take];rfl)) ?_;(with_reducible refine (seal_Mark.calls (⟨#[97,98,99]⟩:ByteArray) t105 _ A1.out ?keys_).mono ?_);(case keys_=>exact (keys_step HK.out (by repeat (first|(with_reducible first|exact HB.out|apply below_alloc|apply pw_below_drewN|apply below_drew1)|exact HB.out))));rintro e w2 ⟨rfl,hb⟩;refine ⟨_,rfl,?_⟩;have n0_:=Aside0.mk (below_step (by repeat (first|(with_reducible first|exact HB.out|apply below_alloc|apply pw_below_drewN|apply below_drew1)|exact HB.out)) hb);clear HB;have HB:=n0_;clear n0_;(try clear hb);(try clear hb2);(try clear hk);(try clear hi)))
 (first|go_ret|go_ret2)
 exact ⟨by first|rfl|(simp [errW_none,errW_some]<;>rfl)|(simp [*,errW_none,errW_some]<;>rfl),by repeat (first|(with_reducible first|exact HB.out|apply below_alloc|apply pw_below_drewN|apply below_drew1)|exact HB.out)⟩
end Go.Proofs.YtceedgflpkaclaaDoor.P

/- What one function of the program computes, as a Lean function, and a proof that its call comes to just that. Conditions: none. Written by wip/ownprint.py. -/
namespace Go.Proofs.YtceedgflpkaclaaDoor.P
open Go.RowKit Go.Proofs.YtceedgflpkaclaaDoorW.PrintWords Go.Proofs.YtceedgflpkaclaaDoorW.PrintLast Go.Proofs.YtceedgflpkaclaaDoorW.PrintMore
attribute [local go_sem] max2_int min2_int max_two min_two max_three min_three max_four min_four   -- for this text's walks alone
set_option linter.unusedVariables false
set_option linter.unusedSimpArgs false

def transhipmentref01_Number.l0:Nat→Int→List Int→Option (ByteArray)
 | 0,_,_=>none
 | k+1,x0,x3=>if x0>127 then (if x3.length<140737488355328 then (transhipmentref01_Number.l0 k (wrap64 (Int.tdiv x0 128)) (x3++[(wrap64 (128+(Int.tmod x0 128))) % 256])) else (none)) else (if x3.length<140737488355328 then (some (strOfNums (x3++[(x0) % 256]))) else (none))
def transhipmentref01_Number.f (k:Nat) (a0:Int):Option (ByteArray):=transhipmentref01_Number.l0 k a0 (([]:List Int))
set_option maxHeartbeats 8000000 in
set_option maxRecDepth 100000 in
theorem transhipmentref01_Number.calls (k:Nat) (a0:Int) (r:ByteArray) (w:World) (h:transhipmentref01_Number.f k a0=some r) :
  Calls Tryd.prog 38 #[.int .i64 a0] w fun e w'=>e=.returned (.string r)∧Below w.heap.size w w':=by
 have HB:=Aside0.mk (Below.refl w.heap.size w)
 have H:(transhipmentref01_Number.l0 k a0 (([]:List Int)))=some r:=h
 clear h
 obtain ⟨y239,hy239⟩:∃ y_:List Int,y_=(([]:List Int)):=⟨_,rfl⟩
 replace H:(transhipmentref01_Number.l0 k a0 y239)=some r:=by first|(rw [hy239];with_reducible exact H)|(have H2_:=(Option.bind_some _ _).symm.trans H;rw [hy239];with_reducible exact H2_)|(have H2_:=(Option.bind_some _ _).symm.trans H;with_reducible exact H2_)|with_reducible exact H|(rw [hy239];exact H)|exact H
 have Ny239:=Aside0.mk hy239
 clear hy239
 have H':=Aside0.mk H
 clear H
 go_enter Tryd.func38,Tryd.ntmps38
 go_wp2_with (first|((with_reducible refine gate_dst (N:=4) rfl ?_);refine Kd.R_lit (Kd.int .u8) _ 5 ?hg (N:=4) ?hd (xs:=([]:List Int)) (inner:=[]) (ok:=fun _=>True) (okp:=fun _=>True) ?hr ?hp (fun _ hk=>hk) trivial (Below.refl _ _) (Nat.le_refl _) (by simp) ?_;(case hd=>rfl);(case hg=>rfl);(case hr=>first|(go_simp;done)|(go_simp;rfl)|(go_simp;simp [IntKind.wrap_u32]));(case hp=>exact (Reps.none _ _));intro v240 w2 ho3 hb hg_ hnew_;clear hg_ hnew_;(first|rw [← Ny239.out] at ho3|(simp only [Int.reduceToNat] at ho3;rw [← Ny239.out] at ho3));have n0_:=Aside0.mk (Kd.R_lower ho3 (below_size (by repeat (first|(with_reducible first|exact HB.out|apply below_alloc|apply pw_below_drewN|apply below_drew1)|exact HB.out))));have n1_:=Aside0.mk (below_step (by repeat (first|(with_reducible first|exact HB.out|apply below_alloc|apply pw_below_drewN|apply below_drew1)|exact HB.out)) hb);clear HB;have HO241:=n0_;have HB:=n1_;clear n0_ n1_;clear hb ho3))
 go_loopg [0,3] k (fun kq v0 v3 w'=>∃ (x0_1:Int) (x3_1:List Int),v0=.int .i64 x0_1∧Aside0 (transhipmentref01_Number.l0 kq x0_1 x3_1=some r)∧Aside0 (kq≤k)∧Aside0 (Kd.R (Kd.int .u8) 5 w' w.heap.size (fun _=>True) v3 x3_1)∧Aside0 (Below w.heap.size w w'))
 case atStart=>exact ⟨(a0),(y239),(by first|rfl|(simp;done)|(simp [*];done)),H',⟨Nat.le_refl _⟩,⟨by (with_reducible repeat (first|apply Kd.R_alloc|apply Kd.R_drewN|apply Kd.R_drew));exact HO241.out⟩,⟨by repeat (first|(with_reducible first|exact HB.out|apply below_alloc|apply pw_below_drewN|apply below_drew1)|exact HB.out)⟩⟩
 case round =>
  clear H'
  try clear p2
  try clear c3
  obtain ⟨x0_1,x3_1,rfl,HA,HK1,HO_3,HB⟩:=hrel
  cases gk with
  | zero=>exact absurd HA.out (by simp [transhipmentref01_Number.l0])
  | succ k1 =>
   have H:=HA.out
   clear HA
   simp only [transhipmentref01_Number.l0] at H
   by_cases c4:x0_1>127
   ·rw [if_pos c4] at H
    have c4b0:decide (127<x0_1)=true:=decide_eq_true c4
    clear c4
    by_cases c5:x3_1.length<140737488355328
    ·rw [if_pos c5] at H
     have LMc5:=Aside0.mk c5
     clear c5
     obtain ⟨y242,hy242⟩:∃ y_:List Int,y_=(x3_1++[(wrap64 (128+(Int.tmod x0_1 128))) % 256]):=⟨_,rfl⟩
     replace H:(transhipmentref01_Number.l0 k1 (wrap64 (Int.tdiv x0_1 128)) y242)=some r:=by first|(rw [hy242];with_reducible exact H)|(have H2_:=(Option.bind_some _ _).symm.trans H;rw [hy242];with_reducible exact H2_)|(have H2_:=(Option.bind_some _ _).symm.trans H;with_reducible exact H2_)|with_reducible exact H|(rw [hy242];exact H)|exact H
     have Ny242:=Aside0.mk hy242
     clear hy242
     have H':=Aside0.mk H
     clear H
     go_wp2_with (first|((with_reducible refine gate_builtin (b:=.append) (xs:=#[.tmp 7,.tmp 12]) rfl ?_);at_builtin;refine Kd.R_append (Kd.int .u8) (w0:=w) w.heap.size rfl (.tmp 7) (.tmp 12) 31 5 (.int .u8 0) 1 rfl Tryd.underlying31 info5 rfl (by decide) (by omega) u3 x3_1 ((wrap64 (128+(Int.tmod x0_1 128))) % 256) [.int .u8 ((wrap64 (128+(Int.tmod x0_1 128))) % 256)] (fun _=>True) (fun _=>False) rfl rfl ?aP (fun _ hk=>hk.elim) ?aF ?aO ?aB ?aS ?aL ?_;(case aP=>exact rfl);(case aB=>exact (by repeat (first|(with_reducible first|exact HB.out|apply below_alloc|apply pw_below_drewN|apply below_drew1)|exact HB.out)));(case aF=>exact (fun _ _=>trivial));(case aO=>exact (by (with_reducible repeat (first|apply Kd.R_alloc|apply Kd.R_drewN|apply Kd.R_drew));exact HO_3.out));(case aS=>exact (below_size (by repeat (first|(with_reducible first|exact HB.out|apply below_alloc|apply pw_below_drewN|apply below_drew1)|exact HB.out))));(case aL=>have:=LMc5.out;omega);intro v243 w6 ho hb hg hat;rw [← Ny242.out] at ho;have n0_:=Aside0.mk (hb);have n1_:=Aside0.mk (ho);clear HB;clear HO_3;have HB:=n0_;have HO244:=n1_;clear n0_ n1_;clear ho hb hg hat))
     go_roundg k1
     case measure=>have:=HK1.out;omega
     case rel=>exact ⟨(wrap64 (Int.tdiv x0_1 128)),(y242),(by first|rfl|(simp;done)|(simp [*];done)),H',⟨by have:=HK1.out;omega⟩,⟨by (with_reducible repeat (first|apply Kd.R_alloc|apply Kd.R_drewN|apply Kd.R_drew));exact HO244.out⟩,⟨by repeat (first|(with_reducible first|exact HB.out|apply below_alloc|apply pw_below_drewN|apply below_drew1)|exact HB.out)⟩⟩
    ·rw [if_neg c5] at H
     exact absurd H (by simp)
   ·rw [if_neg c4] at H
    have c4b0:decide (127<x0_1)=false:=decide_eq_false c4
    clear c4
    by_cases c7:x3_1.length<140737488355328
    ·rw [if_pos c7] at H
     have LMc7:=Aside0.mk c7
     clear c7
     obtain ⟨y245,hy245⟩:∃ y_:List Int,y_=(x3_1++[(x0_1) % 256]):=⟨_,rfl⟩
     replace H:(some (strOfNums y245))=some r:=by first|(rw [hy245];with_reducible exact H)|(have H2_:=(Option.bind_some _ _).symm.trans H;rw [hy245];with_reducible exact H2_)|(have H2_:=(Option.bind_some _ _).symm.trans H;with_reducible exact H2_)|with_reducible exact H|(rw [hy245];exact H)|exact H
     have Ny245:=Aside0.mk hy245
     clear hy245
     obtain rfl:=Option.some.inj H
     go_wp2_with (first|((with_reducible refine gate_builtin (b:=.append) (xs:=#[.tmp 16,.tmp 19]) rfl ?_);at_builtin;refine Kd.R_append (Kd.int .u8) (w0:=w) w.heap.size rfl (.tmp 16) (.tmp 19) 31 5 (.int .u8 0) 1 rfl Tryd.underlying31 info5 rfl (by decide) (by omega) u3 x3_1 ((x0_1) % 256) [.int .u8 ((x0_1) % 256)] (fun _=>True) (fun _=>False) rfl rfl ?aP (fun _ hk=>hk.elim) ?aF ?aO ?aB ?aS ?aL ?_;(case aP=>exact rfl);(case aB=>exact (by repeat (first|(with_reducible first|exact HB.out|apply below_alloc|apply pw_below_drewN|apply below_drew1)|exact HB.out)));(case aF=>exact (fun _ _=>trivial));(case aO=>exact (by (with_reducible repeat (first|apply Kd.R_alloc|apply Kd.R_drewN|apply Kd.R_drew));exact HO_3.out));(case aS=>exact (below_size (by repeat (first|(with_reducible first|exact HB.out|apply below_alloc|apply pw_below_drewN|apply below_drew1)|exact HB.out))));(case aL=>have:=LMc7.out;omega);intro v246 w8 ho hb hg hat;rw [← Ny245.out] at ho;have n0_:=Aside0.mk (hb);have n1_:=Aside0.mk (ho);clear HB;clear HO_3;have HB:=n0_;have HO247:=n1_;clear n0_ n1_;clear ho hb hg hat;have hcv9:=own_string (P:=Tryd.prog) Tryd.underlying31 Tryd.underlying5 Tryd.underlying9 (Kd.own_of_R HO247.out)))
     (first|go_ret|go_ret2)
     exact ⟨by first|rfl|(simp [errW_none,errW_some]<;>rfl)|(simp [*,errW_none,errW_some]<;>rfl),by repeat (first|(with_reducible first|exact HB.out|apply below_alloc|apply pw_below_drewN|apply below_drew1)|exact HB.out)⟩
    ·rw [if_neg c7] at H
     exact absurd H (by simp)
end Go.Proofs.YtceedgflpkaclaaDoor.P

/- What one function of the program computes, as a Lean function, and a proof that its call comes to just that. Conditions: none. Written by wip/ownprint.py. -/
namespace Go.Proofs.YtceedgflpkaclaaDoor.P
open Go.RowKit Go.Proofs.YtceedgflpkaclaaDoorW.PrintWords Go.Proofs.YtceedgflpkaclaaDoorW.PrintLast Go.Proofs.YtceedgflpkaclaaDoorW.PrintMore
attribute [local go_sem] max2_int min2_int max_two min_two max_three min_three max_four min_four   -- for this text's walks alone
set_option linter.unusedVariables false
set_option linter.unusedSimpArgs false

def transhipmentref01_Bind.l0:Nat→ByteArray→List ByteArray→Int→Int→Option (ByteArray)
 | 0,_,_,_,_=>none
 | k+1,x3,x6,x7,x8=>if x8<x7 then (if 0≤x8 then (if x8<(x6.length:Int) then ((transhipmentref01_Number.f k ((rdOf ByteArray.empty x6 x8).size:Int)).bind fun t249=>(if x3.size+t249.size≤9223372036854775807 then (if (x3++t249).size+(rdOf ByteArray.empty x6 x8).size≤9223372036854775807 then (transhipmentref01_Bind.l0 k ((x3++t249)++(rdOf ByteArray.empty x6 x8)) x6 x7 (wrap64 (x8+1))) else (none)) else (none))) else (none)) else (none)) else (some x3)
def transhipmentref01_Bind.f (k:Nat) (l0:List ByteArray):Option (ByteArray):=transhipmentref01_Bind.l0 k (⟨#[]⟩:ByteArray) l0 (l0.length:Int) 0
set_option maxHeartbeats 8000000 in
set_option maxRecDepth 100000 in
theorem transhipmentref01_Bind.calls (k:Nat) (A0:Option Addr) (c0:Nat) (l0:List ByteArray) (r:ByteArray) (w:World) (hr0:Kd.C Kd.string w A0 l0.length l0) (hc0:l0.length≤c0) (h:transhipmentref01_Bind.f k l0=some r) :
  Calls Tryd.prog 18 #[.slice A0 l0.length c0] w fun e w'=>e=.returned (.string r)∧Below w.heap.size w w':=by
 have HR0:=Aside0.mk hr0
 have HC0:=Aside0.mk hc0
 clear hr0 hc0
 have HB:=Aside0.mk (Below.refl w.heap.size w)
 have H:(transhipmentref01_Bind.l0 k (⟨#[]⟩:ByteArray) l0 (l0.length:Int) 0)=some r:=h
 clear h
 have H':=Aside0.mk H
 clear H
 go_enter Tryd.func18,Tryd.ntmps18
 go_wp2
 go_loopg [3,8] k (fun kq v3 v8 w'=>∃ (x3_1:ByteArray) (x8_1:Int),v3=.string x3_1∧v8=.int .i64 x8_1∧Aside0 (transhipmentref01_Bind.l0 kq x3_1 l0 (l0.length:Int) x8_1=some r)∧Aside0 (kq≤k)∧Aside0 (Below w.heap.size w w'))
 case atStart=>exact ⟨((⟨#[]⟩:ByteArray)),(0),(by first|rfl|(simp;done)|(simp [*];done)),(by first|rfl|(simp;done)|(simp [*];done)),H',⟨Nat.le_refl _⟩,⟨by repeat (first|(with_reducible first|exact HB.out|apply below_alloc|apply pw_below_drewN|apply below_drew1)|exact HB.out)⟩⟩
 case round =>
  clear H'
  try clear c1
  obtain ⟨x3_1,x8_1,rfl,rfl,HA,HK1,HB⟩:=hrel
  cases gk with
  | zero=>exact absurd HA.out (by simp [transhipmentref01_Bind.l0])
  | succ k1 =>
   have H:=HA.out
   clear HA
   simp only [transhipmentref01_Bind.l0] at H
   by_cases c2:x8_1<(l0.length:Int)
   ·rw [if_pos c2] at H
    have c2b0:decide (x8_1<(l0.length:Int))=true:=decide_eq_true c2
    clear c2
    by_cases c3:0≤x8_1
    ·rw [if_pos c3] at H
     have c3b0:decide (0≤x8_1)=true:=decide_eq_true c3
     clear c3
     by_cases c4:x8_1<(l0.length:Int)
     ·rw [if_pos c4] at H
      have c4b0:decide (x8_1<(l0.length:Int))=true:=decide_eq_true c4
      clear c4
      replace H:=Option.bind_eq_some_iff.mp H
      obtain ⟨t249,A50,H⟩:=H
      replace H:(if x3_1.size+t249.size≤9223372036854775807 then (if (x3_1++t249).size+(rdOf ByteArray.empty l0 x8_1).size≤9223372036854775807 then (transhipmentref01_Bind.l0 k1 ((x3_1++t249)++(rdOf ByteArray.empty l0 x8_1)) l0 (l0.length:Int) (wrap64 (x8_1+1))) else (none)) else (none))=some r:=H
      have A5:=Aside0.mk A50
      clear A50
      by_cases c6:x3_1.size+t249.size≤9223372036854775807
      ·rw [if_pos c6] at H
       have c6b0:=eq_true c6
       have c6b1:decide (x3_1.size+t249.size≤9223372036854775807)=true:=decide_eq_true c6
       try have c6b2:(9223372036854775807<x3_1.size+t249.size)=False:=eq_false (Nat.not_lt.2 c6)
       by_cases c7:(x3_1++t249).size+(rdOf ByteArray.empty l0 x8_1).size≤9223372036854775807
       ·rw [if_pos c7] at H
        have c7b0:=eq_true c7
        have c7b1:decide ((x3_1++t249).size+(rdOf ByteArray.empty l0 x8_1).size≤9223372036854775807)=true:=decide_eq_true c7
        try have c7b2:(9223372036854775807<(x3_1++t249).size+(rdOf ByteArray.empty l0 x8_1).size)=False:=eq_false (Nat.not_lt.2 c7)
        try (have c7b3:=of_eq_false c7b2;simp only [ByteArray.size_append] at c7b3)
        have H':=Aside0.mk H
        clear H
        have p248:0≤(x8_1:Int):=of_decide_eq_true (by first|(with_reducible assumption)|assumption)
        have q248:x8_1<(l0.length:Int):=of_decide_eq_true (by first|(with_reducible assumption)|assumption)
        obtain ⟨ad248,e248,hx248_0⟩:=Kd.at_string HR0.out x8_1 p248 q248
        cases e248
        replace hx248_0:=(HB.out.cell (World.block_lt_of_cell? w _ hx248_0)).trans hx248_0
        replace p248:=eq_true p248
        replace q248:=eq_true q248
        go_wp2_with (first|((with_reducible refine gate_callee (f:=38) rfl ?_);refine goesL_ (some 15) rfl rfl Tryd.func38 (by kernel_rfl) rfl #[.int .i64 ((rdOf ByteArray.empty l0 x8_1).size:Int)] rfl (by (try simp only [List.map_toArray,List.map_cons,List.map_nil]);first|done|rfl|(simp only [List.length_drop,List.length_take];rfl)) ?_;(with_reducible refine (transhipmentref01_Number.calls k1 ((rdOf ByteArray.empty l0 x8_1).size:Int) t249 _ A5.out).mono ?_);rintro e w8 ⟨rfl,hb⟩;refine ⟨_,rfl,?_⟩;have n0_:=Aside0.mk (below_step (by repeat (first|(with_reducible first|exact HB.out|apply below_alloc|apply pw_below_drewN|apply below_drew1)|exact HB.out)) hb);clear HB;have HB:=n0_;clear n0_;(try clear hb);(try clear hb2);(try clear hk);(try clear hi)))
        go_roundg k1
        case measure=>have:=HK1.out;omega
        case rel=>exact ⟨((x3_1++t249)++(rdOf ByteArray.empty l0 x8_1)),(wrap64 (x8_1+1)),(by first|rfl|(simp;done)|(simp [*];done)),(by first|rfl|(simp;done)|(simp [*];done)),H',⟨by have:=HK1.out;omega⟩,⟨by repeat (first|(with_reducible first|exact HB.out|apply below_alloc|apply pw_below_drewN|apply below_drew1)|exact HB.out)⟩⟩
       ·rw [if_neg c7] at H
        exact absurd H (by simp)
      ·rw [if_neg c6] at H
       exact absurd H (by simp)
     ·rw [if_neg c4] at H
      exact absurd H (by simp)
    ·rw [if_neg c3] at H
     exact absurd H (by simp)
   ·rw [if_neg c2] at H
    have c2b0:decide (x8_1<(l0.length:Int))=false:=decide_eq_false c2
    clear c2
    obtain rfl:=Option.some.inj H
    go_wp2
    (first|go_ret|go_ret2)
    exact ⟨by first|rfl|(simp [errW_none,errW_some]<;>rfl)|(simp [*,errW_none,errW_some]<;>rfl),by repeat (first|(with_reducible first|exact HB.out|apply below_alloc|apply pw_below_drewN|apply below_drew1)|exact HB.out)⟩
end Go.Proofs.YtceedgflpkaclaaDoor.P

/- What one function of the program computes, as a Lean function, and a proof that its call comes to just that. Conditions: none. Written by wip/ownprint.py. -/
namespace Go.Proofs.YtceedgflpkaclaaDoor.P
open Go.RowKit Go.Proofs.YtceedgflpkaclaaDoorW.PrintWords Go.Proofs.YtceedgflpkaclaaDoorW.PrintLast Go.Proofs.YtceedgflpkaclaaDoorW.PrintMore
attribute [local go_sem] max2_int min2_int max_two min_two max_three min_three max_four min_four   -- for this text's walks alone
set_option linter.unusedVariables false
set_option linter.unusedSimpArgs false

def transhipmentref01_On.l0:Nat→Int→Int→Option (Int)
 | 0,_,_=>none
 | k+1,x0,x5=>if x5<8 then (if (Int.tmod x0 2)=1 then (transhipmentref01_On.l0 k (Go.bits .xor .u32 ((Int.tdiv x0 2) % 4294967296) 3988292384) (wrap64 (x5+1))) else (transhipmentref01_On.l0 k ((Int.tdiv x0 2) % 4294967296) (wrap64 (x5+1)))) else (some x0)
def transhipmentref01_On.f (k:Nat) (a0:Int) (a1:Int):Option (Int):=transhipmentref01_On.l0 k (Go.bits .xor .u32 a0 ((a1) % 4294967296)) 0
set_option maxHeartbeats 8000000 in
set_option maxRecDepth 100000 in
theorem transhipmentref01_On.calls (k:Nat) (a0:Int) (a1:Int) (r:Int) (w:World) (h:transhipmentref01_On.f k a0 a1=some r) :
  Calls Tryd.prog 59 #[.int .u32 a0,.int .u8 a1] w fun e w'=>e=.returned (.int .u32 r)∧Drawn0 w w':=by
 have H:(transhipmentref01_On.l0 k (Go.bits .xor .u32 a0 ((a1) % 4294967296)) 0)=some r:=h
 clear h
 have H':=Aside0.mk H
 clear H
 go_enter Tryd.func59,Tryd.ntmps59
 go_wp2
 go_loopg [0,5] k (fun kq v0 v5 w'=>∃ (x0_1:Int) (x5_1:Int),v0=.int .u32 x0_1∧v5=.int .i64 x5_1∧Aside0 (transhipmentref01_On.l0 kq x0_1 x5_1=some r)∧Aside0 (kq≤k)∧Drawn0 w w')
 case atStart=>exact ⟨(Go.bits .xor .u32 a0 ((a1) % 4294967296)),(0),(by first|rfl|(simp;done)|(simp [*];done)),(by first|rfl|(simp;done)|(simp [*];done)),H',⟨Nat.le_refl _⟩,by repeat (first|exact Drawn0.refl _|apply Drawn0.step)⟩
 case round =>
  clear H'
  try clear p2
  obtain ⟨x0_1,x5_1,rfl,rfl,HA,HK1,⟨m1,rfl⟩⟩:=hrel
  cases gk with
  | zero=>exact absurd HA.out (by simp [transhipmentref01_On.l0])
  | succ k1 =>
   have H:=HA.out
   clear HA
   simp only [transhipmentref01_On.l0] at H
   by_cases c3:x5_1<8
   ·rw [if_pos c3] at H
    have c3b0:decide (x5_1<8)=true:=decide_eq_true c3
    clear c3
    by_cases c4:(Int.tmod x0_1 2)=1
    ·rw [if_pos c4] at H
     have c4b0:((Int.tmod x0_1 2) == 1)=true:=beq_iff_eq.mpr c4
     have c4b1:((Int.tmod x0_1 2) != 1)=false:=bne_eq_false_iff_eq.mpr c4
     clear c4
     have H':=Aside0.mk H
     clear H
     go_wp2
     go_roundg k1
     case measure=>have:=HK1.out;omega
     case rel=>exact ⟨(Go.bits .xor .u32 ((Int.tdiv x0_1 2) % 4294967296) 3988292384),(wrap64 (x5_1+1)),(by first|rfl|(simp;done)|(simp [*];done)),(by first|rfl|(simp;done)|(simp [*];done)),H',⟨by have:=HK1.out;omega⟩,by repeat (first|exact Drawn0.refl _|apply Drawn0.step)⟩
    ·rw [if_neg c4] at H
     have c4b0:((Int.tmod x0_1 2) == 1)=false:=beq_eq_false_iff_ne.mpr c4
     have c4b1:((Int.tmod x0_1 2) != 1)=true:=bne_iff_ne.mpr c4
     have H':=Aside0.mk H
     clear H
     go_wp2
     go_roundg k1
     case measure=>have:=HK1.out;omega
     case rel=>exact ⟨((Int.tdiv x0_1 2) % 4294967296),(wrap64 (x5_1+1)),(by first|rfl|(simp;done)|(simp [*];done)),(by first|rfl|(simp;done)|(simp [*];done)),H',⟨by have:=HK1.out;omega⟩,by repeat (first|exact Drawn0.refl _|apply Drawn0.step)⟩
   ·rw [if_neg c3] at H
    have c3b0:decide (x5_1<8)=false:=decide_eq_false c3
    clear c3
    obtain rfl:=Option.some.inj H
    go_wp2
    (first|go_ret|go_ret2)
    exact ⟨by first|rfl|(simp;done)|(simp [*];done),by repeat (first|exact Drawn0.refl _|apply Drawn0.step)⟩
end Go.Proofs.YtceedgflpkaclaaDoor.P

/- What one function of the program computes, as a Lean function, and a proof that its call comes to just that. Conditions: none. Written by wip/ownprint.py. -/
namespace Go.Proofs.YtceedgflpkaclaaDoor.P
open Go.RowKit Go.Proofs.YtceedgflpkaclaaDoorW.PrintWords Go.Proofs.YtceedgflpkaclaaDoorW.PrintLast Go.Proofs.YtceedgflpkaclaaDoorW.PrintMore
attribute [local go_sem] max2_int min2_int max_two min_two max_three min_three max_four min_four   -- for this text's walks alone
set_option linter.unusedVariables false
set_option linter.unusedSimpArgs false

def transhipmentref01_Crc.l0:Nat→ByteArray→Int→Int→Option (Int)
 | 0,_,_,_=>none
 | k+1,x0,x3,x4=>if x4<(x0.size:Int) then (if 0≤x4 then ((transhipmentref01_On.f k x3 (bt x0 x4)).bind fun t250=>(transhipmentref01_Crc.l0 k x0 t250 (wrap64 (x4+1)))) else (none)) else (some ((4294967295-x3) % 4294967296))
def transhipmentref01_Crc.f (k:Nat) (a0:ByteArray):Option (Int):=transhipmentref01_Crc.l0 k a0 4294967295 0
set_option maxHeartbeats 8000000 in
set_option maxRecDepth 100000 in
theorem transhipmentref01_Crc.calls (k:Nat) (a0:ByteArray) (r:Int) (w:World) (h:transhipmentref01_Crc.f k a0=some r) :
  Calls Tryd.prog 39 #[.string a0] w fun e w'=>e=.returned (.int .u32 r)∧Drawn0 w w':=by
 have H:(transhipmentref01_Crc.l0 k a0 4294967295 0)=some r:=h
 clear h
 have H':=Aside0.mk H
 clear H
 go_enter Tryd.func39,Tryd.ntmps39
 go_wp2
 go_loopg [3,4] k (fun kq v3 v4 w'=>∃ (x3_1:Int) (x4_1:Int),v3=.int .u32 x3_1∧v4=.int .i64 x4_1∧Aside0 (transhipmentref01_Crc.l0 kq a0 x3_1 x4_1=some r)∧Aside0 (kq≤k)∧Drawn0 w w')
 case atStart=>exact ⟨(4294967295),(0),(by first|rfl|(simp;done)|(simp [*];done)),(by first|rfl|(simp;done)|(simp [*];done)),H',⟨Nat.le_refl _⟩,by repeat (first|exact Drawn0.refl _|apply Drawn0.step)⟩
 case round =>
  clear H'
  obtain ⟨x3_1,x4_1,rfl,rfl,HA,HK1,⟨m1,rfl⟩⟩:=hrel
  cases gk with
  | zero=>exact absurd HA.out (by simp [transhipmentref01_Crc.l0])
  | succ k1 =>
   have H:=HA.out
   clear HA
   simp only [transhipmentref01_Crc.l0] at H
   by_cases c2:x4_1<(a0.size:Int)
   ·rw [if_pos c2] at H
    have c2b0:decide (x4_1<(a0.size:Int))=true:=decide_eq_true c2
    clear c2
    by_cases c3:0≤x4_1
    ·rw [if_pos c3] at H
     have c3b0:decide (0≤x4_1)=true:=decide_eq_true c3
     clear c3
     replace H:=Option.bind_eq_some_iff.mp H
     obtain ⟨t250,A50,H⟩:=H
     replace H:(transhipmentref01_Crc.l0 k1 a0 t250 (wrap64 (x4_1+1)))=some r:=H
     have A5:=Aside0.mk A50
     clear A50
     have H':=Aside0.mk H
     clear H
     have p4:0≤(x4_1:Int):=of_decide_eq_true (by first|(with_reducible assumption)|assumption)
     have q4:x4_1<(a0.size:Int):=of_decide_eq_true (by first|(with_reducible assumption)|assumption)
     have hx4:=bt_at a0 x4_1
     replace p4:=eq_true p4
     replace q4:=eq_true q4
     go_wp2_with (first|((with_reducible refine gate_callee (f:=59) rfl ?_);refine goesL_ (some 15) rfl rfl Tryd.func59 (by kernel_rfl) rfl #[.int .u32 x3_1,.int .u8 (bt a0 x4_1)] rfl (by (try simp only [List.map_toArray,List.map_cons,List.map_nil]);first|done|rfl|(simp only [List.length_drop,List.length_take];rfl)) ?_;(with_reducible refine (transhipmentref01_On.calls k1 x3_1 (bt a0 x4_1) t250 _ A5.out).mono ?_);rintro e w' ⟨rfl,⟨nd,rfl⟩⟩;refine ⟨_,rfl,?_⟩))
     go_roundg k1
     case measure=>have:=HK1.out;omega
     case rel=>exact ⟨(t250),(wrap64 (x4_1+1)),(by first|rfl|(simp;done)|(simp [*];done)),(by first|rfl|(simp;done)|(simp [*];done)),H',⟨by have:=HK1.out;omega⟩,by repeat (first|exact Drawn0.refl _|apply Drawn0.step)⟩
    ·rw [if_neg c3] at H
     exact absurd H (by simp)
   ·rw [if_neg c2] at H
    have c2b0:decide (x4_1<(a0.size:Int))=false:=decide_eq_false c2
    clear c2
    obtain rfl:=Option.some.inj H
    go_wp2
    (first|go_ret|go_ret2)
    exact ⟨by first|rfl|(simp;done)|(simp [*];done),by repeat (first|exact Drawn0.refl _|apply Drawn0.step)⟩
end Go.Proofs.YtceedgflpkaclaaDoor.P

/- What one function of the program computes, as a Lean function, and a proof that its call comes to just that. Conditions: none. Written by wip/ownprint.py. -/
namespace Go.Proofs.YtceedgflpkaclaaDoor.P
open Go.RowKit Go.Proofs.YtceedgflpkaclaaDoorW.PrintWords Go.Proofs.YtceedgflpkaclaaDoorW.PrintLast Go.Proofs.YtceedgflpkaclaaDoorW.PrintMore
attribute [local go_sem] max2_int min2_int max_two min_two max_three min_three max_four min_four   -- for this text's walks alone
set_option linter.unusedVariables false
set_option linter.unusedSimpArgs false

def transhipmentref02_Check.f (k:Nat) (a0:ByteArray):Option (ByteArray):=(transhipmentref01_Crc.f k a0).bind fun t251=>(some (strOfNums (([(Int.tmod t251 256) % 256,((Int.tdiv t251 256) % 4294967296) % 256,((Int.tdiv t251 65536) % 4294967296) % 256,((Int.tdiv t251 16777216) % 4294967296) % 256]:List Int))))
set_option maxHeartbeats 8000000 in
set_option maxRecDepth 100000 in
theorem transhipmentref02_Check.calls (k:Nat) (a0:ByteArray) (r:ByteArray) (w:World) (h:transhipmentref02_Check.f k a0=some r) :
  Calls Tryd.prog 19 #[.string a0] w fun e w'=>e=.returned (.string r)∧Below w.heap.size w w':=by
 have HB:=Aside0.mk (Below.refl w.heap.size w)
 have H:((transhipmentref01_Crc.f k a0).bind fun t251=>(some (strOfNums (([(Int.tmod t251 256) % 256,((Int.tdiv t251 256) % 4294967296) % 256,((Int.tdiv t251 65536) % 4294967296) % 256,((Int.tdiv t251 16777216) % 4294967296) % 256]:List Int)))))=some r:=h
 clear h
 replace H:=Option.bind_eq_some_iff.mp H
 obtain ⟨t251,A20,H⟩:=H
 replace H:(some (strOfNums (([(Int.tmod t251 256) % 256,((Int.tdiv t251 256) % 4294967296) % 256,((Int.tdiv t251 65536) % 4294967296) % 256,((Int.tdiv t251 16777216) % 4294967296) % 256]:List Int))))=some r:=H
 have A2:=Aside0.mk A20
 clear A20
 obtain ⟨y252,hy252⟩:∃ y_:List Int,y_=(([(Int.tmod t251 256) % 256,((Int.tdiv t251 256) % 4294967296) % 256,((Int.tdiv t251 65536) % 4294967296) % 256,((Int.tdiv t251 16777216) % 4294967296) % 256]:List Int)):=⟨_,rfl⟩
 replace H:(some (strOfNums y252))=some r:=by first|(rw [hy252];with_reducible exact H)|(have H2_:=(Option.bind_some _ _).symm.trans H;rw [hy252];with_reducible exact H2_)|(have H2_:=(Option.bind_some _ _).symm.trans H;with_reducible exact H2_)|with_reducible exact H|(rw [hy252];exact H)|exact H
 have Ny252:=Aside0.mk hy252
 clear hy252
 obtain rfl:=Option.some.inj H
 go_enter Tryd.func19,Tryd.ntmps19
 go_wp2_with (first|((with_reducible refine gate_callee (f:=39) rfl ?_);refine goesL_ (some 5) rfl rfl Tryd.func39 (by kernel_rfl) rfl #[.string a0] rfl (by (try simp only [List.map_toArray,List.map_cons,List.map_nil]);first|done|rfl|(simp only [List.length_drop,List.length_take];rfl)) ?_;(with_reducible refine (transhipmentref01_Crc.calls k a0 t251 _ A2.out).mono ?_);rintro e w' ⟨rfl,⟨nd,rfl⟩⟩;refine ⟨_,rfl,?_⟩)|((with_reducible refine gate_dst (N:=20) rfl ?_);refine Kd.R_lit (Kd.int .u8) _ 5 ?hg (N:=20) ?hd (xs:=([(Int.tmod t251 256) % 256,((Int.tdiv t251 256) % 4294967296) % 256,((Int.tdiv t251 65536) % 4294967296) % 256,((Int.tdiv t251 16777216) % 4294967296) % 256]:List Int)) (inner:=[.int .u8 ((Int.tmod t251 256) % 256),.int .u8 (((Int.tdiv t251 256) % 4294967296) % 256),.int .u8 (((Int.tdiv t251 65536) % 4294967296) % 256),.int .u8 (((Int.tdiv t251 16777216) % 4294967296) % 256)]) (ok:=fun _=>True) (okp:=fun _=>True) ?hr ?hp (fun _ hk=>hk) trivial (Below.refl _ _) (Nat.le_refl _) (by simp) ?_;(case hd=>rfl);(case hg=>rfl);(case hr=>first|(go_simp;done)|(go_simp;rfl)|(go_simp;simp [IntKind.wrap_u32]));(case hp=>exact (Reps.one (show Kd.M (Kd.int .u8) _ _ _ ((Int.tmod t251 256) % 256) [.int .u8 ((Int.tmod t251 256) % 256)] from rfl) (Reps.one (show Kd.M (Kd.int .u8) _ _ _ (((Int.tdiv t251 256) % 4294967296) % 256) [.int .u8 (((Int.tdiv t251 256) % 4294967296) % 256)] from rfl) (Reps.one (show Kd.M (Kd.int .u8) _ _ _ (((Int.tdiv t251 65536) % 4294967296) % 256) [.int .u8 (((Int.tdiv t251 65536) % 4294967296) % 256)] from rfl) (Reps.one (show Kd.M (Kd.int .u8) _ _ _ (((Int.tdiv t251 16777216) % 4294967296) % 256) [.int .u8 (((Int.tdiv t251 16777216) % 4294967296) % 256)] from rfl) (Reps.none _ _))))));intro v253 w3 ho4 hb hg_ hnew_;clear hg_ hnew_;(first|rw [← Ny252.out] at ho4|(simp only [Int.reduceToNat] at ho4;rw [← Ny252.out] at ho4));have n0_:=Aside0.mk (Kd.R_lower ho4 (below_size (by repeat (first|(with_reducible first|exact HB.out|apply below_alloc|apply pw_below_drewN|apply below_drew1)|exact HB.out))));have n1_:=Aside0.mk (below_step (by repeat (first|(with_reducible first|exact HB.out|apply below_alloc|apply pw_below_drewN|apply below_drew1)|exact HB.out)) hb);clear HB;have HO254:=n0_;have HB:=n1_;clear n0_ n1_;clear hb ho4;have hcv5:=own_string (P:=Tryd.prog) Tryd.underlying31 Tryd.underlying5 Tryd.underlying9 (Kd.own_of_R HO254.out)))
 (first|go_ret|go_ret2)
 exact ⟨by first|rfl|(simp [errW_none,errW_some]<;>rfl)|(simp [*,errW_none,errW_some]<;>rfl),by repeat (first|(with_reducible first|exact HB.out|apply below_alloc|apply pw_below_drewN|apply below_drew1)|exact HB.out)⟩
end Go.Proofs.YtceedgflpkaclaaDoor.P

/- What one function of the program computes, as a Lean function, and a proof that its call comes to just that. Conditions: none. Written by wip/ownprint.py. -/
namespace Go.Proofs.YtceedgflpkaclaaDoor.P
open Go.RowKit Go.Proofs.YtceedgflpkaclaaDoorW.PrintWords Go.Proofs.YtceedgflpkaclaaDoorW.PrintLast Go.Proofs.YtceedgflpkaclaaDoorW.PrintMore
attribute [local go_sem] max2_int min2_int max_two min_two max_three min_three max_four min_four   -- for this text's walks alone
set_option linter.unusedVariables false
set_option linter.unusedSimpArgs false

def stringslite_HasPrefix.f (a0:ByteArray) (a1:ByteArray):Option (Bool):=if (a0.size:Int)≥(a1.size:Int) then (if 0≤(a1.size:Int) then (if (a1.size:Int)≤(a0.size:Int) then (some ((a0.extract 0 ((a1.size:Int):Int).toNat).toList == a1.toList)) else (none)) else (none)) else (some false)
set_option maxHeartbeats 8000000 in
set_option maxRecDepth 100000 in
theorem stringslite_HasPrefix.calls (a0:ByteArray) (a1:ByteArray) (r:Bool) (w:World) (h:stringslite_HasPrefix.f a0 a1=some r) :
  Calls Tryd.prog 46 #[.string a0,.string a1] w fun e w'=>e=.returned (.bool r)∧Drawn0 w w':=by
 have H:(if (a0.size:Int)≥(a1.size:Int) then (if 0≤(a1.size:Int) then (if (a1.size:Int)≤(a0.size:Int) then (some ((a0.extract 0 ((a1.size:Int):Int).toNat).toList == a1.toList)) else (none)) else (none)) else (some false))=some r:=h
 clear h
 by_cases c3:(a0.size:Int)≥(a1.size:Int)
 ·rw [if_pos c3] at H
  have c3b0:decide ((a1.size:Int)≤(a0.size:Int))=true:=decide_eq_true c3
  have c3b1:decide (a1.size≤a0.size)=true:=decide_eq_true (Int.ofNat_le.mp c3)
  clear c3
  by_cases c4:0≤(a1.size:Int)
  ·rw [if_pos c4] at H
   have c4b0:=eq_true c4
   have c4b1:decide (0≤(a1.size:Int))=true:=decide_eq_true c4
   clear c4
   by_cases c5:(a1.size:Int)≤(a0.size:Int)
   ·rw [if_pos c5] at H
    have c5b0:=eq_true c5
    have c5b1:decide ((a1.size:Int)≤(a0.size:Int))=true:=decide_eq_true c5
    clear c5
    obtain rfl:=Option.some.inj H
    go_enter Tryd.func46,Tryd.ntmps46
    go_wp2
    (first|go_ret|go_ret2)
    exact ⟨by first|rfl|(simp;done)|(simp [*];done),by repeat (first|exact Drawn0.refl _|apply Drawn0.step)⟩
   ·rw [if_neg c5] at H
    exact absurd H (by simp)
  ·rw [if_neg c4] at H
   exact absurd H (by simp)
 ·rw [if_neg c3] at H
  have c3b0:decide ((a1.size:Int)≤(a0.size:Int))=false:=decide_eq_false c3
  have c3b1:decide (a1.size≤a0.size)=false:=decide_eq_false (fun h=>c3 (Int.ofNat_le.mpr h))
  clear c3
  obtain rfl:=Option.some.inj H
  go_enter Tryd.func46,Tryd.ntmps46
  go_wp2
  (first|go_ret|go_ret2)
  exact ⟨by first|rfl|(simp;done)|(simp [*];done),by repeat (first|exact Drawn0.refl _|apply Drawn0.step)⟩
end Go.Proofs.YtceedgflpkaclaaDoor.P

/- What one function of the program computes, as a Lean function, and a proof that its call comes to just that. Conditions: none. Written by wip/ownprint.py. -/
namespace Go.Proofs.YtceedgflpkaclaaDoor.P
open Go.RowKit Go.Proofs.YtceedgflpkaclaaDoorW.PrintWords Go.Proofs.YtceedgflpkaclaaDoorW.PrintLast Go.Proofs.YtceedgflpkaclaaDoorW.PrintMore
attribute [local go_sem] max2_int min2_int max_two min_two max_three min_three max_four min_four   -- for this text's walks alone
set_option linter.unusedVariables false
set_option linter.unusedSimpArgs false

def strings_HasPrefix.f (a0:ByteArray) (a1:ByteArray):Option (Bool):=(stringslite_HasPrefix.f a0 a1).bind fun t101=>(some t101)
set_option maxHeartbeats 8000000 in
set_option maxRecDepth 100000 in
theorem strings_HasPrefix.calls (a0:ByteArray) (a1:ByteArray) (r:Bool) (w:World) (h:strings_HasPrefix.f a0 a1=some r) :
  Calls Tryd.prog 28 #[.string a0,.string a1] w fun e w'=>e=.returned (.bool r)∧Drawn0 w w':=by
 have H:((stringslite_HasPrefix.f a0 a1).bind fun t101=>(some t101))=some r:=h
 clear h
 replace H:=Option.bind_eq_some_iff.mp H
 obtain ⟨t101,A30,H⟩:=H
 replace H:(some t101)=some r:=H
 have A3:=Aside0.mk A30
 clear A30
 obtain rfl:=Option.some.inj H
 go_enter Tryd.func28,Tryd.ntmps28
 go_wp2_with (first|((with_reducible refine gate_callee (f:=46) rfl ?_);refine goesL_ (some 7) rfl rfl Tryd.func46 (by kernel_rfl) rfl #[.string a0,.string a1] rfl (by (try simp only [List.map_toArray,List.map_cons,List.map_nil]);first|done|rfl|(simp only [List.length_drop,List.length_take];rfl)) ?_;(with_reducible refine (stringslite_HasPrefix.calls a0 a1 t101 _ A3.out).mono ?_);rintro e w' ⟨rfl,⟨nd,rfl⟩⟩;refine ⟨_,rfl,?_⟩))
 (first|go_ret|go_ret2)
 exact ⟨by first|rfl|(simp;done)|(simp [*];done),by repeat (first|exact Drawn0.refl _|apply Drawn0.step)⟩
end Go.Proofs.YtceedgflpkaclaaDoor.P

/- What one function of the program computes, as a Lean function, and a proof that its call comes to just that. Conditions: none. Written by wip/ownprint.py. -/
namespace Go.Proofs.YtceedgflpkaclaaDoor.P
open Go.RowKit Go.Proofs.YtceedgflpkaclaaDoorW.PrintWords Go.Proofs.YtceedgflpkaclaaDoorW.PrintLast Go.Proofs.YtceedgflpkaclaaDoorW.PrintMore
attribute [local go_sem] max2_int min2_int max_two min_two max_three min_three max_four min_four   -- for this text's walks alone
set_option linter.unusedVariables false
set_option linter.unusedSimpArgs false

def frame_Read.l0:Nat→ByteArray→Int→Int→Int→Option (Int×Int×Int)
 | 0,_,_,_,_=>none
 | k+1,x0,x5,x10,x11=>if x11<x10 then (if 0≤x11 then (if x11<(x0.size:Int) then (if 0≤(wrap64 (7*x11)) then (if (wrap64 (bt x0 x11))≥128 then (frame_Read.l0 k x0 (Go.bits .or .i64 x5 (shl .i64 (Int.tmod (wrap64 (bt x0 x11)) 128) (wrap64 (7*x11)))) x10 (wrap64 (x11+1))) else (if (wrap64 (bt x0 x11))=0 then (if x11>0 then (some (0,0,6)) else (some (Go.bits .or .i64 x5 (shl .i64 (Int.tmod (wrap64 (bt x0 x11)) 128) (wrap64 (7*x11))),wrap64 (x11+1),0))) else (some (Go.bits .or .i64 x5 (shl .i64 (Int.tmod (wrap64 (bt x0 x11)) 128) (wrap64 (7*x11))),wrap64 (x11+1),0)))) else (none)) else (none)) else (none)) else (if (x0.size:Int)≥9 then (some (0,0,2)) else (some (0,0,3)))
def frame_Read.f (k:Nat) (a0:ByteArray):Option (Int×Int×Int):=frame_Read.l0 k a0 0 (mn (a0.size:Int) 9) 0
set_option maxHeartbeats 8000000 in
set_option maxRecDepth 100000 in
theorem frame_Read.calls (k:Nat) (a0:ByteArray) (r1:Int) (r2:Int) (r3:Int) (w:World) (h:frame_Read.f k a0=some (r1,r2,r3)) :
  Calls Tryd.prog 60 #[.string a0] w fun e w'=>e=.returned (.tuple #[.int .i64 r1,.int .i64 r2,.int .i64 r3])∧Below w.heap.size w w':=by
 have HB:=Aside0.mk (Below.refl w.heap.size w)
 have H:(frame_Read.l0 k a0 0 (mn (a0.size:Int) 9) 0)=some (r1,r2,r3):=h
 clear h
 obtain ⟨ji2,hji2⟩:∃ j_:Int,(mn (a0.size:Int) 9)=j_:=⟨_,rfl⟩
 replace H:(frame_Read.l0 k a0 0 ji2 0)=some (r1,r2,r3):=by first|(rw [hji2] at H;exact H)|(simp only [hji2] at H ⊢;exact H)
 (try (have hji2h:ji2≤9:=by (rw [← hji2];unfold mn;(repeat' split)<;>omega)))
 (try (have hji2g:ji2≤64:=by omega))
 (try (have hji2l:0≤ji2:=by (rw [← hji2];unfold mn;(repeat' split)<;>omega)))
 (try (have hji2m:0≤ji2:=by omega))
 have hji2_:(if 9<(a0.size:Int) then 9 else (a0.size:Int))=ji2:=hji2
 have H':=Aside0.mk H
 clear H
 go_enter Tryd.func60,Tryd.ntmps60
 go_wp2
 go_loopg [5,11] k (fun kq v5 v11 w'=>∃ (x5_1:Int) (x11_1:Int),v5=.int .i64 x5_1∧v11=.int .i64 x11_1∧Aside0 (frame_Read.l0 kq a0 x5_1 ji2 x11_1=some (r1,r2,r3))∧Aside0 (kq≤k)∧Aside0 (Below w.heap.size w w'))
 case atStart=>exact ⟨(0),(0),(by first|rfl|(simp;done)|(simp [*];done)),(by first|rfl|(simp;done)|(simp [*];done)),H',⟨Nat.le_refl _⟩,⟨by repeat (first|(with_reducible first|exact HB.out|apply below_alloc|apply pw_below_drewN|apply below_drew1)|exact HB.out)⟩⟩
 case round =>
  clear H'
  try clear p2
  obtain ⟨x5_1,x11_1,rfl,rfl,HA,HK1,HB⟩:=hrel
  cases gk with
  | zero=>exact absurd HA.out (by simp [frame_Read.l0])
  | succ k1 =>
   have H:=HA.out
   clear HA
   simp only [frame_Read.l0] at H
   by_cases c3:x11_1<ji2
   ·rw [if_pos c3] at H
    have c3b0:decide (x11_1<ji2)=true:=decide_eq_true c3
    clear c3
    by_cases c4:0≤x11_1
    ·rw [if_pos c4] at H
     have c4b0:decide (0≤x11_1)=true:=decide_eq_true c4
     clear c4
     by_cases c5:x11_1<(a0.size:Int)
     ·rw [if_pos c5] at H
      have c5b0:decide (x11_1<(a0.size:Int))=true:=decide_eq_true c5
      clear c5
      obtain ⟨ji7,hji7⟩:∃ j_:Int,(wrap64 (7*x11_1))=j_:=⟨_,rfl⟩
      replace H:(if 0≤(ji7) then (if (wrap64 (bt a0 x11_1))≥128 then (frame_Read.l0 k1 a0 (Go.bits .or .i64 x5_1 (shl .i64 (Int.tmod (wrap64 (bt a0 x11_1)) 128) (ji7))) ji2 (wrap64 (x11_1+1))) else (if (wrap64 (bt a0 x11_1))=0 then (if x11_1>0 then (some (0,0,6)) else (some (Go.bits .or .i64 x5_1 (shl .i64 (Int.tmod (wrap64 (bt a0 x11_1)) 128) (ji7)),wrap64 (x11_1+1),0))) else (some (Go.bits .or .i64 x5_1 (shl .i64 (Int.tmod (wrap64 (bt a0 x11_1)) 128) (ji7)),wrap64 (x11_1+1),0)))) else (none))=some (r1,r2,r3):=by first|(rw [hji7] at H;exact H)|(simp only [hji7] at H ⊢;exact H)
      have hji7w:(IntKind.i64.wrap (7*x11_1))=ji7:=(i64_w _).trans hji7
      by_cases c8:0≤(ji7)
      ·rw [if_pos c8] at H
       have c8b0:=eq_true c8
       have c8b1:decide (0≤(ji7))=true:=decide_eq_true c8
       clear c8
       obtain ⟨ji9,hji9⟩:∃ j_:Int,(shl .i64 (Int.tmod (wrap64 (bt a0 x11_1)) 128) (ji7))=j_:=⟨_,rfl⟩
       replace H:(if (wrap64 (bt a0 x11_1))≥128 then (frame_Read.l0 k1 a0 (Go.bits .or .i64 x5_1 (ji9)) ji2 (wrap64 (x11_1+1))) else (if (wrap64 (bt a0 x11_1))=0 then (if x11_1>0 then (some (0,0,6)) else (some (Go.bits .or .i64 x5_1 (ji9),wrap64 (x11_1+1),0))) else (some (Go.bits .or .i64 x5_1 (ji9),wrap64 (x11_1+1),0))))=some (r1,r2,r3):=by first|(rw [hji9] at H;exact H)|(simp only [hji9] at H ⊢;exact H)
       have hji9_:(IntKind.i64.wrap ((Int.tmod (wrap64 (bt a0 x11_1)) 128)*2 ^ min (ji7).toNat 64))=ji9:=hji9
       have hji9z:(ji7)≤64→(IntKind.i64.wrap ((Int.tmod (wrap64 (bt a0 x11_1)) 128)*2 ^ (ji7).toNat))=ji9:=shl_small hji9
       have hji9y:(wrap64 ((Int.tmod (wrap64 (bt a0 x11_1)) 128)*2 ^ min (ji7).toNat 64))=ji9:=(i64_w _).symm.trans hji9_
       have hji9x:(ji7)≤64→(wrap64 ((Int.tmod (wrap64 (bt a0 x11_1)) 128)*2 ^ (ji7).toNat))=ji9:=fun h_=>(i64_w _).symm.trans (hji9z h_)
       by_cases c10:(wrap64 (bt a0 x11_1))≥128
       ·rw [if_pos c10] at H
        have c10b0:decide (128≤(wrap64 (bt a0 x11_1)))=true:=decide_eq_true c10
        clear c10
        have H':=Aside0.mk H
        clear H
        have p6:0≤(x11_1:Int):=of_decide_eq_true (by first|(with_reducible assumption)|assumption)
        have q6:x11_1<(a0.size:Int):=of_decide_eq_true (by first|(with_reducible assumption)|assumption)
        have hx6:=bt_at a0 x11_1
        replace p6:=eq_true p6
        replace q6:=eq_true q6
        go_wp2
        go_roundg k1
        case measure=>have:=HK1.out;omega
        case rel=>exact ⟨(Go.bits .or .i64 x5_1 (ji9)),(wrap64 (x11_1+1)),(by first|rfl|(simp;done)|(simp only [← hji9]<;>(first|rfl|simp))|(simp [*];done)),(by first|rfl|(simp;done)|(simp [*];done)),H',⟨by have:=HK1.out;omega⟩,⟨by repeat (first|(with_reducible first|exact HB.out|apply below_alloc|apply pw_below_drewN|apply below_drew1)|exact HB.out)⟩⟩
       ·rw [if_neg c10] at H
        have c10b0:decide (128≤(wrap64 (bt a0 x11_1)))=false:=decide_eq_false c10
        clear c10
        by_cases c11:(wrap64 (bt a0 x11_1))=0
        ·rw [if_pos c11] at H
         have c11b0:((wrap64 (bt a0 x11_1)) == 0)=true:=beq_iff_eq.mpr c11
         have c11b1:((wrap64 (bt a0 x11_1)) != 0)=false:=bne_eq_false_iff_eq.mpr c11
         clear c11
         by_cases c12:x11_1>0
         ·rw [if_pos c12] at H
          have c12b0:decide (0<x11_1)=true:=decide_eq_true c12
          clear c12
          simp only [Option.some.injEq,Prod.mk.injEq] at H
          obtain ⟨rfl,rfl,rfl⟩:=H
          have p6:0≤(x11_1:Int):=of_decide_eq_true (by first|(with_reducible assumption)|assumption)
          have q6:x11_1<(a0.size:Int):=of_decide_eq_true (by first|(with_reducible assumption)|assumption)
          have hx6:=bt_at a0 x11_1
          replace p6:=eq_true p6
          replace q6:=eq_true q6
          go_wp2
          go_ret3
          exact ⟨by first|rfl|(simp [errW_none,errW_some]<;>rfl)|(simp only [← hji2,← hji7,← hji9];first|rfl|(simp [errW_none,errW_some]<;>rfl))|(simp [*,errW_none,errW_some]<;>rfl),by repeat (first|(with_reducible first|exact HB.out|apply below_alloc|apply pw_below_drewN|apply below_drew1)|exact HB.out)⟩
         ·rw [if_neg c12] at H
          have c12b0:decide (0<x11_1)=false:=decide_eq_false c12
          clear c12
          simp only [Option.some.injEq,Prod.mk.injEq] at H
          obtain ⟨rfl,rfl,rfl⟩:=H
          have p6:0≤(x11_1:Int):=of_decide_eq_true (by first|(with_reducible assumption)|assumption)
          have q6:x11_1<(a0.size:Int):=of_decide_eq_true (by first|(with_reducible assumption)|assumption)
          have hx6:=bt_at a0 x11_1
          replace p6:=eq_true p6
          replace q6:=eq_true q6
          go_wp2
          go_ret3
          exact ⟨by first|rfl|(simp [errW_none,errW_some]<;>rfl)|(simp only [← hji2,← hji7,← hji9];first|rfl|(simp [errW_none,errW_some]<;>rfl))|(simp [*,errW_none,errW_some]<;>rfl),by repeat (first|(with_reducible first|exact HB.out|apply below_alloc|apply pw_below_drewN|apply below_drew1)|exact HB.out)⟩
        ·rw [if_neg c11] at H
         have c11b0:((wrap64 (bt a0 x11_1)) == 0)=false:=beq_eq_false_iff_ne.mpr c11
         have c11b1:((wrap64 (bt a0 x11_1)) != 0)=true:=bne_iff_ne.mpr c11
         simp only [Option.some.injEq,Prod.mk.injEq] at H
         obtain ⟨rfl,rfl,rfl⟩:=H
         have p6:0≤(x11_1:Int):=of_decide_eq_true (by first|(with_reducible assumption)|assumption)
         have q6:x11_1<(a0.size:Int):=of_decide_eq_true (by first|(with_reducible assumption)|assumption)
         have hx6:=bt_at a0 x11_1
         replace p6:=eq_true p6
         replace q6:=eq_true q6
         go_wp2
         go_ret3
         exact ⟨by first|rfl|(simp [errW_none,errW_some]<;>rfl)|(simp only [← hji2,← hji7,← hji9];first|rfl|(simp [errW_none,errW_some]<;>rfl))|(simp [*,errW_none,errW_some]<;>rfl),by repeat (first|(with_reducible first|exact HB.out|apply below_alloc|apply pw_below_drewN|apply below_drew1)|exact HB.out)⟩
      ·rw [if_neg c8] at H
       exact absurd H (by simp)
     ·rw [if_neg c5] at H
      exact absurd H (by simp)
    ·rw [if_neg c4] at H
     exact absurd H (by simp)
   ·rw [if_neg c3] at H
    have c3b0:decide (x11_1<ji2)=false:=decide_eq_false c3
    clear c3
    by_cases c13:(a0.size:Int)≥9
    ·rw [if_pos c13] at H
     have c13b0:decide (9≤(a0.size:Int))=true:=decide_eq_true c13
     have c13b1:decide (9≤a0.size)=true:=decide_eq_true (by omega)
     clear c13
     simp only [Option.some.injEq,Prod.mk.injEq] at H
     obtain ⟨rfl,rfl,rfl⟩:=H
     go_wp2
     go_ret3
     exact ⟨by first|rfl|(simp [errW_none,errW_some]<;>rfl)|(simp only [← hji2];first|rfl|(simp [errW_none,errW_some]<;>rfl))|(simp [*,errW_none,errW_some]<;>rfl),by repeat (first|(with_reducible first|exact HB.out|apply below_alloc|apply pw_below_drewN|apply below_drew1)|exact HB.out)⟩
    ·rw [if_neg c13] at H
     have c13b0:decide (9≤(a0.size:Int))=false:=decide_eq_false c13
     have c13b1:decide (9≤a0.size)=false:=decide_eq_false (by omega)
     clear c13
     simp only [Option.some.injEq,Prod.mk.injEq] at H
     obtain ⟨rfl,rfl,rfl⟩:=H
     go_wp2
     go_ret3
     exact ⟨by first|rfl|(simp [errW_none,errW_some]<;>rfl)|(simp only [← hji2];first|rfl|(simp [errW_none,errW_some]<;>rfl))|(simp [*,errW_none,errW_some]<;>rfl),by repeat (first|(with_reducible first|exact HB.out|apply below_alloc|apply pw_below_drewN|apply below_drew1)|exact HB.out)⟩
end Go.Proofs.YtceedgflpkaclaaDoor.P

/- What one function of the program computes, as a Lean function, and a proof that its call comes to just that. Conditions: none. Written by wip/ownprint.py. -/
namespace Go.Proofs.YtceedgflpkaclaaDoor.P
open Go.RowKit Go.Proofs.YtceedgflpkaclaaDoorW.PrintWords Go.Proofs.YtceedgflpkaclaaDoorW.PrintLast Go.Proofs.YtceedgflpkaclaaDoorW.PrintMore
attribute [local go_sem] max2_int min2_int max_two min_two max_three min_three max_four min_four   -- for this text's walks alone
set_option linter.unusedVariables false
set_option linter.unusedSimpArgs false

mutual
def frame_Loose.l0:Nat→ByteArray→List ByteArray→Option (List ByteArray×Int)
 | 0,_,_=>none
 | k+1,x0,x4=>if x0.toList=([]:List UInt8) then (some (x4,0)) else ((frame_Read.f k x0).bind fun bt255=>(if bt255.2.2=0 then (if bt255.1>8192 then (frame_Loose.j1 k x0 x4 bt255.1 bt255.2.1 true) else (frame_Loose.j1 k x0 x4 bt255.1 bt255.2.1 ((x4.length:Int) == 512))) else (some (([]:List ByteArray),bt255.2.2))))
def frame_Loose.j1:Nat→ByteArray→List ByteArray→Int→Int→Bool→Option (List ByteArray×Int)
 | 0,_,_,_,_,_=>none
 | k+1,x0,x4,x5,x6,x20=>if x20=true then (some (([]:List ByteArray),2)) else (if x5>(wrap64 ((x0.size:Int)-x6)) then (some (([]:List ByteArray),3)) else (if 0≤x6 then (if x6≤(wrap64 (x6+x5)) then (if (wrap64 (x6+x5))≤(x0.size:Int) then (if x4.length<8796093022208 then (if 0≤(wrap64 (x6+x5)) then (frame_Loose.l0 k (x0.extract ((wrap64 (x6+x5)):Int).toNat x0.size) (x4++[x0.extract (x6:Int).toNat ((wrap64 (x6+x5)):Int).toNat])) else (none)) else (none)) else (none)) else (none)) else (none)))
end
def frame_Loose.f (k:Nat) (a0:ByteArray):Option (List ByteArray×Int):=frame_Loose.l0 k a0 ([]:List ByteArray)
def frame_Loose.T10:Bool×List (List Nat×List Nat):=(true,[([],[]),([],[]),([],[]),([],[]),([],[]),([3,4],[3,4]),([1,2,5],[1,2,5]),([6],[6]),([0,7],[0,7]),([],[]),([],[]),([],[]),([10,11],[10,11]),([9,12],[9,12]),([8,8,0,1,2,3,4,5,6,7,8],[0,8]),([13,14,0,1,2,3,4,5,6,7,8,9,10,11,12,13,14],[1,9,13])])
def frame_Loose.B10:List Nat:=[0,0,0,0,0,24,62,126,255,0,0,0,3072,7680,511,32767]
theorem frame_Loose.tab10:rtab .any (opsOf Tryd.f40 10)=frame_Loose.T10:=by kernel_rfl
theorem frame_Loose.bits10:waitsOk frame_Loose.T10.2 frame_Loose.B10=true:=by kernel_rfl
set_option maxHeartbeats 8000000 in
set_option maxRecDepth 100000 in
theorem frame_Loose.calls (k:Nat) (a0:ByteArray) (r1:List ByteArray) (r2:Int) (w:World) (h:frame_Loose.f k a0=some (r1,r2)) :
  Calls Tryd.prog 40 #[.string a0] w fun e w'=>∃ v0_:Value,e=.returned (.tuple #[v0_,.int .i64 r2])∧Kd.R Kd.string 9 w' w.heap.size (fun _=>True) v0_ r1∧Below w.heap.size w w':=by
 have HB:=Aside0.mk (Below.refl w.heap.size w)
 have H:(frame_Loose.l0 k a0 ([]:List ByteArray))=some (r1,r2):=h
 clear h
 have H':=Aside0.mk H
 clear H
 go_enter Tryd.func40,Tryd.ntmps40
 go_wp2
 go_loopg [0,4] k (fun kq v0 v4 w'=>∃ (x0_1:ByteArray) (x4_1:List ByteArray),v0=.string x0_1∧Aside0 (frame_Loose.l0 kq x0_1 x4_1=some (r1,r2))∧Aside0 (kq≤k)∧Aside0 (Kd.R Kd.string 9 w' w.heap.size (fun _=>True) v4 x4_1)∧Aside0 (Below w.heap.size w w'))
 case atStart=>exact ⟨(a0),(([]:List ByteArray)),(by first|rfl|(simp;done)|(simp [*];done)),H',⟨Nat.le_refl _⟩,⟨by first|exact Kd.R_nil _ _ _ _ _|exact Kd.N_nil _ _ _ _ _|exact Kd.V_nil _ _ _ _ _|exact Kd.Q_nil _ _ _ _ _|exact Kd.S_nil _ _ _ _ _⟩,⟨by repeat (first|(with_reducible first|exact HB.out|apply below_alloc|apply pw_below_drewN|apply below_drew1)|exact HB.out)⟩⟩
 case round =>
  clear H'
  obtain ⟨x0_1,x4_1,rfl,HA,HK1,HO_4,HB⟩:=hrel
  cases gk with
  | zero=>exact absurd HA.out (by simp [frame_Loose.l0])
  | succ k1 =>
   have H:=HA.out
   clear HA
   simp only [frame_Loose.l0] at H
   by_cases c2:x0_1.toList=([]:List UInt8)
   ·rw [if_pos c2] at H
    have c2b0:(x0_1.toList == ([]:List UInt8))=true:=beq_iff_eq.mpr c2
    have c2b1:(x0_1.toList != ([]:List UInt8))=false:=bne_eq_false_iff_eq.mpr c2
    clear c2
    simp only [Option.some.injEq,Prod.mk.injEq] at H
    obtain ⟨rfl,rfl⟩:=H
    go_wp2
    go_ret2
    exact ⟨_,by first|rfl|(simp [errW_none,errW_some]<;>rfl)|(simp [*,errW_none,errW_some]<;>rfl),by (with_reducible repeat (first|apply Kd.R_alloc|apply Kd.R_drewN|apply Kd.R_drew));exact HO_4.out,by repeat (first|(with_reducible first|exact HB.out|apply below_alloc|apply pw_below_drewN|apply below_drew1)|exact HB.out)⟩
   ·rw [if_neg c2] at H
    have c2b0:(x0_1.toList == ([]:List UInt8))=false:=beq_eq_false_iff_ne.mpr c2
    have c2b1:(x0_1.toList != ([]:List UInt8))=true:=bne_iff_ne.mpr c2
    replace H:=Option.bind_eq_some_iff.mp H
    obtain ⟨⟨t255,t256,t257⟩,A30,H⟩:=H
    replace H:(if t257=0 then (if t255>8192 then (frame_Loose.j1 k1 x0_1 x4_1 t255 t256 true) else (frame_Loose.j1 k1 x0_1 x4_1 t255 t256 ((x4_1.length:Int) == 512))) else (some (([]:List ByteArray),t257)))=some (r1,r2):=H
    have A3:=Aside0.mk A30
    clear A30
    by_cases c4:t257=0
    ·rw [if_pos c4] at H
     have c4b0:(t257 == 0)=true:=beq_iff_eq.mpr c4
     have c4b1:(t257 != 0)=false:=bne_eq_false_iff_eq.mpr c4
     clear c4
     have HC5:=Aside0.mk H
     clear H
     go_upto_region 6 with (first|((with_reducible refine gate_callee (f:=60) rfl ?_);refine goesL_ (some 12) rfl rfl Tryd.func60 (by kernel_rfl) rfl #[.string x0_1] rfl (by (try simp only [List.map_toArray,List.map_cons,List.map_nil]);first|done|rfl|(simp only [List.length_drop,List.length_take];rfl)) ?_;(with_reducible refine (frame_Read.calls k1 x0_1 t255 t256 t257 _ A3.out).mono ?_);rintro e w6 ⟨rfl,hb⟩;refine ⟨_,rfl,?_⟩;have n0_:=Aside0.mk (Kd.R_below (by (with_reducible repeat (first|apply Kd.R_alloc|apply Kd.R_drewN|apply Kd.R_drew));exact HO_4.out) hb);have n1_:=Aside0.mk (below_step (by repeat (first|(with_reducible first|exact HB.out|apply below_alloc|apply pw_below_drewN|apply below_drew1)|exact HB.out)) hb);clear HO_4;clear HB;have HO_4:=n0_;have HB:=n1_;clear n0_ n1_;(try clear hb);(try clear hb2);(try clear hk);(try clear hi)))
     (try simp only [Act.put,List.setIfInBounds_toArray,List.set_cons_zero,List.set_cons_succ])
     go_cut [20] (fun v20 wc=>∃ (kq:Nat) (x20_4:Bool),v20=.bool x20_4∧Aside0 (frame_Loose.j1 kq x0_1 x4_1 t255 t256 x20_4=some (r1,r2))∧Aside0 (kq≤k1)∧Aside0 (Kd.R Kd.string 9 wc w.heap.size (fun _=>True) u4 x4_1)∧Aside0 (Below w.heap.size w wc))
     case first =>
      have H:=HC5.out
      clear HC5
      by_cases c7:t255>8192
      ·rw [if_pos c7] at H
       have c7b0:decide (8192<t255)=true:=decide_eq_true c7
       clear c7
       (first|rw [c7b0]|(simp only [i64_w,i32_w];rw [c7b0])|skip)
       have H':=Aside0.mk H
       clear H
       go_wp2
       go_meet
       case rel=>exact ⟨_,(true),(by first|rfl|(simp;done)|(simp [*];done)),H',⟨by have:=HK1.out;first|omega|exact Nat.le_refl _⟩,⟨by (with_reducible repeat (first|apply Kd.R_alloc|apply Kd.R_drewN|apply Kd.R_drew));exact HO_4.out⟩,⟨by repeat (first|(with_reducible first|exact HB.out|apply below_alloc|apply pw_below_drewN|apply below_drew1)|exact HB.out)⟩⟩
      ·rw [if_neg c7] at H
       have c7b0:decide (8192<t255)=false:=decide_eq_false c7
       clear c7
       (first|rw [c7b0]|(simp only [i64_w,i32_w];rw [c7b0])|skip)
       have H':=Aside0.mk H
       clear H
       obtain ⟨Ao8,co8,eo8⟩:=Kd.R_slice HO_4.out
       subst eo8
       go_wp2
       go_meet
       case rel=>exact ⟨_,(((x4_1.length:Int) == 512)),(by first|rfl|(simp;done)|(simp [*];done)),H',⟨by have:=HK1.out;first|omega|exact Nat.le_refl _⟩,⟨by (with_reducible repeat (first|apply Kd.R_alloc|apply Kd.R_drewN|apply Kd.R_drew));exact HO_4.out⟩,⟨by repeat (first|(with_reducible first|exact HB.out|apply below_alloc|apply pw_below_drewN|apply below_drew1)|exact HB.out)⟩⟩
     case rest =>
      clear HC5
      try clear c2
      try clear c2b0
      try clear c2b1
      try clear p2
      try clear c4
      try clear c4b0
      try clear c4b1
      try clear c6
      try clear c7
      try clear c7b0
      obtain ⟨kq,x20_4,rfl,HA,HJ4,HO_4,HB⟩:=hcut
      cases kq with
      | zero=>exact absurd HA.out (by simp [frame_Loose.j1])
      | succ kj4 =>
       have H:=HA.out
       clear HA
       simp only [frame_Loose.j1] at H
       by_cases c9:x20_4=true
       ·subst c9
        have H1:(some (([]:List ByteArray),2))=some (r1,r2):=by rw [if_pos rfl] at H;exact H
        clear H
        have H:=H1
        clear H1
        simp only [Option.some.injEq,Prod.mk.injEq] at H
        obtain ⟨rfl,rfl⟩:=H
        go_wp2
        go_ret2
        exact ⟨_,by first|rfl|(simp [errW_none,errW_some]<;>rfl)|(simp [*,errW_none,errW_some]<;>rfl),by first|exact Kd.R_nil _ _ _ _ _|exact Kd.N_nil _ _ _ _ _|exact Kd.V_nil _ _ _ _ _|exact Kd.Q_nil _ _ _ _ _|exact Kd.S_nil _ _ _ _ _,by repeat (first|(with_reducible first|exact HB.out|apply below_alloc|apply pw_below_drewN|apply below_drew1)|exact HB.out)⟩
       ·replace c9:=Bool.eq_false_iff.mpr c9
        subst c9
        have H1:(if t255>(wrap64 ((x0_1.size:Int)-t256)) then (some (([]:List ByteArray),3)) else (if 0≤t256 then (if t256≤(wrap64 (t256+t255)) then (if (wrap64 (t256+t255))≤(x0_1.size:Int) then (if x4_1.length<8796093022208 then (if 0≤(wrap64 (t256+t255)) then (frame_Loose.l0 kj4 (x0_1.extract ((wrap64 (t256+t255)):Int).toNat x0_1.size) (x4_1++[x0_1.extract (t256:Int).toNat ((wrap64 (t256+t255)):Int).toNat])) else (none)) else (none)) else (none)) else (none)) else (none)))=some (r1,r2):=by rw [if_neg (show ¬ (false=true) by decide)] at H;exact H
        clear H
        have H:=H1
        clear H1
        by_cases c10:t255>(wrap64 ((x0_1.size:Int)-t256))
        ·rw [if_pos c10] at H
         have c10b0:decide ((wrap64 ((x0_1.size:Int)-t256))<t255)=true:=decide_eq_true c10
         clear c10
         simp only [Option.some.injEq,Prod.mk.injEq] at H
         obtain ⟨rfl,rfl⟩:=H
         go_wp2
         go_ret2
         exact ⟨_,by first|rfl|(simp [errW_none,errW_some]<;>rfl)|(simp [*,errW_none,errW_some]<;>rfl),by first|exact Kd.R_nil _ _ _ _ _|exact Kd.N_nil _ _ _ _ _|exact Kd.V_nil _ _ _ _ _|exact Kd.Q_nil _ _ _ _ _|exact Kd.S_nil _ _ _ _ _,by repeat (first|(with_reducible first|exact HB.out|apply below_alloc|apply pw_below_drewN|apply below_drew1)|exact HB.out)⟩
        ·rw [if_neg c10] at H
         have c10b0:decide ((wrap64 ((x0_1.size:Int)-t256))<t255)=false:=decide_eq_false c10
         clear c10
         by_cases c11:0≤t256
         ·rw [if_pos c11] at H
          have c11b0:=eq_true c11
          have c11b1:decide (0≤t256)=true:=decide_eq_true c11
          clear c11
          by_cases c12:t256≤(wrap64 (t256+t255))
          ·rw [if_pos c12] at H
           have c12b0:=eq_true c12
           have c12b1:decide (t256≤(wrap64 (t256+t255)))=true:=decide_eq_true c12
           by_cases c13:(wrap64 (t256+t255))≤(x0_1.size:Int)
           ·rw [if_pos c13] at H
            have c13b0:=eq_true c13
            have c13b1:decide ((wrap64 (t256+t255))≤(x0_1.size:Int))=true:=decide_eq_true c13
            by_cases c14:x4_1.length<8796093022208
            ·rw [if_pos c14] at H
             have LMc14:=Aside0.mk c14
             clear c14
             obtain ⟨y258,hy258⟩:∃ y_:List ByteArray,y_=(x4_1++[x0_1.extract (t256:Int).toNat ((wrap64 (t256+t255)):Int).toNat]):=⟨_,rfl⟩
             replace H:(if 0≤(wrap64 (t256+t255)) then (frame_Loose.l0 kj4 (x0_1.extract ((wrap64 (t256+t255)):Int).toNat x0_1.size) y258) else (none))=some (r1,r2):=by first|(rw [hy258];with_reducible exact H)|(have H2_:=(Option.bind_some _ _).symm.trans H;rw [hy258];with_reducible exact H2_)|(have H2_:=(Option.bind_some _ _).symm.trans H;with_reducible exact H2_)|with_reducible exact H|(rw [hy258];exact H)|exact H
             have Ny258:=Aside0.mk hy258
             clear hy258
             obtain ⟨ji15,hji15⟩:∃ j_:Int,(wrap64 (t256+t255))=j_:=⟨_,rfl⟩
             replace H:(if 0≤(ji15) then (frame_Loose.l0 kj4 (x0_1.extract ((ji15):Int).toNat x0_1.size) y258) else (none))=some (r1,r2):=by first|(rw [hji15] at H;exact H)|(simp only [hji15] at H ⊢;exact H)
             (try rw [hji15] at c12b0)
             (try rw [hji15] at c12b1)
             (try rw [hji15] at c12)
             (try rw [hji15] at c13b0)
             (try rw [hji15] at c13b1)
             (try rw [hji15] at c13)
             (try rw [hji15] at Ny258)
             have hji15w:(IntKind.i64.wrap (t256+t255))=ji15:=(i64_w _).trans hji15
             by_cases c16:0≤(ji15)
             ·rw [if_pos c16] at H
              have c16b0:=eq_true c16
              have c16b1:decide (0≤(ji15))=true:=decide_eq_true c16
              clear c16
              have c17b0:=eq_true (of_decide_eq_true (by first|(with_reducible assumption)|assumption):(ji15)≤(x0_1.size:Int))
              have H':=Aside0.mk H
              clear H
              try go_wp2
              have n0_:=Aside0.mk (Kd.R_drew HO_4.out)
              have n1_:=Aside0.mk (below_drew1 HB.out)
              clear HO_4
              clear HB
              have HO_4:=n0_
              have HB:=n1_
              clear n0_ n1_
              refine start_ (n:=16) (S:=fun w'=>True) (ds:=[]) #[false,false,false,false,false,false,false,false,false,false,false,false,false,false,false,false] (by kernel_rfl) rfl rfl trivial (fun hHeld=>?_);refine with_tabW frame_Loose.tab10 frame_Loose.bits10 (fun HT_ HW_=>?_)
              generalize wc.drew=w18 at HO_4 HB hHeld ⊢
              refine pure_ (i:=0) (N:=some 35) (v:=?_) (a':=?_) #[true,false,false,false,false,false,false,false,false,false,false,false,false,false,false,false] rfl rfl (any_of HT_.out (by kernel_rfl)) (fun _ _ _ h=>h) (Or.inl ⟨by rfl,?_⟩) ?_ ?_
              rotate_left
              ·intro w'
               go_simp
               with_reducible rfl
              rotate_left
              ·simp only [Act.put,List.setIfInBounds_toArray,List.set_cons_zero,List.set_cons_succ,i64_w,i32_w]
               rfl
              refine pure_ (i:=1) (N:=some 36) (v:=?_) (a':=?_) #[true,true,false,false,false,false,false,false,false,false,false,false,false,false,false,false] rfl rfl (any_of HT_.out (by kernel_rfl)) (fun _ _ _ h=>h) (Or.inl ⟨by rfl,?_⟩) ?_ ?_
              rotate_left
              ·intro w'
               go_simp
               with_reducible rfl
              rotate_left
              ·simp only [Act.put,List.setIfInBounds_toArray,List.set_cons_zero,List.set_cons_succ,i64_w,i32_w]
               rfl
              refine pure_ (i:=2) (N:=some 37) (v:=?_) (a':=?_) #[true,true,true,false,false,false,false,false,false,false,false,false,false,false,false,false] rfl rfl (any_of HT_.out (by kernel_rfl)) (fun _ _ _ h=>h) (Or.inl ⟨by rfl,?_⟩) ?_ ?_
              rotate_left
              ·intro w'
               go_simp
               with_reducible rfl
              rotate_left
              ·simp only [Act.put,List.setIfInBounds_toArray,List.set_cons_zero,List.set_cons_succ,i64_w,i32_w]
               rfl
              refine pure_ (i:=3) (N:=some 38) (v:=?_) (a':=?_) #[true,true,true,true,false,false,false,false,false,false,false,false,false,false,false,false] rfl rfl (any_of HT_.out (by kernel_rfl)) (fun _ _ _ h=>h) (Or.inl ⟨by rfl,?_⟩) ?_ ?_
              rotate_left
              ·intro w'
               go_simp
               with_reducible rfl
              rotate_left
              ·simp only [Act.put,List.setIfInBounds_toArray,List.set_cons_zero,List.set_cons_succ,i64_w,i32_w]
               rfl
              refine pure_ (i:=4) (N:=some 39) (v:=?_) (a':=?_) #[true,true,true,true,true,false,false,false,false,false,false,false,false,false,false,false] rfl rfl (any_of HT_.out (by kernel_rfl)) (fun _ _ _ h=>h) (Or.inl ⟨by rfl,?_⟩) ?_ ?_
              rotate_left
              ·intro w'
               go_simp
               with_reducible rfl
              rotate_left
              ·simp only [Act.put,List.setIfInBounds_toArray,List.set_cons_zero,List.set_cons_succ,i64_w,i32_w]
               rfl
              refine pure_ (i:=5) (N:=some 40) (v:=?_) (a':=?_) #[true,true,true,true,true,true,false,false,false,false,false,false,false,false,false,false] rfl rfl (any_of HT_.out (by kernel_rfl)) (fun _ _ _ h=>h) (Or.inl ⟨by rfl,?_⟩) ?_ ?_
              rotate_left
              ·intro w'
               go_simp
               with_reducible rfl
              rotate_left
              ·simp only [Act.put,List.setIfInBounds_toArray,List.set_cons_zero,List.set_cons_succ,i64_w,i32_w]
               rfl
              refine pure_ (i:=6) (N:=some 41) (v:=?_) (a':=?_) #[true,true,true,true,true,true,true,false,false,false,false,false,false,false,false,false] rfl rfl (any_of HT_.out (by kernel_rfl)) (fun _ _ _ h=>h) (Or.inl ⟨by rfl,?_⟩) ?_ ?_
              rotate_left
              ·intro w'
               go_simp
               with_reducible rfl
              rotate_left
              ·simp only [Act.put,List.setIfInBounds_toArray,List.set_cons_zero,List.set_cons_succ,i64_w,i32_w]
               rfl
              refine pure_ (i:=9) (N:=some 44) (v:=?_) (a':=?_) #[true,true,true,true,true,true,true,false,false,true,false,false,false,false,false,false] rfl rfl (any_of HT_.out (by kernel_rfl)) (fun _ _ _ h=>h) (Or.inl ⟨by rfl,?_⟩) ?_ ?_
              rotate_left
              ·intro w'
               go_simp
               with_reducible rfl
              rotate_left
              ·simp only [Act.put,List.setIfInBounds_toArray,List.set_cons_zero,List.set_cons_succ,i64_w,i32_w]
               rfl
              refine pure_ (i:=10) (N:=some 45) (v:=?_) (a':=?_) #[true,true,true,true,true,true,true,false,false,true,true,false,false,false,false,false] rfl rfl (any_of HT_.out (by kernel_rfl)) (fun _ _ _ h=>h) (Or.inl ⟨by rfl,?_⟩) ?_ ?_
              rotate_left
              ·intro w'
               go_simp
               with_reducible rfl
              rotate_left
              ·simp only [Act.put,List.setIfInBounds_toArray,List.set_cons_zero,List.set_cons_succ,i64_w,i32_w]
               rfl
              refine pure_ (i:=11) (N:=some 46) (v:=?_) (a':=?_) #[true,true,true,true,true,true,true,false,false,true,true,true,false,false,false,false] rfl rfl (any_of HT_.out (by kernel_rfl)) (fun _ _ _ h=>h) (Or.inl ⟨by rfl,?_⟩) ?_ ?_
              rotate_left
              ·intro w'
               go_simp
               with_reducible rfl
              rotate_left
              ·simp only [Act.put,List.setIfInBounds_toArray,List.set_cons_zero,List.set_cons_succ,i64_w,i32_w]
               rfl
              refine pure_ (i:=12) (N:=some 47) (v:=?_) (a':=?_) #[true,true,true,true,true,true,true,false,false,true,true,true,true,false,false,false] rfl rfl (any_of HT_.out (by kernel_rfl)) (fun _ _ _ h=>h) (Or.inl ⟨by rfl,?_⟩) ?_ ?_
              rotate_left
              ·intro w'
               go_simp
               with_reducible rfl
              rotate_left
              ·simp only [Act.put,List.setIfInBounds_toArray,List.set_cons_zero,List.set_cons_succ,i64_w,i32_w]
               rfl
              refine pure_ (i:=13) (N:=some 48) (v:=?_) (a':=?_) #[true,true,true,true,true,true,true,false,false,true,true,true,true,true,false,false] rfl rfl (any_of HT_.out (by kernel_rfl)) (fun _ _ _ h=>h) (Or.inl ⟨by rfl,?_⟩) ?_ ?_
              rotate_left
              ·intro w'
               go_simp
               with_reducible rfl
              rotate_left
              ·simp only [Act.put,List.setIfInBounds_toArray,List.set_cons_zero,List.set_cons_succ,i64_w,i32_w]
               rfl
              refine one_ (i:=7) (N:=some 42) #[true,true,true,true,true,true,true,true,false,true,true,true,true,true,false,false] rfl rfl (one_of HT_.out (by kernel_rfl)) (by decide) (fun K hK=>?_)
              refine value_ (w1:=?_) (v:=?_) (by rfl) rfl ?_ ?_
              rotate_left 2
              ·go_simp
               constructor
               ·rfl
               ·rfl
              refine hK.out _ _ trivial (fun hHeld=>?_)
              clear hK K
              refine norm_ (a':=?_) ?_ ?_
              rotate_left
              ·show Act.put _ (some 42) _=_
               simp only [Act.put,List.setIfInBounds_toArray,List.set_cons_zero,List.set_cons_succ,i64_w,i32_w]
               rfl
              refine one_ (i:=8) (N:=some 43) #[true,true,true,true,true,true,true,true,true,true,true,true,true,true,false,false] rfl rfl (one_of HT_.out (by kernel_rfl)) (by decide) (fun K hK=>?_)
              refine Kd.R_append_step Kd.string (w0:=w) w.heap.size (by rfl) (.tmp 35) (.tmp 42) 29 9 (.string ⟨#[]⟩) 16 rfl Tryd.underlying29 info9 rfl (by decide) (by omega) u4 x4_1 (x0_1.extract (t256:Int).toNat ((ji15):Int).toNat) [.string (x0_1.extract (t256:Int).toNat ((ji15):Int).toNat)] (fun _=>True) (fun _=>False) rfl rfl ?aP (fun _ hk=>hk.elim) ?aF ?aO ?aB ?aS ?aL ?_
              (case aP=>exact rfl)
              (case aB=>exact (by repeat (first|(with_reducible first|exact HB.out|apply below_alloc|apply pw_below_drewN|apply below_drew1)|exact HB.out)))
              (case aF=>exact (fun _ _=>trivial))
              (case aO=>exact (by (with_reducible repeat (first|apply Kd.R_alloc|apply Kd.R_drewN|apply Kd.R_drew));exact HO_4.out))
              (case aS=>exact (below_size (by repeat (first|(with_reducible first|exact HB.out|apply below_alloc|apply pw_below_drewN|apply below_drew1)|exact HB.out))))
              (case aL=>have:=LMc14.out;omega)
              intro v259 w19 ho hb hg hat
              rw [← Ny258.out] at ho
              have n0_:=Aside0.mk (hb)
              have n1_:=Aside0.mk (ho)
              clear HB
              clear HO_4
              have HB:=n0_
              have HO260:=n1_
              clear n0_ n1_
              clear ho hb hg hat
              refine hK.out _ _ trivial (fun hHeld=>?_)
              clear hK K
              refine norm_ (a':=?_) ?_ ?_
              rotate_left
              ·show Act.put _ (some 43) _=_
               simp only [Act.put,List.setIfInBounds_toArray,List.set_cons_zero,List.set_cons_succ,i64_w,i32_w]
               rfl
              refine pure_ (i:=14) (N:=some 4) (v:=?_) (a':=?_) #[true,true,true,true,true,true,true,true,true,true,true,true,true,true,true,false] rfl rfl (any_of HT_.out (by kernel_rfl)) (fun _ _ _ h=>h) (Or.inl ⟨by rfl,?_⟩) ?_ ?_
              rotate_left
              ·intro w'
               go_simp
               with_reducible rfl
              rotate_left
              ·simp only [Act.put,List.setIfInBounds_toArray,List.set_cons_zero,List.set_cons_succ,i64_w,i32_w]
               rfl
              refine pure_ (i:=15) (N:=some 0) (v:=?_) (a':=?_) #[true,true,true,true,true,true,true,true,true,true,true,true,true,true,true,true] rfl rfl (any_of HT_.out (by kernel_rfl)) (fun _ _ _ h=>h) (Or.inl ⟨by rfl,?_⟩) ?_ ?_
              rotate_left
              ·intro w'
               go_simp
               with_reducible rfl
              rotate_left
              ·simp only [Act.put,List.setIfInBounds_toArray,List.set_cons_zero,List.set_cons_succ,i64_w,i32_w]
               rfl
              refine done_ (done_of HT_.out (by kernel_rfl)) ?_
              try go_wp2
              go_roundg kj4
              case measure=>have:=HK1.out;have:=HJ4.out;omega
              case rel=>exact ⟨(x0_1.extract ((ji15):Int).toNat x0_1.size),(y258),(by first|rfl|(simp;done)|(simp only [← hji15]<;>(first|rfl|simp))|(simp [*];done)),H',⟨by have:=HK1.out;have:=HJ4.out;omega⟩,⟨by (with_reducible repeat (first|apply Kd.R_alloc|apply Kd.R_drewN|apply Kd.R_drew));exact HO260.out⟩,⟨by repeat (first|(with_reducible first|exact HB.out|apply below_alloc|apply pw_below_drewN|apply below_drew1)|exact HB.out)⟩⟩
             ·rw [if_neg c16] at H
              exact absurd H (by simp)
            ·rw [if_neg c14] at H
             exact absurd H (by simp)
           ·rw [if_neg c13] at H
            exact absurd H (by simp)
          ·rw [if_neg c12] at H
           exact absurd H (by simp)
         ·rw [if_neg c11] at H
          exact absurd H (by simp)
    ·rw [if_neg c4] at H
     have c4b0:(t257 == 0)=false:=beq_eq_false_iff_ne.mpr c4
     have c4b1:(t257 != 0)=true:=bne_iff_ne.mpr c4
     simp only [Option.some.injEq,Prod.mk.injEq] at H
     obtain ⟨rfl,rfl⟩:=H
     go_wp2_with (first|((with_reducible refine gate_callee (f:=60) rfl ?_);refine goesL_ (some 12) rfl rfl Tryd.func60 (by kernel_rfl) rfl #[.string x0_1] rfl (by (try simp only [List.map_toArray,List.map_cons,List.map_nil]);first|done|rfl|(simp only [List.length_drop,List.length_take];rfl)) ?_;(with_reducible refine (frame_Read.calls k1 x0_1 t255 t256 t257 _ A3.out).mono ?_);rintro e w20 ⟨rfl,hb⟩;refine ⟨_,rfl,?_⟩;have n0_:=Aside0.mk (Kd.R_below (by (with_reducible repeat (first|apply Kd.R_alloc|apply Kd.R_drewN|apply Kd.R_drew));exact HO_4.out) hb);have n1_:=Aside0.mk (below_step (by repeat (first|(with_reducible first|exact HB.out|apply below_alloc|apply pw_below_drewN|apply below_drew1)|exact HB.out)) hb);clear HO_4;clear HB;have HO_4:=n0_;have HB:=n1_;clear n0_ n1_;(try clear hb);(try clear hb2);(try clear hk);(try clear hi)))
     go_ret2
     exact ⟨_,by first|rfl|(simp [errW_none,errW_some]<;>rfl)|(simp [*,errW_none,errW_some]<;>rfl),by first|exact Kd.R_nil _ _ _ _ _|exact Kd.N_nil _ _ _ _ _|exact Kd.V_nil _ _ _ _ _|exact Kd.Q_nil _ _ _ _ _|exact Kd.S_nil _ _ _ _ _,by repeat (first|(with_reducible first|exact HB.out|apply below_alloc|apply pw_below_drewN|apply below_drew1)|exact HB.out)⟩
end Go.Proofs.YtceedgflpkaclaaDoor.P

/- frame.Crc comes to the check of its text's bytes, as a Lean function. Conditions: none. -/
namespace Go.Proofs.YtceedgflpkaclaaDoor.P
open Go.RowKit Go.Proofs.YtceedgflpkaclaaDoorW.PrintWords Go.Proofs.YtceedgflpkaclaaDoorW.PrintLast Go.Proofs.YtceedgflpkaclaaDoorW.PrintMore

def crcStep (c:Int):Int:=if Go.bits .and .u32 c 1=1 then Go.bits .xor .u32 (c/2) 3988292384 else c/2
def crcSteps:Nat→Int→Int
 | 0,c=>c
 | n+1,c=>crcStep (crcSteps n c)
def crcByte (c b:Int):Int:=crcSteps 8 (Go.bits .xor .u32 c b)
def crcFold (s:ByteArray):Nat→Int
 | 0=>4294967295
 | i+1=>crcByte (crcFold s i) (bt s i)
def frame_Crc.f (s:ByteArray):Option Int:=if s.size≤9223372036854775807 then some (Go.bits .xor .u32 (crcFold s s.size) 4294967295) else none
structure OneU (w:World) (b:Nat) (c:Int):Prop where
 at_:w.heap[b]?=some (.cells #[.int .u32 c] 30 (0,0))
theorem OneU.set {w:World} {b:Nat} {c:Int} (h:OneU w b c) (d:Int):OneU (w.setCell ⟨b,0,none⟩ (.int .u32 d)) b d:=⟨one_setCell h.at_⟩
theorem OneU.drewN {w:World} {b:Nat} {c:Int} (h:OneU w b c) (n:Nat):OneU (w.drewN n) b c:=⟨h.at_⟩
theorem OneU.drew {w:World} {b:Nat} {c:Int} (h:OneU w b c):OneU w.drew b c:=⟨h.at_⟩
set_option maxHeartbeats 400000 in
set_option maxRecDepth 100000 in
theorem crc_step (b:Nat) (c:Int) (w:World) (h:OneU w b c) :
  Calls Tryd.prog 70 #[.pointer (some ⟨b,0,none⟩)] w fun e w'=>e=.returned (.tuple #[])∧OneU w' b (crcStep c)∧∀ B,B≤b→∀ w0,Below B w0 w→Below B w0 w':=by
 have hcell:=cell_of_one h.at_
 have hfree:=free_of_one h.at_
 by_cases ht:Go.bits .and .u32 c 1=1
 ·have hb:(Go.bits .and .u32 c 1 == 1)=true:=beq_iff_eq.2 ht
  have HT:=Aside0.mk ht
  clear ht
  go_enter Tryd.func70,Tryd.ntmps70
  go_wp2
  go_end0
  refine ⟨rfl,?_,fun B hB w0 hw=>(hw.setCell hB _).setCell hB _⟩
  unfold crcStep
  rw [if_pos HT.out]
  exact (h.set _).set _
 ·have hb:(Go.bits .and .u32 c 1 == 1)=false:=beq_eq_false_iff_ne.2 ht
  have HT:=Aside0.mk ht
  clear ht
  go_enter Tryd.func70,Tryd.ntmps70
  go_wp2
  go_end0
  refine ⟨rfl,?_,fun B hB w0 hw=>hw.setCell hB _⟩
  unfold crcStep
  rw [if_neg HT.out]
  exact h.set _
set_option maxHeartbeats 1000000 in
set_option maxRecDepth 100000 in
theorem crc_any (s:ByteArray) (w:World) (hs:s.size≤9223372036854775807) :
  Calls Tryd.prog 62 #[.string s] w fun e w'=>e=.returned (.int .u32 (Go.bits .xor .u32 (crcFold s s.size) 4294967295))∧Below w.heap.size w w':=by
 have hmf:∀ (fn:Fn) (first cap:Array Value) (w:World),(Instr.makeFunc fn first cap).run Tryd.prog w=.ok (.func fn first cap) w:=fun _ _ _ _=>rfl
 go_enter Tryd.func62,Tryd.ntmps62
 go_wp2
 go_loopw [9] (fun i wr=>∃ k:Nat,k≤s.size∧i=.int .i64 k∧OneU wr w.heap.size (crcFold s k)∧Aside0 (Below w.heap.size w wr)) (fun i _=>s.size-(intOf i).toNat)
 case atStart=>exact ⟨0,Nat.zero_le _,rfl,⟨heap_alloc_new w _⟩,⟨(Below.refl _ _).alloc (Nat.le_refl _) _⟩⟩
 case round =>
  obtain ⟨k,hk,rfl,ho,hb⟩:=hrel
  have hcell:=cell_of_one ho.at_
  have hfree:=free_of_one ho.at_
  by_cases hlt:k<s.size
  ·have hx:(s[k].toNat:Int)=bt s k:=bt_at s k hlt
   have hy:=bt_range s k
   have HX:=Aside0.mk hx
   clear hx
   have hr1:(s[k].toNat:Int)<256:=by have:=s[k].toNat_lt;omega
   go_wp2
   go_region
   go_wp2
   go_loopw [18] (fun i wi=>∃ j:Nat,j≤8∧i=.int .i64 j∧OneU wi w.heap.size (crcSteps j (Go.bits .xor .u32 (crcFold s k) (bt s k)))∧Aside0 (Below w.heap.size w wi)) (fun i _=>8-(intOf i).toNat)
   case atStart=>exact ⟨0,by omega,rfl,by rw [HX.out];exact (ho.set _).drew,⟨below_drew (hb.out.setCell (Nat.le_refl _) _)⟩⟩
   case round =>
    obtain ⟨j,hj,rfl,hi,hbi⟩:=hrel
    by_cases hj8:j<8
    ·go_wp2_with (go_at_call 70;refine (crc_step _ _ _ hi).mono ?_;rintro e w1 ⟨rfl,ho1,hb1⟩)
     go_roundw
     case rel=>exact ⟨j+1,by omega,by go_num,ho1,⟨hb1 _ (Nat.le_refl _) _ hbi.out⟩⟩
     case measure=>simp [intOf];omega
    ·obtain rfl:j=8:=by omega
     go_wp2
     go_roundw
     case rel=>exact ⟨k+1,by omega,by go_num,hi,hbi⟩
     case measure=>simp [intOf];omega
  ·obtain rfl:k=s.size:=by omega
   go_wp2
   go_ret
   exact ⟨rfl,hb.out⟩
theorem frame_Crc.calls (a0:ByteArray) (r:Int) (w:World) (h:frame_Crc.f a0=some r) :
  Calls Tryd.prog 62 #[.string a0] w fun e w'=>e=.returned (.int .u32 r)∧Below w.heap.size w w':=by
 unfold frame_Crc.f at h
 by_cases hs:a0.size≤9223372036854775807
 ·rw [if_pos hs] at h
  obtain rfl:=Option.some.inj h
  exact crc_any a0 w hs
 ·rw [if_neg hs] at h
  cases h
end Go.Proofs.YtceedgflpkaclaaDoor.P

/- What one function of the program computes, as a Lean function, and a proof that its call comes to just that. Conditions: none. Written by wip/ownprint.py. -/
namespace Go.Proofs.YtceedgflpkaclaaDoor.P
open Go.RowKit Go.Proofs.YtceedgflpkaclaaDoorW.PrintWords Go.Proofs.YtceedgflpkaclaaDoorW.PrintLast Go.Proofs.YtceedgflpkaclaaDoorW.PrintMore
attribute [local go_sem] max2_int min2_int max_two min_two max_three min_three max_four min_four   -- for this text's walks alone
set_option linter.unusedVariables false
set_option linter.unusedSimpArgs false

def seal_checked.f (a0:ByteArray):Option (ByteArray):=(frame_Crc.f a0).bind fun t267=>(some (strOfNums (([(t267) % 256,(t267/256) % 256,(t267/65536) % 256,(t267/16777216) % 256]:List Int))))
set_option maxHeartbeats 8000000 in
set_option maxRecDepth 100000 in
theorem seal_checked.calls (a0:ByteArray) (r:ByteArray) (w:World) (h:seal_checked.f a0=some r) :
  Calls Tryd.prog 43 #[.string a0] w fun e w'=>e=.returned (.string r)∧Below w.heap.size w w':=by
 have HB:=Aside0.mk (Below.refl w.heap.size w)
 have H:((frame_Crc.f a0).bind fun t267=>(some (strOfNums (([(t267) % 256,(t267/256) % 256,(t267/65536) % 256,(t267/16777216) % 256]:List Int)))))=some r:=h
 clear h
 replace H:=Option.bind_eq_some_iff.mp H
 obtain ⟨t267,A20,H⟩:=H
 replace H:(some (strOfNums (([(t267) % 256,(t267/256) % 256,(t267/65536) % 256,(t267/16777216) % 256]:List Int))))=some r:=H
 have A2:=Aside0.mk A20
 clear A20
 obtain ⟨y268,hy268⟩:∃ y_:List Int,y_=(([(t267) % 256,(t267/256) % 256,(t267/65536) % 256,(t267/16777216) % 256]:List Int)):=⟨_,rfl⟩
 replace H:(some (strOfNums y268))=some r:=by first|(rw [hy268];with_reducible exact H)|(have H2_:=(Option.bind_some _ _).symm.trans H;rw [hy268];with_reducible exact H2_)|(have H2_:=(Option.bind_some _ _).symm.trans H;with_reducible exact H2_)|with_reducible exact H|(rw [hy268];exact H)|exact H
 have Ny268:=Aside0.mk hy268
 clear hy268
 obtain rfl:=Option.some.inj H
 go_enter Tryd.func43,Tryd.ntmps43
 go_wp2_with (first|((with_reducible refine gate_callee (f:=62) rfl ?_);refine goesL_ (some 5) rfl rfl Tryd.func62 (by kernel_rfl) rfl #[.string a0] rfl (by (try simp only [List.map_toArray,List.map_cons,List.map_nil]);first|done|rfl|(simp only [List.length_drop,List.length_take];rfl)) ?_;(with_reducible refine (frame_Crc.calls a0 t267 _ A2.out).mono ?_);rintro e w3 ⟨rfl,hb⟩;refine ⟨_,rfl,?_⟩;have n0_:=Aside0.mk (below_step (by repeat (first|(with_reducible first|exact HB.out|apply below_alloc|apply pw_below_drewN|apply below_drew1)|exact HB.out)) hb);clear HB;have HB:=n0_;clear n0_;(try clear hb);(try clear hb2);(try clear hk);(try clear hi))|((with_reducible refine gate_dst (N:=17) rfl ?_);refine Kd.R_lit (Kd.int .u8) _ 5 ?hg (N:=17) ?hd (xs:=([(t267) % 256,(t267/256) % 256,(t267/65536) % 256,(t267/16777216) % 256]:List Int)) (inner:=[.int .u8 ((t267) % 256),.int .u8 ((t267/256) % 256),.int .u8 ((t267/65536) % 256),.int .u8 ((t267/16777216) % 256)]) (ok:=fun _=>True) (okp:=fun _=>True) ?hr ?hp (fun _ hk=>hk) trivial (Below.refl _ _) (Nat.le_refl _) (by simp) ?_;(case hd=>rfl);(case hg=>rfl);(case hr=>first|(go_simp;done)|(go_simp;rfl)|(go_simp;simp [IntKind.wrap_u32]));(case hp=>exact (Reps.one (show Kd.M (Kd.int .u8) _ _ _ ((t267) % 256) [.int .u8 ((t267) % 256)] from rfl) (Reps.one (show Kd.M (Kd.int .u8) _ _ _ ((t267/256) % 256) [.int .u8 ((t267/256) % 256)] from rfl) (Reps.one (show Kd.M (Kd.int .u8) _ _ _ ((t267/65536) % 256) [.int .u8 ((t267/65536) % 256)] from rfl) (Reps.one (show Kd.M (Kd.int .u8) _ _ _ ((t267/16777216) % 256) [.int .u8 ((t267/16777216) % 256)] from rfl) (Reps.none _ _))))));intro v269 w4 ho5 hb hg_ hnew_;clear hg_ hnew_;(first|rw [← Ny268.out] at ho5|(simp only [Int.reduceToNat] at ho5;rw [← Ny268.out] at ho5));have n0_:=Aside0.mk (Kd.R_lower ho5 (below_size (by repeat (first|(with_reducible first|exact HB.out|apply below_alloc|apply pw_below_drewN|apply below_drew1)|exact HB.out))));have n1_:=Aside0.mk (below_step (by repeat (first|(with_reducible first|exact HB.out|apply below_alloc|apply pw_below_drewN|apply below_drew1)|exact HB.out)) hb);clear HB;have HO270:=n0_;have HB:=n1_;clear n0_ n1_;clear hb ho5;have hcv6:=own_string (P:=Tryd.prog) Tryd.underlying31 Tryd.underlying5 Tryd.underlying9 (Kd.own_of_R HO270.out)))
 (first|go_ret|go_ret2)
 exact ⟨by first|rfl|(simp [errW_none,errW_some]<;>rfl)|(simp [*,errW_none,errW_some]<;>rfl),by repeat (first|(with_reducible first|exact HB.out|apply below_alloc|apply pw_below_drewN|apply below_drew1)|exact HB.out)⟩
end Go.Proofs.YtceedgflpkaclaaDoor.P
