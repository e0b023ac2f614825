/- What these functions of the program and of the plain reference compute, and plain lemmas on it: ShaLaw2, RefCrc, FrameRef, SealRef, PureSealOpens, Opens. Conditions: as each lemma says. -/
import Derived.Test.YtceedgflpkaclaaDoorMLawSealOpens8
import Derived.Test.YtceedgflpkaclaaDoorMLawSealOpens1
import Derived.Test.YtceedgflpkaclaaDoorMLawSealOpens6
import Derived.Test.YtceedgflpkaclaaDoorMLawSealOpens3
import Derived.Test.YtceedgflpkaclaaDoorMLawSealOpens4
import Derived.Test.YtceedgflpkaclaaDoorMLawSealOpens7
import Derived.Test.YtceedgflpkaclaaDoorMLawSealOpens0
import Derived.ChangeArms
import Derived.ChangeSlices
import Derived.DataReads
import Derived.ChangeShapes
/- The program's words behind a block, and behind all blocks, are those of the plain reference. Conditions: as each lemma says. -/
namespace Go.Proofs.YtceedgflpkaclaaDoor.P
open Go.RowKit Go.Proofs.YtceedgflpkaclaaDoorW.PrintWords Go.Proofs.YtceedgflpkaclaaDoorW.PrintLast Go.Proofs.YtceedgflpkaclaaDoorW.PrintMore

theorem wordB_W32 (s:ByteArray) (t:Nat):∀ n,W32 (wordB s t n)
 | 0=>by unfold wordB W32;omega
 | n+1=>or_W32 _ _
theorem word_next (s:ByteArray) (t n:Nat):(((256*wordB s t n) % 4294967296)+((bt s ((4*t+n:Nat):Int)) % 4294967296)) % 4294967296=wordB s t (n+1):=by
 have hb:=bt_range s ((4*t+n:Nat):Int)
 have hw:=wordB_W32 s t n
 rw [wordB]
 generalize bt s ((4*t+n:Nat):Int)=b at *
 generalize wordB s t n=x at *
 have e1:IntKind.u32.wrap (x*256)=x % 16777216*256:=by
  rw [IntKind.wrap_u32]
  omega
 have h0:0≤x % 16777216*256:=by omega
 rw [e1,bits_join .u32 32 (by decide) wraps_u32 8 _ _ h0 (by omega) (by omega) (by omega) (by omega) (by omega)]
 omega
theorem ref_l1 (h ws:List Int) (s:ByteArray) (hs:s.size=64) (t:Nat) (ht:t<16) (hl:ws.length<100):∀ (d i k:Nat),i+d=4 →
  transhipmentref02_Block.l1 (k+d+1) h s ws (t:Int) (wordB s t i) (i:Int)=transhipmentref02_Block.l0 k h s (ws++[wordB s t 4]) ((t+1:Nat):Int):=by
 intro d
 induction d with
 | zero =>
  intro i k hi
  rw [Nat.add_zero,transhipmentref02_Block.l1,if_neg (by omega),if_pos (by omega),wid _ (by omega) (by omega),show i=4 by omega]
  rfl
 | succ d ih =>
  intro i k hi
  rw [show k+(d+1)+1=(k+d+1)+1 by omega,transhipmentref02_Block.l1]
  rw [if_pos (by omega),wid (4*(t:Int)) (by omega) (by omega),wid (4*(t:Int)+(i:Int)) (by omega) (by omega),if_pos (by omega),if_pos (by omega),show (4*(t:Int)+(i:Int))=((4*t+i:Nat):Int) by omega,word_next,wid ((i:Int)+1) (by omega) (by omega)]
  exact ih (i+1) k (by omega)
theorem ref_l0 (h:List Int) (s:ByteArray) (hs:s.size=64):∀ (d t k:Nat),t+d=16 →
  transhipmentref02_Block.l0 (k+6*d+1) h s ((List.range t).map fun j=>wordB s j 4) (t:Int)=transhipmentref02_Block.l2 k h ((List.range 16).map fun j=>wordB s j 4) 16:=by
 intro d
 induction d with
 | zero =>
  intro t k ht
  rw [Nat.mul_zero,Nat.add_zero,transhipmentref02_Block.l0,if_neg (by omega),show t=16 by omega]
 | succ d ih =>
  intro t k ht
  rw [show k+6*(d+1)+1=((k+6*d+1)+4+1)+1 by omega,transhipmentref02_Block.l0,if_pos (by omega)]
  have e:=ref_l1 h ((List.range t).map fun j=>wordB s j 4) s hs t (by omega) (by simp;omega) 4 0 (k+6*d+1) rfl
  rw [show wordB s t 0=0 from rfl] at e
  rw [show (((0:Nat):Int))=0 from rfl] at e
  rw [e]
  have e2:((List.range t).map fun j=>wordB s j 4)++[wordB s t 4]=(List.range (t+1)).map fun j=>wordB s j 4:=by rw [List.range_succ,List.map_append];rfl
  rw [e2]
  exact ih (t+1) k (by omega)
theorem spreadF_next (s:ByteArray) (n j:Nat) (hj:j<n+16):spreadF s (n+1) j=spreadF s n j:=by
 rw [spreadF]
 unfold upd
 rw [if_neg (by omega)]
theorem spreadF_stable (s:ByteArray) (n j:Nat) (hj:j<n+16):∀ d,spreadF s (n+d) j=spreadF s n j
 | 0=>rfl
 | d+1=>by rw [← Nat.add_assoc,spreadF_next s (n+d) j (by omega),spreadF_stable s n j hj d]
theorem spreadF_head (s:ByteArray) (t:Nat) (ht:t<16):spreadF s 48 t=wordB s t 4:=by
 have:=spreadF_stable s 0 t (by omega) 48
 rw [Nat.zero_add] at this
 rw [this,spreadF,headF,if_pos ht]
theorem spreadF_step (s:ByteArray) (t:Nat) (h1:16≤t) (h2:t<64):spreadF s 48 t=stepW (spreadF s 48) t:=by
 obtain ⟨n,hn⟩:∃ n,t=n+16:=⟨t-16,by omega⟩
 have e1:=spreadF_stable s (n+1) t (by omega) (48-(n+1))
 rw [show n+1+(48-(n+1))=48 by omega] at e1
 have e2:∀ j,j<t→spreadF s 48 j=spreadF s n j:=by
  intro j hj
  have:=spreadF_stable s n j (by omega) (48-n)
  rw [show n+(48-n)=48 by omega] at this
  exact this
 rw [e1,spreadF]
 unfold upd
 rw [← hn,if_pos rfl]
 unfold stepW
 rw [e2 (t-2) (by omega),e2 (t-7) (by omega),e2 (t-15) (by omega),e2 (t-16) (by omega)]
theorem spreadF_W32 (s:ByteArray) (t:Nat) (ht:t<64):W32 (spreadF s 48 t):=by
 by_cases h:t<16
 ·rw [spreadF_head s t h]
  exact wordB_W32 s t 4
 ·rw [spreadF_step s t (by omega) ht]
  exact wrap_W32 _
theorem rd_range (F:Nat→Int) (n j:Nat) (h:j<n):rd ((List.range n).map F) (j:Int)=F j:=by
 unfold rd
 rw [Int.toNat_natCast,List.getD_eq_getElem?_getD,List.getElem?_map,List.getElem?_range h]
 rfl
theorem ref_l2 (h:List Int) (s:ByteArray):∀ (d t k:Nat),t+d=64→16≤t→60<k →
  transhipmentref02_Block.l2 (k+d+1) h ((List.range t).map (spreadF s 48)) (t:Int)=transhipmentref02_Block.l3 k h ((List.range 64).map (spreadF s 48)) h keysL 0:=by
 intro d
 induction d with
 | zero =>
  intro t k ht h16 hk
  rw [Nat.add_zero,transhipmentref02_Block.l2,if_neg (by omega),show t=64 by omega]
  rfl
 | succ d ih =>
  intro t k ht h16 hk
  rw [show k+(d+1)+1=(k+d+1)+1 by omega,transhipmentref02_Block.l2]
  have hl:(((List.range t).map (spreadF s 48)).length:Int)=(t:Int):=by simp
  have hl':((List.range t).map (spreadF s 48)).length=t:=by simp
  rw [hl,hl',wid ((t:Int)-15) (by omega) (by omega),wid ((t:Int)-2) (by omega) (by omega),wid ((t:Int)-7) (by omega) (by omega),wid ((t:Int)-16) (by omega) (by omega),wid ((t:Int)+1) (by omega) (by omega)]
  rw [show (t:Int)-15=((t-15:Nat):Int) by omega,show (t:Int)-2=((t-2:Nat):Int) by omega,show (t:Int)-7=((t-7:Nat):Int) by omega,show (t:Int)-16=((t-16:Nat):Int) by omega]
  rw [rd_range _ t _ (by omega),rd_range _ t _ (by omega),rd_range _ t _ (by omega),rd_range _ t _ (by omega)]
  have w2:=spreadF_W32 s (t-2) (by omega)
  have w15:=spreadF_W32 s (t-15) (by omega)
  have t17:=ref_turn_eq _ w2 17 (by decide) (k+d+1) (by omega)
  have t19:=ref_turn_eq _ w2 19 (by decide) (k+d+1) (by omega)
  have t7:=ref_turn_eq _ w15 7 (by decide) (k+d+1) (by omega)
  have t18:=ref_turn_eq _ w15 18 (by decide) (k+d+1) (by omega)
  simp only [Int.cast_ofNat_Int] at t17 t19 t7 t18
  rw [if_pos (by omega),if_pos (by omega),if_pos (by omega),if_pos (by omega),if_pos (by omega),t17]
  simp only [Option.bind_some]
  rw [t19]
  simp only [Option.bind_some]
  rw [if_pos (by omega),if_pos (by omega),t7]
  simp only [Option.bind_some]
  rw [t18]
  simp only [Option.bind_some]
  rw [if_pos (by omega),if_pos (by omega),if_pos (by omega)]
  have e3:Int.tdiv (spreadF s 48 (t-2)) 1024 % 4294967296=spreadF s 48 (t-2)/1024:=by
   rw [Int.tdiv_eq_ediv_of_nonneg w2.1]
   have:=w2.1
   have:=w2.2
   omega
  have e4:Int.tdiv (spreadF s 48 (t-15)) 8 % 4294967296=spreadF s 48 (t-15)/8:=by
   rw [Int.tdiv_eq_ediv_of_nonneg w15.1]
   have:=w15.1
   have:=w15.2
   omega
  rw [e3,e4]
  simp only [← IntKind.wrap_u32]
  have e5:((List.range t).map (spreadF s 48))++[IntKind.u32.wrap (IntKind.u32.wrap (IntKind.u32.wrap (Go.bits .xor .u32 (Go.bits .xor .u32 (turnI (spreadF s 48 (t-2)) 17) (turnI (spreadF s 48 (t-2)) 19)) (spreadF s 48 (t-2)/1024)+spreadF s 48 (t-7))+Go.bits .xor .u32 (Go.bits .xor .u32 (turnI (spreadF s 48 (t-15)) 7) (turnI (spreadF s 48 (t-15)) 18)) (spreadF s 48 (t-15)/8))+spreadF s 48 (t-16))]=(List.range (t+1)).map (spreadF s 48):=by
   rw [List.range_succ,List.map_append,List.map_cons,List.map_nil,spreadF_step s t h16 (by omega)]
   rfl
  rw [e5]
  exact ih (t+1) k (by omega) (by omega) hk
theorem rounds_W32 (H:Nat→Int) (hH:∀ j,j<8→W32 (H j)) (Y:Nat→Int):∀ t j,j<8→W32 (roundsI H Y t j)
 | 0,j,hj=>hH j hj
 | t+1,j,hj=>by
  rw [roundsI]
  unfold roundI
  split
  ·exact wrap_W32 _
  ·split
   ·exact wrap_W32 _
   ·exact rounds_W32 H hH Y t (j-1) (by omega)
theorem rd_nat2 (l:List Int) (t:Nat):rd l (t:Int)=l.getD t 0:=by
 unfold rd
 rw [Int.toNat_natCast]
theorem toL_length (v:Nat→Int):((toL v).length:Int)=8:=rfl
theorem ref_l3_any (L K:List Int) (Y:Nat→Int) (R:Nat→Nat→Int) (hL:(L.length:Int)=8) (hK:(K.length:Int)=64) (hR:∀ t,R (t+1)=roundI (R t) (K.getD t 0) (Y t)) (hW:∀ t j,j<8→W32 (R t j)) (N:Nat) (hN:N=64):∀ (d t k:Nat),t+d=N→60<k →
  transhipmentref02_Block.l3 (k+d+1) L ((List.range N).map Y) (toL (R t)) K (t:Int)=transhipmentref02_Block.l4 k L (toL (R N)) [] 8 0:=by
 intro d
 induction d with
 | zero =>
  intro t k ht hk
  have e:t=N:=by omega
  rw [e,Nat.add_zero,transhipmentref02_Block.l3,if_neg (by omega),hL]
 | succ d ih =>
  intro t k ht hk
  rw [show k+(d+1)+1=(k+d+1)+1 by omega,transhipmentref02_Block.l3]
  have hl:(((List.range N).map Y).length:Int)=(N:Int):=by simp
  rw [hl,hK,if_pos (by omega),if_pos (by omega),if_pos (by omega),if_pos (by omega),rd_range Y N t (by omega)]
  rw [ref_Round_eq _ (hW t 0 (by decide)) (hW t 4 (by decide)) _ _ _ (by omega)]
  rw [Option.bind_some,wid ((t:Int)+1) (by omega) (by omega),rd_nat2,← hR,show ((t:Int)+1)=((t+1:Nat):Int) by omega]
  exact ih (t+1) k (by omega) hk
theorem ref_l3 (H:Nat→Int) (hH:∀ j,j<8→W32 (H j)) (Y:Nat→Int) (k:Nat) (hk:60<k) :
  transhipmentref02_Block.l3 (k+64+1) (toL H) ((List.range 64).map Y) (toL H) keysL 0=transhipmentref02_Block.l4 k (toL H) (toL (roundsI H Y 64)) [] 8 0:=by
 have h:=ref_l3_any (toL H) keysL Y (roundsI H Y) (toL_length H) rfl (fun t=>by rw [roundsI]) (rounds_W32 H hH Y) 64 rfl 64 0 k rfl hk
 rw [show roundsI H Y 0=H from rfl,Int.natCast_zero] at h
 exact h
theorem rd_toL (v:Nat→Int) (j:Nat) (h:j<8):rd (toL v) (j:Int)=v j:=by
 match j,h with
 | 0,_=>rfl|1,_=>rfl|2,_=>rfl|3,_=>rfl|4,_=>rfl|5,_=>rfl|6,_=>rfl|7,_=>rfl
theorem ref_l4 (H V:Nat→Int):∀ (d i k:Nat),i+d=8→d<k →
  transhipmentref02_Block.l4 k (toL H) (toL V) ((List.range i).map fun j=>IntKind.u32.wrap (H j+V j)) 8 (i:Int)=some (toL fun j=>IntKind.u32.wrap (H j+V j)):=by
 intro d
 induction d with
 | zero =>
  intro i k hi hk
  obtain ⟨k,rfl⟩:∃ m,k=m+1:=⟨k-1,by omega⟩
  rw [transhipmentref02_Block.l4,if_neg (by omega),show i=8 by omega]
  rfl
 | succ d ih =>
  intro i k hi hk
  obtain ⟨k,rfl⟩:∃ m,k=m+1:=⟨k-1,by omega⟩
  have hl:∀ v:Nat→Int,((toL v).length:Int)=8:=fun _=>rfl
  rw [transhipmentref02_Block.l4,hl,hl,if_pos (by omega),if_pos (by omega),if_pos (by omega),if_pos (by omega),if_pos (by simp;omega),rd_toL _ i (by omega),rd_toL _ i (by omega),wid ((i:Int)+1) (by omega) (by omega),← IntKind.wrap_u32]
  have e:((List.range i).map fun j=>IntKind.u32.wrap (H j+V j))++[IntKind.u32.wrap (H i+V i)]=(List.range (i+1)).map fun j=>IntKind.u32.wrap (H j+V j):=by rw [List.range_succ,List.map_append];rfl
  rw [e]
  exact ih (i+1) k (by omega) (by omega)
theorem ref_Block_eq (H:Nat→Int) (hH:∀ j,j<8→W32 (H j)) (s:ByteArray) (hs:s.size=64) (k:Nat) (hk:1000<k) :
  transhipmentref02_Block.f k (toL H) s=some (toL fun i=>IntKind.u32.wrap (H i+roundsI H (spreadF s 48) 64 i)):=by
 obtain ⟨m,rfl⟩:∃ m,k=((m+64+1)+48+1)+6*16+1:=⟨k-211,by omega⟩
 unfold transhipmentref02_Block.f
 have e0:=ref_l0 (toL H) s hs 16 0 ((m+64+1)+48+1) rfl
 rw [show ((List.range 0).map fun j=>wordB s j 4)=[] from rfl,show (((0:Nat):Int))=0 from rfl] at e0
 rw [e0]
 have e1:((List.range 16).map fun j=>wordB s j 4)=(List.range 16).map (spreadF s 48):=by
  apply List.map_congr_left
  intro j hj
  rw [spreadF_head s j (List.mem_range.1 hj)]
 have e2:=ref_l2 (toL H) s 48 16 (m+64+1) rfl (by decide) (by omega)
 rw [show (((16:Nat):Int))=16 from rfl] at e2
 rw [e1,e2]
 rw [ref_l3 H hH (spreadF s 48) m (by omega)]
 generalize roundsI H (spreadF s 48) 64=V
 have e4:=ref_l4 H V 8 0 m rfl (by omega)
 exact e4
theorem first_W32 (j:Nat) (h:j<8):W32 (firstF j):=by
 unfold W32
 match j,h with
 | 0,_=>decide|1,_=>decide|2,_=>decide|3,_=>decide|4,_=>decide|5,_=>decide|6,_=>decide|7,_=>decide
theorem blocks_W32 (P:ByteArray):∀ t j,j<8→W32 (blocksF P t j)
 | 0,j,hj=>first_W32 j hj
 | _+1,_,_=>wrap_W32 _
theorem cut_bytes (P:ByteArray) (a b:Nat):strOfNums (((bytesOf P).take b).drop a)=P.extract a b:=by
 apply ByteArray.ext
 apply Array.ext'
 rw [strOfNums_data,ByteArray.data_extract,Array.toList_extract,List.extract_eq_take_drop]
 unfold bytesOf
 rw [← List.map_take,← List.map_drop,List.map_map,List.drop_take]
 have:((fun n:Int=>UInt8.ofNat n.toNat) ∘ fun b:UInt8=>(b.toNat:Int))=id:=by
  funext x
  simp
 rw [this,List.map_id]
theorem blocksGo_eq (P:ByteArray) (N:Nat) (hP:P.size=64*N) (k:Nat) (hk:1000<k):∀ (d t:Nat),t+d=N→blocksGo k (bytesOf P) d t (toL (blocksF P t))=some (toL (blocksF P N))
 | 0,t,ht=>by rw [blocksGo,show t=N by omega]
 | d+1,t,ht=>by
  rw [blocksGo,cut_bytes,ref_Block_eq (blocksF P t) (blocks_W32 P t) _ (by rw [ByteArray.size_extract];omega) k hk]
  simp only [Option.bind_some]
  exact blocksGo_eq P N hP k hk d (t+1) (by omega)
theorem bytesOf_append (a b:ByteArray):bytesOf (a++b)=bytesOf a++bytesOf b:=by
 unfold bytesOf
 rw [ByteArray.data_append,Array.toList_append,List.map_append]
theorem repeat_list (c:Nat):Lib.repeatL [0] c=List.replicate c 0:=by
 induction c with
 | zero=>rfl
 | succ c ih=>rw [Lib.repeatL,ih,List.replicate_succ];rfl
theorem bytesOf_head (s:ByteArray):bytesOf (headT s)=padL s (padZ s.size):=by
 unfold headT padL
 rw [bytesOf_append,bytesOf_append]
 congr 1
 have e:(⟨#[0]⟩:ByteArray).data.toList=[0]:=rfl
 rw [e,repeat_list]
 simp [bytesOf]
theorem bytesOf_one (x:Int):bytesOf (strOfNums [x % 256])=[x % 256]:=by
 have h0:=Int.emod_nonneg x (b:=256) (by decide)
 have h1:=Int.emod_lt_of_pos x (b:=256) (by decide)
 unfold bytesOf
 rw [strOfNums_data]
 simp
 omega
theorem pw_two:∀ q,q<8→pw q=2 ^ (56-8*q):=by decide
theorem bytesOf_acc (U:ByteArray) (n:Nat):∀ j,j≤8→bytesOf (accT U n j)=bytesOf U++lenB n j
 | 0,_=>by rw [accT,lenB,List.append_nil]
 | j+1,hj=>by
  rw [accT,bytesOf_append,bytesOf_acc U n j (by omega),lenB,List.append_assoc,bytesOf_one,pw_two j (by omega)]
theorem bytesOf_sum (s:ByteArray):bytesOf (sumP s)=sumBytes s:=by
 unfold sumP sumBytes
 rw [bytesOf_acc _ _ 8 (by decide),bytesOf_head]
theorem out4_in4 (x:Int) (h:W32 x):(out4 x).map (fun n:Int=>UInt8.ofNat n.toNat)=in4 x 4:=by
 unfold out4
 rw [Int.tdiv_eq_ediv_of_nonneg h.1,Int.tdiv_eq_ediv_of_nonneg h.1,Int.tdiv_eq_ediv_of_nonneg h.1,Int.tmod_eq_emod_of_nonneg h.1]
 simp [in4]
theorem outL_outB (v:Nat→Int) (hv:∀ j,j<8→W32 (v j)):strOfNums (outL (toL v))=⟨(outB v 8).toArray⟩:=by
 unfold strOfNums
 congr 2
 simp only [outL,toL,List.flatMap_cons,List.flatMap_nil,List.map_append,List.append_nil]
 rw [out4_in4 _ (hv 0 (by decide)),out4_in4 _ (hv 1 (by decide)),out4_in4 _ (hv 2 (by decide)),out4_in4 _ (hv 3 (by decide)),out4_in4 _ (hv 4 (by decide)),out4_in4 _ (hv 5 (by decide)),out4_in4 _ (hv 6 (by decide)),out4_in4 _ (hv 7 (by decide))]
 simp only [outB,List.nil_append,List.append_assoc]
theorem ref_Sum_eq (s:ByteArray) (hs:s.size≤70368744177664) (k:Nat) (hk:1000<k):transhipmentref02_Sum.f k s=some (sumV s):=by
 unfold transhipmentref02_Sum.f
 rw [if_pos hs]
 have hb:=bytesOf_sum s
 have hl:=sumBytes_length s
 have hz:(sumP s).size=64*((s.size+9+padZ s.size)/64):=by rw [← bytesOf_length,hb,hl]
 obtain ⟨N,hN⟩:∃ N,(s.size+9+padZ s.size)/64=N:=⟨_,rfl⟩
 rw [hN] at hz ⊢
 have e:=blocksGo_eq (sumP s) N hz k hk N 0 (by omega)
 rw [hb,show toL (blocksF (sumP s) 0)=firstW from rfl] at e
 rw [e]
 simp only [Option.bind_some]
 rw [if_pos (by rfl),outL_outB _ (blocks_W32 _ N)]
 unfold sumV
 rw [hz,show 64*N/64=N by omega]
end Go.Proofs.YtceedgflpkaclaaDoor.P

/- The plain reference's check is the program's. Conditions: as each lemma says. -/
namespace Go.Proofs.YtceedgflpkaclaaDoor.P
open Go.RowKit Go.Proofs.YtceedgflpkaclaaDoorW.PrintWords Go.Proofs.YtceedgflpkaclaaDoorW.PrintLast Go.Proofs.YtceedgflpkaclaaDoorW.PrintMore

theorem ref_On_l0:∀ (d k i:Nat) (X:BitVec 32),i+d=8→d<k→transhipmentref01_On.l0 k (X.toNat:Int) (i:Int)=some ((stepsB d X).toNat:Int):=by
 intro d
 induction d with
 | zero =>
  intro k i X hi hk
  obtain ⟨k,rfl⟩:∃ m,k=m+1:=⟨k-1,by omega⟩
  simp only [transhipmentref01_On.l0]
  rw [if_neg (by omega)]
  rfl
 | succ d ih =>
  intro k i X hi hk
  obtain ⟨k,rfl⟩:∃ m,k=m+1:=⟨k-1,by omega⟩
  have hX:=X.isLt
  simp only [transhipmentref01_On.l0]
  have e1:Int.tmod (X.toNat:Int) 2=((X.toNat % 2:Nat):Int):=by rw [Int.tmod_eq_emod_of_nonneg (by omega)];omega
  have e2:(Int.tdiv (X.toNat:Int) 2) % (4294967296:Int)=((X >>> 1).toNat:Int):=by
   rw [Int.tdiv_eq_ediv_of_nonneg (by omega),half_B]
   have:=(X >>> 1).isLt
   omega
  have e3:(3988292384:Int)=((3988292384#32).toNat:Int):=rfl
  rw [if_pos (by omega),e1,e2,wrap64_id (by omega) (by omega),stepsB_first]
  unfold stepB
  rw [low_B]
  by_cases h:X.toNat % 2=1
  ·rw [if_pos (by omega),decide_eq_true h,e3,bits_xor_B]
   exact ih k (i+1) _ (by omega) (by omega)
  ·rw [if_neg (by omega),decide_eq_false h,show polB false=0#32 from rfl,BitVec.xor_zero]
   exact ih k (i+1) _ (by omega) (by omega)
theorem ref_On_eq (k:Nat) (hk:10<k) (X:BitVec 32) (b:Nat) (_:b<256):transhipmentref01_On.f k (X.toNat:Int) (b:Int)=some ((byteB X b).toNat:Int):=by
 unfold transhipmentref01_On.f byteB
 have e:(b:Int) % (4294967296:Int)=((BitVec.ofNat 32 b).toNat:Int):=by
  rw [BitVec.toNat_ofNat]
  omega
 rw [e,bits_xor_B]
 exact ref_On_l0 8 k 0 _ rfl (by omega)
theorem ref_Crc_l0 (s:ByteArray) (hs:s.size<10000):∀ (d i k:Nat) (X:BitVec 32),i+d=s.size→d+20<k→crcB s=foldB (fun j=>nat s (i+j)) X d →
  transhipmentref01_Crc.l0 k s (X.toNat:Int) (i:Int)=some ((crcB s ^^^ 4294967295#32).toNat:Int):=by
 intro d
 induction d with
 | zero =>
  intro i k X hi hk hX
  obtain ⟨k,rfl⟩:∃ m,k=m+1:=⟨k-1,by omega⟩
  simp only [transhipmentref01_Crc.l0]
  rw [if_neg (by omega),not_B,hX]
  rfl
 | succ d ih =>
  intro i k X hi hk hX
  obtain ⟨k,rfl⟩:∃ m,k=m+1:=⟨k-1,by omega⟩
  simp only [transhipmentref01_Crc.l0]
  rw [if_pos (by omega),if_pos (by omega),nat_cast,ref_On_eq k (by omega) X _ (nat_lt s i),Option.bind_some,wrap64_id (by omega) (by omega)]
  refine ih (i+1) k _ (by omega) (by omega) ?_
  rw [hX,foldB_first]
  refine foldB_congr _ _ (fun j _=>?_)
  rw [Nat.add_assoc]
theorem ref_Crc_eq (s:ByteArray) (hs:s.size<10000) (k:Nat) (hk:10100<k):transhipmentref01_Crc.f k s=some ((crcB s ^^^ 4294967295#32).toNat:Int):=by
 unfold transhipmentref01_Crc.f
 refine ref_Crc_l0 s hs s.size 0 k 4294967295#32 (by omega) (by omega) ?_
 simp only [Nat.zero_add]
 rfl
end Go.Proofs.YtceedgflpkaclaaDoor.P

/- The plain reference's numbers, bound texts and texts taken apart are the program's. Conditions: as each lemma says. -/
namespace Go.Proofs.YtceedgflpkaclaaDoor.P
open Go.RowKit Go.Proofs.YtceedgflpkaclaaDoorW.PrintWords Go.Proofs.YtceedgflpkaclaaDoorW.PrintLast Go.Proofs.YtceedgflpkaclaaDoorW.PrintMore

theorem ref_Number_l0:∀ (d:Nat) (k n:Nat) (acc:List Int),n<128 ^ (d+1)→n<9223372036854775808→d<100→d<k→acc.length+d<1000 →
  transhipmentref01_Number.l0 k (n:Int) acc=some (strOfNums (acc++numL n)):=by
 intro d
 induction d with
 | zero =>
  intro k n acc hn hb hd hk ha
  obtain ⟨k,rfl⟩:∃ m,k=m+1:=⟨k-1,by omega⟩
  have h128:n<128:=by simpa using hn
  simp only [transhipmentref01_Number.l0]
  rw [if_neg (by omega),if_pos (by omega)]
  unfold numL
  rw [dif_pos h128,show (n:Int) % 256=n by omega]
 | succ d ih =>
  intro k n acc hn hb hd hk ha
  obtain ⟨k,rfl⟩:∃ m,k=m+1:=⟨k-1,by omega⟩
  simp only [transhipmentref01_Number.l0]
  by_cases h:n<128
  ·rw [if_neg (by omega),if_pos (by omega)]
   unfold numL
   rw [dif_pos h,show (n:Int) % 256=n by omega]
  ·rw [if_pos (by omega),if_pos (by omega)]
   have e1:wrap64 (Int.tdiv (n:Int) 128)=((n/128:Nat):Int):=by
    rw [Int.tdiv_eq_ediv_of_nonneg (by omega)]
    rw [wrap64_id (by omega) (by omega)]
    omega
   have e2:wrap64 (128+Int.tmod (n:Int) 128) % 256=((n % 128+128:Nat):Int):=by
    rw [Int.tmod_eq_emod_of_nonneg (by omega)]
    rw [wrap64_id (by omega) (by omega)]
    omega
   rw [e1,e2,ih k (n/128) _ (by rw [Nat.pow_succ] at hn;omega) (by omega) (by omega) (by omega) (by simp;omega)]
   conv=>rhs;unfold numL
   rw [dif_neg h,List.append_assoc]
   rfl
theorem ref_Number_eq (k:Nat) (hk:20<k) (n:Int) (h0:0≤n) (h1:n<9223372036854775808):transhipmentref01_Number.f k n=some (numB n):=by
 unfold transhipmentref01_Number.f
 obtain ⟨m,rfl⟩:=Int.eq_ofNat_of_zero_le h0
 rw [ref_Number_l0 10 k m [] (by omega) (by omega) (by omega) (by omega) (by simp)]
 simp [numB]
theorem ref_Read_l1 (s:ByteArray) (L:Nat) (hL:L<9) (hLs:L<s.size):∀ (i k:Nat) (n:Int),i≤L+1→i<k→0≤n→(n+1)*128 ^ i≤9223372036854775808 →
  transhipmentref01_Read.l1 k s L n ((i:Int)-1)=some (n*128 ^ i+val s i,(L:Int)+1,0):=by
 intro i
 induction i with
 | zero =>
  intro k n hi hk h0 h1
  obtain ⟨k,rfl⟩:∃ m,k=m+1:=⟨k-1,by omega⟩
  simp only [transhipmentref01_Read.l1]
  rw [if_neg (by omega),wrap64_id (x:=(L:Int)+1) (by omega) (by omega)]
  simp [val]
 | succ i ih =>
  intro k n hi hk h0 h1
  obtain ⟨k,rfl⟩:∃ m,k=m+1:=⟨k-1,by omega⟩
  have hb:=bt_range s i
  have hp:(1:Int)≤128 ^ i:=Int.pow_pos (by decide)
  rw [Int.pow_succ] at h1
  have h2:(n+1)*(128 ^ i*128)=128*((n+1)*128 ^ i):=by rw [Int.mul_comm (128 ^ i) 128,← Int.mul_assoc,Int.mul_comm (n+1) 128,Int.mul_assoc]
  have h3:n+1≤(n+1)*128 ^ i:=by
   have:=Int.mul_le_mul_of_nonneg_left hp (show 0≤n+1 by omega)
   omega
  have e0:(((i+1:Nat):Int)-1)=(i:Int):=by omega
  have e1:wrap64 (128*n)=128*n:=wrap64_id (by omega) (by omega)
  have e2:wrap64 (Int.tmod (bt s i) 128)=bt s i % 128:=by rw [Int.tmod_eq_emod_of_nonneg (by omega)];exact wrap64_id (by omega) (by omega)
  have e3:wrap64 (128*n+bt s i % 128)=128*n+bt s i % 128:=wrap64_id (by omega) (by omega)
  have e4:wrap64 ((i:Int)-1)=(i:Int)-1:=wrap64_id (by omega) (by omega)
  simp only [transhipmentref01_Read.l1]
  rw [e0,if_pos (by omega),if_pos (by omega),if_pos (by omega),e1,e2,e3,e4]
  have hd0:0≤bt s i % 128:=by omega
  have hd1:bt s i % 128≤127:=by omega
  have h4:(128*n+bt s i % 128+1)*128 ^ i≤(n+1)*(128 ^ i*128):=by
   rw [h2,← Int.mul_assoc]
   exact Int.mul_le_mul_of_nonneg_right (by omega) (by omega)
  rw [ih k _ (by omega) (by omega) (by omega) (by omega)]
  simp only [val,Int.pow_succ,Option.some.injEq,Prod.mk.injEq,and_true]
  rw [Int.add_mul,Int.mul_comm 128 n,Int.mul_assoc n,Int.mul_comm 128 (128 ^ i)]
  omega
theorem ref_Read_found (s:ByteArray) (hs:s.size≤9223372036854775807) (L:Nat) (hL:L<min s.size 9) (_:bt s L<128):∀ (d i k:Nat),i+d=min s.size 9→2*d+20<k →
  transhipmentref01_Read.l0 k s L i=some (readAt s (some L)):=by
 have hb:=bt_range s L
 have fin:∀ k,18<k→transhipmentref01_Read.j1 k s L ((min s.size 9:Nat):Int) false=some (readAt s (some L)):=by
  intro k hk
  obtain ⟨k,rfl⟩:∃ m,k=m+1:=⟨k-1,by omega⟩
  simp only [transhipmentref01_Read.j1]
  rw [if_neg (by simp),if_neg (by omega)]
  obtain ⟨k,rfl⟩:∃ m,k=m+1:=⟨k-1,by omega⟩
  simp only [transhipmentref01_Read.j2]
  rw [if_neg (by simp),if_neg (by omega),if_pos (by omega),if_pos (by omega)]
  simp only [readAt]
  have go:∀ k,15<k→transhipmentref01_Read.j3 k s L false=some (val s (L+1),(L:Int)+1,0):=by
   intro k hk
   obtain ⟨k,rfl⟩:∃ m,k=m+1:=⟨k-1,by omega⟩
   simp only [transhipmentref01_Read.j3]
   rw [if_neg (by simp)]
   have h:=ref_Read_l1 s L (by omega) (by omega) (L+1) k 0 (by omega) (by omega) (by omega) (by
    have:(128:Int) ^ (L+1)≤128 ^ 9:=by
     have h:128 ^ (L+1)≤128 ^ 9:=Nat.pow_le_pow_right (by decide) (by omega)
     exact_mod_cast h
    have e:(128:Int) ^ 9=9223372036854775808:=by decide
    omega)
   rw [show (((L+1:Nat):Int)-1)=(L:Int) by omega] at h
   rw [h]
   simp
  by_cases hz:bt s L=0
  ·rw [if_pos hz]
   by_cases h0:0<L
   ·rw [if_pos ⟨hz,h0⟩,show decide ((L:Int)>0)=true by simp;omega]
    obtain ⟨k,rfl⟩:∃ m,k=m+1:=⟨k-1,by omega⟩
    simp only [transhipmentref01_Read.j3]
    rw [if_pos (by trivial)]
   ·rw [if_neg (by omega),show decide ((L:Int)>0)=false by simp;omega]
    exact go k (by omega)
  ·rw [if_neg hz,if_neg (fun h=>hz h.1)]
   exact go k (by omega)
 intro d
 induction d with
 | zero =>
  intro i k hi hk
  obtain ⟨k,rfl⟩:∃ m,k=m+1:=⟨k-1,by omega⟩
  simp only [transhipmentref01_Read.l0]
  have e:(i:Int)=((min s.size 9:Nat):Int):=by omega
  rw [e]
  by_cases h:((min s.size 9:Nat):Int)<s.size
  ·rw [if_pos h,show decide (((min s.size 9:Nat):Int)<9)=false by simp;omega]
   exact fin k (by omega)
  ·rw [if_neg h]
   exact fin k (by omega)
 | succ d ih =>
  intro i k hi hk
  obtain ⟨k,rfl⟩:∃ m,k=m+1:=⟨k-1,by omega⟩
  simp only [transhipmentref01_Read.l0]
  rw [if_pos (by omega),show decide ((i:Int)<9)=true by simp;omega]
  obtain ⟨k,rfl⟩:∃ m,k=m+1:=⟨k-1,by omega⟩
  simp only [transhipmentref01_Read.j1]
  rw [if_pos (by trivial),if_neg (by omega),show wrap64 ((i:Int)+1)=((i+1:Nat):Int) from wrap64_id (by omega) (by omega)]
  exact ih (i+1) k (by omega) (by omega)
theorem ref_Read_l0 (s:ByteArray) (hs:s.size≤9223372036854775807):∀ (d i k:Nat),i+d=min s.size 9→2*d+30<k →
  transhipmentref01_Read.l0 k s (-1) i=some (readAt s (scan s d i)):=by
 have fin:∀ k,18<k→transhipmentref01_Read.j1 k s (-1) ((min s.size 9:Nat):Int) false=some (readAt s none):=by
  intro k hk
  obtain ⟨k,rfl⟩:∃ m,k=m+1:=⟨k-1,by omega⟩
  simp only [transhipmentref01_Read.j1]
  rw [if_neg (by simp),if_pos (by omega)]
  obtain ⟨k,rfl⟩:∃ m,k=m+1:=⟨k-1,by omega⟩
  simp only [transhipmentref01_Read.j2,readAt]
  by_cases h:9≤s.size
  ·rw [show decide ((s.size:Int)<9)=false by simp;omega,if_neg (by simp),if_pos (by omega),if_pos h]
  ·rw [show decide ((s.size:Int)<9)=true by simp;omega,if_pos (by trivial),if_neg h]
 intro d
 induction d with
 | zero =>
  intro i k hi hk
  obtain ⟨k,rfl⟩:∃ m,k=m+1:=⟨k-1,by omega⟩
  simp only [transhipmentref01_Read.l0,scan]
  have e:(i:Int)=((min s.size 9:Nat):Int):=by omega
  rw [e]
  by_cases h:((min s.size 9:Nat):Int)<s.size
  ·rw [if_pos h,show decide (((min s.size 9:Nat):Int)<9)=false by simp;omega]
   exact fin k (by omega)
  ·rw [if_neg h]
   exact fin k (by omega)
 | succ d ih =>
  intro i k hi hk
  obtain ⟨k,rfl⟩:∃ m,k=m+1:=⟨k-1,by omega⟩
  have e3:wrap64 ((i:Int)+1)=((i+1:Nat):Int):=wrap64_id (by omega) (by omega)
  simp only [transhipmentref01_Read.l0,scan]
  rw [if_pos (by omega),show decide ((i:Int)<9)=true by simp;omega]
  obtain ⟨k,rfl⟩:∃ m,k=m+1:=⟨k-1,by omega⟩
  simp only [transhipmentref01_Read.j1]
  rw [if_pos (by trivial),if_pos (by omega),if_pos (by omega),if_pos (by omega),e3]
  by_cases hlow:bt s i<128
  ·rw [if_pos hlow,if_pos hlow]
   exact ref_Read_found s hs i (by omega) hlow d (i+1) k (by omega) (by omega)
  ·rw [if_neg hlow,if_neg hlow]
   exact ih (i+1) k (by omega) (by omega)
theorem ref_Read_eq (s:ByteArray) (hs:s.size≤9223372036854775807) (k:Nat) (hk:60<k):transhipmentref01_Read.f k s=some (readB s):=by
 unfold transhipmentref01_Read.f readB
 exact ref_Read_l0 s hs (min s.size 9) 0 k (by omega) (by omega)
theorem ref_Bind_l0 (l:List ByteArray) (hb:l.length<5000) (hs:∀ p∈l,p.size≤8200):∀ (d i k:Nat) (out:ByteArray),i+d=l.length→d+30<k→out.size+d*9000≤100000000000 →
  transhipmentref01_Bind.l0 k out l (l.length:Int) (i:Int)=some (out++boundB (l.drop i)):=by
 intro d
 induction d with
 | zero =>
  intro i k out hi hk ho
  obtain ⟨k,rfl⟩:∃ m,k=m+1:=⟨k-1,by omega⟩
  simp only [transhipmentref01_Bind.l0]
  rw [if_neg (by omega),List.drop_of_length_le (by omega)]
  congr 1
  apply ByteArray.ext
  simp [boundB,bound]
 | succ d ih =>
  intro i k out hi hk ho
  obtain ⟨k,rfl⟩:∃ m,k=m+1:=⟨k-1,by omega⟩
  have hlt:i<l.length:=by omega
  have h1:l[i].size≤8200:=hs _ (List.getElem_mem hlt)
  have hn:=numB_size (l[i].size:Int) (by omega) (by omega)
  simp only [transhipmentref01_Bind.l0]
  rw [rdOf_string l i hlt,if_pos (by omega),if_pos (by omega),if_pos (by omega),ref_Number_eq k (by omega) _ (by omega) (by omega)]
  simp only [Option.bind_some]
  rw [if_pos (by omega),if_pos (by rw [ByteArray.size_append];omega),wrap64_id (by omega) (by omega),show ((i:Int)+1)=((i+1:Nat):Int) by omega,
   ih (i+1) k _ (by omega) (by omega) (by simp only [ByteArray.size_append];omega),List.drop_eq_getElem_cons hlt]
  congr 1
  apply ByteArray.ext
  apply Array.ext'
  simp [boundB,bound,ByteArray.data_append]
theorem ref_Bind_eq (l:List ByteArray) (hb:l.length<5000) (hs:∀ p∈l,p.size≤8200) (k:Nat) (hk:5100<k):transhipmentref01_Bind.f k l=some (boundB l):=by
 unfold transhipmentref01_Bind.f
 rw [show (0:Int)=((0:Nat):Int) from rfl,ref_Bind_l0 l hb hs l.length 0 k _ (by omega) (by omega) (by show 0+_≤_;omega)]
 congr 1
theorem ref_Loose_l0:∀ (d k:Nat) (s:ByteArray) (out:List ByteArray),s.size<d→s.size<100000000000→2*d+100<k→out.length≤512 →
  transhipmentref01_Loose.l0 k s out=some (looseGo d s out):=by
 intro d
 induction d with
 | zero=>intro k s out h;omega
 | succ d ih =>
  intro k s out hd hs hk ho
  obtain ⟨k,rfl⟩:∃ m,k=m+1:=⟨k-1,by omega⟩
  simp only [transhipmentref01_Loose.l0,looseGo]
  by_cases h0:s.size=0
  ·rw [if_neg (by omega),if_pos h0]
  ·rw [if_pos (by omega),if_neg h0,ref_Read_eq s (by omega) k (by omega)]
   simp only [Option.bind_some]
   by_cases he:(readB s).2.2=0
   ·have hr:=readB_ok s he
    rw [if_pos he,if_neg (show ¬ ((readB s).2.2≠0) from fun h=>h he)]
    have go:∀ b:Bool,b=decide ((readB s).1>8192∨out.length=512)→transhipmentref01_Loose.j1 k s out b (readB s).1 (readB s).2.1 (readB s).2.2=some (if (readB s).1>8192∨out.length=512 then ([],2) else if (readB s).1>s.size-(readB s).2.1 then ([],3) else looseGo d (s.extract ((readB s).2.1.toNat+(readB s).1.toNat) s.size) (out++[s.extract (readB s).2.1.toNat ((readB s).2.1.toNat+(readB s).1.toNat)])):=by
     intro b hb
     generalize (readB s).2.2=e at *
     generalize (readB s).1=n at *
     generalize (readB s).2.1=u at *
     obtain ⟨k,rfl⟩:∃ m,k=m+1:=⟨k-1,by omega⟩
     simp only [transhipmentref01_Loose.j1]
     by_cases hbig:n>8192∨out.length=512
     ·rw [hb,if_pos hbig,if_pos (by simp [hbig])]
     ·rw [hb,if_neg hbig,if_neg (by simp [hbig]),if_pos (by omega),if_pos (by omega)]
      by_cases hshort:n>s.size-u
      ·rw [if_pos hshort,if_pos (by omega)]
      ·rw [if_neg hshort,if_neg (by omega),if_pos (by omega),if_pos (by omega),if_pos (by omega)]
       have e1:(s.extract u.toNat s.size).extract n.toNat (s.extract u.toNat s.size).size=s.extract (u.toNat+n.toNat) s.size:=by
        rw [ByteArray.extract_extract,ByteArray.size_extract]
        congr 1
        omega
       have e2:(s.extract u.toNat s.size).extract 0 n.toNat=s.extract u.toNat (u.toNat+n.toNat):=by
        rw [ByteArray.extract_extract]
        congr 1
        omega
       first
        | rw [e1,e2]
        | (rw [show (s.size-u.toNat)=(s.extract u.toNat s.size).size by rw [ByteArray.size_extract];omega,e1,e2])
       exact ih k _ _ (by rw [ByteArray.size_extract];omega) (by rw [ByteArray.size_extract];omega) (by omega) (by simp only [List.length_append,List.length_singleton];omega)
    by_cases hbig:(readB s).1>8192
    ·rw [if_pos hbig]
     exact go true (by simp [hbig])
    ·rw [if_neg hbig]
     refine go _ ?_
     by_cases h5:out.length=512
     ·simp [h5]
     ·rw [show ((out.length:Int) == 512)=false from beq_eq_false_iff_ne.2 (by omega)]
      symm
      exact decide_eq_false (by omega)
   ·rw [if_neg he,if_pos he]
theorem ref_Loose_eq (s:ByteArray) (hs:s.size<100000000000) (k:Nat) (hk:2*s.size+200<k):transhipmentref01_Loose.f k s=some (looseB s):=by
 unfold transhipmentref01_Loose.f looseB
 exact ref_Loose_l0 (s.size+1) k s [] (by omega) hs (by omega) (by simp)
end Go.Proofs.YtceedgflpkaclaaDoor.P

/- The plain reference's sealing and opening come to the same as the program's. Conditions: as each lemma says. -/
namespace Go.Proofs.YtceedgflpkaclaaDoor.P
open Go.RowKit Go.Proofs.YtceedgflpkaclaaDoorW.PrintWords Go.Proofs.YtceedgflpkaclaaDoorW.PrintLast Go.Proofs.YtceedgflpkaclaaDoorW.PrintMore

theorem ref_Check_eq (s:ByteArray) (hs:s.size<10000) (k:Nat) (hk:10100<k):transhipmentref02_Check.f k s=some (checkB s):=by
 unfold transhipmentref02_Check.f
 rw [ref_Crc_eq s hs k hk,Option.bind_some]
 unfold checkB crcI
 have h0:(0:Int)≤((crcB s ^^^ 4294967295#32).toNat:Int):=by omega
 have h1:=(crcB s ^^^ 4294967295#32).isLt
 generalize (crcB s ^^^ 4294967295#32).toNat=x at h0 h1 ⊢
 rw [Int.tdiv_eq_ediv_of_nonneg h0,Int.tdiv_eq_ediv_of_nonneg h0,Int.tdiv_eq_ediv_of_nonneg h0,Int.tmod_eq_emod_of_nonneg h0]
 rw [show (x:Int) % 256 % 256=(x:Int) % 256 by omega,show (x:Int)/256 % 4294967296=(x:Int)/256 by omega,show (x:Int)/65536 % 4294967296=(x:Int)/65536 by omega,show (x:Int)/16777216 % 4294967296=(x:Int)/16777216 by omega]
theorem ref_Close_l0 (l:List ByteArray) (hl:l.length≤64) (hs:∀ p∈l,p.size≤4096):∀ (d i k:Nat) (out:List ByteArray),i+d=l.length→d+20000<k→out=(l.take i).map frameB →
  transhipmentref02_Close.l0 k out l (l.length:Int) (i:Int)=some (closeB l):=by
 intro d
 induction d with
 | zero =>
  intro i k out hi hk ho
  obtain ⟨k,rfl⟩:∃ m,k=m+1:=⟨k-1,by omega⟩
  rw [List.take_of_length_le (by omega)] at ho
  subst ho
  have hs':∀ p∈l,p.size≤4100:=fun p hp=>by have:=hs p hp;omega
  have hm:=frames_may l (by omega) hs'
  have hz:=tailB_size l (by omega) hs'
  have hz2:(boundB (l.map frameB)).size≤(tailB l).size:=by unfold tailB;rw [ByteArray.size_append];omega
  have hsv:=sumV_32 (tailB l)
  simp only [transhipmentref02_Close.l0]
  rw [if_neg (by omega),ref_Bind_eq _ (by rw [List.length_map];omega) (fun p hp=>by have:=hm.2 p hp;omega) k (by omega),Option.bind_some,if_pos (by omega)]
  have e:(⟨#[115,101,97,108]⟩:ByteArray)++boundB (l.map frameB)=tailB l:=rfl
  rw [e,ref_Sum_eq _ (by omega) k (by omega),Option.bind_some,if_pos (by omega)]
  rfl
 | succ d ih =>
  intro i k out hi hk ho
  obtain ⟨k,rfl⟩:∃ m,k=m+1:=⟨k-1,by omega⟩
  have hlt:i<l.length:=by omega
  have h1:l[i].size≤4096:=hs _ (List.getElem_mem hlt)
  simp only [transhipmentref02_Close.l0]
  rw [rdOf_string l i hlt,if_pos (by omega),if_pos (by omega),if_pos (by omega),ref_Check_eq _ (by omega) k (by omega),Option.bind_some]
  rw [ref_Bind_eq _ (by simp) (by
   intro p hp2
   have hc:=checkB_size l[i]
   simp only [List.mem_cons,List.not_mem_nil,or_false] at hp2
   rcases hp2 with rfl|rfl<;>omega) k (by omega),Option.bind_some]
  have hol:out.length≤64:=by rw [ho,List.length_map,List.length_take];omega
  rw [if_pos (by omega),wrap64_id (by omega) (by omega),show ((i:Int)+1)=((i+1:Nat):Int) by omega]
  refine ih (i+1) k _ (by omega) (by omega) ?_
  rw [ho,List.take_succ_eq_append_getElem hlt,List.map_append]
  rfl
theorem ref_Close_eq (k:Nat) (hk:30000<k) (l:List ByteArray) (h:mayS l):transhipmentref02_Close.f k l=some (closeB l):=by
 have:=h.1
 unfold transhipmentref02_Close.f
 rw [show (0:Int)=((0:Nat):Int) from rfl]
 exact ref_Close_l0 l h.1 h.2 l.length 0 k [] (by omega) (by omega) rfl
theorem section_two (f x c:ByteArray) (h:(looseB f).1=[x,c]) :
  sectionB f=if c.size≠4 then (⟨#[]⟩,6) else if 4096<x.size then (⟨#[]⟩,2) else if c≠checkB x then (⟨#[]⟩,4) else if boundB [x,c]≠f then (⟨#[]⟩,6) else (x,0):=by
 unfold sectionB
 rw [h]
theorem section_none (f:ByteArray) (h:(looseB f).1.length≠2):sectionB f=(⟨#[]⟩,6):=by
 unfold sectionB
 revert h
 match (looseB f).1 with
 | []=>intro _;rfl
 | [x]=>intro _;rfl
 | x::c::y::r=>intro _;rfl
 | [x,c]=>intro h;exact absurd rfl h
theorem two_of:∀ l:List ByteArray,l.length=2→∃ x c,l=[x,c]
 | [x,c],_=>⟨x,c,rfl⟩
 | [],h=>by cases h
 | [_],h=>by cases h
 | _::_::_::_,h=>by simp at h
theorem ref_j1_true (k:Nat) (out:List ByteArray) (f:ByteArray) (l fs:List ByteArray) (n i:Int):transhipmentref02_Open.j1 (k+1) out f l fs n i true=some ([],6):=by
 simp only [transhipmentref02_Open.j1,if_true]
theorem ref_Open_l0 (fs:List ByteArray) (hl:fs.length≤512) (hs:∀ f∈fs,f.size≤8192):∀ (d i k:Nat) (out:List ByteArray),i+d=fs.length→2*d+40000<k→out.length=i →
  transhipmentref02_Open.l0 k out fs (fs.length:Int) (i:Int)=some (openGo (fs.drop i) out):=by
 intro d
 induction d with
 | zero =>
  intro i k out hi hk ho
  obtain ⟨k,rfl⟩:∃ m,k=m+1:=⟨k-1,by omega⟩
  simp only [transhipmentref02_Open.l0]
  rw [if_neg (by omega),List.drop_of_length_le (by omega)]
  rfl
 | succ d ih =>
  intro i k out hi hk ho
  obtain ⟨k,rfl⟩:∃ m,k=m+1+1:=⟨k-2,by omega⟩
  have hlt:i<fs.length:=by omega
  have h1:fs[i].size≤8192:=hs _ (List.getElem_mem hlt)
  have next:=fun x=>ih (i+1) k (out++[x]) (by omega) (by omega) (by simp [ho])
  rw [transhipmentref02_Open.l0,rdOf_string fs i hlt,if_pos (by omega),if_pos (by omega),if_pos (by omega),ref_Loose_eq fs[i] (by omega) (k+1) (by omega),Option.bind_some,List.drop_eq_getElem_cons hlt,openGo]
  generalize fs.drop (i+1)=rest at next ⊢
  generalize fs[i]=f at h1 ⊢
  by_cases hq2:(looseB f).1.length=2
  ·obtain ⟨x,c,hq⟩:=two_of _ hq2
   have hs:=section_two f x c hq
   rw [hq]
   have e1:rdOf ByteArray.empty [x,c] 1=c:=rfl
   have e0:rdOf ByteArray.empty [x,c] 0=x:=rfl
   have e2:(([x,c]:List ByteArray).length:Int)=2:=rfl
   rw [e1,e2,if_pos (by trivial),if_pos (by decide)]
   by_cases hc:c.size=4
   ·have hb:((c.size:Int) != 4)=false:=by simp;omega
    rw [hb]
    simp only [transhipmentref02_Open.j1]
    rw [if_neg (not_not_intro hc:¬ c.size≠4)] at hs
    rw [e0,e1,e2,if_neg (by simp),if_pos (show (0:Int)<2 by decide)]
    by_cases hx:4096<x.size
    ·rw [if_pos hx] at hs
     rw [if_pos (show (x.size:Int)>4096 by omega),hs]
     rfl
    ·rw [if_neg hx] at hs
     rw [if_neg (show ¬ (x.size:Int)>4096 by omega),if_pos (show (1:Int)<2 by decide),ref_Check_eq x (by omega) k (by omega),Option.bind_some]
     by_cases hk2:c=checkB x
     ·rw [if_neg (not_not_intro hk2)] at hs
      rw [if_pos ((bytes_eq _ _).2 hk2)]
      have hsz:∀ p∈[x,c],p.size≤8200:=by
       intro p hp2
       simp only [List.mem_cons,List.not_mem_nil,or_false] at hp2
       rcases hp2 with rfl|rfl<;>omega
      rw [ref_Bind_eq _ (by simp) hsz k (by omega),Option.bind_some]
      by_cases hb2:boundB [x,c]=f
      ·rw [if_neg (not_not_intro hb2)] at hs
       rw [if_pos ((bytes_eq _ _).2 hb2),if_pos (by omega),wrap64_id (by omega) (by omega),show ((i:Int)+1)=((i+1:Nat):Int) by omega,next x,hs]
       rfl
      ·rw [if_pos hb2] at hs
       rw [if_neg (fun h=>hb2 ((bytes_eq _ _).1 h)),hs]
       rfl
     ·rw [if_pos hk2] at hs
      rw [if_neg (fun h=>hk2 ((bytes_eq _ _).1 h)),hs]
      rfl
   ·have hb:((c.size:Int) != 4)=true:=by simp;omega
    rw [if_pos hc] at hs
    rw [hb,hs]
    exact ref_j1_true k out f [x,c] fs (fs.length:Int) (i:Int)
  ·have hs:=section_none f hq2
   rw [if_neg (by omega),hs]
   exact ref_j1_true k out f (looseB f).1 fs (fs.length:Int) (i:Int)
theorem ref_Open_eq (s:ByteArray) (hs:s.size<10000000) (k:Nat) (hk:100000000<k):transhipmentref02_Open.f k s=some (openB s):=by
 unfold transhipmentref02_Open.f openB
 by_cases h0:s.size<36
 ·rw [if_pos (by omega),if_pos h0]
 ·rw [if_neg (by omega),if_neg h0,if_pos (by decide),if_pos (by omega),wrap64_id (by omega) (by omega)]
  have e:(s.size:Int)-32=((s.size-32:Nat):Int):=by omega
  have et:sealT.toList=([115,101,97,108]:List UInt8):=by rw [ByteArray.toList_eq];rfl
  rw [e,← et]
  simp only [Int.toNat_natCast]
  by_cases h1:s.extract 0 4=sealT
  ·rw [if_pos ((bytes_eq _ _).2 h1),if_neg (not_not_intro h1),if_pos (by omega),if_pos (by omega),ref_Sum_eq _ (by rw [ByteArray.size_extract];omega) k (by omega),Option.bind_some]
   by_cases h2:sumV (s.extract 0 (s.size-32))=s.extract (s.size-32) s.size
   ·rw [if_pos ((bytes_eq _ _).2 h2),if_neg (not_not_intro h2),if_pos (by omega)]
    have hz:(s.extract 4 (s.size-32)).size≤s.size:=by rw [ByteArray.size_extract];omega
    generalize s.extract 4 (s.size-32)=t at hz ⊢
    rw [ref_Loose_eq t (by omega) k (by omega),Option.bind_some]
    have hl:=looseB_length t
    have hsz:=looseB_sizes t
    generalize looseB t=q at hl hsz ⊢
    by_cases h3:q.2=0
    ·rw [if_pos h3,if_neg (not_not_intro h3)]
     by_cases h4:q.1.length>64
     ·rw [if_pos (by omega),if_pos h4]
     ·rw [if_neg (by omega),if_neg h4,show (0:Int)=((0:Nat):Int) from rfl,ref_Open_l0 q.1 hl hsz q.1.length 0 k [] (by omega) (by omega) rfl,List.drop_zero]
    ·rw [if_neg h3,if_pos h3]
   ·rw [if_neg (fun h=>h2 ((bytes_eq _ _).1 h)),if_pos h2]
  ·rw [if_neg (fun h=>h1 ((bytes_eq _ _).1 h)),if_pos h1]
end Go.Proofs.YtceedgflpkaclaaDoor.P

/- Any sections sealed, and any bytes opened, are as the document says, or refused. Conditions: none. -/
namespace Go.Proofs.YtceedgflpkaclaaDoor.Pure
open Go.RowKit Go.Proofs.YtceedgflpkaclaaDoor.P Go.Proofs.YtceedgflpkaclaaDoorW.PrintWords Go.Proofs.YtceedgflpkaclaaDoorW.PrintLast Go.Proofs.YtceedgflpkaclaaDoorW.PrintMore

theorem openB_length (s:ByteArray):(openB s).1.length≤64:=by
 by_cases h:(openB s).2=0
 ·exact (openB_ok' s h).1.1
 ·rw [openB_err s h]
  decide
theorem SealOpens:transhipmentlaw02_SealOpens.Pure:=by
 intro l a hl ha
 refine ⟨300000000,?_⟩
 unfold transhipmentlaw02_SealOpens.f
 rw [cut_eq _ (by decide),Option.bind_some]
 rw [show mn (a.size:Int) 3000=((min a.size 3000:Nat):Int) from mn_min _ 3000,if_pos (by omega),if_pos (by omega),Int.toNat_natCast]
 have hz:(a.extract 0 (min a.size 3000)).size≤3000:=by rw [ByteArray.size_extract];omega
 generalize a.extract 0 (min a.size 3000)=s at *
 have hl1:=cutL_length l
 have hl2:=@cutL_size l
 generalize cutL l=m at *
 have ho:=openB_length s
 rw [seal_Close_eq _ (by decide) m hl2,Option.bind_some,seal_Open_eq s (by omega) _ (by decide),Option.bind_some,ref_Open_eq s (by omega) _ (by decide),Option.bind_some,if_pos (by trivial),ref_Same_eq _ _ (by omega) _ (by decide),Option.bind_some,if_pos (decide_eq_true rfl),alive_true,Option.bind_some]
 simp only [transhipmentlaw02_SealOpens.j0]
 rw [if_neg (by simp),ref02_May_eq m (by omega) _ (by decide),Option.bind_some]
 by_cases h:mayS m
 ·rw [if_pos (decide_eq_true h),if_pos h,if_pos (by trivial),ref_Close_eq _ (by decide) m h,Option.bind_some]
  simp
 ·rw [if_neg (fun hd=>h (of_decide_eq_true hd)),if_neg h,if_pos (by trivial)]
  simp [ByteArray.toList_eq]
end Go.Proofs.YtceedgflpkaclaaDoor.Pure

/- What a value that came in reads as: each reading of a type is one of its kind's values, within bounds. Conditions: none. -/
namespace Go.Proofs.YtceedgflpkaclaaDoor.P
open Go.RowKit Go.Proofs.YtceedgflpkaclaaDoorW.PrintWords Go.Proofs.YtceedgflpkaclaaDoorW.PrintLast Go.Proofs.YtceedgflpkaclaaDoorW.PrintMore

def Opens {H:Type} (enc:TypeId×Value→H) (P:Program) (w:World) (base:Nat) (spare:Nat→Bool) (held:Bool) {α:Type} (d:Kd α) (ok:α→Prop) (t:TypeId):Prop :=
 ∀ fuel cs x,DataW.trod enc P w base spare held fuel t cs=some x→∃ a,d.K w a cs∧ok a
section
variable {H:Type} {enc:TypeId×Value→H} {P:Program} {w:World} {base:Nat} {spare:Nat→Bool} {held:Bool} {t e:TypeId}
theorem opens_string (ht:P.underlying t=some .string):Opens enc P w base spare held Kd.string (fun s=>s.size≤maxLen) t:=by
 intro fuel cs x h
 obtain ⟨s,rfl,_,hw⟩:=DataW.trod_string ht h
 exact ⟨s,rfl,hw⟩
theorem list_of {α:Type} (p:Nat→α→Prop):∀ n,(∀ i,i<n→∃ a,p i a)→∃ l:List α,l.length=n∧∀ i a,l[i]?=some a→p i a
 | 0,_=>⟨[],rfl,fun i a h=>by simp at h⟩
 | n+1,h=>by
  obtain ⟨l,hl,hp⟩:=list_of p n (fun i hi=>h i (by omega))
  obtain ⟨a,ha⟩:=h n (by omega)
  refine ⟨l++[a],by simp [hl],fun i b hb=>?_⟩
  rw [List.getElem?_append] at hb
  split at hb
  ·exact hp i b hb
  ·rename_i hi
   have:i=n:=by
    have:=(List.getElem?_eq_some_iff.1 hb).1
    simp at this
    omega
   subst this
   simp [hl] at hb
   subst hb
   exact ha
theorem opens_slice {α:Type} {d:Kd α} {ok:α→Prop} (ht:P.underlying t=some (.slice e)) (hc:P.cellsOf e=d.sz) (he:Opens enc P w base spare held d ok e) :
  Opens enc P w base spare held (Kd.slice e d) (fun l=>l.length≤maxLen∧∀ a∈l,ok a) t:=by
 intro fuel cs x h
 rcases DataW.trod_slice ht h with ⟨rfl,_⟩|⟨a,len,cap,elems,rest,n,_,rfl,_,hb,hl,hm,hlen,hel,_,_⟩
 ·exact ⟨[],⟨none,0,rfl,Nat.le_refl _,Kd.C_nil d w⟩,by simp,fun a ha=>by simp at ha⟩
 ·obtain ⟨l,hll,hp⟩:=list_of (fun i (b:α)=>∃ c,c.length=d.sz∧d.K w b c∧ok b∧∀ j u,c[j]?=some u→w.cell? (a.add (i*d.sz+j))=some u) len (by
   intro i hi
   have h1:=hel i hi
   rw [hc] at h1
   have h2:i<elems.length:=by omega
   rw [List.getElem?_eq_getElem h2] at h1
   obtain ⟨c,hcs,hct⟩:=Option.bind_eq_some_iff.1 h1
   obtain ⟨b,hK,hok⟩:=he _ _ _ hct
   obtain ⟨_,hcl,hcell⟩:=World.cells?_some hcs
   refine ⟨b,c,hcl,hK,hok,fun j u hj=>?_⟩
   have hjl:j<d.sz:=by rw [← hcl];exact (List.getElem?_eq_some_iff.1 hj).1
   have h3:=hcell j hjl
   rw [hj] at h3
   rw [← h3,Addr.add_add])
  refine ⟨l,⟨some a,cap,by rw [hll],by omega,?_⟩,by omega,?_⟩
  ·refine ⟨rfl,by unfold maxLen at hm;omega,fun _=>⟨a,rfl,fun j p hj=>?_⟩⟩
   obtain ⟨c,h1,h2,_,h3⟩:=hp j p hj
   exact ⟨c,h1,h2,h3⟩
  ·intro b hb
   obtain ⟨i,hi⟩:=List.getElem?_of_mem hb
   obtain ⟨_,_,_,h3,_⟩:=hp i b hi
   exact h3
theorem opened_slice {α:Type} {d:Kd α} {ok:List α→Prop} (hs:Opens enc P w base spare held (Kd.slice e d) ok t) {a:Option Addr} {len cap:Nat} {x:DataW H} {ps:List MemPlace}
  (h:DataW.Trod enc P w base spare held t (.slice a len cap) x ps):∃ l:List α,len=l.length∧d.C w a l.length l∧l.length≤cap∧ok l:=by
 obtain ⟨fuel,hf⟩:=h
 obtain ⟨l,⟨A,c,hcs,hle,hC⟩,ho⟩:=hs _ _ _ hf
 simp [Value.cells] at hcs
 obtain ⟨rfl,rfl,rfl⟩:=hcs
 exact ⟨l,rfl,hC,hle,ho⟩
end
end Go.Proofs.YtceedgflpkaclaaDoor.P
