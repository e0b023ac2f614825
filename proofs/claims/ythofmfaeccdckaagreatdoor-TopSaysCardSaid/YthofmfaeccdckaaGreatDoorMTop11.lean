/- What these functions of the program compute, and plain lemmas on it. Conditions: as each lemma says. -/
import Derived.Test.YthofmfaeccdckaaGreatDoorMTop10
import Derived.Deep.WholeRow
import Derived.Deep.MidRow
import Derived.Deep.OwnRows
import Derived.Deep.RegionHeld3
import Derived.Deep.DrawnRows
import Derived.Test.YthofmfaeccdckaaGreatDoorMTop1
import Derived.Test.YthofmfaeccdckaaGreatDoorMTop2
import Derived.Test.YthofmfaeccdckaaGreatDoorMTop5
import Derived.Test.YthofmfaeccdckaaGreatDoorMTop4
import Derived.Test.YthofmfaeccdckaaGreatDoorMTop3
import Derived.Test.YthofmfaeccdckaaGreatDoorMTop9
import Derived.Shelf.SlSortCmp.WholeK
import Derived.Test.YthofmfaeccdckaaGreatDoorProg
import Derived.Test.YthofmfaeccdckaaGreatDoorMTop8
import Derived.Lib.OwnBridge
import Derived.Lib.AppendIntMem
import Derived.Test.YthofmfaeccdckaaGreatDoorMTop6
set_option linter.unusedVariables false
set_option linter.unusedSimpArgs false
set_option maxHeartbeats 40000000
set_option maxRecDepth 20000
namespace Go.Proofs.YthofmfaeccdckaaGreatDoor.P
open Go.RowKit Go.Proofs.YthofmfaeccdckaaGreatDoorW.PrintWords Go.Proofs.YthofmfaeccdckaaGreatDoorW.PrintLast Go.Proofs.YthofmfaeccdckaaGreatDoorW.PrintMore
attribute [local go_sem ↓] Go.wp_at_zero Go.wp_at_succ
theorem skip_ {P:Program} {ops:Array Oper} {Q:Exit→Act→World→Prop} {oi:Oper} {a:Act} {w w1:World} {K:Act→World→Prop} (hw:Region.wanted oi (yielded ops a.tmps)=true) (hN:oi.dst=none) (hrun:(execOp a.eval oi).run P w=.ok .skip w1)
 (h:K (a.put none undef) w1):if Region.wanted oi (yielded ops a.tmps)=true then Oper.wp P oi a w K Q else K (a.put none undef) w:=by
 rw [if_pos hw]
 unfold Oper.wp
 rw [hrun]
 show K (a.put oi.dst undef) w1
 rw [hN]
 exact h
def upd (f:Nat→Int) (i:Nat) (v:Int):Nat→Int:=fun j=>if j=i then v else f j
def rowF (w:World) (b:Nat) (t:TypeId) (n:Nat) (f:Nat→Int):Prop:=w.rowIs b t n (fun i=>.int .u32 (f i))
def swordB (s:ByteArray) (t:Nat):Nat→Int
 | 0=>0
 | n+1=>Go.bits .or .u32 (IntKind.u32.wrap (swordB s t n*256)) (bt s ((4*t+n:Nat):Int))
theorem rowF_cell {w:World} {b:Nat} {t:TypeId} {n:Nat} {f:Nat→Int} (h:rowF w b t n f) {i:Nat} (hi:i<n):w.cell? ⟨b,i,none⟩=some (.int .u32 (f i)):=World.rowIs.cell h hi
theorem rowF_frozen {w:World} {b:Nat} {t:TypeId} {n:Nat} {f:Nat→Int} (h:rowF w b t n f) (i:Nat):w.frozen? ⟨b,i,none⟩=false:=World.rowIs.frozen h i
theorem rowF_congr {w:World} {b:Nat} {t:TypeId} {n:Nat} {f g:Nat→Int} (h:rowF w b t n f) (e:∀ i,i<n→f i=g i):rowF w b t n g:=World.rowIs.congr h (fun i hi=>by rw [e i hi])
theorem rowF_set {w:World} {b:Nat} {t:TypeId} {n:Nat} {f:Nat→Int} (h:rowF w b t n f) (i:Nat) (v:Int):rowF (w.setCell ⟨b,i,none⟩ (.int .u32 v)) b t n (upd f i v) :=
 World.rowIs.congr (World.rowIs.set h i (.int .u32 v)) (fun j _=>by unfold upd;split<;>rfl)
theorem rowF_drew {w:World} {b:Nat} {t:TypeId} {n:Nat} {f:Nat→Int} (h:rowF w b t n f):rowF w.drew b t n f:=h
def headF (s:ByteArray) (k:Nat):Nat→Int:=fun j=>if j<k then swordB s j 4 else 0
theorem headF_start (s:ByteArray) (k i:Nat):headF s k i=upd (headF s k) k (swordB s k 0) i:=by
 unfold upd
 by_cases h:i=k
 ·subst h;rw [if_pos rfl];unfold headF;rw [if_neg (by omega)];rfl
 ·rw [if_neg h]
theorem headF_next (s:ByteArray) (k i:Nat):upd (headF s k) k (swordB s k 4) i=headF s (k+1) i:=by
 unfold upd headF
 by_cases h:i=k
 ·subst h;rw [if_pos rfl,if_pos (by omega)]
 ·rw [if_neg h]
  by_cases h2:i<k
  ·rw [if_pos h2,if_pos (by omega)]
  ·rw [if_neg h2,if_neg (by omega)]
def sigW (x:Int) (a b:Nat) (c:Int):Int:=Go.bits .xor .u32 (Go.bits .xor .u32 (turnI x a) (turnI x b)) (x/c)
def stepW (f:Nat→Int) (t:Nat):Int :=
 IntKind.u32.wrap (IntKind.u32.wrap (IntKind.u32.wrap (sigW (f (t-2)) 17 19 1024+f (t-7))+sigW (f (t-15)) 7 18 8)+f (t-16))
def spreadF (s:ByteArray):Nat→Nat→Int
 | 0=>headF s 16
 | n+1=>upd (spreadF s n) (n+16) (stepW (spreadF s n) (n+16))
theorem spread_step (s:ByteArray) (t m15 m2 m7 m16:Nat) (x y z7 z16:Int) (ht:16≤t)
 (h:spreadF s (t-16) m15=x∧spreadF s (t-16) m2=y∧spreadF s (t-16) m7=z7∧spreadF s (t-16) m16=z16∧m15=t-15∧m2=t-2∧m7=t-7∧m16=t-16) (i:Nat) :
 upd (spreadF s (t-16)) t (IntKind.u32.wrap (IntKind.u32.wrap (IntKind.u32.wrap (Go.bits .xor .u32 (Go.bits .xor .u32 (turnI y 17) (turnI y 19)) (y/1024)+z7)+Go.bits .xor .u32 (Go.bits .xor .u32 (turnI x 7) (turnI x 18)) (x/8))+z16)) i=spreadF s (t+1-16) i:=by
 obtain ⟨rfl,rfl,rfl,rfl,rfl,rfl,rfl,rfl⟩:=h
 rw [show t+1-16=(t-16)+1 by omega,spreadF,show t-16+16=t by omega]
 rfl
def spreadV (s:ByteArray):Array Value:=cells32 ((List.range 64).map (spreadF s 48))
theorem results_cell_mid {P:Program} {fn:Func} {p:Tmp} {ty:TypeId} (h:fn.results=#[.cell p ty]) (tmps:Array Value) (w:World) (b:Nat) (cs:List Value) (d:TypeDesc)
 (hp:tmps.getD p undef=.pointer (some ⟨b,0,none⟩)) (hc:w.rangeAt b 0 cs) (hu:P.underlying ty=some d) (hd:d.isRow=true) (hi:(P.info? ty).map (·.size)=some cs.length) :
 (results fn tmps).run P w=.ok (.agg cs.toArray) w:=by
 have hp':tmps[p]?.getD undef=.pointer (some ⟨b,0,none⟩):=by simpa using hp
 simp [results,h,hp',asAddr,run_loadVar_mid w b 0 ty cs d hc hu hd hi]
theorem below_setCells {B:Nat} {w:World}:∀ (cs:List Value) (o:Nat) (w':World),Below B w w'→Below B w (w'.setCells B o cs)
 | [],_,_,h=>h
 | v::cs,o,_,h=>below_setCells cs (o+1) _ (h.setCell (p:=⟨B,o,none⟩) (Nat.le_refl B) v)
set_option maxRecDepth 100000 in
theorem spread_any (s:ByteArray) (w:World) (hs:64≤s.size) (hs2:s.size≤9223372036854775807) :
 Calls Tryz.prog 238 #[.string s] w fun e w'=>e=.returned (.agg (spreadV s))∧Below w.heap.size w w':=by
 go_in
 go_wp2
 go_loopw [9] (fun i wr=>∃ k:Nat,k≤16∧i=.int .i64 k∧rowF wr (w.heap.size+1) 255 64 (headF s k)∧rowF wr w.heap.size 255 64 (fun _=>0)∧Aside0 (Below w.heap.size w wr)) (fun i _=>16-(intOf i).toNat)
 case atStart =>
  refine ⟨0,by omega,rfl,?_,?_,⟨((Below.refl _ _).alloc (Nat.le_refl _) _).alloc (by simp) _⟩⟩
  ·have h:=World.rowIs_alloc (w.alloc (.cells (Array.replicate 64 (Value.int .u32 0)) 255)) (Array.replicate 64 (Value.int .u32 0)) 255 (fun i=>.int .u32 (headF s 0 i)) (by intro i hi;simp at hi;simp [hi,headF])
   rw [Array.size_replicate] at h
   have hz:(w.alloc (.cells (Array.replicate 64 (Value.int .u32 0)) 255)).heap.size=w.heap.size+1:=by simp
   rw [hz] at h
   exact h
  ·have hz2:=World.rowIs_alloc w (Array.replicate 64 (Value.int .u32 0)) 255 (fun _=>.int .u32 0) (by intro i hi;simp at hi;simp [hi])
   rw [Array.size_replicate] at hz2
   exact World.rowIs.alloc hz2 _
 case round =>
  obtain ⟨k,hk,rfl,ho,hr0,hb⟩:=hrel
  by_cases hlt:k<16
  ·go_wp2
   go_loopw [12] (fun i wi=>∃ j:Nat,j≤4∧i=.int .i64 j∧rowF wi (w.heap.size+1) 255 64 (upd (headF s k) k (swordB s k j))∧rowF wi w.heap.size 255 64 (fun _=>0)∧Aside0 (Below w.heap.size w wi)) (fun i _=>4-(intOf i).toNat)
   case atStart=>exact ⟨0,by omega,rfl,rowF_congr ho (fun i _=>headF_start s k i),hr0,hb⟩
   case round =>
    obtain ⟨j,hj,rfl,hi,hq1,hbi⟩:=hrel
    by_cases hj4:j<4
    ·have hc:=rowF_cell hi (i:=k) (by omega)
     rw [show upd (headF s k) k (swordB s k j) k=swordB s k j by simp [upd]] at hc
     have hf:=rowF_frozen hi k
     have b0:(0:Int)≤(k:Int):=by omega
     have b1:(k:Int)<64:=by omega
     obtain ⟨m,hm⟩:∃ m:Nat,m=4*k+j:=⟨_,rfl⟩
     have hw1:IntKind.i64.wrap (4*(k:Int))=4*(k:Int):=(i64_w _).trans (by unfold wrap64;omega)
     have hw2:IntKind.i64.wrap (4*(k:Int)+(j:Int))=(m:Int):=(i64_w _).trans (by unfold wrap64;omega)
     have hmlt:m<s.size:=by omega
     have HM:=am hm
     clear hm
     have hx:(s[m].toNat:Int)=bt s m:=bt_at s m hmlt
     have HX:=am hx
     clear hx
     have hr1:IntKind.u32.wrap (s[m].toNat:Int)=(s[m].toNat:Int):=by rw [IntKind.wrap_u32];have:=s[m].toNat_lt;omega
     go_wp2
     go_region
     go_wp2
     go_roundw
     case rel =>
      refine ⟨j+1,by omega,by go_num,?_,rowF_drew (World.rowIs.setOther hq1 (Nat.ne_of_lt (Nat.lt_succ_self w.heap.size)) _),⟨below_drew (hbi.out.setCell (by simp) _)⟩⟩
      have h2:=rowF_drew (rowF_set hi k (Go.bits .or .u32 (IntKind.u32.wrap (swordB s k j*256)) (s[m].toNat:Int)))
      refine rowF_congr h2 (fun i _=>?_)
      unfold upd
      by_cases e:i=k
      ·rw [if_pos e,if_pos e,swordB,HX.out,HM.out]
      ·rw [if_neg e,if_neg e,if_neg e]
     case measure=>simp [intOf];omega
    ·obtain rfl:j=4:=by omega
     go_wp2
     go_roundw
     case rel=>exact ⟨k+1,by omega,by go_num,rowF_congr hi (fun i _=>headF_next s k i),hq1,hbi⟩
     case measure=>simp [intOf];omega
  ·have hk16:k=16:=by omega
   rw [hk16] at ho
   clear hk16
   go_wp2
   go_loopw [6] (fun i wr=>∃ t:Nat,16≤t∧t≤64∧i=.int .i64 t∧rowF wr (w.heap.size+1) 255 64 (spreadF s (t-16))∧rowF wr w.heap.size 255 64 (fun _=>0)∧Aside0 (Below w.heap.size w wr)) (fun i _=>64-(intOf i).toNat)
   case atStart=>exact ⟨16,by omega,by omega,rfl,ho,hr0,hb⟩
   case round =>
    clear ho hb hr0
    obtain ⟨t,ht16,ht,rfl,ho,hr0,hb⟩:=hrel
    by_cases hlt2:t<64
    ·obtain ⟨m15,h15⟩:∃ m:Nat,m=t-15:=⟨_,rfl⟩
     obtain ⟨m2,h2⟩:∃ m:Nat,m=t-2:=⟨_,rfl⟩
     obtain ⟨m7,h7⟩:∃ m:Nat,m=t-7:=⟨_,rfl⟩
     obtain ⟨m16,h16⟩:∃ m:Nat,m=t-16:=⟨_,rfl⟩
     have w15:IntKind.i64.wrap ((t:Int)-15)=(m15:Int):=(i64_w _).trans (by unfold wrap64;omega)
     have w2:IntKind.i64.wrap ((t:Int)-2)=(m2:Int):=(i64_w _).trans (by unfold wrap64;omega)
     have w7:IntKind.i64.wrap ((t:Int)-7)=(m7:Int):=(i64_w _).trans (by unfold wrap64;omega)
     have w16:IntKind.i64.wrap ((t:Int)-16)=(m16:Int):=(i64_w _).trans (by unfold wrap64;omega)
     have c15:=rowF_cell ho (i:=m15) (by omega)
     have c2:=rowF_cell ho (i:=m2) (by omega)
     have c7:=rowF_cell ho (i:=m7) (by omega)
     have c16:=rowF_cell ho (i:=m16) (by omega)
     obtain ⟨x,hx⟩:∃ x,spreadF s (t-16) m15=x:=⟨_,rfl⟩
     obtain ⟨y,hy⟩:∃ y,spreadF s (t-16) m2=y:=⟨_,rfl⟩
     obtain ⟨z7,hz7⟩:∃ y,spreadF s (t-16) m7=y:=⟨_,rfl⟩
     obtain ⟨z16,hz16⟩:∃ y,spreadF s (t-16) m16=y:=⟨_,rfl⟩
     rw [hx] at c15
     rw [hy] at c2
     rw [hz7] at c7
     rw [hz16] at c16
     have hft:=rowF_frozen ho t
     have hct:=rowF_cell ho hlt2
     obtain ⟨old,hold⟩:∃ y,spreadF s (t-16) t=y:=⟨_,rfl⟩
     rw [hold] at hct
     clear hold
     have b0:(0:Int)≤(t:Int):=by omega
     have b1:(t:Int)<64:=by omega
     have b15:(0:Int)≤(m15:Int):=by omega
     have b15':(m15:Int)<64:=by omega
     have b2:(0:Int)≤(m2:Int):=by omega
     have b2':(m2:Int)<64:=by omega
     have b7:(0:Int)≤(m7:Int):=by omega
     have b7':(m7:Int)<64:=by omega
     have b16:(0:Int)≤(m16:Int):=by omega
     have b16':(m16:Int)<64:=by omega
     have n7:¬ m7=t:=by omega
     have n16:¬ m16=t:=by omega
     have n7r:¬ t=m7:=by omega
     have n16r:¬ t=m16:=by omega
     have HF:=am (⟨hx,hy,hz7,hz16,h15,h2,h7,h16⟩:spreadF s (t-16) m15=x∧spreadF s (t-16) m2=y∧spreadF s (t-16) m7=z7∧spreadF s (t-16) m16=z16∧m15=t-15∧m2=t-2∧m7=t-7∧m16=t-16)
     clear hx hy hz7 hz16 h15 h2 h7 h16
     go_wp2
     refine start_ (n:=10) (S:=fun w'=>w'.cell? ⟨w.heap.size+1,m15,none⟩=some (.int .u32 x)∧w'.cell? ⟨w.heap.size+1,m2,none⟩=some (.int .u32 y)) (ds:=[]) #[false,false,false,false,false,false,false,false,false,false] (by kernel_rfl) rfl rfl ⟨c15,c2⟩ (fun hHeld=>?_)
     refine pure_ (i:=0) (N:=some 35) (v:=?_) (a':=?_) #[true,false,false,false,false,false,false,false,false,false] rfl rfl (by kernel_rfl) (fun _ _ _ h=>h) (Or.inl ⟨by rfl,?_⟩) ?_ ?_
     rotate_left
     ·intro w'
      go_simp
      with_reducible rfl
     rotate_left
     ·simp only [nm]
      rfl
     refine pure_ (i:=1) (N:=some 36) (v:=?_) (a':=?_) #[true,true,false,false,false,false,false,false,false,false] rfl rfl (by kernel_rfl) (fun _ _ _ h=>h) (Or.inl ⟨by rfl,?_⟩) ?_ ?_
     rotate_left
     ·intro w'
      go_simp
      with_reducible rfl
     rotate_left
     ·simp only [nm]
      rfl
     refine pure_ (i:=2) (N:=some 37) (v:=?_) (a':=?_) #[true,true,true,false,false,false,false,false,false,false] rfl rfl (by kernel_rfl) (fun _ _ _ h=>h) (Or.inl ⟨by rfl,?_⟩) ?_ ?_
     rotate_left
     ·intro w'
      go_simp
      with_reducible rfl
     rotate_left
     ·simp only [nm]
      rfl
     refine pure_ (i:=4) (N:=some 39) (v:=?_) (a':=?_) #[true,true,true,false,true,false,false,false,false,false] rfl rfl (by kernel_rfl) (fun _ _ _ h=>h) (Or.inl ⟨by rfl,?_⟩) ?_ ?_
     rotate_left
     ·intro w'
      go_simp
      with_reducible rfl
     rotate_left
     ·simp only [nm]
      rfl
     refine pure_ (i:=5) (N:=some 40) (v:=?_) (a':=?_) #[true,true,true,false,true,true,false,false,false,false] rfl rfl (by kernel_rfl) (fun _ _ _ h=>h) (Or.inl ⟨by rfl,?_⟩) ?_ ?_
     rotate_left
     ·intro w'
      go_simp
      with_reducible rfl
     rotate_left
     ·simp only [nm]
      rfl
     refine pure_ (i:=6) (N:=some 41) (v:=?_) (a':=?_) #[true,true,true,false,true,true,true,false,false,false] rfl rfl (by kernel_rfl) (fun _ _ _ h=>h) (Or.inl ⟨by rfl,?_⟩) ?_ ?_
     rotate_left
     ·intro w'
      go_simp
      with_reducible rfl
     rotate_left
     ·simp only [nm]
      rfl
     refine take_ (i:=3) (N:=some 38) (v:=?_) (a':=?_) #[true,true,true,true,true,true,true,false,false,false] rfl rfl (by kernel_rfl) (fun _ _ _ h=>h) (Or.inl ⟨by rfl,?_⟩) hHeld ?_ ?_
     rotate_left
     ·rintro w' ⟨s0,s1⟩
      go_simp
      with_reducible rfl
     rotate_left
     ·simp only [nm]
      rfl
     refine pure_ (i:=8) (N:=some 7) (v:=?_) (a':=?_) #[true,true,true,true,true,true,true,false,true,false] rfl rfl (by kernel_rfl) (fun _ _ _ h=>h) (Or.inl ⟨by rfl,?_⟩) ?_ ?_
     rotate_left
     ·intro w'
      go_simp
      with_reducible rfl
     rotate_left
     ·simp only [nm]
      rfl
     refine take_ (i:=7) (N:=some 42) (v:=?_) (a':=?_) #[true,true,true,true,true,true,true,true,true,false] rfl rfl (by kernel_rfl) (fun _ _ _ h=>h) (Or.inl ⟨by rfl,?_⟩) hHeld ?_ ?_
     rotate_left
     ·rintro w' ⟨s0,s1⟩
      go_simp
      with_reducible rfl
     rotate_left
     ·simp only [nm]
      rfl
     refine pure_ (i:=9) (N:=some 8) (v:=?_) (a':=?_) #[true,true,true,true,true,true,true,true,true,true] rfl rfl (by kernel_rfl) (fun _ _ _ h=>h) (Or.inl ⟨by rfl,?_⟩) ?_ ?_
     rotate_left
     ·intro w'
      go_simp
      with_reducible rfl
     rotate_left
     ·simp only [nm]
      rfl
     refine done_ (by kernel_rfl) ?_
     go_wp2
     refine start_ (n:=30) (S:=fun w'=>w'.cell? ⟨w.heap.size+1,m7,none⟩=some (.int .u32 z7)∧w'.cell? ⟨w.heap.size+1,m16,none⟩=some (.int .u32 z16)) (ds:=[29]) #[false,false,false,false,false,false,false,false,false,false,false,false,false,false,false,false,false,false,false,false,false,false,false,false,false,false,false,false,false,false] (by kernel_rfl) rfl rfl ⟨c7,c16⟩ (fun hHeld=>?_)
     refine pure_ (i:=0) (N:=some 43) (v:=?_) (a':=?_) #[true,false,false,false,false,false,false,false,false,false,false,false,false,false,false,false,false,false,false,false,false,false,false,false,false,false,false,false,false,false] rfl rfl (by kernel_rfl) (fun _ _ _ h=>h) (Or.inl ⟨by rfl,?_⟩) ?_ ?_
     rotate_left
     ·intro w'
      go_simp
      with_reducible rfl
     rotate_left
     ·simp only [nm]
      rfl
     refine pure_ (i:=1) (N:=some 44) (v:=?_) (a':=?_) #[true,true,false,false,false,false,false,false,false,false,false,false,false,false,false,false,false,false,false,false,false,false,false,false,false,false,false,false,false,false] rfl rfl (by kernel_rfl) (fun _ _ _ h=>h) (Or.inl ⟨by rfl,?_⟩) ?_ ?_
     rotate_left
     ·intro w'
      go_simp
      with_reducible rfl
     rotate_left
     ·simp only [nm]
      rfl
     refine pure_ (i:=3) (N:=some 46) (v:=?_) (a':=?_) #[true,true,false,true,false,false,false,false,false,false,false,false,false,false,false,false,false,false,false,false,false,false,false,false,false,false,false,false,false,false] rfl rfl (by kernel_rfl) (fun _ _ _ h=>h) (Or.inl ⟨by rfl,?_⟩) ?_ ?_
     rotate_left
     ·intro w'
      go_simp
      with_reducible rfl
     rotate_left
     ·simp only [nm]
      rfl
     refine pure_ (i:=6) (N:=some 49) (v:=?_) (a':=?_) #[true,true,false,true,false,false,true,false,false,false,false,false,false,false,false,false,false,false,false,false,false,false,false,false,false,false,false,false,false,false] rfl rfl (by kernel_rfl) (fun _ _ _ h=>h) (Or.inl ⟨by rfl,?_⟩) ?_ ?_
     rotate_left
     ·intro w'
      go_simp
      with_reducible rfl
     rotate_left
     ·simp only [nm]
      rfl
     refine pure_ (i:=7) (N:=some 50) (v:=?_) (a':=?_) #[true,true,false,true,false,false,true,true,false,false,false,false,false,false,false,false,false,false,false,false,false,false,false,false,false,false,false,false,false,false] rfl rfl (by kernel_rfl) (fun _ _ _ h=>h) (Or.inl ⟨by rfl,?_⟩) ?_ ?_
     rotate_left
     ·intro w'
      go_simp
      with_reducible rfl
     rotate_left
     ·simp only [nm]
      rfl
     refine pure_ (i:=9) (N:=some 52) (v:=?_) (a':=?_) #[true,true,false,true,false,false,true,true,false,true,false,false,false,false,false,false,false,false,false,false,false,false,false,false,false,false,false,false,false,false] rfl rfl (by kernel_rfl) (fun _ _ _ h=>h) (Or.inl ⟨by rfl,?_⟩) ?_ ?_
     rotate_left
     ·intro w'
      go_simp
      with_reducible rfl
     rotate_left
     ·simp only [nm]
      rfl
     refine pure_ (i:=10) (N:=some 53) (v:=?_) (a':=?_) #[true,true,false,true,false,false,true,true,false,true,true,false,false,false,false,false,false,false,false,false,false,false,false,false,false,false,false,false,false,false] rfl rfl (by kernel_rfl) (fun _ _ _ h=>h) (Or.inl ⟨by rfl,?_⟩) ?_ ?_
     rotate_left
     ·intro w'
      go_simp
      with_reducible rfl
     rotate_left
     ·simp only [nm]
      rfl
     refine pure_ (i:=11) (N:=some 54) (v:=?_) (a':=?_) #[true,true,false,true,false,false,true,true,false,true,true,true,false,false,false,false,false,false,false,false,false,false,false,false,false,false,false,false,false,false] rfl rfl (by kernel_rfl) (fun _ _ _ h=>h) (Or.inl ⟨by rfl,?_⟩) ?_ ?_
     rotate_left
     ·intro w'
      go_simp
      with_reducible rfl
     rotate_left
     ·simp only [nm]
      rfl
     refine pure_ (i:=14) (N:=some 57) (v:=?_) (a':=?_) #[true,true,false,true,false,false,true,true,false,true,true,true,false,false,true,false,false,false,false,false,false,false,false,false,false,false,false,false,false,false] rfl rfl (by kernel_rfl) (fun _ _ _ h=>h) (Or.inl ⟨by rfl,?_⟩) ?_ ?_
     rotate_left
     ·intro w'
      go_simp
      with_reducible rfl
     rotate_left
     ·simp only [nm]
      rfl
     refine pure_ (i:=16) (N:=some 59) (v:=?_) (a':=?_) #[true,true,false,true,false,false,true,true,false,true,true,true,false,false,true,false,true,false,false,false,false,false,false,false,false,false,false,false,false,false] rfl rfl (by kernel_rfl) (fun _ _ _ h=>h) (Or.inl ⟨by rfl,?_⟩) ?_ ?_
     rotate_left
     ·intro w'
      go_simp
      with_reducible rfl
     rotate_left
     ·simp only [nm]
      rfl
     refine pure_ (i:=19) (N:=some 62) (v:=?_) (a':=?_) #[true,true,false,true,false,false,true,true,false,true,true,true,false,false,true,false,true,false,false,true,false,false,false,false,false,false,false,false,false,false] rfl rfl (by kernel_rfl) (fun _ _ _ h=>h) (Or.inl ⟨by rfl,?_⟩) ?_ ?_
     rotate_left
     ·intro w'
      go_simp
      with_reducible rfl
     rotate_left
     ·simp only [nm]
      rfl
     refine pure_ (i:=20) (N:=some 63) (v:=?_) (a':=?_) #[true,true,false,true,false,false,true,true,false,true,true,true,false,false,true,false,true,false,false,true,true,false,false,false,false,false,false,false,false,false] rfl rfl (by kernel_rfl) (fun _ _ _ h=>h) (Or.inl ⟨by rfl,?_⟩) ?_ ?_
     rotate_left
     ·intro w'
      go_simp
      with_reducible rfl
     rotate_left
     ·simp only [nm]
      rfl
     refine pure_ (i:=23) (N:=some 66) (v:=?_) (a':=?_) #[true,true,false,true,false,false,true,true,false,true,true,true,false,false,true,false,true,false,false,true,true,false,false,true,false,false,false,false,false,false] rfl rfl (by kernel_rfl) (fun _ _ _ h=>h) (Or.inl ⟨by rfl,?_⟩) ?_ ?_
     rotate_left
     ·intro w'
      go_simp
      with_reducible rfl
     rotate_left
     ·simp only [nm]
      rfl
     refine pure_ (i:=24) (N:=some 67) (v:=?_) (a':=?_) #[true,true,false,true,false,false,true,true,false,true,true,true,false,false,true,false,true,false,false,true,true,false,false,true,true,false,false,false,false,false] rfl rfl (by kernel_rfl) (fun _ _ _ h=>h) (Or.inl ⟨by rfl,?_⟩) ?_ ?_
     rotate_left
     ·intro w'
      go_simp
      with_reducible rfl
     rotate_left
     ·simp only [nm]
      rfl
     refine pure_ (i:=25) (N:=some 68) (v:=?_) (a':=?_) #[true,true,false,true,false,false,true,true,false,true,true,true,false,false,true,false,true,false,false,true,true,false,false,true,true,true,false,false,false,false] rfl rfl (by kernel_rfl) (fun _ _ _ h=>h) (Or.inl ⟨by rfl,?_⟩) ?_ ?_
     rotate_left
     ·intro w'
      go_simp
      with_reducible rfl
     rotate_left
     ·simp only [nm]
      rfl
     refine take_ (i:=12) (N:=some 55) (v:=?_) (a':=?_) #[true,true,false,true,false,false,true,true,false,true,true,true,true,false,true,false,true,false,false,true,true,false,false,true,true,true,false,false,false,false] rfl rfl (by kernel_rfl) (fun _ _ _ h=>h) (Or.inl ⟨by rfl,?_⟩) hHeld ?_ ?_
     rotate_left
     ·rintro w' ⟨s0,s1⟩
      go_simp
      with_reducible rfl
     rotate_left
     ·simp only [nm]
      rfl
     refine take_ (i:=26) (N:=some 69) (v:=?_) (a':=?_) #[true,true,false,true,false,false,true,true,false,true,true,true,true,false,true,false,true,false,false,true,true,false,false,true,true,true,true,false,false,false] rfl rfl (by kernel_rfl) (fun _ _ _ h=>h) (Or.inl ⟨by rfl,?_⟩) hHeld ?_ ?_
     rotate_left
     ·rintro w' ⟨s0,s1⟩
      go_simp
      with_reducible rfl
     rotate_left
     ·simp only [nm]
      rfl
     refine one_ (i:=2) (N:=some 45) #[true,true,true,true,false,false,true,true,false,true,true,true,true,false,true,false,true,false,false,true,true,false,false,true,true,true,true,false,false,false] rfl rfl (by kernel_rfl) (by decide) (fun K hK=>?_)
     refine gv #[.int .u32 y,.int .i64 17] ?_
     with_reducible refine (tu17 y _).mono ?_
     rintro e w' ⟨rfl,rfl⟩
     refine ⟨_,rfl,?_⟩
     refine hK.out _ _ hHeld (fun hHeld=>?_)
     clear hK K
     refine nv 45 ?_
     refine one_ (i:=4) (N:=some 47) #[true,true,true,true,true,false,true,true,false,true,true,true,true,false,true,false,true,false,false,true,true,false,false,true,true,true,true,false,false,false] rfl rfl (by kernel_rfl) (by decide) (fun K hK=>?_)
     refine gv #[.int .u32 y,.int .i64 19] ?_
     with_reducible refine (tu19 y _).mono ?_
     rintro e w' ⟨rfl,rfl⟩
     refine ⟨_,rfl,?_⟩
     refine hK.out _ _ hHeld (fun hHeld=>?_)
     clear hK K
     refine nv 47 ?_
     refine pure_ (i:=5) (N:=some 48) (v:=?_) (a':=?_) #[true,true,true,true,true,true,true,true,false,true,true,true,true,false,true,false,true,false,false,true,true,false,false,true,true,true,true,false,false,false] rfl rfl (by kernel_rfl) (fun _ _ _ h=>h) (Or.inl ⟨by rfl,?_⟩) ?_ ?_
     rotate_left
     ·intro w'
      go_simp
      with_reducible rfl
     rotate_left
     ·simp only [nm]
      rfl
     refine pure_ (i:=8) (N:=some 51) (v:=?_) (a':=?_) #[true,true,true,true,true,true,true,true,true,true,true,true,true,false,true,false,true,false,false,true,true,false,false,true,true,true,true,false,false,false] rfl rfl (by kernel_rfl) (fun _ _ _ h=>h) (Or.inl ⟨by rfl,?_⟩) ?_ ?_
     rotate_left
     ·intro w'
      go_simp
      with_reducible rfl
     rotate_left
     ·simp only [nm]
      rfl
     refine pure_ (i:=13) (N:=some 56) (v:=?_) (a':=?_) #[true,true,true,true,true,true,true,true,true,true,true,true,true,true,true,false,true,false,false,true,true,false,false,true,true,true,true,false,false,false] rfl rfl (by kernel_rfl) (fun _ _ _ h=>h) (Or.inl ⟨by rfl,?_⟩) ?_ ?_
     rotate_left
     ·intro w'
      go_simp
      with_reducible rfl
     rotate_left
     ·simp only [nm]
      rfl
     refine one_ (i:=15) (N:=some 58) #[true,true,true,true,true,true,true,true,true,true,true,true,true,true,true,true,true,false,false,true,true,false,false,true,true,true,true,false,false,false] rfl rfl (by kernel_rfl) (by decide) (fun K hK=>?_)
     refine gv #[.int .u32 x,.int .i64 7] ?_
     with_reducible refine (tu7 x _).mono ?_
     rintro e w' ⟨rfl,rfl⟩
     refine ⟨_,rfl,?_⟩
     refine hK.out _ _ hHeld (fun hHeld=>?_)
     clear hK K
     refine nv 58 ?_
     refine one_ (i:=17) (N:=some 60) #[true,true,true,true,true,true,true,true,true,true,true,true,true,true,true,true,true,true,false,true,true,false,false,true,true,true,true,false,false,false] rfl rfl (by kernel_rfl) (by decide) (fun K hK=>?_)
     refine gv #[.int .u32 x,.int .i64 18] ?_
     with_reducible refine (tu18 x _).mono ?_
     rintro e w' ⟨rfl,rfl⟩
     refine ⟨_,rfl,?_⟩
     refine hK.out _ _ hHeld (fun hHeld=>?_)
     clear hK K
     refine nv 60 ?_
     refine pure_ (i:=18) (N:=some 61) (v:=?_) (a':=?_) #[true,true,true,true,true,true,true,true,true,true,true,true,true,true,true,true,true,true,true,true,true,false,false,true,true,true,true,false,false,false] rfl rfl (by kernel_rfl) (fun _ _ _ h=>h) (Or.inl ⟨by rfl,?_⟩) ?_ ?_
     rotate_left
     ·intro w'
      go_simp
      with_reducible rfl
     rotate_left
     ·simp only [nm]
      rfl
     refine pure_ (i:=21) (N:=some 64) (v:=?_) (a':=?_) #[true,true,true,true,true,true,true,true,true,true,true,true,true,true,true,true,true,true,true,true,true,true,false,true,true,true,true,false,false,false] rfl rfl (by kernel_rfl) (fun _ _ _ h=>h) (Or.inl ⟨by rfl,?_⟩) ?_ ?_
     rotate_left
     ·intro w'
      go_simp
      with_reducible rfl
     rotate_left
     ·simp only [nm]
      rfl
     refine pure_ (i:=22) (N:=some 65) (v:=?_) (a':=?_) #[true,true,true,true,true,true,true,true,true,true,true,true,true,true,true,true,true,true,true,true,true,true,true,true,true,true,true,false,false,false] rfl rfl (by kernel_rfl) (fun _ _ _ h=>h) (Or.inl ⟨by rfl,?_⟩) ?_ ?_
     rotate_left
     ·intro w'
      go_simp
      with_reducible rfl
     rotate_left
     ·simp only [nm]
      rfl
     refine pure_ (i:=27) (N:=some 70) (v:=?_) (a':=?_) #[true,true,true,true,true,true,true,true,true,true,true,true,true,true,true,true,true,true,true,true,true,true,true,true,true,true,true,true,false,false] rfl rfl (by kernel_rfl) (fun _ _ _ h=>h) (Or.inl ⟨by rfl,?_⟩) ?_ ?_
     rotate_left
     ·intro w'
      go_simp
      with_reducible rfl
     rotate_left
     ·simp only [nm]
      rfl
     refine pure_ (i:=28) (N:=some 71) (v:=?_) (a':=?_) #[true,true,true,true,true,true,true,true,true,true,true,true,true,true,true,true,true,true,true,true,true,true,true,true,true,true,true,true,true,false] rfl rfl (by kernel_rfl) (fun _ _ _ h=>h) (Or.inl ⟨by rfl,?_⟩) ?_ ?_
     rotate_left
     ·intro w'
      go_simp
      with_reducible rfl
     rotate_left
     ·simp only [nm]
      rfl
     refine last_ (i:=29) (N:=none) #[true,true,true,true,true,true,true,true,true,true,true,true,true,true,true,true,true,true,true,true,true,true,true,true,true,true,true,true,true,true] rfl rfl (by kernel_rfl) (by decide) (fun K hK=>?_)
     refine skip_ (w1:=?_) (by rfl) rfl ?_ ?_
     rotate_left
     ·go_simp
      rfl
     refine hK.out _ _ ?_
     clear hK K
     refine norm_ (a':=?_) ?_ ?_
     rotate_left
     ·show Act.put _ (none) _=_
      simp only [nm]
      rfl
     refine done_ (by kernel_rfl) ?_
     go_wp2
     go_roundw
     case rel =>
      exact ⟨t+1,by omega,by omega,by go_num,rowF_congr (rowF_drew (rowF_drew (rowF_set ho t _))) (fun i _=>spread_step s t m15 m2 m7 m16 x y z7 z16 ht16 HF.out i),rowF_drew (rowF_drew (World.rowIs.setOther hr0 (Nat.ne_of_lt (Nat.lt_succ_self w.heap.size)) _)),⟨below_drew (below_drew (Below.setCell hb.out (Nat.le_succ w.heap.size) _))⟩⟩
     case measure=>simp [intOf];omega
    ·have ht64:t=64:=by omega
     rw [ht64] at ho
     clear ht64
     obtain ⟨cs,hcs⟩:∃ cs,(List.range 64).map (fun i=>Value.int .u32 (spreadF s 48 i))=cs:=⟨_,rfl⟩
     have hlen:cs.length=64:=by rw [← hcs];simp
     have hra:wr.rangeAt (w.heap.size+1) 0 cs:=by
      intro j v hv
      have hj:j<64:=by have:=(List.getElem?_eq_some_iff.1 hv).1;omega
      rw [Nat.zero_add,rowF_cell ho hj,← hv,← hcs]
      simp [hj]
     have hth:wr.there w.heap.size 0 64:=fun j hj=>by
      rw [Nat.zero_add,rowF_cell hr0 hj,rowF_frozen hr0 j]
      exact ⟨rfl,rfl⟩
     have hone:cs.toArray.all (·.oneCell')=true:=all_oneCell_toArray (fun v hv=>by
      rw [← hcs] at hv
      obtain ⟨i,_,rfl⟩:=List.mem_map.1 hv
      rfl)
     have hinf:(Tryz.prog.info? 255).map (·.size)=some cs.length:=by rw [hlen];kernel_rfl
     have hinf2:(Tryz.prog.info? 255).map (·.size)=some cs.toArray.size:=by rw [List.size_toArray];exact hinf
     have hB2:Below w.heap.size w (wr.setCells w.heap.size 0 cs):=below_setCells cs 0 wr hb.out
     have hra2:(wr.setCells w.heap.size 0 cs).rangeAt w.heap.size 0 cs:=World.rangeAt_setCells_same wr w.heap.size 0 cs (by rw [hlen];exact hth)
     have HALL:=am (⟨hra,hth,hone,hinf,hinf2,hB2,hra2,hlen,hcs⟩:wr.rangeAt (w.heap.size+1) 0 cs∧wr.there w.heap.size 0 64∧cs.toArray.all (·.oneCell')=true∧(Tryz.prog.info? 255).map (·.size)=some cs.length∧(Tryz.prog.info? 255).map (·.size)=some cs.toArray.size∧Below w.heap.size w (wr.setCells w.heap.size 0 cs)∧(wr.setCells w.heap.size 0 cs).rangeAt w.heap.size 0 cs∧cs.length=64∧(List.range 64).map (fun i=>Value.int .u32 (spreadF s 48 i))=cs)
     clear hra hth hone hinf hinf2 hB2 hra2 hlen hcs ho hr0 hb
     go_wp2_with (refine wpList_load_mid rfl 255 (.tmp 3) rfl (w.heap.size+1) 0 rfl cs _ HALL.out.1 Tryz.underlying255 rfl HALL.out.2.2.2.1 ?_;simp only [Act.put,List.setIfInBounds_toArray,List.set_cons_zero,List.set_cons_succ];refine wpList_store_mid rfl 255 (.tmp 2) (.tmp 72) rfl w.heap.size 0 cs.toArray rfl rfl ?hth HALL.out.2.2.2.2.1 HALL.out.2.2.1 ?_)
     case hth=>rw [List.size_toArray,HALL.out.2.2.2.2.2.2.2.1];exact HALL.out.2.1
     refine bodyPost_ret (v:=.agg cs.toArray) (results_cell_mid Tryz.results238 _ _ w.heap.size cs _ rfl HALL.out.2.2.2.2.2.2.1 Tryz.underlying255 rfl HALL.out.2.2.2.1) rfl ⟨?_,HALL.out.2.2.2.2.2.1⟩
     rw [← HALL.out.2.2.2.2.2.2.2.2]
     simp [spreadV,cells32]
def waysL:List Value:=[.string (⟨#[]⟩:ByteArray),.nilFunc,.string (⟨#[62]⟩:ByteArray),.func (.func 222) #[] #[],.string (⟨#[62,61]⟩:ByteArray),.func (.func 223) #[] #[],.string (⟨#[60]⟩:ByteArray),.func (.func 224) #[] #[],.string (⟨#[60,61]⟩:ByteArray),.func (.func 225) #[] #[],.string (⟨#[61,61]⟩:ByteArray),.func (.func 226) #[] #[]]
theorem ways_any (w:World):Calls Tryz.prog 180 #[] w fun e w'=>e=.returned (.agg waysL.toArray)∧Below w.heap.size w w':=by
 have hf:=fun (a:Addr) (f:FuncId) (m:Mode) (W2:World)=>run_store Tryz.prog W2 a (.func (.func f) #[] #[]) m rfl
 have hn:=fun (a:Addr) (m:Mode) (W2:World)=>run_store Tryz.prog W2 a .nilFunc m rfl
 go_in
 go_wp2_with (((with_reducible refine bv 0 #[.string (⟨#[]⟩:ByteArray),.nilFunc,.string (⟨#[]⟩:ByteArray),.nilFunc,.string (⟨#[]⟩:ByteArray),.nilFunc,.string (⟨#[]⟩:ByteArray),.nilFunc,.string (⟨#[]⟩:ByteArray),.nilFunc,.string (⟨#[]⟩:ByteArray),.nilFunc] 217 ?_);intro gk hgb w1 hbox hb;have z0:w1.cell? ⟨gk,0,none⟩=some (.string (⟨#[]⟩:ByteArray)):=bz hbox 0 rfl;have f0:=blk_frozen hbox 0;have z1:w1.cell? ⟨gk,1,none⟩=some (.nilFunc):=bz hbox 1 rfl;have f1:=blk_frozen hbox 1;have z2:w1.cell? ⟨gk,2,none⟩=some (.string (⟨#[]⟩:ByteArray)):=bz hbox 2 rfl;have f2:=blk_frozen hbox 2;have z3:w1.cell? ⟨gk,3,none⟩=some (.nilFunc):=bz hbox 3 rfl;have f3:=blk_frozen hbox 3;have z4:w1.cell? ⟨gk,4,none⟩=some (.string (⟨#[]⟩:ByteArray)):=bz hbox 4 rfl;have f4:=blk_frozen hbox 4;have z5:w1.cell? ⟨gk,5,none⟩=some (.nilFunc):=bz hbox 5 rfl;have f5:=blk_frozen hbox 5;have z6:w1.cell? ⟨gk,6,none⟩=some (.string (⟨#[]⟩:ByteArray)):=bz hbox 6 rfl;have f6:=blk_frozen hbox 6;have z7:w1.cell? ⟨gk,7,none⟩=some (.nilFunc):=bz hbox 7 rfl;have f7:=blk_frozen hbox 7;have z8:w1.cell? ⟨gk,8,none⟩=some (.string (⟨#[]⟩:ByteArray)):=bz hbox 8 rfl;have f8:=blk_frozen hbox 8;have z9:w1.cell? ⟨gk,9,none⟩=some (.nilFunc):=bz hbox 9 rfl;have f9:=blk_frozen hbox 9;have z10:w1.cell? ⟨gk,10,none⟩=some (.string (⟨#[]⟩:ByteArray)):=bz hbox 10 rfl;have f10:=blk_frozen hbox 10;have z11:w1.cell? ⟨gk,11,none⟩=some (.nilFunc):=bz hbox 11 rfl;have f11:=blk_frozen hbox 11;have HX1:=am hbox;have HB1:=am hb;have HG1:=am hgb;clear hb hbox hgb))
 have hend:(((((((((((((w1.setCell ⟨gk,0,none⟩ (.string (⟨#[]⟩:ByteArray))).setCell ⟨gk,1,none⟩ (.nilFunc)).setCell ⟨gk,2,none⟩ (.string (⟨#[62]⟩:ByteArray))).setCell ⟨gk,3,none⟩ (.func (.func 222) #[] #[])).setCell ⟨gk,4,none⟩ (.string (⟨#[62,61]⟩:ByteArray))).setCell ⟨gk,5,none⟩ (.func (.func 223) #[] #[])).setCell ⟨gk,6,none⟩ (.string (⟨#[60]⟩:ByteArray))).setCell ⟨gk,7,none⟩ (.func (.func 224) #[] #[])).setCell ⟨gk,8,none⟩ (.string (⟨#[60,61]⟩:ByteArray))).setCell ⟨gk,9,none⟩ (.func (.func 225) #[] #[])).setCell ⟨gk,10,none⟩ (.string (⟨#[61,61]⟩:ByteArray))).setCell ⟨gk,11,none⟩ (.func (.func 226) #[] #[]))).heap[gk]?=some (.cells #[.string (⟨#[]⟩:ByteArray),.nilFunc,.string (⟨#[62]⟩:ByteArray),.func (.func 222) #[] #[],.string (⟨#[62,61]⟩:ByteArray),.func (.func 223) #[] #[],.string (⟨#[60]⟩:ByteArray),.func (.func 224) #[] #[],.string (⟨#[60,61]⟩:ByteArray),.func (.func 225) #[] #[],.string (⟨#[61,61]⟩:ByteArray),.func (.func 226) #[] #[]] 217 (0,0)):=by rw [(blk_set (blk_set (blk_set (blk_set (blk_set (blk_set (blk_set (blk_set (blk_set (blk_set (blk_set (blk_set HX1.out 0 _) 1 _) 2 _) 3 _) 4 _) 5 _) 6 _) 7 _) 8 _) 9 _) 10 _) 11 _)];simp only [nm]
 obtain ⟨w2,hw2⟩:∃ w2,w2=((((((((((((w1.setCell ⟨gk,0,none⟩ (.string (⟨#[]⟩:ByteArray))).setCell ⟨gk,1,none⟩ (.nilFunc)).setCell ⟨gk,2,none⟩ (.string (⟨#[62]⟩:ByteArray))).setCell ⟨gk,3,none⟩ (.func (.func 222) #[] #[])).setCell ⟨gk,4,none⟩ (.string (⟨#[62,61]⟩:ByteArray))).setCell ⟨gk,5,none⟩ (.func (.func 223) #[] #[])).setCell ⟨gk,6,none⟩ (.string (⟨#[60]⟩:ByteArray))).setCell ⟨gk,7,none⟩ (.func (.func 224) #[] #[])).setCell ⟨gk,8,none⟩ (.string (⟨#[60,61]⟩:ByteArray))).setCell ⟨gk,9,none⟩ (.func (.func 225) #[] #[])).setCell ⟨gk,10,none⟩ (.string (⟨#[61,61]⟩:ByteArray))).setCell ⟨gk,11,none⟩ (.func (.func 226) #[] #[])):=⟨_,rfl⟩
 rw [← hw2] at hend ⊢
 have hr:w2.rangeAt gk 0 waysL:=fun j v hj=>by rw [Nat.zero_add,blk_cell hend];show waysL.toArray[j]?=some v;rw [List.getElem?_toArray];exact hj
 refine bodyPost_ret (results_cell_mid rfl _ _ gk waysL _ rfl hr Tryz.underlying217 rfl (by kernel_rfl)) rfl ?_
 rw [hw2]
 exact ⟨rfl,(below_set (below_set (below_set (below_set (below_set (below_set (below_set (below_set (below_set (below_set (below_set (below_set HB1.out (Nat.le_of_eq HG1.out.symm)) (Nat.le_of_eq HG1.out.symm)) (Nat.le_of_eq HG1.out.symm)) (Nat.le_of_eq HG1.out.symm)) (Nat.le_of_eq HG1.out.symm)) (Nat.le_of_eq HG1.out.symm)) (Nat.le_of_eq HG1.out.symm)) (Nat.le_of_eq HG1.out.symm)) (Nat.le_of_eq HG1.out.symm)) (Nat.le_of_eq HG1.out.symm)) (Nat.le_of_eq HG1.out.symm)) (Nat.le_of_eq HG1.out.symm))⟩
def PrT (s:ByteArray):Prop:=∀ b∈s.data.toList,33≤b.toNat∧b.toNat≤126∧b.toNat≠59
theorem way_index (how:Int) (h1:1≤how) (h5:how≤5):∃ (sg:ByteArray) (fv:Value),(∀ w,(Instr.index 217 (.agg waysL.toArray) (.int .i64 how)).run Tryz.prog w=.ok (.agg #[.string sg,fv]) w)∧(∀ w,(Instr.field 216 (.agg #[.string sg,fv]) 0).run Tryz.prog w=.ok (.string sg) w)∧PrT sg∧sg.size≤2∧1≤sg.size:=by
 rcases (by omega:how=1∨how=2∨how=3∨how=4∨how=5) with rfl|rfl|rfl|rfl|rfl
 all_goals
  refine ⟨_,_,fun w=>by simp [Instr.index,run_underlying Tryz.underlying217,asIntOf,go_sem,waysL];exact ⟨rfl,rfl⟩,fun w=>by simp [Instr.field,asAgg,run_underlying Tryz.underlying216,go_sem],?_,?_,?_⟩
  all_goals first|decide|(unfold PrT;decide)
theorem R_addr {α:Type} {d:Kd α} {e base:Nat} {ok:Nat→Prop} {w:World} {A:Option Addr} {n c:Nat} {xs:List α} (h:d.R e w base ok (.slice A n c) xs) (hn:0<n):∃ g,A=some ⟨g,0,none⟩∧base≤g:=by
 obtain ⟨inner,ho⟩:=Kd.R_own h
 obtain ⟨_,⟨h1,_⟩|⟨g,cap,cur,h1,hb,_⟩⟩:=ho
 ·injection h1 with h1 h2 h3
  omega
 ·injection h1 with h1 h2 h3
  exact ⟨g,h1,hb⟩
theorem prT_pr {s:ByteArray} (h:PrT s):Pr s:=fun b hb=>by have:=h b hb;exact ⟨by omega,this.2.1,this.2.2⟩
theorem rule_parts {x:S44} (h:ruleB x=true):(bwordB x.f0=true∧bwordB x.f1=true)∧(1≤x.f2∧x.f2≤5)∧(-1099511627776≤x.f3∧x.f3≤1099511627776)∧(0≤x.f4∧x.f4≤1099511627776)∧(0≤x.f5∧x.f5≤1099511627776)∧(1≤x.f6∧x.f6≤10)∧x.f7.length≤4∧setB x.f7=true:=by
 unfold ruleB timeB at h
 simp only [Bool.and_eq_true,decide_eq_true_eq] at h
 obtain ⟨⟨⟨⟨⟨⟨⟨⟨⟨a0,a1⟩,a2⟩,a3⟩,⟨⟨⟨a4,a5⟩,a6,a7⟩,a8⟩,a9⟩,b0⟩,b1⟩,b2⟩,b3⟩,_⟩:=h
 exact ⟨⟨a0,a1⟩,⟨a2,a3⟩,⟨b0,b1⟩,⟨a4,a5⟩,⟨a6,a7⟩,⟨a8,a9⟩,by omega,b3⟩
theorem ints_at {w:World} {g:Nat} {a b c d:Int} (h:w.heap[g]?=some (.cells #[.int .i64 a,.int .i64 b,.int .i64 c,.int .i64 d] 3 (0,0))) (i:Nat) (hi:i<4):w.cell? ⟨g,i,none⟩=some (.int .i64 ([a,b,c,d].getD i 0)):=by
 rcases (by omega:i=0∨i=1∨i=2∨i=3) with rfl|rfl|rfl|rfl
 all_goals exact (blk_cell h _).trans rfl
theorem ints_snoc (l:List Int) (i:Nat) (hi:i<l.length):(l.take (i+1)).map numT=(l.take i).map numT++[numT (l.getD i 0)]:=by
 rw [List.take_add_one,List.map_append,List.getElem?_eq_getElem hi,List.getD_eq_getElem?_getD,List.getElem?_eq_getElem hi]
 rfl
theorem rwords_any (x:S44) (hr:ruleB x=true) (hz:SetSz x.f7) (W:World) (hM:MKeysIn W) (hP:PKeys W) (cs:List Value) (hk:k44.K W x cs):Calls Tryz.prog 109 #[.agg cs.toArray] W fun e W'=>(∃ g c sg s,e=.returned (.tuple #[.slice (some ⟨g,0,none⟩) 8 c,.int .i64 0])∧8≤c∧Kd.C Kd.string W' (some ⟨g,0,none⟩) 8 [x.f0,x.f1,sg,numT x.f3,numT x.f4,numT x.f5,numT x.f6,s]∧PrT sg∧sg.size≤2∧1≤sg.size)∧Below W.heap.size W W':=by
 obtain ⟨_,p2,p3,p4,p5,p6,p7,p8⟩:=rule_parts hr
 obtain ⟨A7,c7,rfl,l7,g7⟩:=k44_open hk
 have b1:=fun W2 (hb:Below W.heap.size W W2)=>rright_any x A7 c7 W2 hz l7 (Kd.C_below g7 hb)
 rw [hr] at b1
 have b2:=fun W2 (hb:Below W.heap.size W W2)=>ltext_any x.f7 p8 hz A7 c7 W2 (mkeys_step hM hb) (Kd.C_below g7 hb) l7
 obtain ⟨sg,fv,hix,hfd,hp,hs2,hs1⟩:=way_index x.f2 p2.1 p2.2
 have B1:=am b1
 have B2:=am b2
 have HPK:=am hP
 have HSG:=am (And.intro hp (And.intro hs2 hs1))
 have HNS:Aside0 (∀ i:Nat,-9223372036854775808≤[x.f3,x.f4,x.f5,x.f6].getD i 0∧[x.f3,x.f4,x.f5,x.f6].getD i 0≤9223372036854775807):=⟨fun i=>by
  match i with
  | 0=>show -9223372036854775808≤x.f3∧x.f3≤9223372036854775807;omega
  | 1=>show -9223372036854775808≤x.f4∧x.f4≤9223372036854775807;omega
  | 2=>show -9223372036854775808≤x.f5∧x.f5≤9223372036854775807;omega
  | 3=>show -9223372036854775808≤x.f6∧x.f6≤9223372036854775807;omega
  | i+4=>show (-9223372036854775808:Int)≤0∧(0:Int)≤9223372036854775807;omega⟩
 clear b1 b2 hr hz hM hP g7 hk p2 p3 p4 p5 p6 p7 p8 hp hs2 hs1
 show Calls Tryz.prog 109 #[.agg #[.string x.f0,.string x.f1,.int .i64 x.f2,.int .i64 x.f3,.int .i64 x.f4,.int .i64 x.f5,.int .i64 x.f6,.slice A7 x.f7.length c7]] W _
 go_in
 go_upto_region 4 with (first|((with_reducible refine bv 1 #[.string x.f0,.string x.f1,.int .i64 x.f2,.int .i64 x.f3,.int .i64 x.f4,.int .i64 x.f5,.int .i64 x.f6,.slice A7 x.f7.length c7] 44 ?_);intro gb hgb w1 hbox hb;obtain ⟨y0,y1,y2,y3,y4,y5,y6,y7⟩:=cc8 hbox;have HX1:=am hbox;have HB1:=am hb;have HG1:=am hgb;clear hb hbox hgb)|(go_at_call 13;refine (B1.out _ HB1.out).mono ?_;rintro e w2 ⟨rfl,hb⟩;have HB2:=bS HB1 hb;have HX2:=bB HX1 hb;have z7:w2.cell? ⟨gb,7,none⟩=some (.slice A7 x.f7.length c7):=bz HX2.out 7 rfl;clear hb)|(go_at_call 179;refine (B2.out _ HB2.out).mono ?_;rintro e w3 ⟨⟨s7,rfl⟩,hb⟩;have HB3:=bS HB2 hb;have HX3:=bB HX2 hb;clear hb))
 have HBs:=am (below_drew HB3.out)
 have HXs:=am (blk_drew HX3.out)
 refine sv 11 (fun w'=>w'.cell? ⟨gb,0,none⟩=some (.string x.f0)∧w'.cell? ⟨gb,1,none⟩=some (.string x.f1)∧w'.cell? ⟨gb,2,none⟩=some (.int .i64 x.f2)) [] ⟨bz HXs.out 0 rfl,bz HXs.out 1 rfl,bz HXs.out 2 rfl⟩ fun hHeld=>?_
 refine pv 0 18 ?_
 refine pv 2 20 ?_
 refine pv 5 23 ?_
 refine tv 1 19 ?_
 refine tv 3 21 ?_
 refine tv 6 24 ?_
 refine ov 4 22 fun K hK=>?_
 refine gv #[] ?_
 refine (ways_any _).mono ?_
 rintro e w4 ⟨rfl,hb⟩
 have HB4:=bS HBs hb
 have HX4:=bB HXs hb
 clear hb
 refine ⟨_,rfl,?_⟩
 refine hK.out _ _ ⟨bz HX4.out 0 rfl,bz HX4.out 1 rfl,bz HX4.out 2 rfl⟩ (fun hHeld=>?_)
 clear hK K
 refine nv 22 ?_
 refine pv 7 25 ?_
 refine pv 8 26 ?_
 refine ov 9 27 fun K hK=>?_
 refine lit_ (cs:=#[.string x.f0,.string x.f1,.string sg]) (t:=9) (n:=3) (by rfl) rfl (by first|(go_simp;done)|(go_simp;rfl)) ?_
 intro gl hgl w5 hx hb
 have HB5:=bS HB4 hb
 have HL5:=am hx
 have HX5:=bB HX4 hb
 have HGL:Aside0 (W.heap.size≤gl):=⟨by rw [hgl];exact HB4.out.size⟩
 clear hgl hx hb
 refine hK.out _ _ ⟨bz HX5.out 0 rfl,bz HX5.out 1 rfl,bz HX5.out 2 rfl⟩ (fun hHeld=>?_)
 clear hK K
 refine nv 27 ?_
 refine pv 10 6 ?_
 refine done_ (by kernel_rfl) ?_
 have hro:Kd.R Kd.string 9 w5 W.heap.size (fun _=>True) (.slice (some ⟨gl,0,none⟩) 3 3) [x.f0,x.f1,sg]:=R_lits Kd.string HL5.out HGL.out (by simp) (Kd.reps_scalar [x.f0,x.f1,sg])
 have HRO:=am hro
 clear hro hix hfd
 obtain ⟨-,-,-,v3,v4,v5,v6⟩:=cc7 HX5.out
 go_wp2_with (first|((with_reducible refine lv 36 #[.int .i64 x.f3,.int .i64 x.f4,.int .i64 x.f5,.int .i64 x.f6] 3 4 ?_);intro gi hgb w6 hbox hb;have HX6:=am hbox;have HL6:=bB HL5 hb;have HRO6:=am (Kd.R_below HRO.out hb);have HB6:=bS HB5 hb;clear hb hbox hgb))
 clear v3 v4 v5 v6
 go_loopw [6,38] (fun o u wr=>∃ (i:Nat) (ss:List ByteArray),u=.int .i64 i∧Aside0 (i≤4)∧Aside0 (Kd.R Kd.string 9 wr W.heap.size (fun _=>True) o ss)∧Aside0 (ss=[x.f0,x.f1,sg]++([x.f3,x.f4,x.f5,x.f6].take i).map numT)∧Aside0 (Below W.heap.size W wr)∧Aside0 (wr.heap[gi]?=some (.cells #[.int .i64 x.f3,.int .i64 x.f4,.int .i64 x.f5,.int .i64 x.f6] 3 (0,0)))) (fun _ u _=>4-(intOf u).toNat)
 case atStart=>exact ⟨0,[x.f0,x.f1,sg],rfl,⟨by decide⟩,HRO6,⟨rfl⟩,HB6,HX6⟩
 case round =>
  obtain ⟨i,ss,rfl,HI,HO,HC,HB,HX⟩:=hrel
  obtain ⟨Ao,co,ec,hlc,hco⟩:=Kd.R_reads HO.out
  subst ec
  have hll:ss.length≤7:=by rw [HC.out];simp only [List.length_append,List.length_map,List.length_take,List.length_cons,List.length_nil];omega
  have HLL:=am hll
  clear hlc hco hll
  by_cases hlt:i<4
  ·have hx:=ints_at HX.out i hlt
   have hni:=HNS.out i
   have hsn:=ints_snoc [x.f3,x.f4,x.f5,x.f6] i hlt
   generalize [x.f3,x.f4,x.f5,x.f6].getD i 0=n at *
   have b1:decide ((i:Int)<4)=true:=decide_eq_true (by omega)
   have HNI:=am hni
   have HSN:=am hsn
   clear hni hsn
   have hw1:wrap64 ((i:Int)+1)=((i+1:Nat):Int):=by unfold wrap64;omega
   have HW1:=am hw1
   have HLT:=am hlt
   clear hw1
   go_wp2_with (first|((with_reducible refine gate_builtin (b:=.append) (xs:=#[.tmp 42,.tmp 45]) rfl ?_);at_builtin;go_loud (refine Kd.R_append Kd.string (w0:=W) W.heap.size rfl (.tmp 42) (.tmp 45) 24 9 (.string (⟨#[]⟩:ByteArray)) 16 rfl Tryz.underlying24 (by kernel_rfl) rfl (by decide) (by omega) (.slice Ao ss.length co) ss (numT n) [.string (numT n)] (fun _=>True) (fun _=>False) rfl (by first|rfl|(go_simp;done)|(go_simp;rfl)) ?aP ?aK ?aF ?aO ?aB ?aS ?aL ?_);(case aP=>exact rfl);(case aK=>exact fun _ hk=>hk.elim);(case aF=>exact fun _ _=>trivial);(case aO=>exact HR8.out);(case aB=>exact HB8.out);(case aS=>exact HB8.out.size);(case aL=>have:=HLL.out;omega);intro v1 wa ho hb hg hat;have HR9:=am ho;have HB9:=am hb;have HX9:=am (blk_grown HX8.out hg (Kd.R_ne HR8.out HX8.out (by decide)));clear ho hb hg hat)|(go_at_call 181;refine (itoa_any n HNI.out.1 HNI.out.2 _ (pkeys_step HPK.out HB.out)).mono ?_;rintro e w8 ⟨rfl,hb⟩;have HB8:=bS HB hb;have HR8:=am (Kd.R_below HO.out hb);have HX8:=bB HX hb;clear hb))
   go_roundw
   case rel=>exact ⟨i+1,_,by first|exact congrArg (Value.int .i64) HW1.out|rfl,⟨HLT.out⟩,HR9,⟨by rw [HC.out,HSN.out,List.append_assoc]⟩,HB9,HX9⟩
   case measure=>first|exact meas_wrap rfl HLT.out HW1.out|exact meas_plain HLT.out
  ·obtain rfl:i=4:=by have:=HI.out;omega
   have b1:decide ((4:Int)<4)=false:=by decide
   go_wp2_with (first|((with_reducible refine gate_builtin (b:=.append) (xs:=#[.tmp 48,.tmp 50]) rfl ?_);at_builtin;go_loud (refine Kd.R_append Kd.string (w0:=W) W.heap.size rfl (.tmp 48) (.tmp 50) 24 9 (.string (⟨#[]⟩:ByteArray)) 16 rfl Tryz.underlying24 (by kernel_rfl) rfl (by decide) (by omega) (.slice Ao ss.length co) ss s7 [.string s7] (fun _=>True) (fun _=>False) rfl (by first|rfl|(go_simp;done)|(go_simp;rfl)) ?aP ?aK ?aF ?aO ?aB ?aS ?aL ?_);(case aP=>exact rfl);(case aK=>exact fun _ hk=>hk.elim);(case aF=>exact fun _ _=>trivial);(case aO=>exact HO.out);(case aB=>exact HB.out);(case aS=>exact HB.out.size);(case aL=>have:=HLL.out;omega);intro v1 wa ho hb hg hat;obtain ⟨Av,cv,ev,hlv,hcv⟩:=Kd.R_reads ho;subst ev;obtain ⟨gv,rfl,_⟩:=R_addr ho (by simp);have HCV:=am hcv;have HLV:=am hlv;have HB9:=am hb;clear ho hb hg hat hcv hlv))
   go_ret2
   have hss:=HC.out
   subst hss
   exact ⟨⟨gv,cv,sg,s7,rfl,HLV.out,HCV.out,HSG.out.1,HSG.out.2.1,HSG.out.2.2⟩,HB9.out⟩
def kI:Kd (TypeId×Value):=Kd.scalar (fun p=>.iface p.1 p.2) (fun _=>rfl)
theorem C_str {w:World} {g o:Nat} {xs:List ByteArray} (hm:xs.length≤9223372036854775807) (h:∀ j,j<xs.length→w.cell? ⟨g,o+j,none⟩=some (.string (wd xs j))):Kd.C Kd.string w (some ⟨g,o,none⟩) xs.length xs :=
 ⟨rfl,hm,fun _=>⟨_,rfl,fun j p hj=>⟨[.string p],rfl,rfl,fun i u hu=>by
  have hl:j<xs.length:=(List.getElem?_eq_some_iff.1 hj).1
  have hi:i=0:=by
   have:=(List.getElem?_eq_some_iff.1 hu).1
   simp at this
   exact this
  subst hi
  have hp:wd xs j=p:=by unfold wd;rw [List.getD_eq_getElem?_getD,hj];rfl
  simp at hu
  subst hu
  have h2:=h j hl
  rw [hp] at h2
  have e:(⟨g,o,none⟩:Addr).add (j*Kd.string.sz+0)=⟨g,o+j,none⟩:=by
   rw [Addr.add_mid]
   show (⟨g,o+(j*1+0),none⟩:Addr)=_
   rw [Nat.mul_one,Nat.add_zero]
  rw [e]
  exact h2⟩⟩⟩
theorem str_at {w:World} {g n:Nat} {xs:List ByteArray} (h:Kd.C Kd.string w (some ⟨g,0,none⟩) n xs) (j:Nat) (hj:j<n):w.cell? ⟨g,j,none⟩=some (.string (wd xs j)):=by
 obtain ⟨ad,e,hc⟩:=Kd.at_string h (j:Int) (by omega) (by omega)
 cases e
 rw [rd_wd,Int.toNat_natCast,Addr.add_mid,Nat.zero_add] at hc
 exact hc
theorem three_sz {a b c:ByteArray} (ha:a.size≤64) (hb:b.size≤2) (hc:c.size≤21):∀ j,j<[a,b,c].length→(wd [a,b,c] j).size≤64:=by
 intro j hj
 rcases (by simp at hj;omega:j=0∨j=1∨j=2) with rfl|rfl|rfl
 ·exact ha
 ·exact Nat.le_trans hb (by decide)
 ·exact Nat.le_trans hc (by decide)
theorem rowof_own {ok:Nat→Prop} {k base:Nat} {w:World} {A:Option Addr} {n c:Nat} {ps:List (TypeId×Value)} (h:kI.R 88 w base (fun _=>True) (.slice A n c) ps) (h16:n≤16) (hs:∀ p∈ps,SaidAt ok k w (.iface p.1 p.2)) (hok:∀ g,(Value.slice A n c).ownBlock=some g→ok g):RowOf ok (SaidAt ok k w) w A n:=by
 refine ⟨h16,fun i hi=>?_⟩
 have hn:=(Kd.R_reads' h).1
 obtain ⟨g,rfl,_⟩:=R_addr h (by omega)
 have hc:=(Kd.R_celln ((0,undef):TypeId×Value) h (i:Int) (by omega) (by omega)).1
 have hm:rdOf ((0,undef):TypeId×Value) ps (i:Int)∈ps:=by unfold rdOf;exact mem_rd (i:=(i:Int)) (by omega) (by omega)
 rw [Int.toNat_natCast] at hc
 exact ⟨g,_,rfl,hok g rfl,hc,hs _ hm⟩
theorem lab_said {ok:Nat→Prop} {w:World} {g k:Nat} {a b:ByteArray} (hb:w.heap[g]?=some (.cells #[.string (⟨#[110,97,109,101]⟩:ByteArray),.iface 154 (.string a),.string (⟨#[118,97,108,117,101]⟩:ByteArray),.iface 154 (.string b)] 90 (0,0))) (hg:ok g) (ha:owordB a=true) (hv:owordB b=true):SaidAt ok (k+2) w (.iface 85 (.slice (some ⟨g,0,none⟩) 2 2)):=by
 refine .inr (.inr ⟨_,_,_,rfl,by decide,[(⟨#[110,97,109,101]⟩:ByteArray),(⟨#[118,97,108,117,101]⟩:ByteArray)],rfl,by decide +kernel,fun i hi=>?_⟩)
 rcases (by omega:i=0∨i=1) with rfl|rfl
 ·exact ⟨g,_,rfl,hg,(blk_cell hb _).trans rfl,(blk_cell hb _).trans rfl,.inl ⟨_,rfl,ha⟩⟩
 ·exact ⟨g,_,rfl,hg,(blk_cell hb _).trans rfl,(blk_cell hb _).trans rfl,.inl ⟨_,rfl,hv⟩⟩
theorem set_words {l:List S105} (h:setB l=true):∀ i:Nat,i<l.length→owordB (rd_T105 l i).f0=true∧owordB (rd_T105 l i).f1=true:=by
 intro i hi
 have hs:=set_small h i hi
 unfold setB at h
 simp only [Bool.and_eq_true] at h
 have h0:=(upTo_iff _ _).1 h.1 i hi
 unfold setAt lmayB at h0
 simp only [Bool.and_eq_true] at h0
 refine ⟨oword_name h0.1.1,?_⟩
 have h2:=h0.1.2
 unfold valB at h2
 simp only [Bool.and_eq_true] at h2
 unfold owordB
 simp only [Bool.and_eq_true,decide_eq_true_eq]
 exact ⟨Nat.le_trans hs.2 (by decide),h2.2⟩
theorem prule_any (x:S44) (hr:ruleB x=true) (hz:SetSz x.f7) (W:World) (hM:MKeysIn W) (hP:PKeys W) (cs:List Value) (hk:k44.K W x cs):Calls Tryz.prog 46 #[.agg cs.toArray] W fun e W'=>(∃ g,e=.returned (.slice (some ⟨g,0,none⟩) 5 5)∧TabOf (fun g=>W.heap.size≤g) (SaidAt (fun g=>W.heap.size≤g) 5 W') W' (some ⟨g,0,none⟩) 5)∧Below W.heap.size W W':=by
 obtain ⟨p1,p2,p3,p4,p5,p6,p7,p8⟩:=rule_parts hr
 have b1:=fun W2 (hb:Below W.heap.size W W2)=>rwords_any x hr hz W2 (mkeys_step hM hb) (pkeys_step hP hb) cs (k44.K_below hb hk)
 obtain ⟨A7,c7,rfl,l7,g7⟩:=k44_open hk
 have B1:=am b1
 have HSW:=am (set_words p8)
 have H4:=am p7
 have HG7:=am g7
 have m7:(x.f7.length:Int)≤9223372036854775807:=by omega
 have HT:Aside0 (owordB x.f0=true∧owordB (numT x.f4)=true∧owordB (numT x.f5)=true):=⟨oword_bword p1.1,oword_of (pr_num _) (by have:=num_size (n:=x.f4) (by omega) (by omega);omega),oword_of (pr_num _) (by have:=num_size (n:=x.f5) (by omega) (by omega);omega)⟩
 have HJ1:Aside0 (Pr x.f1∧x.f1.size≤64∧(numT x.f3).size≤21):=⟨pr_bword p1.2,bword_sz p1.2,num_size (by omega) (by omega)⟩
 clear b1 hr hz hM hP g7 hk p1 p2 p3 p4 p5 p6 p7 p8
 show Calls Tryz.prog 46 #[.agg #[.string x.f0,.string x.f1,.int .i64 x.f2,.int .i64 x.f3,.int .i64 x.f4,.int .i64 x.f5,.int .i64 x.f6,.slice A7 x.f7.length c7]] W _
 go_in
 go_wp2_with (first|((with_reducible refine bv 1 #[.string x.f0,.string x.f1,.int .i64 x.f2,.int .i64 x.f3,.int .i64 x.f4,.int .i64 x.f5,.int .i64 x.f6,.slice A7 x.f7.length c7] 44 ?_);intro gb hgb w1 hbox hb;obtain ⟨y0,y1,y2,y3,y4,y5,y6,y7⟩:=cc8 hbox;have HX1:=am hbox;have HB1:=am hb;have HG1:=am hgb;clear hb hbox hgb)|(go_at_call 109;refine (B1.out _ HB1.out).mono ?_;rintro e wm ⟨⟨gw,cw,sg,s7,rfl,hcw,hcr,hsp,hs2,hs1⟩,hb⟩;have HCW:=am hcr;have HSG:=am (And.intro hsp (And.intro hs2 hs1));have HB2:=bS HB1 hb;have HX2:=bB HX1 hb;have z7:wm.cell? ⟨gb,7,none⟩=some (.slice A7 x.f7.length c7):=bz HX2.out 7 rfl;clear hb hcr hsp hs2 hs1))
 have HC7:=am (Kd.C_below HG7.out HB2.out)
 clear z7
 go_loopw [5,16] (fun o u wr=>∃ (i:Nat) (ps:List (TypeId×Value)),u=.int .i64 i∧Aside0 (i≤x.f7.length)∧Aside0 (kI.R 88 wr wm.heap.size (fun _=>True) o ps)∧Aside0 (ps.length=i)∧Aside0 (∀ p∈ps,SaidAt (fun g=>wm.heap.size≤g∧some g≠Value.ownBlock o) 4 wr (.iface p.1 p.2))∧Aside0 (Below wm.heap.size wm wr)) (fun _ u _=>x.f7.length-(intOf u).toNat)
 case atStart=>exact ⟨0,[],rfl,⟨Nat.zero_le _⟩,⟨Kd.R_nil _ _ _ _ _⟩,⟨rfl⟩,⟨fun _ h=>(by cases h)⟩,⟨Below.refl _ _⟩⟩
 case round =>
  obtain ⟨i,ps,rfl,HI,HO,HC,HSA,HB⟩:=hrel
  obtain ⟨Ao,co,rfl⟩:=Kd.R_slice HO.out
  by_cases hlt:i<x.f7.length
  ·have hyw:=HSW.out i hlt
   obtain ⟨ad,e_,hx0,hx1⟩:=at_T105 (Kd.C_below HC7.out HB.out) (i:Int) (by omega) (by omega)
   cases e_
   simp only [Int.toNat_natCast] at hx0 hx1
   generalize rd_T105 x.f7 (i:Int)=y at *
   have b1:decide ((i:Int)<(x.f7.length:Int))=true:=decide_eq_true (by omega)
   have HLL:Aside0 (ps.length≤4):=⟨by rw [HC.out];exact Nat.le_trans HI.out H4.out⟩
   have HYW:=am hyw
   clear hyw
   have hw1:wrap64 ((i:Int)+1)=((i+1:Nat):Int):=by unfold wrap64;omega
   have HW1:=am hw1
   have HLT:=am hlt
   clear hw1
   go_upto_region 6 with (((with_reducible refine bv 7 #[.string (⟨#[]⟩:ByteArray),.string (⟨#[]⟩:ByteArray)] 105 ?_);intro gk hgb w2 hbox hb;obtain ⟨y0,y1⟩:=cc2 hbox;have z0:=blk_frozen hbox 0;have z1:=blk_frozen hbox 1;have HX2:=am hbox;have HB2:=am hb;have HG2:=am hgb;clear hb hbox hgb))
   obtain ⟨W2,hW2⟩:∃ W2,W2=((w2.setCell ⟨gk,0,none⟩ (.string y.f0)).setCell ⟨gk,1,none⟩ (.string y.f1)):=⟨_,rfl⟩
   rw [← hW2]
   have HX3:Aside0 (W2.heap[gk]?=some (.cells #[.string y.f0,.string y.f1] 105 (0,0))):=⟨by rw [hW2,(blk_set (blk_set HX2.out 0 _) 1 _)];simp only [nm]⟩
   have HBr:Aside0 (Below wr.heap.size wr W2):=⟨by rw [hW2];exact (below_set (below_set HB2.out (by have:=HG2.out;omega)) (by have:=HG2.out;omega))⟩
   clear hW2 HX2 HB2 HG2 y0 z0 y1 z1 hx0 hx1
   obtain ⟨y0,y1⟩:=cc2 HX3.out
   have HGW:Aside0 (∀ g,g=W2.heap.size→wm.heap.size≤g):=⟨fun g e=>by rw [e];exact Nat.le_trans HB.out.size HBr.out.size⟩
   go_wp2_with (first|((with_reducible refine gate_builtin (b:=.append) (xs:=#[.tmp 20,.tmp 31]) rfl ?_);at_builtin;go_loud (refine Kd.R_append kI (w0:=wm) wm.heap.size rfl (.tmp 20) (.tmp 31) 83 88 .nilIface 16 rfl Tryz.underlying83 (by kernel_rfl) rfl (by decide) (by omega) (.slice Ao ps.length co) ps ((85,.slice (some ⟨gl,0,none⟩) 2 2):TypeId×Value) [.iface 85 (.slice (some ⟨gl,0,none⟩) 2 2)] (fun _=>True) (fun _=>False) rfl (by first|rfl|(go_simp;done)|(go_simp;rfl)) ?aP ?aK ?aF ?aO ?aB ?aS ?aL ?_);(case aP=>exact rfl);(case aK=>exact fun _ hk=>hk.elim);(case aF=>exact fun _ _=>trivial);(case aO=>exact Kd.R_below (Kd.R_below HO.out HBr.out) HB4_.out);(case aB=>exact below_step (below_step HB.out HBr.out) HB4_.out);(case aS=>exact (below_step (below_step HB.out HBr.out) HB4_.out).size);(case aL=>have:=HLL.out;omega);intro v1 wa ho hb hg hat;have hnew:∀ p∈ps++[((85,.slice (some ⟨gl,0,none⟩) 2 2):TypeId×Value)],SaidAt (fun g=>wm.heap.size≤g∧some g≠Value.ownBlock v1) 4 wa (.iface p.1 p.2):=(fun p hp=>SaidAt.after 4 ((List.mem_append.1 hp).elim (fun h=>SaidAt.below 4 (SaidAt.below 4 (HSA.out p h) HBr.out) HB4_.out) (fun h=>by rw [List.mem_singleton.1 h];exact lab_said (k:=2) HX4.out ⟨HGW.out gl HGL.out,fun e=>by have h1:=Kd.R_lt HO.out gl e.symm;have h2:=HGL.out;have h3:=HBr.out.size;omega⟩ HYW.out.1 HYW.out.2)) hg hat);have HSN:=am hnew;have HR5:=am ho;have HB5:=am hb;clear ho hb hg hat hnew)|((with_reducible refine lv 29 #[.string (⟨#[110,97,109,101]⟩:ByteArray),.iface 154 (.string y.f0),.string (⟨#[118,97,108,117,101]⟩:ByteArray),.iface 154 (.string y.f1)] 90 2 ?_);intro gl hgb w4 hbox hb;have HX4:=am hbox;have HGL:=am hgb;have HB4_:=am hb;clear hb hbox hgb))
   go_roundw
   case rel=>exact ⟨i+1,_,by first|exact congrArg (Value.int .i64) HW1.out|rfl,⟨HLT.out⟩,HR5,⟨by rw [List.length_append,HC.out];rfl⟩,HSN,HB5⟩
   case measure=>first|exact meas_wrap rfl HLT.out HW1.out|exact meas_plain HLT.out
  ·obtain rfl:i=x.f7.length:=by have:=HI.out;omega
   have b1:decide ((x.f7.length:Int)<(x.f7.length:Int))=false:=decide_eq_false (by omega)
   go_upto_region 8 with (fail)
   have HBs:=am (below_drew (Below.refl wr.heap.size wr))
   have HCs:=am (Kd.C_below HCW.out (below_drew HB.out))
   have hj:=fun W2 (hc:Kd.C Kd.string W2 (some ⟨gw,0,none⟩) 8 [x.f0,x.f1,sg,numT x.f3,numT x.f4,numT x.f5,numT x.f6,s7])=>join_any (some ⟨gw,1,none⟩) (cw-1) [x.f1,sg,numT x.f3] 32 W2 (C_str (by simp) (fun j hj=>by
    rcases (by simp at hj;omega:j=0∨j=1∨j=2) with rfl|rfl|rfl
    ·exact (str_at hc 1 (by decide)).trans rfl
    ·exact (str_at hc 2 (by decide)).trans rfl
    ·exact (str_at hc 3 (by decide)).trans rfl)) (by simp;omega) (by simp) (fun j hj=>Nat.le_trans (three_sz HJ1.out.2.1 HSG.out.2.1 HJ1.out.2.2 j hj) (by decide))
   have hjo:owordB (joinT [x.f1,sg,numT x.f3] ⟨#[32]⟩)=true:=oword_of (pr_join 32 (by unfold PrB;decide) _ (fun y hy=>by
    simp only [List.mem_cons,List.not_mem_nil,or_false] at hy
    rcases hy with rfl|rfl|rfl
    ·exact HJ1.out.1
    ·exact prT_pr HSG.out.1
    ·exact pr_num _)) (Nat.le_trans (joinT_size 32 [x.f1,sg,numT x.f3] 64 (three_sz HJ1.out.2.1 HSG.out.2.1 HJ1.out.2.2)) (by show 3*(1+64)≤200;decide))
   obtain ⟨js,hje⟩:∃ js,joinT [x.f1,sg,numT x.f3] ⟨#[32]⟩=js:=⟨_,rfl⟩
   rw [hje] at hjo
   have HJ:=am hj
   have HJE:=am hje
   have HJO:=am hjo
   have k4:(4:Int)≤(cw:Int):=by omega
   have k1:(cw=1)=False:=eq_false (by omega)
   clear hj hje hjo
   refine sv 25 (fun w'=>w'.cell? ⟨gw,0,none⟩=some (.string x.f0)∧w'.cell? ⟨gw,4,none⟩=some (.string (numT x.f4))∧w'.cell? ⟨gw,5,none⟩=some (.string (numT x.f5))) [] ⟨(str_at HCs.out 0 (by decide)).trans rfl,(str_at HCs.out 4 (by decide)).trans rfl,(str_at HCs.out 5 (by decide)).trans rfl⟩ fun hHeld=>?_
   refine pv 0 34 ?_
   refine pv 1 35 ?_
   refine pv 5 39 ?_
   refine pv 6 40 ?_
   refine pv 10 44 ?_
   refine pv 11 45 ?_
   refine pv 15 49 ?_
   refine pv 16 50 ?_
   refine pv 20 54 ?_
   refine pv 21 55 ?_
   refine pv 22 56 ?_
   refine tv 2 36 ?_
   refine pv 3 37 ?_
   refine pv 4 38 ?_
   refine tv 12 46 ?_
   refine pv 13 47 ?_
   refine pv 14 48 ?_
   refine tv 17 51 ?_
   refine pv 18 52 ?_
   refine pv 19 53 ?_
   refine ov 7 41 fun K hK=>?_
   refine gv #[.slice (some ⟨gw,1,none⟩) 3 (cw-1),.string ⟨#[32]⟩] ?_
   refine (HJ.out _ HCs.out).mono ?_
   rintro e w6 ⟨rfl,hb⟩
   have HC6:=am (Kd.C_below HCs.out hb)
   have HB6:=bS HBs hb
   clear hb
   rw [HJE.out]
   refine ⟨_,rfl,?_⟩
   refine hK.out _ _ ⟨(str_at HC6.out 0 (by decide)).trans rfl,(str_at HC6.out 4 (by decide)).trans rfl,(str_at HC6.out 5 (by decide)).trans rfl⟩ (fun hHeld=>?_)
   clear hK K
   refine nv 41 ?_
   refine pv 8 42 ?_
   refine pv 9 43 ?_
   refine ov 23 57 fun K hK=>?_
   refine lit_ (cs:=#[.string (⟨#[97,108,101,114,116]⟩:ByteArray),.iface 154 (.string x.f0),.string (⟨#[101,120,112,114]⟩:ByteArray),.iface 154 (.string js),.string (⟨#[102,111,114]⟩:ByteArray),.iface 154 (.string (numT x.f4)),.string (⟨#[107,101,101,112]⟩:ByteArray),.iface 154 (.string (numT x.f5)),.string (⟨#[108,97,98,101,108,115]⟩:ByteArray),.iface 83 (.slice Ao ps.length co)]) (t:=90) (n:=5) (by rfl) rfl (by first|(go_simp;done)|(go_simp;rfl)) ?_
   intro gt hgt w7 hx hb
   have HL7:=am hx
   have HGT:Aside0 (wr.heap.size≤gt):=⟨by rw [hgt];exact HB6.out.size⟩
   have HC7:=am (Kd.C_below HC6.out hb)
   have HB7:=bS HB6 hb
   clear hgt hx hb
   refine hK.out _ _ ⟨(str_at HC7.out 0 (by decide)).trans rfl,(str_at HC7.out 4 (by decide)).trans rfl,(str_at HC7.out 5 (by decide)).trans rfl⟩ (fun hHeld=>?_)
   clear hK K
   refine nv 57 ?_
   refine pv 24 2 ?_
   refine done_ (by kernel_rfl) ?_
   go_wp2
   go_ret
   have hws:W.heap.size≤wr.heap.size:=Nat.le_trans HB2.out.size HB.out.size
   have hls:SaidAt (fun g=>W.heap.size≤g) 5 wr (.iface 83 (.slice Ao ps.length co)):=.inr (.inl ⟨_,_,_,rfl,rowof_own HO.out (by have:=H4.out;rw [HC.out];omega) (fun p hp=>SaidAt.move (fun g ho hg=>⟨Nat.le_trans HB2.out.size ho.1,rfl⟩) 4 (HSA.out p hp)) (fun g hg=>Nat.le_trans HB2.out.size ((Kd.R_bound HO.out).1 g hg).2.1)⟩)
   have hl2:=SaidAt.below 5 hls HB7.out
   refine ⟨⟨gt,rfl,by decide,[⟨#[97,108,101,114,116]⟩,⟨#[101,120,112,114]⟩,⟨#[102,111,114]⟩,⟨#[107,101,101,112]⟩,⟨#[108,97,98,101,108,115]⟩],rfl,by decide +kernel,fun i hi=>?_⟩,below_step HB2.out (below_step HB.out HB7.out)⟩
   have hgt:=Nat.le_trans hws HGT.out
   rcases (by omega:i=0∨i=1∨i=2∨i=3∨i=4) with rfl|rfl|rfl|rfl|rfl
   ·exact ⟨gt,_,rfl,hgt,(blk_cell HL7.out _).trans rfl,(blk_cell HL7.out _).trans rfl,.inl ⟨_,rfl,HT.out.1⟩⟩
   ·exact ⟨gt,_,rfl,hgt,(blk_cell HL7.out _).trans rfl,(blk_cell HL7.out _).trans rfl,.inl ⟨_,rfl,HJO.out⟩⟩
   ·exact ⟨gt,_,rfl,hgt,(blk_cell HL7.out _).trans rfl,(blk_cell HL7.out _).trans rfl,.inl ⟨_,rfl,HT.out.2.1⟩⟩
   ·exact ⟨gt,_,rfl,hgt,(blk_cell HL7.out _).trans rfl,(blk_cell HL7.out _).trans rfl,.inl ⟨_,rfl,HT.out.2.2⟩⟩
   ·exact ⟨gt,_,rfl,hgt,(blk_cell HL7.out _).trans rfl,(blk_cell HL7.out _).trans rfl,hl2⟩
end Go.Proofs.YthofmfaeccdckaaGreatDoor.P
namespace Go.Proofs
open Go.Shelf
def Tryz.sortRule_ren:Go.Shelf.Ren:=⟨fun|6=>43|15=>107|14=>106|28=>176|29=>177|20=>168|21=>169|22=>170|23=>171|24=>172|25=>173|26=>174|27=>175|46=>215|47=>216|48=>217|49=>218|50=>219|57=>257|n=>n,fun|22=>22|24=>44|25=>81|3=>3|39=>152|0=>0|53=>210|55=>212|4=>4|46=>203|45=>202|50=>207|5=>5|9=>9|66=>241|70=>245|76=>271|77=>272|n=>n,fun|n=>n⟩
theorem Tryz.sortRule:Go.Proofs.SlLaysF0.n6 Tryz.prog Tryz.sortRule_ren:={
 mixed:=by kernel_rfl
 f6:=⟨Tryz.f43.name,by decide,Tryz.func43.trans (congrArg some (by kernel_rfl))⟩
 f14:=⟨Tryz.f106.name,by decide,Tryz.func106.trans (congrArg some (by kernel_rfl))⟩
 f15:=Tryz.func107.trans (congrArg some (by kernel_rfl))
 f20:=⟨Tryz.f168.name,by decide,Tryz.func168.trans (congrArg some (by kernel_rfl))⟩
 f21:=⟨Tryz.f169.name,by decide,Tryz.func169.trans (congrArg some (by kernel_rfl))⟩
 f22:=⟨Tryz.f170.name,by decide,Tryz.func170.trans (congrArg some (by kernel_rfl))⟩
 f23:=⟨Tryz.f171.name,by decide,Tryz.func171.trans (congrArg some (by kernel_rfl))⟩
 f24:=⟨Tryz.f172.name,by decide,Tryz.func172.trans (congrArg some (by kernel_rfl))⟩
 f25:=⟨Tryz.f173.name,by decide,Tryz.func173.trans (congrArg some (by kernel_rfl))⟩
 f26:=⟨Tryz.f174.name,by decide,Tryz.func174.trans (congrArg some (by kernel_rfl))⟩
 f27:=⟨Tryz.f175.name,by decide,Tryz.func175.trans (congrArg some (by kernel_rfl))⟩
 f28:=Tryz.func176.trans (congrArg some (by kernel_rfl))
 f29:=Tryz.func177.trans (congrArg some (by kernel_rfl))
 f46:=⟨Tryz.f215.name,by decide,Tryz.func215.trans (congrArg some (by kernel_rfl))⟩
 f47:=Tryz.func216.trans (congrArg some (by kernel_rfl))
 f48:=Tryz.func217.trans (congrArg some (by kernel_rfl))
 f49:=⟨Tryz.f218.name,by decide,Tryz.func218.trans (congrArg some (by kernel_rfl))⟩
 f50:=⟨Tryz.f219.name,by decide,Tryz.func219.trans (congrArg some (by kernel_rfl))⟩
 f57:=⟨Tryz.f257.name,by decide,Tryz.func257.trans (congrArg some (by kernel_rfl))⟩
 t0:=Tryz.underlying0
 a0:=Tryz.isAgg0
 z0:=Tryz.sizeOf0
 v0:=Tryz.zeroValue0
 t3:=Tryz.underlying3
 a3:=Tryz.isAgg3
 z3:=Tryz.sizeOf3
 v3:=Tryz.zeroValue3
 t4:=Tryz.underlying4
 a4:=Tryz.isAgg4
 z4:=Tryz.sizeOf4
 v4:=Tryz.zeroValue4
 t5:=Tryz.underlying5
 a5:=Tryz.isAgg5
 z5:=Tryz.sizeOf5
 v5:=Tryz.zeroValue5
 t9:=Tryz.underlying9
 a9:=Tryz.isAgg9
 z9:=Tryz.sizeOf9
 v9:=Tryz.zeroValue9
 t22:=Tryz.underlying22
 a22:=Tryz.isAgg22
 z22:=Tryz.sizeOf22
 v22:=Tryz.zeroValue22
 t25:=Tryz.underlying81
 a25:=Tryz.isAgg81
 z25:=Tryz.sizeOf81
 v25:=Tryz.zeroValue81
 t39:=Tryz.underlying152
 a39:=Tryz.isAgg152
 z39:=Tryz.sizeOf152
 v39:=Tryz.zeroValue152
 t45:=Tryz.underlying202
 a45:=Tryz.isAgg202
 z45:=Tryz.sizeOf202
 v45:=Tryz.zeroValue202
 t46:=Tryz.underlying203
 a46:=Tryz.isAgg203
 z46:=Tryz.sizeOf203
 v46:=Tryz.zeroValue203
 t50:=Tryz.underlying207
 a50:=Tryz.isAgg207
 z50:=Tryz.sizeOf207
 v50:=Tryz.zeroValue207
 t53:=Tryz.underlying210
 a53:=Tryz.isAgg210
 z53:=Tryz.sizeOf210
 v53:=Tryz.zeroValue210
 t55:=Tryz.underlying212
 a55:=Tryz.isAgg212
 z55:=Tryz.sizeOf212
 v55:=Tryz.zeroValue212
 t66:=Tryz.underlying241
 a66:=Tryz.isAgg241
 z66:=Tryz.sizeOf241
 v66:=Tryz.zeroValue241
 t70:=Tryz.underlying245
 a70:=Tryz.isAgg245
 z70:=Tryz.sizeOf245
 v70:=Tryz.zeroValue245
 t76:=Tryz.underlying271
 a76:=Tryz.isAgg271
 z76:=Tryz.sizeOf271
 v76:=Tryz.zeroValue271
 t77:=Tryz.underlying272
 a77:=Tryz.isAgg272
 z77:=Tryz.sizeOf272
 v77:=Tryz.zeroValue272 }
end Go.Proofs
namespace Go.Proofs.YthofmfaeccdckaaGreatDoor.P
open Go.RowKit Go.Proofs.YthofmfaeccdckaaGreatDoorW.PrintWords Go.Proofs.YthofmfaeccdckaaGreatDoorW.PrintLast Go.Proofs.YthofmfaeccdckaaGreatDoorW.PrintMore
theorem cb_self:∀ a:List UInt8,Lib.compareBytes a a=0
 | []=>rfl
 | x::a=>by
   unfold Lib.compareBytes
   simp [cb_self a]
theorem cb_step (x y:UInt8) (a b:List UInt8):Lib.compareBytes (x::a) (y::b)=if x.toNat<y.toNat then -1 else if y.toNat<x.toNat then 1 else Lib.compareBytes a b:=by
 simp only [Lib.compareBytes,UInt8.lt_iff_toNat_lt]
theorem cb_trans:∀ a b c:List UInt8,Lib.compareBytes a b<0→Lib.compareBytes b c<0→Lib.compareBytes a c<0
 | [],[],_,h,_=>absurd h (by decide)
 | [],_::_,[],_,h=>absurd h (by simp [Lib.compareBytes])
 | [],_::_,_::_,_,_=>by simp [Lib.compareBytes]
 | _::_,[],_,h,_=>absurd h (by simp [Lib.compareBytes])
 | _::_,_::_,[],_,h=>absurd h (by simp [Lib.compareBytes])
 | x::a,y::b,z::c,h1,h2=>by
   have ih:=cb_trans a b c
   rw [cb_step] at h1 h2 ⊢
   generalize Lib.compareBytes a b=p at *
   generalize Lib.compareBytes b c=q at *
   generalize Lib.compareBytes a c=r at *
   by_cases hp:p<0<;>by_cases hq:q<0<;>(try have hr:=ih hp hq)<;>repeat' (first|omega|split at h1|split at h2|split)
theorem cb_ntrans:∀ a b c:List UInt8,¬ Lib.compareBytes a b<0→¬ Lib.compareBytes b c<0→¬ Lib.compareBytes a c<0
 | [],[],_,_,h=>h
 | [],_::_,_,h,_=>absurd (by simp [Lib.compareBytes]) h
 | _::_,_,[],_,_=>by simp [Lib.compareBytes]
 | _::_,[],_::_,_,h=>absurd (by simp [Lib.compareBytes]) h
 | x::a,y::b,z::c,h1,h2=>by
   have ih:=cb_ntrans a b c
   rw [cb_step] at h1 h2 ⊢
   generalize Lib.compareBytes a b=p at *
   generalize Lib.compareBytes b c=q at *
   generalize Lib.compareBytes a c=r at *
   by_cases hp:p<0<;>by_cases hq:q<0<;>(try have hr:=ih hp hq)<;>repeat' (first|omega|split at h1|split at h2|split)
def RV:Type:=S44×(Option Addr×Nat)
instance:Inhabited RV:=⟨(z44,(none,0))⟩
def encR (p:RV):List Value:=[.string p.1.f0,.string p.1.f1,.int .i64 p.1.f2,.int .i64 p.1.f3,.int .i64 p.1.f4,.int .i64 p.1.f5,.int .i64 p.1.f6,.slice p.2.1 p.1.f7.length p.2.2]
def cfR (x y:RV):Int:=Lib.compareBytes x.1.f0.data.toList y.1.f0.data.toList
theorem swoR:Go.Sort.SWO (Go.Proofs.ltOf cfR) where
 irrefl x:=by unfold Go.Proofs.ltOf cfR;rw [cb_self];rfl
 trans x y z h1 h2:=by
  unfold Go.Proofs.ltOf cfR at *
  exact decide_eq_true (cb_trans _ _ _ (of_decide_eq_true h1) (of_decide_eq_true h2))
 ntrans x y z h1 h2:=by
  unfold Go.Proofs.ltOf cfR at *
  exact decide_eq_false (cb_ntrans _ _ _ (of_decide_eq_false h1) (of_decide_eq_false h2))
theorem cmpR (x y:RV) (W:World):Calls Tryz.prog 44 (#[.agg (encR x).toArray,.agg (encR y).toArray]++#[]) W fun e w'=>e=.returned (.int .i64 (cfR x y))∧∃ q os',w'=Go.Sort.grow (W.drewN q) os':=by
 have hcon:=fun W'=>Tryz.strings_Compare x.1.f0 y.1.f0 W'
 show Calls Tryz.prog 44 #[.agg #[.string x.1.f0,.string x.1.f1,.int .i64 x.1.f2,.int .i64 x.1.f3,.int .i64 x.1.f4,.int .i64 x.1.f5,.int .i64 x.1.f6,.slice x.2.1 x.1.f7.length x.2.2],.agg #[.string y.1.f0,.string y.1.f1,.int .i64 y.1.f2,.int .i64 y.1.f3,.int .i64 y.1.f4,.int .i64 y.1.f5,.int .i64 y.1.f6,.slice y.2.1 y.1.f7.length y.2.2]] W fun e w'=>e=.returned (.int .i64 (Lib.compareBytes x.1.f0.data.toList y.1.f0.data.toList))∧∃ q os',w'=Go.Sort.grow (W.drewN q) os'
 generalize Lib.compareBytes x.1.f0.data.toList y.1.f0.data.toList=r at hcon ⊢
 go_in
 go_wp2_with (go_at_call 45;refine (hcon _).mono ?_;rintro e w' ⟨rfl,rfl⟩)
 go_ret
 exact ⟨rfl,0,_,by rw [Go.Sort.alloc_eq_grow,Go.Sort.alloc_eq_grow,Go.Sort.grow_grow];rfl⟩
theorem list_of {α:Type} {Q:Nat→α→Prop}:∀ n:Nat,(∀ j,j<n→∃ p,Q j p)→∃ l:List α,l.length=n∧∀ j p,l[j]?=some p→Q j p
 | 0,_=>⟨[],rfl,fun j p h=>by simp at h⟩
 | n+1,h=>by
   obtain ⟨l,hl,hq⟩:=list_of n (fun j hj=>h j (by omega))
   obtain ⟨p,hp⟩:=h n (by omega)
   refine ⟨l++[p],by simp [hl],fun j q hj=>?_⟩
   by_cases e:j<n
   ·rw [List.getElem?_append_left (by omega)] at hj
    exact hq j q hj
   ·have hj2:=(List.getElem?_eq_some_iff.1 hj).1
    simp at hj2
    obtain rfl:j=n:=by omega
    rw [List.getElem?_append_right (by omega)] at hj
    simp [hl] at hj
    rw [← hj]
    exact hp
theorem psort_any (W0:World) (xs:List S44) (h16:xs.length≤16) (base blk c:Nat) (W:World) (A:Option Addr) (hA:A=some ⟨blk,0,none⟩) (hbb:base≤blk) (hs:SRow W0 k44 44 base blk c W xs) :
 Calls Tryz.prog 43 #[.slice A xs.length c,.func (.func 44) #[] #[]] W fun e W'=>e=.returned (.tuple #[])∧Below base W W'∧∃ ys:List S44,ys.length=xs.length∧(∀ y∈ys,y∈xs)∧ReadsRow (k44.K W0) 8 W' A ys.length ys:=by
 subst hA
 obtain ⟨d,hd,hq⟩:=list_of (Q:=fun (j:Nat) (p:RV)=>k44.K W0 p.1 (encR p)∧p.1∈xs∧∀ t u,(encR p)[t]?=some u→W.cell? ⟨blk,j*8+t,none⟩=some u∧W.frozen? ⟨blk,j*8+t,none⟩=false) xs.length (fun j hj=>by
  obtain ⟨p,cs,hp,_,hk,hc⟩:=hs.at_ j hj
  obtain ⟨A7,c7,rfl,_,_⟩:=k44_open hk
  exact ⟨(p,(A7,c7)),hk,hp,hc⟩)
 have hlt:=hs.lt
 have hdj:∀ j (hj:j<d.length),d.toArray[j]! = d[j]:=fun j hj=>by simp [hj]
 have h8:∀ x:RV,(encR x).length=8:=fun _=>rfl
 have hH:Go.Sort.HoldsK encR 8 W blk 0 d.toArray:=by
  intro t ht
  rw [Go.Sort.size_flatK] at ht
  rw [Go.Sort.get_flatK _ _ _ _ ht,Nat.zero_add]
  have hj:t/8<d.length:=by simp at ht;omega
  have h:=(hq (t/8) _ (List.getElem?_eq_getElem hj)).2.2 (t % 8)
  have e:t/8*8+t % 8=t:=by omega
  rw [e] at h
  rw [hdj _ hj]
  have hm:t % 8<(encR d[t/8]).length:=by rw [h8];omega
  have h2:=h _ (List.getElem?_eq_getElem hm)
  rw [getElem!_pos (encR d[t/8]) (t % 8) hm]
  exact h2
 have eg:∀ args w,(callFunc 44 args).run Tryz.prog w=.ok (.enter 44 args) w:=fun args w=>enters_ Tryz.func44 (by kernel_rfl) rfl args w
 have hcon:=Go.Proofs.AnyQ.slices_SortFunc Tryz.sortRule 8 Tryz.isAgg44 Tryz.sizeOf44 encR h8 (fun x v hv=>by simp [encR] at hv;rcases hv with rfl|rfl|rfl|rfl|rfl|rfl|rfl|rfl<;>rfl) cfR swoR 44 #[] blk 0 c d.toArray W eg (fun m os dk _ x y=>cmpR x y _) hH hlt (by simp;omega)
 rw [List.size_toArray,hd] at hcon
 refine Calls.mono hcon ?_
 rintro e w' ⟨rfl,d',n,os,hp,_,rfl⟩
 have hds:d'.size=d.toArray.size:=hp.1
 have hdl:d'.size=xs.length:=by rw [hds,List.size_toArray,hd]
 have hmem:∀ (j:Nat) (hj:j<d'.size),d'[j]∈d:=by
  intro j hj
  have hpm:=hp.2.2
  have h1:d'[j]∈(d'.extract 0 xs.length).toList:=by
   rw [Array.mem_toList_iff,Array.mem_extract_iff_getElem]
   exact ⟨j,by simpa [hdl] using hj,by simp⟩
  have h2:=hpm.mem_iff.1 h1
  rw [Array.mem_toList_iff,Array.mem_extract_iff_getElem] at h2
  obtain ⟨k,hk,e⟩:=h2
  rw [← e]
  simp
 have hall:∀ p∈d,k44.K W0 p.1 (encR p)∧p.1∈xs:=fun p hp=>by
  obtain ⟨j,hj,rfl⟩:=List.getElem_of_mem hp
  have:=hq j _ (List.getElem?_eq_getElem hj)
  exact ⟨this.1,this.2.1⟩
 have hH2:=Go.Proofs.holdsK_sortWorldK encR 8 W blk 0 n d.toArray d' os hlt hH hds
 refine ⟨rfl,?_,d'.toList.map (·.1),by simp [hdl],fun y hy=>?_,?_⟩
 ·unfold Go.Proofs.sortWorldK
  have hb1:Below base W (Go.Sort.putRowK encR 8 (Go.Sort.ahead W n) blk 0 d'):=Lib.below_putRow (Below.refl _ _) hbb
  exact hb1.trans (Lib.below_grow base _ (by have:=hb1.size;omega) 0 os)
 ·obtain ⟨p,hp2,rfl⟩:=List.mem_map.1 hy
  obtain ⟨j,hj,rfl⟩:=List.getElem_of_mem hp2
  exact (hall _ (hmem j (by simpa using hj))).2
 ·refine ⟨rfl,by simp [hdl];omega,fun _=>⟨_,rfl,fun j p hj=>?_⟩⟩
  rw [List.getElem?_map] at hj
  obtain ⟨q,hq1,rfl⟩:=Option.map_eq_some_iff.1 hj
  obtain ⟨hjl,hq2⟩:=List.getElem?_eq_some_iff.1 hq1
  have hjd:j<d'.size:=by simpa using hjl
  refine ⟨encR q,h8 q,?_,fun i u hu=>?_⟩
  ·rw [← hq2]
   exact (hall _ (hmem j hjd)).1
  ·have hi:i<8:=by rw [← h8 q];exact (List.getElem?_eq_some_iff.1 hu).1
   have h3:=(hH2 (j*8+i) (by rw [Go.Sort.size_flatK];omega)).1
   rw [Go.Sort.get_flatK _ _ _ _ (by omega)] at h3
   rw [show (j*8+i)/8=j by omega,show (j*8+i) % 8=i by omega] at h3
   rw [Addr.add_mid]
   rw [h3]
   rw [getElem!_pos d' j hjd]
   have e2:d'[j]=q:=hq2
   rw [e2]
   have hm:i<(encR q).length:=by rw [h8];exact hi
   rw [getElem!_pos (encR q) i hm]
   exact (List.getElem?_eq_some_iff.1 hu).2 ▸ rfl
theorem prom_parts {l:List S44} (h:pholdsB l=true):(∀ x∈l,ruleB x=true)∧1≤l.length∧l.length≤16:=by
 unfold pholdsB at h
 simp only [Bool.and_eq_true,decide_eq_true_eq] at h
 refine ⟨fun x hx=>?_,by omega,by omega⟩
 obtain ⟨i,hi,he⟩:=List.getElem_of_mem hx
 have h0:=(upTo_iff _ _).1 h.1 i hi
 unfold phAt at h0
 simp only [Bool.and_eq_true] at h0
 have e:ru l i=x:=by unfold ru;rw [List.getD_eq_getElem?_getD,List.getElem?_eq_getElem hi];exact he
 rw [e] at h0
 exact h0.1.1
theorem pexport_any (l:List S44) (hz:∀ x∈l,SetSz x.f7) (A:Option Addr) (c:Nat) (W:World) (hM:MKeysIn W) (hP:PKeys W) (hl:l.length≤c) (hr:Kd.C k44 W A l.length l):Calls Tryz.prog 9 #[.slice A l.length c] W fun e W'=>(∃ (s:ByteArray) (n:Int),e=.returned (.tuple #[.string s,.int .i64 n])∧(if pholdsB l=true then n=0∨n=2 else n=11))∧Below W.heap.size W W':=by
 have b1:=fun W2 (hb:Below W.heap.size W W2)=>pholds_any l hz A c W2 hl (Kd.C_below hr hb)
 have hpp:=fun (h:pholdsB l=true)=>prom_parts h
 have b2:pholdsB l=true→∀ W2,Below W.heap.size W W2→Calls Tryz.prog 42 #[.slice A l.length c] W2 fun e W'=>∃ A' c',e=.returned (.slice A' l.length c')∧Below W2.heap.size W2 W'∧∃ blk,A'=some ⟨blk,0,none⟩∧W.heap.size≤blk∧SRow W k44 44 W.heap.size blk c' W' l:=fun h W2 hb=>by
  have hp:=hpp h
  refine (clone_Rule W l hp.2.2 A c W2 (ReadsRow.imp_ hr hb (fun _ _ hp=>hp))).mono ?_
  rintro e w' ⟨A',c',rfl,hb2,rfl|⟨blk,rfl,hle,hs⟩⟩
  ·exact absurd hp.2.1 (by simp)
  ·exact ⟨_,_,rfl,hb2,blk,rfl,Nat.le_trans hb.size hle,hs.lower hb.size⟩
 have HZ:=am hz
 have HMK:=am hM
 have HPK:=am hP
 have m1:(l.length:Int)≤9223372036854775807:=by have:=hr.2.1;omega
 clear hr hz hM hP
 generalize pholdsB l=q at *
 have B1:=am b1
 clear b1
 go_in
 cases q with
 | false =>
   clear b2 hpp
   go_wp2_with (first|(go_at_call 36;refine (B1.out _ (Below.refl _ _)).mono ?_;rintro e u1 ⟨rfl,hb⟩;have HB1:=am hb;clear hb))
   go_ret2
   first|exact ⟨⟨_,rfl⟩,HB1.out⟩|exact ⟨⟨_,_,rfl,rfl⟩,HB1.out⟩
 | true =>
   have B2:=am (b2 rfl)
   have HPP:=am (hpp rfl)
   have H16:Aside0 (l.length≤16):=⟨(hpp rfl).2.2⟩
   clear b2 hpp
   go_wp2_with (first|(go_at_call 36;refine (B1.out _ (Below.refl _ _)).mono ?_;rintro e u1 ⟨rfl,hb⟩;have HB1:=am hb;clear hb)|(go_at_call 42;refine (B2.out _ HB1.out).mono ?_;rintro e u2 ⟨A2,c2,rfl,hb,blk,hA2,hle,hs⟩;have HA2:=am hA2;have HS2:=am hs;have HLE:=am hle;have HB2:=bS HB1 hb;clear hb hs hle hA2)|(go_at_call 43;refine (psort_any W l H16.out W.heap.size blk c2 u2 A2 HA2.out HLE.out HS2.out).mono ?_;rintro e u3 ⟨rfl,hb,ys,hyl,hym,hyr⟩;have HB3:=am (HB2.out.trans hb);have HYL:=am hyl;have HYM:=am hym;have HYR:=am hyr;clear hb hyl hym hyr))
   rw [← HYL.out]
   have H16Y:Aside0 (ys.length≤16):=⟨by rw [HYL.out];exact H16.out⟩
   have HCY:Aside0 (Kd.C k44 u3 A2 ys.length ys):=⟨ReadsRow.imp_ HYR.out (Below.refl _ _) (fun _ _ hp=>k44.K_below HB3.out hp)⟩
   have my:(ys.length:Int)≤9223372036854775807:=by have:=H16Y.out;omega
   go_loopw [4,16] (fun o u wr=>∃ (i:Nat) (ps:List (TypeId×Value)),u=.int .i64 i∧Aside0 (i≤ys.length)∧Aside0 (kI.R 88 wr u3.heap.size (fun _=>True) o ps)∧Aside0 (ps.length=i)∧Aside0 (∀ p∈ps,SaidAt (fun g=>u3.heap.size≤g∧some g≠Value.ownBlock o) 6 wr (.iface p.1 p.2))∧Aside0 (Below u3.heap.size u3 wr)) (fun _ u _=>ys.length-(intOf u).toNat)
   case atStart=>exact ⟨0,[],rfl,⟨Nat.zero_le _⟩,⟨Kd.R_nil _ _ _ _ _⟩,⟨rfl⟩,⟨fun _ h=>(by cases h)⟩,⟨Below.refl _ _⟩⟩
   case round =>
    obtain ⟨i,ps,rfl,HI,HO,HC,HSA,HB⟩:=hrel
    obtain ⟨Ao,co,rfl⟩:=Kd.R_slice HO.out
    by_cases hlt:i<ys.length
    ·have hmem:rd_T44 ys (i:Int)∈ys:=by
      unfold rd_T44
      rw [Int.toNat_natCast,List.getD_eq_getElem?_getD,List.getElem?_eq_getElem hlt]
      exact List.getElem_mem hlt
     have hry:=HPP.out.1 _ (HYM.out _ hmem)
     have hzy:=HZ.out _ (HYM.out _ hmem)
     obtain ⟨ad,B7,d7,e_,hx0,hx1,hx2,hx3,hx4,hx5,hx6,hx7,hl7,hg7⟩:=at_T44 (Kd.C_below HCY.out HB.out) (i:Int) (by omega) (by omega)
     cases e_
     simp only [Int.toNat_natCast] at hx0 hx1 hx2 hx3 hx4 hx5 hx6 hx7
     generalize rd_T44 ys (i:Int)=y at *
     have b1:decide ((i:Int)<(ys.length:Int))=true:=decide_eq_true (by omega)
     have HLL:Aside0 (ps.length≤16):=⟨by rw [HC.out];exact Nat.le_trans HI.out H16Y.out⟩
     have HRY:=am hry
     have HZY:=am hzy
     have HG7:=am hg7
     clear hry hzy hmem hg7
     have hw1:wrap64 ((i:Int)+1)=((i+1:Nat):Int):=by unfold wrap64;omega
     have HW1:=am hw1
     have HLT:=am hlt
     clear hw1
     go_upto_region 9 with (((with_reducible refine bv 6 #[.string (⟨#[]⟩:ByteArray),.string (⟨#[]⟩:ByteArray),.int .i64 0,.int .i64 0,.int .i64 0,.int .i64 0,.int .i64 0,.slice none 0 0] 44 ?_);intro gk hgb w2 hbox hb;obtain ⟨y0,y1,y2,y3,y4,y5,y6,y7⟩:=cc8 hbox;have z0:=blk_frozen hbox 0;have z1:=blk_frozen hbox 1;have z2:=blk_frozen hbox 2;have z3:=blk_frozen hbox 3;have z4:=blk_frozen hbox 4;have z5:=blk_frozen hbox 5;have z6:=blk_frozen hbox 6;have z7:=blk_frozen hbox 7;have HX2:=am hbox;have HB2:=am hb;have HG2:=am hgb;clear hb hbox hgb))
     obtain ⟨W2,hW2⟩:∃ W2,W2=((((((((w2.setCell ⟨gk,0,none⟩ (.string y.f0)).setCell ⟨gk,1,none⟩ (.string y.f1)).setCell ⟨gk,2,none⟩ (.int .i64 y.f2)).setCell ⟨gk,3,none⟩ (.int .i64 y.f3)).setCell ⟨gk,4,none⟩ (.int .i64 y.f4)).setCell ⟨gk,5,none⟩ (.int .i64 y.f5)).setCell ⟨gk,6,none⟩ (.int .i64 y.f6)).setCell ⟨gk,7,none⟩ (.slice B7 y.f7.length d7)):=⟨_,rfl⟩
     rw [← hW2]
     have HX3:Aside0 (W2.heap[gk]?=some (.cells #[.string y.f0,.string y.f1,.int .i64 y.f2,.int .i64 y.f3,.int .i64 y.f4,.int .i64 y.f5,.int .i64 y.f6,.slice B7 y.f7.length d7] 44 (0,0))):=⟨by rw [hW2,(blk_set (blk_set (blk_set (blk_set (blk_set (blk_set (blk_set (blk_set HX2.out 0 _) 1 _) 2 _) 3 _) 4 _) 5 _) 6 _) 7 _)];simp only [nm]⟩
     have HBr:Aside0 (Below wr.heap.size wr W2):=⟨by rw [hW2];exact (below_set (below_set (below_set (below_set (below_set (below_set (below_set (below_set HB2.out (by have:=HG2.out;omega)) (by have:=HG2.out;omega)) (by have:=HG2.out;omega)) (by have:=HG2.out;omega)) (by have:=HG2.out;omega)) (by have:=HG2.out;omega)) (by have:=HG2.out;omega)) (by have:=HG2.out;omega))⟩
     clear hW2 HX2 HB2 HG2 y0 z0 y1 z1 y2 z2 y3 z3 y4 z4 y5 z5 y6 z6 y7 z7 hx0 hx1 hx2 hx3 hx4 hx5 hx6 hx7
     obtain ⟨y0,y1,y2,y3,y4,y5,y6,y7⟩:=cc8 HX3.out
     have HBW:Aside0 (Below W.heap.size W W2):=⟨below_step (below_step HB3.out HB.out) HBr.out⟩
     have HKY:Aside0 (k44.K W2 y [.string y.f0,.string y.f1,.int .i64 y.f2,.int .i64 y.f3,.int .i64 y.f4,.int .i64 y.f5,.int .i64 y.f6,.slice B7 y.f7.length d7]):=⟨k44_mk W2 y hl7 (Kd.C_below HG7.out HBr.out)⟩
     have HFR:Aside0 (∀ g:Nat,W2.heap.size≤g→u3.heap.size≤g∧some g≠Value.ownBlock (.slice Ao ps.length co)):=⟨fun g h1=>⟨Nat.le_trans HB.out.size (Nat.le_trans HBr.out.size h1),fun e=>by have h2:=Kd.R_lt HO.out g e.symm;have h3:=HBr.out.size;omega⟩⟩
     go_wp2_with (first|((with_reducible refine gate_builtin (b:=.append) (xs:=#[.tmp 20,.tmp 24]) rfl ?_);at_builtin;go_loud (refine Kd.R_append kI (w0:=u3) u3.heap.size rfl (.tmp 20) (.tmp 24) 83 88 .nilIface 16 rfl Tryz.underlying83 (by kernel_rfl) rfl (by decide) (by omega) (.slice Ao ps.length co) ps ((85,.slice (some ⟨g5,0,none⟩) 5 5):TypeId×Value) [.iface 85 (.slice (some ⟨g5,0,none⟩) 5 5)] (fun _=>True) (fun _=>False) rfl (by first|rfl|(go_simp;done)|(go_simp;rfl)) ?aP ?aK ?aF ?aO ?aB ?aS ?aL ?_);(case aP=>exact rfl);(case aK=>exact fun _ hk=>hk.elim);(case aF=>exact fun _ _=>trivial);(case aO=>exact HR4.out);(case aB=>exact HE4.out);(case aS=>exact HE4.out.size);(case aL=>have:=HLL.out;omega);intro v1 wa ho hb hg hat;have hnew:∀ p∈ps++[((85,.slice (some ⟨g5,0,none⟩) 5 5):TypeId×Value)],SaidAt (fun g=>u3.heap.size≤g∧some g≠Value.ownBlock v1) 6 wa (.iface p.1 p.2):=(fun p hp=>SaidAt.after 6 ((List.mem_append.1 hp).elim (fun h=>SaidAt.below 6 (SaidAt.below 6 (HSA.out p h) HBr.out) HB4.out) (fun h=>by rw [List.mem_singleton.1 h];exact SaidAt.move (fun g ho _=>⟨HFR.out g ho,rfl⟩) 6 (.inr (.inr ⟨_,_,_,rfl,HT4.out⟩)))) hg hat);have HSN:=am hnew;have HR5:=am ho;have HB5:=am hb;clear ho hb hg hat hnew)|(go_at_call 46;refine (prule_any y HRY.out HZY.out _ (mkeys_step HMK.out HBW.out) (pkeys_step HPK.out HBW.out) _ HKY.out).mono ?_;rintro e w4 ⟨⟨g5,rfl,ht⟩,hb⟩;have HT4:=am ht;have HB4:=am hb;have HR4:=am (Kd.R_below (Kd.R_below HO.out HBr.out) hb);have HE4:=am (below_step (below_step HB.out HBr.out) hb);clear hb ht))
     go_roundw
     case rel=>exact ⟨i+1,_,by first|exact congrArg (Value.int .i64) HW1.out|rfl,⟨HLT.out⟩,HR5,⟨by rw [List.length_append,HC.out];rfl⟩,HSN,HB5⟩
     case measure=>first|exact meas_wrap rfl HLT.out HW1.out|exact meas_plain HLT.out
    ·obtain rfl:i=ys.length:=by have:=HI.out;omega
     have b1:decide ((ys.length:Int)<(ys.length:Int))=false:=decide_eq_false (by omega)
     have hso:SaidAt (fun _=>True) 7 wr (.iface 83 (.slice Ao ps.length co)):=.inr (.inl ⟨_,_,_,rfl,rowof_own HO.out (by rw [HC.out];exact H16Y.out) (fun p hp=>SaidAt.move (fun g _ _=>⟨trivial,rfl⟩) 6 (HSA.out p hp)) (fun _ _=>trivial)⟩)
     have HTB:Aside0 (∀ (w6:World) (gt:Nat),w6.heap[gt]?=some (.cells #[.string (⟨#[114,117,108,101,115]⟩:ByteArray),.iface 83 (.slice Ao ps.length co)] 90 (0,0))→Below wr.heap.size wr w6→TabOf (fun _=>True) (SaidAt (fun _=>True) 7 w6) w6 (some ⟨gt,0,none⟩) 1):=⟨fun w6 gt hx hb=>⟨by decide,[(⟨#[114,117,108,101,115]⟩:ByteArray)],rfl,by decide +kernel,fun i hi=>by
      obtain rfl:i=0:=by omega
      exact ⟨gt,_,rfl,trivial,(blk_cell hx _).trans rfl,(blk_cell hx _).trans rfl,SaidAt.below 7 hso hb⟩⟩⟩
     clear hso
     go_wp2_with (first|((with_reducible refine lv 30 #[.string (⟨#[114,117,108,101,115]⟩:ByteArray),.iface 83 (.slice Ao ps.length co)] 90 1 ?_);intro gt hgb w6 hbox hb;have HX6:=am hbox;have HB6:=am hb;clear hb hbox hgb)|(go_at_call 47;refine (tnode_any (fun _=>True) 7 (says_all 7) _ 1 1 w6 (HTB.out w6 gt HX6.out HB6.out)).mono ?_;rintro e w7 ⟨⟨nd,cs7,rfl,hok,hl,hm⟩,hb⟩;have HB7:=am (below_step (below_step (below_step HB3.out HB.out) HB6.out) hb);have HO7:=am hok;have HL7:=am hl;have HM7:=am hm;clear hb hok hl hm)|(go_at_call 40;refine (print_any nd HO7.out (by have:=HL7.out;omega) _ (mkeys_step HMK.out HB7.out) cs7 (k76.K_of_M HM7.out)).mono ?_;rintro e w8 ⟨⟨s,n,rfl,hn⟩,hb⟩;have HB8:=bS HB7 hb;have HN8:=am hn;clear hb hn))
     go_ret2
     exact ⟨⟨_,_,rfl,HN8.out⟩,HB8.out⟩
theorem k102_mkM (w:World) (base:Nat) (ok:Nat→Prop) (x:S102) {v1 v2:Value} (g1:Kd.string.R 9 w base ok v1 x.f1) (g2:Kd.string.R 9 w base ok v2 x.f2):k102.M w base ok x [.string x.f0,v1,v2]:=⟨[.string x.f0],[v1,v2],rfl,rfl,⟨[v1],[v2],rfl,⟨v1,rfl,g1⟩,⟨v2,rfl,g2⟩⟩⟩
def MadeD (w:World) (e:Ending) (w':World):Prop:=(∃ (d:S102) (cs':List Value),e=.returned (.agg cs'.toArray)∧bmayB d=true∧k102.M w' w.heap.size (fun _=>True) d cs')∧Below w.heap.size w w'
theorem dropWhile_self {l:List UInt8} {c:UInt8} (h:l.head?≠some c):l.dropWhile (· == c)=l:=by
 cases l with
 | nil=>rfl
 | cons x l =>
   rw [List.dropWhile_cons]
   have:(x == c)=false:=by
    rw [beq_eq_false_iff_ne]
    intro e
    exact h (by rw [e];rfl)
   rw [this]
   rfl
theorem bvalue_of {s:ByteArray} (h0:s.size≠0) (h1:s.size≤200) (hp:Pr s) (hh:s.data.toList.head?≠some 32) (hl:s.data.toList.getLast?≠some 32):bvalueB s=true:=by
 have ht:trimmed s=true:=by
  unfold trimmed trimT Lib.trimB Lib.trimLeftB Lib.trimRightB
  rw [dropWhile_self (l:=s.data.toList.reverse) (by rw [List.head?_reverse];exact hl),List.reverse_reverse,dropWhile_self hh]
  simp
 unfold bvalueB
 rw [decide_eq_true h0,decide_eq_true h1,ht,pr_any hp boddB (fun n h1 h2 h3=>by unfold boddB;rw [decide_eq_false (by omega),decide_eq_false (by omega),beq_false_of_ne (by omega)];rfl)]
 rfl
theorem bvalue_tight {s:ByteArray} (h0:s.size≠0) (h1:s.size≤200) (hp:Pr s) (hb:∀ b∈s.data.toList,b≠32):bvalueB s=true :=
 bvalue_of h0 h1 hp (fun e=>hb 32 (List.mem_of_head? e) rfl) (fun e=>hb 32 (List.mem_of_getLast? e) rfl)
theorem bword_bytes {s:ByteArray} (h:bwordB s=true):∀ b∈s.data.toList,b≠32:=by
 intro b hb e
 unfold bwordB at h
 simp only [Bool.and_eq_true,Bool.not_eq_true',List.any_eq_false] at h
 have h2:=h.2 _ (mem_bytesOf hb)
 rw [e] at h2
 exact h2 (by decide)
theorem bvalue_bword {s:ByteArray} (h:bwordB s=true):bvalueB s=true:=by
 refine bvalue_tight ?_ (Nat.le_trans (bword_sz h) (by decide)) (pr_bword h) (bword_bytes h)
 unfold bwordB at h
 simp only [Bool.and_eq_true,decide_eq_true_eq] at h
 exact h.1.1
theorem num_bytes (n:Int):∀ b∈(numT n).data.toList,b≠32:=by
 intro b hb e
 subst e
 have hb2:(32:UInt8)∈Lib.itoa n:=by simpa [numT] using hb
 unfold Lib.itoa at hb2
 split at hb2
 ·rcases List.mem_cons.1 hb2 with h|h
  ·exact absurd h (by decide)
  ·have:=(digits_ok _ _ (Nat.le_refl _) _ h).1;exact absurd this (by decide)
 ·have:=(digits_ok _ _ (Nat.le_refl _) _ hb2).1;exact absurd this (by decide)
theorem bvalue_num {n:Int} (h0:-9223372036854775808≤n) (h1:n≤9223372036854775807) (hs:(numT n).size≠0):bvalueB (numT n)=true:=bvalue_tight hs (by have:=num_size h0 h1;omega) (pr_num n) (num_bytes n)
theorem join_head {x:ByteArray} {l:List ByteArray} {s:ByteArray} (hx:x.size≠0):(joinT (x::l) s).data.toList.head?=x.data.toList.head?:=by
 have hne:x.data.toList≠[]:=fun e=>hx (by rw [← data_length,e];rfl)
 show (Lib.join ((x::l).map (·.data.toList)) s.data.toList).toArray.toList.head?=_
 unfold Lib.join List.intercalate
 cases l with
 | nil=>simp
 | cons y l =>
   simp only [List.map_cons,List.intersperse_cons_cons,List.flatten_cons]
   rw [List.head?_append]
   cases hx2:x.data.toList with
   | nil=>exact absurd hx2 hne
   | cons a b=>rfl
theorem bvalue_htext {nm:ByteArray} {d f t:Int} {cf ct:ByteArray} (h:rightB nm d f t=true) (h1:cf.size=5) (h2:ct.size=5) (h3:∀ b∈cf.data.toList,48≤b.toNat∧b.toNat≤58) (h4:∀ b∈ct.data.toList,48≤b.toNat∧b.toNat≤58):bvalueB (htextB d f t cf ct)=true:=by
 obtain ⟨hp,hs⟩:=htext_pr (d:=d) (f:=f) (t:=t) h1 h2 h3 h4
 unfold rightB at h
 simp only [Bool.and_eq_true,decide_eq_true_eq] at h
 have hd:=days_some d (by omega) (by omega)
 refine bvalue_of ?_ hs hp ?_ ?_
 ·unfold htextB;simp only [ByteArray.size_append,h1,h2];omega
 ·cases hl:daysL d 7 with
  | nil=>rw [hl] at hd;exact absurd hd (by decide)
  | cons x l =>
    have hx:=day_of (d:=d) (x:=x) (by rw [hl];exact List.mem_cons_self)
    have hj:=join_head (x:=x) (l:=l) (s:=⟨#[44]⟩) (by omega)
    intro e
    unfold htextB at e
    rw [hl] at e
    simp only [ByteArray.data_append,Array.toList_append,List.head?_append] at e
    rw [hj] at e
    cases hx2:x.data.toList with
    | nil=>have:=hx.1;rw [← data_length,hx2] at this;exact absurd this (by decide)
    | cons a b =>
      rw [hx2] at e
      simp at e
      have:=(hx.2 a (by rw [hx2];exact List.mem_cons_self)).1
      rw [e] at this
      exact absurd this (by decide)
 ·intro e
  unfold htextB at e
  simp only [ByteArray.data_append,Array.toList_append] at e
  rw [List.getLast?_append] at e
  cases hc:ct.data.toList.getLast? with
  | none=>rw [List.getLast?_eq_none_iff] at hc;have:=h2;rw [← data_length,hc] at this;exact absurd this (by decide)
  | some b =>
    rw [hc] at e
    simp at e
    have:=(h4 b (List.mem_of_getLast? hc)).1
    rw [e] at this
    exact absurd this (by decide)
theorem bmay_of {t:ByteArray} {ks vs:List ByteArray} (hn:namesB bwordB ks=true) (ht:bwordB t=true) (hl:ks.length≤64) (he:ks.length=vs.length) (hv:∀ v∈vs,bvalueB v=true):bmayB ⟨t,ks,vs⟩=true:=by
 unfold bmayB
 rw [hn,ht,decide_eq_true hl,decide_eq_true he,List.any_eq_false.2 (fun v h=>by rw [hv v h];decide)]
 rfl
theorem contacts_any (s:ByteArray) (h:bwordB s=true) (w:World):Calls Tryz.prog 113 #[.string s] w fun e w'=>MadeD w e w':=by
 have H0:=am h
 clear h
 go_in
 go_wp2_with (first|((with_reducible refine bv 2 #[.string (⟨#[]⟩:ByteArray),.slice none 0 0,.slice none 0 0] 102 ?_);intro gr hgb w1 hbox hb;have HR1:=am hbox;have HB1:=am hb;have HG1:=am hgb;clear hb hbox hgb)|((with_reducible refine lv 3 #[.string (⟨#[110,97,109,101]⟩:ByteArray)] 9 1 ?_);intro gn hgb w2 hbox hb;have HN2:=am hbox;have HGn:=am hgb;have HR2:=bB HR1 hb;have HB2:=bS HB1 hb;clear hb hbox hgb)|((with_reducible refine lv 5 #[.string s] 9 1 ?_);intro gi hgb w3 hbox hb;have HI3:=am hbox;have HGi:=am hgb;have HR3:=bB HR2 hb;have HN3:=bB HN2 hb;obtain ⟨r0,r1,r2⟩:=cc3 HR3.out;have q0:=blk_frozen HR3.out 0;have q1:=blk_frozen HR3.out 1;have q2:=blk_frozen HR3.out 2;have HB3:=bS HB2 hb;clear hb hbox hgb))
 have hn1:gn≠gr:=by have h1:=HGn.out;have h2:=blk_lt HR1.out;omega
 have hn2:gi≠gr:=by have h1:=HGi.out;have h2:=blk_lt HR2.out;omega
 have hge:w.heap.size≤gn∧w.heap.size≤gi:=⟨by rw [HGn.out];exact HB1.out.size,by rw [HGi.out];exact HB2.out.size⟩
 have hend:((((w3.setCell ⟨gr,0,none⟩ (.string (⟨#[99,111,110,116,97,99,116]⟩:ByteArray))).setCell ⟨gr,1,none⟩ (.slice (some ⟨gn,0,none⟩) 1 1)).setCell ⟨gr,2,none⟩ (.slice (some ⟨gi,0,none⟩) 1 1))).heap[gr]?=some (.cells #[.string (⟨#[99,111,110,116,97,99,116]⟩:ByteArray),.slice (some ⟨gn,0,none⟩) 1 1,.slice (some ⟨gi,0,none⟩) 1 1] 102 (0,0)):=by rw [(blk_set (blk_set (blk_set HR3.out 0 _) 1 _) 2 _)];simp only [nm]
 refine bodyPost_ret (results_cell_row rfl _ _ gr 102 #[.string (⟨#[99,111,110,116,97,99,116]⟩:ByteArray),.slice (some ⟨gn,0,none⟩) 1 1,.slice (some ⟨gi,0,none⟩) 1 1] (0,0) _ rfl (hend) Tryz.underlying102 rfl (by kernel_rfl)) rfl ?_
 refine ⟨⟨⟨(⟨#[99,111,110,116,97,99,116]⟩:ByteArray),[(⟨#[110,97,109,101]⟩:ByteArray)],[s]⟩,_,rfl,bmay_of (by decide +kernel) (by decide +kernel) (by simp) rfl (fun v hv=>?_),?_⟩,(below_set (below_set (below_set HB3.out (Nat.le_of_eq HG1.out.symm)) (Nat.le_of_eq HG1.out.symm)) (Nat.le_of_eq HG1.out.symm))⟩
 ·rw [List.mem_singleton.1 hv];exact bvalue_bword H0.out
 ·exact k102_mkM _ _ _ ⟨(⟨#[99,111,110,116,97,99,116]⟩:ByteArray),[(⟨#[110,97,109,101]⟩:ByteArray)],[s]⟩ (R_lits Kd.string (blk_far (blk_far (blk_far HN3.out hn1 _) hn1 _) hn1 _) hge.1 (by simp) (Kd.reps_scalar [(⟨#[110,97,109,101]⟩:ByteArray)])) (R_lits Kd.string (blk_far (blk_far (blk_far HI3.out hn2 _) hn2 _) hn2 _) hge.2 (by simp) (Kd.reps_scalar [s]))
theorem period_any (x:S54) (h:hourB x=true) (w:World) (hK:KeysIn w) (cs:List Value) (hk:k54.K w x cs):Calls Tryz.prog 112 #[.agg cs.toArray] w fun e w'=>MadeD w e w':=by
 obtain rfl:=k54_open hk
 obtain ⟨cf,ct,hf,p1,p2,p3,p4⟩:=htext_some (nm:=x.f0) (d:=x.f1) (f:=x.f2) (t:=x.f3) h
 have hp:=bvalue_htext (nm:=x.f0) (d:=x.f1) (f:=x.f2) (t:=x.f3) h p1 p2 p3 p4
 have ht:=fun W (hb:Below w.heap.size w W)=>hours_Text.calls x.f0 x.f1 x.f2 x.f3 _ _ W hf (keys_step hK hb)
 have hnm:bvalueB x.f0=true:=by
  refine bvalue_bword ?_
  unfold hourB rightB at h
  simp only [Bool.and_eq_true,decide_eq_true_eq] at h
  unfold bwordB
  simp only [Bool.and_eq_true,decide_eq_true_eq]
  exact ⟨⟨h.1.1.1.1.1.1.1.1,h.1.1.1.1.1.1.1.2⟩,h.1.1.1.1.1.1.2⟩
 generalize htextB x.f1 x.f2 x.f3 cf ct=s at *
 have HT:=am ht
 have HV:=am (And.intro hnm hp)
 clear ht hk hK h hf hp hnm p1 p2 p3 p4
 show Calls Tryz.prog 112 #[.agg #[.string x.f0,.int .i64 x.f1,.int .i64 x.f2,.int .i64 x.f3]] w fun e w'=>MadeD w e w'
 go_in
 go_wp2_with (first|((with_reducible refine bv 1 #[.string x.f0,.int .i64 x.f1,.int .i64 x.f2,.int .i64 x.f3] 54 ?_);intro gb hgb w1 hbox hb;have HX1:=am hbox;have HB1:=am hb;have HG1:=am hgb;clear hb hbox hgb)|((with_reducible refine bv 2 #[.string (⟨#[]⟩:ByteArray),.slice none 0 0,.slice none 0 0] 102 ?_);intro gr hgb w2 hbox hb;have HX2:=bB HX1 hb;obtain ⟨y0,y1,y2,y3⟩:=cc4 HX2.out;have HR2:=am hbox;have HB2:=bS HB1 hb;have HG2:=am hgb;clear hb hbox hgb)|(go_at_call 138;refine (HT.out _ HB2.out).mono ?_;rintro e w3 ⟨rfl,hb⟩;have HB3:=bS HB2 hb;have HR3:=bB HR2 hb;have HX3:=bB HX2 hb;have x0:w3.cell? ⟨gb,0,none⟩=some (.string x.f0):=bz HX3.out 0 rfl;clear hb)|((with_reducible refine lv 10 #[.string (⟨#[110,97,109,101]⟩:ByteArray),.string (⟨#[115,112,97,110]⟩:ByteArray)] 9 2 ?_);intro gn hgb w4 hbox hb;have HN4:=am hbox;have HGn:=am hgb;have HR4:=bB HR3 hb;have HX4:=bB HX3 hb;have u0:w4.cell? ⟨gb,0,none⟩=some (.string x.f0):=bz HX4.out 0 rfl;have HB4:=bS HB3 hb;clear hb hbox hgb)|((with_reducible refine lv 14 #[.string x.f0,.string s] 9 2 ?_);intro gi hgb w5 hbox hb;have HI5:=am hbox;have HGi:=am hgb;have HR5:=bB HR4 hb;have HN5:=bB HN4 hb;obtain ⟨r0,r1,r2⟩:=cc3 HR5.out;have q0:=blk_frozen HR5.out 0;have q1:=blk_frozen HR5.out 1;have q2:=blk_frozen HR5.out 2;have HB5:=bS HB4 hb;clear hb hbox hgb))
 have HGR:Aside0 (w.heap.size≤gr):=⟨by rw [HG2.out];exact HB1.out.size⟩
 have hn1:gn≠gr:=by have h1:=HGn.out;have h2:=blk_lt HR3.out;omega
 have hn2:gi≠gr:=by have h1:=HGi.out;have h2:=blk_lt HR4.out;omega
 have hge:w.heap.size≤gn∧w.heap.size≤gi:=⟨by rw [HGn.out];exact HB3.out.size,by rw [HGi.out];exact HB4.out.size⟩
 have hend:((((w5.setCell ⟨gr,0,none⟩ (.string (⟨#[116,105,109,101,112,101,114,105,111,100]⟩:ByteArray))).setCell ⟨gr,1,none⟩ (.slice (some ⟨gn,0,none⟩) 2 2)).setCell ⟨gr,2,none⟩ (.slice (some ⟨gi,0,none⟩) 2 2))).heap[gr]?=some (.cells #[.string (⟨#[116,105,109,101,112,101,114,105,111,100]⟩:ByteArray),.slice (some ⟨gn,0,none⟩) 2 2,.slice (some ⟨gi,0,none⟩) 2 2] 102 (0,0)):=by rw [(blk_set (blk_set (blk_set HR5.out 0 _) 1 _) 2 _)];simp only [nm]
 refine bodyPost_ret (results_cell_row rfl _ _ gr 102 #[.string (⟨#[116,105,109,101,112,101,114,105,111,100]⟩:ByteArray),.slice (some ⟨gn,0,none⟩) 2 2,.slice (some ⟨gi,0,none⟩) 2 2] (0,0) _ rfl (hend) Tryz.underlying102 rfl (by kernel_rfl)) rfl ?_
 refine ⟨⟨⟨(⟨#[116,105,109,101,112,101,114,105,111,100]⟩:ByteArray),[(⟨#[110,97,109,101]⟩:ByteArray),(⟨#[115,112,97,110]⟩:ByteArray)],[x.f0,s]⟩,_,rfl,bmay_of (by decide +kernel) (by decide +kernel) (by simp) rfl (fun v hv=>?_),?_⟩,(below_set (below_set (below_set HB5.out HGR.out) HGR.out) HGR.out)⟩
 ·simp only [List.mem_cons,List.not_mem_nil,or_false] at hv
  rcases hv with rfl|rfl
  ·exact HV.out.1
  ·exact HV.out.2
 ·exact k102_mkM _ _ _ ⟨(⟨#[116,105,109,101,112,101,114,105,111,100]⟩:ByteArray),[(⟨#[110,97,109,101]⟩:ByteArray),(⟨#[115,112,97,110]⟩:ByteArray)],[x.f0,s]⟩ (R_lits Kd.string (blk_far (blk_far (blk_far HN5.out hn1 _) hn1 _) hn1 _) hge.1 (by simp) (Kd.reps_scalar [(⟨#[110,97,109,101]⟩:ByteArray),(⟨#[115,112,97,110]⟩:ByteArray)])) (R_lits Kd.string (blk_far (blk_far (blk_far HI5.out hn2 _) hn2 _) hn2 _) hge.2 (by simp) (Kd.reps_scalar [x.f0,s]))
end Go.Proofs.YthofmfaeccdckaaGreatDoor.P
