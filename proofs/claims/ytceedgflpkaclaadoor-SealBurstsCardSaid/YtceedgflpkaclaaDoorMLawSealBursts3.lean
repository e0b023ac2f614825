/- What these functions of the program and of the plain reference compute, and plain lemmas on it: BytesRowK, Pref02Keys, Pref02Turn, Pref02Round. Conditions: as each lemma says. -/
import Derived.Test.YtceedgflpkaclaaDoorMLawSealBursts0
import Derived.Lib.ConvBytes
import Derived.Laws.BytesArg
/- A row of bytes that a conversion of a text has made: words 'Kb.R..' like the printed walks' own words for rows (the model marks its block, so the kit's own words for a row don't hold of it). Conditions: none. -/
namespace Go.Proofs.YtceedgflpkaclaaDoor.P
open Go.RowKit Go.Proofs.YtceedgflpkaclaaDoorW.PrintWords Go.Proofs.YtceedgflpkaclaaDoorW.PrintLast Go.Proofs.YtceedgflpkaclaaDoorW.PrintMore

structure RowF (w:World) (base e:Nat) (v:Value) (xs:List Int):Prop where
 is_:∃ g cap cur fr,v=.slice (some ⟨g,0,none⟩) xs.length cap∧base≤g∧w.heap[g]?=some (.cells cur e fr)∧cur.size≤fr.1∧xs.length≤cap∧xs.length≤9223372036854775807∧xs.length≤cur.size∧cur.toList.take xs.length=nums .u8 xs
theorem RowF.cell {w:World} {base e g n cap:Nat} {xs:List Int} (h:RowF w base e (.slice (some ⟨g,0,none⟩) n cap) xs) (j:Nat) (hj:j<xs.length) :
  w.cell? ⟨g,j,none⟩=some (.int .u8 (xs.getD j 0))∧w.frozen? ⟨g,j,none⟩=false:=by
 obtain ⟨g',cap',cur,fr,hv,_,hb,hm,_,_,hc,ht⟩:=h.is_
 injection hv with h1 h2 h3
 injection h1 with h1
 injection h1 with h1
 subst h1
 constructor
 ·have h4:(cur.toList.take xs.length)[j]?=some (.int .u8 (xs.getD j 0)):=by
   rw [ht]
   simp [nums,List.getD_eq_getElem?_getD,List.getElem?_eq_getElem hj]
  rw [List.getElem?_take_of_lt hj,Array.getElem?_toList] at h4
  simp [World.cell?,hb,h4]
 ·have:¬ fr.1≤j:=by omega
  simp [World.frozen?,hb,this]
theorem own_stringF {P:Program} {w:World} {base:Nat} {e' src dst e:TypeId} {v:Value} {xs:List Int} (hs:P.underlying src=some (.slice e)) (he:P.underlying e=some (.int .u8)) (hd:P.underlying dst=some .string)
  (h:RowF w base e' v xs):(convert src dst v).run P w=.ok (.string (strOfNums xs)) w:=by
 have h':=h
 obtain ⟨g,cap,cur,fr,rfl,_⟩:=h.is_
 refine run_convert_bytes_arg w src e hs he g 0 xs.length cap xs rfl (fun i hi=>?_) dst hd
 rw [Nat.zero_add]
 exact (h'.cell i hi).1
namespace Kb
def R (d:Go.Proofs.YtceedgflpkaclaaDoorW.PrintWords.Kd Int) (e:Nat) (w:World) (base:Nat) (ok:Nat→Prop) (v:Value) (xs:List Int):Prop :=
 d=Kd.int .u8∧(∀ k,v.ownBlock=some k→ok k)∧RowF w base e v xs
section
variable {d:Go.Proofs.YtceedgflpkaclaaDoorW.PrintWords.Kd Int} {e:Nat} {w w1:World} {base:Nat} {ok ok':Nat→Prop} {v:Value} {xs:List Int}
theorem own_of_R (h:R d e w base ok v xs):RowF w base e v xs:=h.2.2
theorem R_below (h:R d e w base ok v xs) (hb:Below w.heap.size w w1):R d e w1 base ok v xs:=by
 obtain ⟨hd,hok,g,cap,cur,fr,hv,h1,h2,h3⟩:=h
 exact ⟨hd,hok,g,cap,cur,fr,hv,h1,blk_below h2 hb,h3⟩
theorem R_alloc (h:R d e w base ok v xs) (o:Obj):R d e (w.alloc o) base ok v xs:=R_below h (below_alloc (Below.refl _ _) o)
theorem R_drew (h:R d e w base ok v xs):R d e w.drew base ok v xs:=R_below h (below_drew (Below.refl _ _))
theorem R_drewN (h:R d e w base ok v xs) (m:Nat):R d e (w.drewN m) base ok v xs:=R_below h (pw_below_drewN (Below.refl _ _) m)
theorem R_lower {base':Nat} (h:R d e w base ok v xs) (hb:base'≤base):R d e w base' ok v xs:=by
 obtain ⟨hd,hok,g,cap,cur,fr,hv,h1,h2,h3⟩:=h
 exact ⟨hd,hok,g,cap,cur,fr,hv,by omega,h2,h3⟩
theorem R_slice (h:R d e w base ok v xs):∃ A c,v=.slice A xs.length c:=by
 obtain ⟨_,_,g,cap,cur,fr,hv,_⟩:=h
 exact ⟨_,_,hv⟩
theorem R_form (h:R d e w base ok v xs) (_:0<xs.length):∃ g cap,v=.slice (some ⟨g,0,none⟩) xs.length cap∧base≤g∧g<w.heap.size∧∃ cells,∃ fr,w.heap[g]?=some (.cells cells e fr):=by
 obtain ⟨_,_,g,cap,cur,fr,hv,h1,h2,_⟩:=h
 exact ⟨g,cap,hv,h1,blk_lt h2,cur,fr,h2⟩
theorem R_over' {v':Value} {e':Nat} (h:R d e w base ok v xs) (hty:∀ k,v'.ownBlock=some k→∃ cells,w.heap[k]?=some (.cells cells e' (0,0))) (ht:∀ q,q∈e::d.E→q≠e') (hg:w.grownBy w1 v'.ownBlock):R d e w1 base ok v xs:=by
 obtain ⟨hd,hok,g,cap,cur,fr,hv,h1,h2,h3⟩:=h
 refine ⟨hd,hok,g,cap,cur,fr,hv,h1,(hg.block g (blk_lt h2) (fun he=>?_)).trans h2,h3⟩
 obtain ⟨cells',hc'⟩:=hty g he.symm
 rw [h2] at hc'
 injection hc' with hc'
 injection hc' with _ hc'
 exact ht e (List.mem_cons_self ..) hc'
theorem R_types {α:Type} {d':Go.Proofs.YtceedgflpkaclaaDoorW.PrintWords.Kd α} {v':Value} {xs':List α} {e':Nat} {ok2:Nat→Prop} (h:d'.R e' w base ok2 v' xs') {g t:Nat} {cells:Array Value} (hb:∃ fr,w.heap[g]?=some (.cells cells t fr)) (ht:∀ q,q∈e'::d'.E→q≠t):d'.R e' w base (fun k=>ok2 k∧k≠g) v' xs' :=
 Go.Proofs.YtceedgflpkaclaaDoorW.PrintWords.Kd.R_mono (Go.Proofs.YtceedgflpkaclaaDoorW.PrintWords.Kd.R_bound h) (fun k hk=>⟨hk.1,by
  obtain ⟨_,_,_,q,hq,cells',hc⟩:=hk
  obtain ⟨fr,hb⟩:=hb
  rintro rfl
  rw [hc] at hb
  injection hb with hb
  injection hb with _ hb
  exact ht q hq hb⟩)
theorem R_reads' {A:Option Addr} {n c:Nat} (h:R d e w base ok (.slice A n c) xs):n=xs.length∧n≤c∧d.C w A xs.length xs:=by
 obtain ⟨rfl,_,hr⟩:=h
 have hr':=hr
 obtain ⟨g,cap,cur,fr,hv,h1,h2,h3,h4,h5,h6⟩:=hr.is_
 injection hv with e1 e2 e3
 subst e1 e2 e3
 refine ⟨rfl,h4,Go.Proofs.YtceedgflpkaclaaDoorW.PrintWords.Kd.C_of_reads (d:=(0:Int)) (h1:=fun _=>rfl) ⟨rfl,h5,fun _=>⟨⟨g,0,none⟩,rfl,fun i hi=>?_⟩⟩⟩
 rw [add_plain]
 exact (hr'.cell i hi).1
theorem R_celln {g n cap:Nat} (z:Int) (h:R d e w base ok (.slice (some ⟨g,0,none⟩) n cap) xs) (i:Int) (h0:0≤i) (hi:i<n):w.cell? ⟨g,i.toNat,none⟩=some (.int .u8 (rdOf z xs i))∧w.frozen? ⟨g,i.toNat,none⟩=false:=by
 obtain ⟨hn,_⟩:=R_reads' h
 have hj:i.toNat<xs.length:=by omega
 have h1:=h.2.2.cell i.toNat hj
 refine ⟨h1.1.trans ?_,h1.2⟩
 simp [rdOf,List.getD_eq_getElem?_getD,List.getElem?_eq_getElem hj]
theorem R_putn {g n cap:Nat} (h:R d e w base ok (.slice (some ⟨g,0,none⟩) n cap) xs) (i:Int) (x:Int):R d e (w.setCell ⟨g,i.toNat,none⟩ (.int .u8 x)) base ok (.slice (some ⟨g,0,none⟩) n cap) (xs.set i.toNat x):=by
 obtain ⟨hd,hok,g',cap',cur,fr,hv,h1,h2,h3,h4,h5,h6,h7⟩:=h
 injection hv with e1 e2 e3
 injection e1 with e1
 injection e1 with e1
 subst e1 e2 e3
 refine ⟨hd,hok,g,cap,cur.setIfInBounds i.toNat (.int .u8 x),fr,by rw [List.length_set],h1,?_,by simpa using h3,by simpa using h4,by simpa using h5,by simpa using h6,?_⟩
 ·simp [World.setCell,Array.getElem?_modify,h2]
 ·rw [Array.toList_setIfInBounds,List.take_set,List.length_set,h7]
  simp [nums,List.map_set]
end
section
variable {Pr:Program} {ops:Array Oper} {rest:List Oper} {o:Oper} {a:Act} {Q:Exit→Act→World→Prop}
theorem R_bytes {w0 W:World} (base e:Nat) (hgd:o.guard=none) {N:Tmp} (_hd:o.dst=some N) {s:ByteArray} {ok okp:Nat→Prop}
  {src dst:TypeId} {x:Operand} (ho:o.op=.convert src dst x) (hx:a.eval x=.string s) {u:TypeDesc} (hs:Pr.underlying src=some u) (hd:Pr.underlying dst=some (.slice e)) (he:Pr.underlying e=some (.int .u8))
  (hm:s.size≤9223372036854775807) (hfresh:ok W.heap.size) (_hp:okp W.heap.size) (HB:Below base w0 W) (hbase:base≤W.heap.size)
  (h:∀ v1 w1,R (Kd.int .u8) e w1 base ok v1 (bytesOf s)→Below base w0 w1→wpList Pr ops Q rest (a.put o.dst v1) w1):wpList Pr ops Q (o::rest) a W:=by
 have hc:=Lib.run_convert_string_bytes (P:=Pr) W src dst e s hs hd he
 have hrun:(execOp a.eval o).run Pr W=.ok (.value (.slice (some ⟨W.heap.size,0,none⟩) s.size (grownCap W s.size 0 e))) (Lib.bytesWorld W e s):=by
  simp [execOp,ho,hx,hc,Result.andThen]
 refine Go.Proofs.YtceedgflpkaclaaDoorW.PrintWords.Kd.event_run hgd hrun (h _ _ ⟨rfl,fun k hk=>?_,⟨W.heap.size,grownCap W s.size 0 e,Lib.bytesCells W e s,((Lib.bytesCells W e s).size,(Lib.bytesCells W e s).size+1),by rw [bytesOf_length],hbase,Lib.bytesWorld_at_new W e s,Nat.le_refl _,?_,?_,?_,?_⟩⟩ (bytes_below HB hbase e s))
 ·have:W.heap.size=k:=by simpa [Value.ownBlock] using hk
  subst this
  exact hfresh
 ·rw [bytesOf_length]
  exact grownCap_ge W s.size 0 e
 ·rw [bytesOf_length]
  exact hm
 ·rw [bytesOf_length]
  simp [Lib.bytesCells]
 ·rw [bytesOf_length]
  have h1:(s.data.toList.map fun b=>Value.int .u8 b.toNat).length=s.size:=by rw [List.length_map,data_length]
  simp only [Lib.bytesCells,Array.toList_append,Array.toList_map]
  rw [← h1,List.take_left]
  simp [nums,bytesOf]
end
end Kb
end Go.Proofs.YtceedgflpkaclaaDoor.P

/- What one function of the program computes, as a Lean function, and a proof that its call comes to just that. Conditions: none. Written by wip/ownprint.py. -/
namespace Go.Proofs.YtceedgflpkaclaaDoor.P
open Go.RowKit Go.Proofs.YtceedgflpkaclaaDoorW.PrintWords Go.Proofs.YtceedgflpkaclaaDoorW.PrintLast Go.Proofs.YtceedgflpkaclaaDoorW.PrintMore
attribute [local go_sem] max2_int min2_int max_two min_two max_three min_three max_four min_four   -- for this text's walks alone
set_option linter.unusedVariables false
set_option linter.unusedSimpArgs false

def transhipmentref02_Keys.f :Option (List Int):=some (([1116352408,1899447441,3049323471,3921009573,961987163,1508970993,2453635748,2870763221,3624381080,310598401,607225278,1426881987,1925078388,2162078206,2614888103,3248222580,3835390401,4022224774,264347078,604807628,770255983,1249150122,1555081692,1996064986,2554220882,2821834349,2952996808,3210313671,3336571891,3584528711,113926993,338241895,666307205,773529912,1294757372,1396182291,1695183700,1986661051,2177026350,2456956037,2730485921,2820302411,3259730800,3345764771,3516065817,3600352804,4094571909,275423344,430227734,506948616,659060556,883997877,958139571,1322822218,1537002063,1747873779,1955562222,2024104815,2227730452,2361852424,2428436474,2756734187,3204031479,3329325298]:List Int))
set_option maxHeartbeats 8000000 in
set_option maxRecDepth 100000 in
theorem transhipmentref02_Keys.calls  (r:List Int) (w:World) (h:transhipmentref02_Keys.f =some r) :
  Calls Tryd.prog 15 #[] w fun e w'=>∃ v0_:Value,e=.returned (v0_)∧Kd.R (Kd.int .u32) 30 w' w.heap.size (fun _=>True) v0_ r∧Below w.heap.size w w':=by
 have HB:=Aside0.mk (Below.refl w.heap.size w)
 have H:(some (([1116352408,1899447441,3049323471,3921009573,961987163,1508970993,2453635748,2870763221,3624381080,310598401,607225278,1426881987,1925078388,2162078206,2614888103,3248222580,3835390401,4022224774,264347078,604807628,770255983,1249150122,1555081692,1996064986,2554220882,2821834349,2952996808,3210313671,3336571891,3584528711,113926993,338241895,666307205,773529912,1294757372,1396182291,1695183700,1986661051,2177026350,2456956037,2730485921,2820302411,3259730800,3345764771,3516065817,3600352804,4094571909,275423344,430227734,506948616,659060556,883997877,958139571,1322822218,1537002063,1747873779,1955562222,2024104815,2227730452,2361852424,2428436474,2756734187,3204031479,3329325298]:List Int)))=some r:=h
 clear h
 obtain ⟨y109,hy109⟩:∃ y_:List Int,y_=(([1116352408,1899447441,3049323471,3921009573,961987163,1508970993,2453635748,2870763221,3624381080,310598401,607225278,1426881987,1925078388,2162078206,2614888103,3248222580,3835390401,4022224774,264347078,604807628,770255983,1249150122,1555081692,1996064986,2554220882,2821834349,2952996808,3210313671,3336571891,3584528711,113926993,338241895,666307205,773529912,1294757372,1396182291,1695183700,1986661051,2177026350,2456956037,2730485921,2820302411,3259730800,3345764771,3516065817,3600352804,4094571909,275423344,430227734,506948616,659060556,883997877,958139571,1322822218,1537002063,1747873779,1955562222,2024104815,2227730452,2361852424,2428436474,2756734187,3204031479,3329325298]:List Int)):=⟨_,rfl⟩
 replace H:(some y109)=some r:=by first|(rw [hy109];with_reducible exact H)|(have H2_:=(Option.bind_some _ _).symm.trans H;rw [hy109];with_reducible exact H2_)|(have H2_:=(Option.bind_some _ _).symm.trans H;with_reducible exact H2_)|with_reducible exact H|(rw [hy109];exact H)|exact H
 have Ny109:=Aside0.mk hy109
 clear hy109
 obtain rfl:=Option.some.inj H
 go_enter Tryd.func15,Tryd.ntmps15
 go_wp2_with (first|((with_reducible refine gate_dst (N:=1) rfl ?_);refine Kd.R_lit (Kd.int .u32) _ 30 ?hg (N:=1) ?hd (xs:=([1116352408,1899447441,3049323471,3921009573,961987163,1508970993,2453635748,2870763221,3624381080,310598401,607225278,1426881987,1925078388,2162078206,2614888103,3248222580,3835390401,4022224774,264347078,604807628,770255983,1249150122,1555081692,1996064986,2554220882,2821834349,2952996808,3210313671,3336571891,3584528711,113926993,338241895,666307205,773529912,1294757372,1396182291,1695183700,1986661051,2177026350,2456956037,2730485921,2820302411,3259730800,3345764771,3516065817,3600352804,4094571909,275423344,430227734,506948616,659060556,883997877,958139571,1322822218,1537002063,1747873779,1955562222,2024104815,2227730452,2361852424,2428436474,2756734187,3204031479,3329325298]:List Int)) (inner:=[.int .u32 1116352408,.int .u32 1899447441,.int .u32 3049323471,.int .u32 3921009573,.int .u32 961987163,.int .u32 1508970993,.int .u32 2453635748,.int .u32 2870763221,.int .u32 3624381080,.int .u32 310598401,.int .u32 607225278,.int .u32 1426881987,.int .u32 1925078388,.int .u32 2162078206,.int .u32 2614888103,.int .u32 3248222580,.int .u32 3835390401,.int .u32 4022224774,.int .u32 264347078,.int .u32 604807628,.int .u32 770255983,.int .u32 1249150122,.int .u32 1555081692,.int .u32 1996064986,.int .u32 2554220882,.int .u32 2821834349,.int .u32 2952996808,.int .u32 3210313671,.int .u32 3336571891,.int .u32 3584528711,.int .u32 113926993,.int .u32 338241895,.int .u32 666307205,.int .u32 773529912,.int .u32 1294757372,.int .u32 1396182291,.int .u32 1695183700,.int .u32 1986661051,.int .u32 2177026350,.int .u32 2456956037,.int .u32 2730485921,.int .u32 2820302411,.int .u32 3259730800,.int .u32 3345764771,.int .u32 3516065817,.int .u32 3600352804,.int .u32 4094571909,.int .u32 275423344,.int .u32 430227734,.int .u32 506948616,.int .u32 659060556,.int .u32 883997877,.int .u32 958139571,.int .u32 1322822218,.int .u32 1537002063,.int .u32 1747873779,.int .u32 1955562222,.int .u32 2024104815,.int .u32 2227730452,.int .u32 2361852424,.int .u32 2428436474,.int .u32 2756734187,.int .u32 3204031479,.int .u32 3329325298]) (ok:=fun _=>True) (okp:=fun _=>True) ?hr ?hp (fun _ hk=>hk) trivial (Below.refl _ _) (Nat.le_refl _) (by simp) ?_;(case hd=>rfl);(case hg=>rfl);(case hr=>first|(go_simp;done)|(go_simp;rfl)|(go_simp;simp [IntKind.wrap_u32]));(case hp=>exact (Reps.one (show Kd.M (Kd.int .u32) _ _ _ 1116352408 [.int .u32 1116352408] from rfl) (Reps.one (show Kd.M (Kd.int .u32) _ _ _ 1899447441 [.int .u32 1899447441] from rfl) (Reps.one (show Kd.M (Kd.int .u32) _ _ _ 3049323471 [.int .u32 3049323471] from rfl) (Reps.one (show Kd.M (Kd.int .u32) _ _ _ 3921009573 [.int .u32 3921009573] from rfl) (Reps.one (show Kd.M (Kd.int .u32) _ _ _ 961987163 [.int .u32 961987163] from rfl) (Reps.one (show Kd.M (Kd.int .u32) _ _ _ 1508970993 [.int .u32 1508970993] from rfl) (Reps.one (show Kd.M (Kd.int .u32) _ _ _ 2453635748 [.int .u32 2453635748] from rfl) (Reps.one (show Kd.M (Kd.int .u32) _ _ _ 2870763221 [.int .u32 2870763221] from rfl) (Reps.one (show Kd.M (Kd.int .u32) _ _ _ 3624381080 [.int .u32 3624381080] from rfl) (Reps.one (show Kd.M (Kd.int .u32) _ _ _ 310598401 [.int .u32 310598401] from rfl) (Reps.one (show Kd.M (Kd.int .u32) _ _ _ 607225278 [.int .u32 607225278] from rfl) (Reps.one (show Kd.M (Kd.int .u32) _ _ _ 1426881987 [.int .u32 1426881987] from rfl) (Reps.one (show Kd.M (Kd.int .u32) _ _ _ 1925078388 [.int .u32 1925078388] from rfl) (Reps.one (show Kd.M (Kd.int .u32) _ _ _ 2162078206 [.int .u32 2162078206] from rfl) (Reps.one (show Kd.M (Kd.int .u32) _ _ _ 2614888103 [.int .u32 2614888103] from rfl) (Reps.one (show Kd.M (Kd.int .u32) _ _ _ 3248222580 [.int .u32 3248222580] from rfl) (Reps.one (show Kd.M (Kd.int .u32) _ _ _ 3835390401 [.int .u32 3835390401] from rfl) (Reps.one (show Kd.M (Kd.int .u32) _ _ _ 4022224774 [.int .u32 4022224774] from rfl) (Reps.one (show Kd.M (Kd.int .u32) _ _ _ 264347078 [.int .u32 264347078] from rfl) (Reps.one (show Kd.M (Kd.int .u32) _ _ _ 604807628 [.int .u32 604807628] from rfl) (Reps.one (show Kd.M (Kd.int .u32) _ _ _ 770255983 [.int .u32 770255983] from rfl) (Reps.one (show Kd.M (Kd.int .u32) _ _ _ 1249150122 [.int .u32 1249150122] from rfl) (Reps.one (show Kd.M (Kd.int .u32) _ _ _ 1555081692 [.int .u32 1555081692] from rfl) (Reps.one (show Kd.M (Kd.int .u32) _ _ _ 1996064986 [.int .u32 1996064986] from rfl) (Reps.one (show Kd.M (Kd.int .u32) _ _ _ 2554220882 [.int .u32 2554220882] from rfl) (Reps.one (show Kd.M (Kd.int .u32) _ _ _ 2821834349 [.int .u32 2821834349] from rfl) (Reps.one (show Kd.M (Kd.int .u32) _ _ _ 2952996808 [.int .u32 2952996808] from rfl) (Reps.one (show Kd.M (Kd.int .u32) _ _ _ 3210313671 [.int .u32 3210313671] from rfl) (Reps.one (show Kd.M (Kd.int .u32) _ _ _ 3336571891 [.int .u32 3336571891] from rfl) (Reps.one (show Kd.M (Kd.int .u32) _ _ _ 3584528711 [.int .u32 3584528711] from rfl) (Reps.one (show Kd.M (Kd.int .u32) _ _ _ 113926993 [.int .u32 113926993] from rfl) (Reps.one (show Kd.M (Kd.int .u32) _ _ _ 338241895 [.int .u32 338241895] from rfl) (Reps.one (show Kd.M (Kd.int .u32) _ _ _ 666307205 [.int .u32 666307205] from rfl) (Reps.one (show Kd.M (Kd.int .u32) _ _ _ 773529912 [.int .u32 773529912] from rfl) (Reps.one (show Kd.M (Kd.int .u32) _ _ _ 1294757372 [.int .u32 1294757372] from rfl) (Reps.one (show Kd.M (Kd.int .u32) _ _ _ 1396182291 [.int .u32 1396182291] from rfl) (Reps.one (show Kd.M (Kd.int .u32) _ _ _ 1695183700 [.int .u32 1695183700] from rfl) (Reps.one (show Kd.M (Kd.int .u32) _ _ _ 1986661051 [.int .u32 1986661051] from rfl) (Reps.one (show Kd.M (Kd.int .u32) _ _ _ 2177026350 [.int .u32 2177026350] from rfl) (Reps.one (show Kd.M (Kd.int .u32) _ _ _ 2456956037 [.int .u32 2456956037] from rfl) (Reps.one (show Kd.M (Kd.int .u32) _ _ _ 2730485921 [.int .u32 2730485921] from rfl) (Reps.one (show Kd.M (Kd.int .u32) _ _ _ 2820302411 [.int .u32 2820302411] from rfl) (Reps.one (show Kd.M (Kd.int .u32) _ _ _ 3259730800 [.int .u32 3259730800] from rfl) (Reps.one (show Kd.M (Kd.int .u32) _ _ _ 3345764771 [.int .u32 3345764771] from rfl) (Reps.one (show Kd.M (Kd.int .u32) _ _ _ 3516065817 [.int .u32 3516065817] from rfl) (Reps.one (show Kd.M (Kd.int .u32) _ _ _ 3600352804 [.int .u32 3600352804] from rfl) (Reps.one (show Kd.M (Kd.int .u32) _ _ _ 4094571909 [.int .u32 4094571909] from rfl) (Reps.one (show Kd.M (Kd.int .u32) _ _ _ 275423344 [.int .u32 275423344] from rfl) (Reps.one (show Kd.M (Kd.int .u32) _ _ _ 430227734 [.int .u32 430227734] from rfl) (Reps.one (show Kd.M (Kd.int .u32) _ _ _ 506948616 [.int .u32 506948616] from rfl) (Reps.one (show Kd.M (Kd.int .u32) _ _ _ 659060556 [.int .u32 659060556] from rfl) (Reps.one (show Kd.M (Kd.int .u32) _ _ _ 883997877 [.int .u32 883997877] from rfl) (Reps.one (show Kd.M (Kd.int .u32) _ _ _ 958139571 [.int .u32 958139571] from rfl) (Reps.one (show Kd.M (Kd.int .u32) _ _ _ 1322822218 [.int .u32 1322822218] from rfl) (Reps.one (show Kd.M (Kd.int .u32) _ _ _ 1537002063 [.int .u32 1537002063] from rfl) (Reps.one (show Kd.M (Kd.int .u32) _ _ _ 1747873779 [.int .u32 1747873779] from rfl) (Reps.one (show Kd.M (Kd.int .u32) _ _ _ 1955562222 [.int .u32 1955562222] from rfl) (Reps.one (show Kd.M (Kd.int .u32) _ _ _ 2024104815 [.int .u32 2024104815] from rfl) (Reps.one (show Kd.M (Kd.int .u32) _ _ _ 2227730452 [.int .u32 2227730452] from rfl) (Reps.one (show Kd.M (Kd.int .u32) _ _ _ 2361852424 [.int .u32 2361852424] from rfl) (Reps.one (show Kd.M (Kd.int .u32) _ _ _ 2428436474 [.int .u32 2428436474] from rfl) (Reps.one (show Kd.M (Kd.int .u32) _ _ _ 2756734187 [.int .u32 2756734187] from rfl) (Reps.one (show Kd.M (Kd.int .u32) _ _ _ 3204031479 [.int .u32 3204031479] from rfl) (Reps.one (show Kd.M (Kd.int .u32) _ _ _ 3329325298 [.int .u32 3329325298] from rfl) (Reps.none _ _))))))))))))))))))))))))))))))))))))))))))))))))))))))))))))))))));intro v110 w1 ho2 hb hg_ hnew_;clear hg_ hnew_;(first|rw [← Ny109.out] at ho2|(simp only [Int.reduceToNat] at ho2;rw [← Ny109.out] at ho2));have n0_:=Aside0.mk (Kd.R_lower ho2 (below_size (by repeat (first|(with_reducible first|exact HB.out|apply below_alloc|apply pw_below_drewN|apply below_drew1)|exact HB.out))));have n1_:=Aside0.mk (below_step (by repeat (first|(with_reducible first|exact HB.out|apply below_alloc|apply pw_below_drewN|apply below_drew1)|exact HB.out)) hb);clear HB;have HO111:=n0_;have HB:=n1_;clear n0_ n1_;clear hb ho2))
 (first|go_ret|go_ret2)
 exact ⟨_,by first|rfl|(simp [errW_none,errW_some]<;>rfl)|(simp [*,errW_none,errW_some]<;>rfl),by (with_reducible repeat (first|apply Kd.R_alloc|apply Kd.R_drewN|apply Kd.R_drew));exact HO111.out,by repeat (first|(with_reducible first|exact HB.out|apply below_alloc|apply pw_below_drewN|apply below_drew1)|exact HB.out)⟩
end Go.Proofs.YtceedgflpkaclaaDoor.P

/- What one function of the program computes, as a Lean function, and a proof that its call comes to just that. Conditions: none. Written by wip/ownprint.py. -/
namespace Go.Proofs.YtceedgflpkaclaaDoor.P
open Go.RowKit Go.Proofs.YtceedgflpkaclaaDoorW.PrintWords Go.Proofs.YtceedgflpkaclaaDoorW.PrintLast Go.Proofs.YtceedgflpkaclaaDoorW.PrintMore
attribute [local go_sem] max2_int min2_int max_two min_two max_three min_three max_four min_four   -- for this text's walks alone
set_option linter.unusedVariables false
set_option linter.unusedSimpArgs false

def transhipmentref02_turn.l0:Nat→Int→Int→Int→Option (Int)
 | 0,_,_,_=>none
 | k+1,x0,x1,x5=>if x5<x1 then (transhipmentref02_turn.l0 k ((((Int.tdiv x0 2) % 4294967296)+(((Int.tmod x0 2)*2147483648) % 4294967296)) % 4294967296) x1 (wrap64 (x5+1))) else (some x0)
def transhipmentref02_turn.f (k:Nat) (a0:Int) (a1:Int):Option (Int):=transhipmentref02_turn.l0 k a0 a1 0
set_option maxHeartbeats 8000000 in
set_option maxRecDepth 100000 in
theorem transhipmentref02_turn.calls (k:Nat) (a0:Int) (a1:Int) (r:Int) (w:World) (h:transhipmentref02_turn.f k a0 a1=some r) :
  Calls Tryd.prog 55 #[.int .u32 a0,.int .i64 a1] w fun e w'=>e=.returned (.int .u32 r)∧Drawn0 w w':=by
 have H:(transhipmentref02_turn.l0 k a0 a1 0)=some r:=h
 clear h
 have H':=Aside0.mk H
 clear H
 go_enter Tryd.func55,Tryd.ntmps55
 go_wp2
 go_loopg [0,5] k (fun kq v0 v5 w'=>∃ (x0_1:Int) (x5_1:Int),v0=.int .u32 x0_1∧v5=.int .i64 x5_1∧Aside0 (transhipmentref02_turn.l0 kq x0_1 a1 x5_1=some r)∧Aside0 (kq≤k)∧Drawn0 w w')
 case atStart=>exact ⟨(a0),(0),(by first|rfl|(simp;done)|(simp [*];done)),(by first|rfl|(simp;done)|(simp [*];done)),H',⟨Nat.le_refl _⟩,by repeat (first|exact Drawn0.refl _|apply Drawn0.step)⟩
 case round =>
  clear H'
  try clear p2
  obtain ⟨x0_1,x5_1,rfl,rfl,HA,HK1,⟨m1,rfl⟩⟩:=hrel
  cases gk with
  | zero=>exact absurd HA.out (by simp [transhipmentref02_turn.l0])
  | succ k1 =>
   have H:=HA.out
   clear HA
   simp only [transhipmentref02_turn.l0] at H
   by_cases c3:x5_1<a1
   ·rw [if_pos c3] at H
    have c3b0:decide (x5_1<a1)=true:=decide_eq_true c3
    clear c3
    have H':=Aside0.mk H
    clear H
    go_wp2
    go_roundg k1
    case measure=>have:=HK1.out;omega
    case rel=>exact ⟨((((Int.tdiv x0_1 2) % 4294967296)+(((Int.tmod x0_1 2)*2147483648) % 4294967296)) % 4294967296),(wrap64 (x5_1+1)),(by first|rfl|(simp;done)|(simp [*];done)),(by first|rfl|(simp;done)|(simp [*];done)),H',⟨by have:=HK1.out;omega⟩,by repeat (first|exact Drawn0.refl _|apply Drawn0.step)⟩
   ·rw [if_neg c3] at H
    have c3b0:decide (x5_1<a1)=false:=decide_eq_false c3
    clear c3
    obtain rfl:=Option.some.inj H
    go_wp2
    (first|go_ret|go_ret2)
    exact ⟨by first|rfl|(simp;done)|(simp [*];done),by repeat (first|exact Drawn0.refl _|apply Drawn0.step)⟩
end Go.Proofs.YtceedgflpkaclaaDoor.P

/- What one function of the program computes, as a Lean function, and a proof that its call comes to just that. Conditions: none. Written by wip/ownprint.py. -/
namespace Go.Proofs.YtceedgflpkaclaaDoor.P
open Go.RowKit Go.Proofs.YtceedgflpkaclaaDoorW.PrintWords Go.Proofs.YtceedgflpkaclaaDoorW.PrintLast Go.Proofs.YtceedgflpkaclaaDoorW.PrintMore
attribute [local go_sem] max2_int min2_int max_two min_two max_three min_three max_four min_four   -- for this text's walks alone
set_option linter.unusedVariables false
set_option linter.unusedSimpArgs false

def transhipmentref02_Round.f (k:Nat) (l0:List Int) (a1:Int) (a2:Int):Option (List Int):=if 0<(l0.length:Int) then (if 4<(l0.length:Int) then (if 7<(l0.length:Int) then ((transhipmentref02_turn.f k (rd l0 4) 6).bind fun t115=>((transhipmentref02_turn.f k (rd l0 4) 11).bind fun t116=>((transhipmentref02_turn.f k (rd l0 4) 25).bind fun t117=>(if 5<(l0.length:Int) then (if 6<(l0.length:Int) then ((transhipmentref02_turn.f k (rd l0 0) 2).bind fun t120=>((transhipmentref02_turn.f k (rd l0 0) 13).bind fun t121=>((transhipmentref02_turn.f k (rd l0 0) 22).bind fun t122=>(if 1<(l0.length:Int) then (if 2<(l0.length:Int) then (if 3<(l0.length:Int) then (some (([((((((((((rd l0 7)+(Go.bits .xor .u32 (Go.bits .xor .u32 t115 t116) t117)) % 4294967296)+(Go.bits .xor .u32 (Go.bits .and .u32 (rd l0 4) (rd l0 5)) (Go.bits .and .u32 ((4294967295-(rd l0 4)) % 4294967296) (rd l0 6)))) % 4294967296)+a1) % 4294967296)+a2) % 4294967296)+(((Go.bits .xor .u32 (Go.bits .xor .u32 t120 t121) t122)+(Go.bits .xor .u32 (Go.bits .xor .u32 (Go.bits .and .u32 (rd l0 0) (rd l0 1)) (Go.bits .and .u32 (rd l0 0) (rd l0 2))) (Go.bits .and .u32 (rd l0 1) (rd l0 2)))) % 4294967296)) % 4294967296,rd l0 0,rd l0 1,rd l0 2,((rd l0 3)+(((((((((rd l0 7)+(Go.bits .xor .u32 (Go.bits .xor .u32 t115 t116) t117)) % 4294967296)+(Go.bits .xor .u32 (Go.bits .and .u32 (rd l0 4) (rd l0 5)) (Go.bits .and .u32 ((4294967295-(rd l0 4)) % 4294967296) (rd l0 6)))) % 4294967296)+a1) % 4294967296)+a2) % 4294967296)) % 4294967296,rd l0 4,rd l0 5,rd l0 6]:List Int))) else (none)) else (none)) else (none))))) else (none)) else (none))))) else (none)) else (none)) else (none)
def transhipmentref02_Round.T3:Bool×List (List Nat×List Nat):=(true,[([],[]),([0],[0]),([1],[1]),([],[]),([3],[3]),([],[]),([5,4],[5]),([4,6],[4,6]),([],[]),([8,6],[8]),([7,9],[7,9]),([2,10],[2,10]),([],[]),([],[]),([13],[13]),([14],[14]),([12,15],[12,15]),([],[]),([17],[17]),([],[]),([19],[19]),([20],[20]),([18,21],[18,21]),([16,22],[16,22]),([11,23],[11,23]),([],[]),([24,25],[24,25]),([],[]),([26,27],[26,27]),([28,9,0,1,2,3,4,5,6,7,8,9,10,11,12,13,14,15,16,17,18,19,20,21,22,23,24,25,26,27,28],[28])])
def transhipmentref02_Round.B3:List Nat:=[0,1,3,0,8,0,56,120,0,376,1016,2047,0,0,8192,24576,61440,0,131072,0,524288,1572864,4063232,8384512,16777215,0,67108863,0,268435455,536870911]
theorem transhipmentref02_Round.tab3:rtab .any (opsOf Tryd.f56 3)=transhipmentref02_Round.T3:=by kernel_rfl
theorem transhipmentref02_Round.bits3:waitsOk transhipmentref02_Round.T3.2 transhipmentref02_Round.B3=true:=by kernel_rfl
def transhipmentref02_Round.T4:Bool×List (List Nat×List Nat):=(true,[([],[]),([0],[0]),([],[]),([2,1],[2]),([1,3],[1,3]),([],[]),([5,3],[5]),([4,6],[4,6]),([],[]),([],[]),([9],[9]),([10],[10]),([8,11],[8,11]),([],[]),([],[]),([14],[14]),([15],[15]),([13,16],[13,16]),([12,17],[12,17]),([],[]),([19],[19]),([20],[20]),([],[]),([22],[22]),([23],[23]),([21,24],[21,24]),([18,25],[18,25]),([7,26],[7,26]),([27,6,0,1,2,3,4,5,6,7,8,9,10,11,12,13,14,15,16,17,18,19,20,21,22,23,24,25,26,27],[27])])
def transhipmentref02_Round.B4:List Nat:=[0,1,0,7,15,0,47,127,0,0,512,1536,3840,0,0,16384,49152,122880,261888,0,524288,1572864,0,4194304,12582912,33030144,67108608,134217727,268435455]
theorem transhipmentref02_Round.tab4:rtab .any (opsOf Tryd.f56 4)=transhipmentref02_Round.T4:=by kernel_rfl
theorem transhipmentref02_Round.bits4:waitsOk transhipmentref02_Round.T4.2 transhipmentref02_Round.B4=true:=by kernel_rfl
def transhipmentref02_Round.T5:Bool×List (List Nat×List Nat):=(true,[([],[]),([],[]),([0,1],[0,1]),([],[]),([],[]),([4],[4]),([5],[5]),([],[]),([7],[7]),([8],[8]),([],[]),([10],[10]),([11],[11]),([],[]),([12,13],[12,13]),([],[]),([],[]),([16],[16]),([17],[17]),([],[]),([19],[19]),([20],[20]),([2,3,6,9,14,15,18,21],[2,3,6,9,14,15,18,21]),([22,0,1,2,3,4,5,6,7,8,9,10,11,12,13,14,15,16,17,18,19,20,21,22],[22])])
def transhipmentref02_Round.B5:List Nat:=[0,0,3,0,0,16,48,0,128,384,0,1024,3072,0,15360,0,0,65536,196608,0,524288,1572864,4194303,8388607]
theorem transhipmentref02_Round.tab5:rtab .any (opsOf Tryd.f56 5)=transhipmentref02_Round.T5:=by kernel_rfl
theorem transhipmentref02_Round.bits5:waitsOk transhipmentref02_Round.T5.2 transhipmentref02_Round.B5=true:=by kernel_rfl
set_option maxHeartbeats 8000000 in
set_option maxRecDepth 100000 in
theorem transhipmentref02_Round.calls (k:Nat) (A0:Option Addr) (c0:Nat) (l0:List Int) (a1:Int) (a2:Int) (r:List Int) (w:World) (hr0:Kd.C (Kd.int .u32) w A0 l0.length l0) (hc0:l0.length≤c0) (h:transhipmentref02_Round.f k l0 a1 a2=some r) :
  Calls Tryd.prog 56 #[.slice A0 l0.length c0,.int .u32 a1,.int .u32 a2] w fun e w'=>∃ v0_:Value,e=.returned (v0_)∧Kd.R (Kd.int .u32) 30 w' w.heap.size (fun _=>True) v0_ r∧Below w.heap.size w w':=by
 have HR0:=Aside0.mk hr0
 have HC0:=Aside0.mk hc0
 clear hr0 hc0
 have HB:=Aside0.mk (Below.refl w.heap.size w)
 have H:(if 0<(l0.length:Int) then (if 4<(l0.length:Int) then (if 7<(l0.length:Int) then ((transhipmentref02_turn.f k (rd l0 4) 6).bind fun t115=>((transhipmentref02_turn.f k (rd l0 4) 11).bind fun t116=>((transhipmentref02_turn.f k (rd l0 4) 25).bind fun t117=>(if 5<(l0.length:Int) then (if 6<(l0.length:Int) then ((transhipmentref02_turn.f k (rd l0 0) 2).bind fun t120=>((transhipmentref02_turn.f k (rd l0 0) 13).bind fun t121=>((transhipmentref02_turn.f k (rd l0 0) 22).bind fun t122=>(if 1<(l0.length:Int) then (if 2<(l0.length:Int) then (if 3<(l0.length:Int) then (some (([((((((((((rd l0 7)+(Go.bits .xor .u32 (Go.bits .xor .u32 t115 t116) t117)) % 4294967296)+(Go.bits .xor .u32 (Go.bits .and .u32 (rd l0 4) (rd l0 5)) (Go.bits .and .u32 ((4294967295-(rd l0 4)) % 4294967296) (rd l0 6)))) % 4294967296)+a1) % 4294967296)+a2) % 4294967296)+(((Go.bits .xor .u32 (Go.bits .xor .u32 t120 t121) t122)+(Go.bits .xor .u32 (Go.bits .xor .u32 (Go.bits .and .u32 (rd l0 0) (rd l0 1)) (Go.bits .and .u32 (rd l0 0) (rd l0 2))) (Go.bits .and .u32 (rd l0 1) (rd l0 2)))) % 4294967296)) % 4294967296,rd l0 0,rd l0 1,rd l0 2,((rd l0 3)+(((((((((rd l0 7)+(Go.bits .xor .u32 (Go.bits .xor .u32 t115 t116) t117)) % 4294967296)+(Go.bits .xor .u32 (Go.bits .and .u32 (rd l0 4) (rd l0 5)) (Go.bits .and .u32 ((4294967295-(rd l0 4)) % 4294967296) (rd l0 6)))) % 4294967296)+a1) % 4294967296)+a2) % 4294967296)) % 4294967296,rd l0 4,rd l0 5,rd l0 6]:List Int))) else (none)) else (none)) else (none))))) else (none)) else (none))))) else (none)) else (none)) else (none))=some r:=h
 clear h
 by_cases c4:0<(l0.length:Int)
 ·rw [if_pos c4] at H
  have c4b0:decide (0<(l0.length:Int))=true:=decide_eq_true c4
  have c4b1:decide (0<l0.length)=true:=decide_eq_true (by omega)
  clear c4
  by_cases c5:4<(l0.length:Int)
  ·rw [if_pos c5] at H
   have c5b0:decide (4<(l0.length:Int))=true:=decide_eq_true c5
   have c5b1:decide (4<l0.length)=true:=decide_eq_true (by omega)
   clear c5
   by_cases c6:7<(l0.length:Int)
   ·rw [if_pos c6] at H
    have c6b0:decide (7<(l0.length:Int))=true:=decide_eq_true c6
    have c6b1:decide (7<l0.length)=true:=decide_eq_true (by omega)
    clear c6
    replace H:=Option.bind_eq_some_iff.mp H
    obtain ⟨t115,A70,H⟩:=H
    replace H:((transhipmentref02_turn.f k (rd l0 4) 11).bind fun t116=>((transhipmentref02_turn.f k (rd l0 4) 25).bind fun t117=>(if 5<(l0.length:Int) then (if 6<(l0.length:Int) then ((transhipmentref02_turn.f k (rd l0 0) 2).bind fun t120=>((transhipmentref02_turn.f k (rd l0 0) 13).bind fun t121=>((transhipmentref02_turn.f k (rd l0 0) 22).bind fun t122=>(if 1<(l0.length:Int) then (if 2<(l0.length:Int) then (if 3<(l0.length:Int) then (some (([((((((((((rd l0 7)+(Go.bits .xor .u32 (Go.bits .xor .u32 t115 t116) t117)) % 4294967296)+(Go.bits .xor .u32 (Go.bits .and .u32 (rd l0 4) (rd l0 5)) (Go.bits .and .u32 ((4294967295-(rd l0 4)) % 4294967296) (rd l0 6)))) % 4294967296)+a1) % 4294967296)+a2) % 4294967296)+(((Go.bits .xor .u32 (Go.bits .xor .u32 t120 t121) t122)+(Go.bits .xor .u32 (Go.bits .xor .u32 (Go.bits .and .u32 (rd l0 0) (rd l0 1)) (Go.bits .and .u32 (rd l0 0) (rd l0 2))) (Go.bits .and .u32 (rd l0 1) (rd l0 2)))) % 4294967296)) % 4294967296,rd l0 0,rd l0 1,rd l0 2,((rd l0 3)+(((((((((rd l0 7)+(Go.bits .xor .u32 (Go.bits .xor .u32 t115 t116) t117)) % 4294967296)+(Go.bits .xor .u32 (Go.bits .and .u32 (rd l0 4) (rd l0 5)) (Go.bits .and .u32 ((4294967295-(rd l0 4)) % 4294967296) (rd l0 6)))) % 4294967296)+a1) % 4294967296)+a2) % 4294967296)) % 4294967296,rd l0 4,rd l0 5,rd l0 6]:List Int))) else (none)) else (none)) else (none))))) else (none)) else (none))))=some r:=H
    have A7:=Aside0.mk A70
    clear A70
    replace H:=Option.bind_eq_some_iff.mp H
    obtain ⟨t116,A80,H⟩:=H
    replace H:((transhipmentref02_turn.f k (rd l0 4) 25).bind fun t117=>(if 5<(l0.length:Int) then (if 6<(l0.length:Int) then ((transhipmentref02_turn.f k (rd l0 0) 2).bind fun t120=>((transhipmentref02_turn.f k (rd l0 0) 13).bind fun t121=>((transhipmentref02_turn.f k (rd l0 0) 22).bind fun t122=>(if 1<(l0.length:Int) then (if 2<(l0.length:Int) then (if 3<(l0.length:Int) then (some (([((((((((((rd l0 7)+(Go.bits .xor .u32 (Go.bits .xor .u32 t115 t116) t117)) % 4294967296)+(Go.bits .xor .u32 (Go.bits .and .u32 (rd l0 4) (rd l0 5)) (Go.bits .and .u32 ((4294967295-(rd l0 4)) % 4294967296) (rd l0 6)))) % 4294967296)+a1) % 4294967296)+a2) % 4294967296)+(((Go.bits .xor .u32 (Go.bits .xor .u32 t120 t121) t122)+(Go.bits .xor .u32 (Go.bits .xor .u32 (Go.bits .and .u32 (rd l0 0) (rd l0 1)) (Go.bits .and .u32 (rd l0 0) (rd l0 2))) (Go.bits .and .u32 (rd l0 1) (rd l0 2)))) % 4294967296)) % 4294967296,rd l0 0,rd l0 1,rd l0 2,((rd l0 3)+(((((((((rd l0 7)+(Go.bits .xor .u32 (Go.bits .xor .u32 t115 t116) t117)) % 4294967296)+(Go.bits .xor .u32 (Go.bits .and .u32 (rd l0 4) (rd l0 5)) (Go.bits .and .u32 ((4294967295-(rd l0 4)) % 4294967296) (rd l0 6)))) % 4294967296)+a1) % 4294967296)+a2) % 4294967296)) % 4294967296,rd l0 4,rd l0 5,rd l0 6]:List Int))) else (none)) else (none)) else (none))))) else (none)) else (none)))=some r:=H
    have A8:=Aside0.mk A80
    clear A80
    replace H:=Option.bind_eq_some_iff.mp H
    obtain ⟨t117,A90,H⟩:=H
    replace H:(if 5<(l0.length:Int) then (if 6<(l0.length:Int) then ((transhipmentref02_turn.f k (rd l0 0) 2).bind fun t120=>((transhipmentref02_turn.f k (rd l0 0) 13).bind fun t121=>((transhipmentref02_turn.f k (rd l0 0) 22).bind fun t122=>(if 1<(l0.length:Int) then (if 2<(l0.length:Int) then (if 3<(l0.length:Int) then (some (([((((((((((rd l0 7)+(Go.bits .xor .u32 (Go.bits .xor .u32 t115 t116) t117)) % 4294967296)+(Go.bits .xor .u32 (Go.bits .and .u32 (rd l0 4) (rd l0 5)) (Go.bits .and .u32 ((4294967295-(rd l0 4)) % 4294967296) (rd l0 6)))) % 4294967296)+a1) % 4294967296)+a2) % 4294967296)+(((Go.bits .xor .u32 (Go.bits .xor .u32 t120 t121) t122)+(Go.bits .xor .u32 (Go.bits .xor .u32 (Go.bits .and .u32 (rd l0 0) (rd l0 1)) (Go.bits .and .u32 (rd l0 0) (rd l0 2))) (Go.bits .and .u32 (rd l0 1) (rd l0 2)))) % 4294967296)) % 4294967296,rd l0 0,rd l0 1,rd l0 2,((rd l0 3)+(((((((((rd l0 7)+(Go.bits .xor .u32 (Go.bits .xor .u32 t115 t116) t117)) % 4294967296)+(Go.bits .xor .u32 (Go.bits .and .u32 (rd l0 4) (rd l0 5)) (Go.bits .and .u32 ((4294967295-(rd l0 4)) % 4294967296) (rd l0 6)))) % 4294967296)+a1) % 4294967296)+a2) % 4294967296)) % 4294967296,rd l0 4,rd l0 5,rd l0 6]:List Int))) else (none)) else (none)) else (none))))) else (none)) else (none))=some r:=H
    have A9:=Aside0.mk A90
    clear A90
    by_cases c10:5<(l0.length:Int)
    ·rw [if_pos c10] at H
     have c10b0:decide (5<(l0.length:Int))=true:=decide_eq_true c10
     have c10b1:decide (5<l0.length)=true:=decide_eq_true (by omega)
     clear c10
     by_cases c11:6<(l0.length:Int)
     ·rw [if_pos c11] at H
      have c11b0:decide (6<(l0.length:Int))=true:=decide_eq_true c11
      have c11b1:decide (6<l0.length)=true:=decide_eq_true (by omega)
      clear c11
      replace H:=Option.bind_eq_some_iff.mp H
      obtain ⟨t120,A120,H⟩:=H
      replace H:((transhipmentref02_turn.f k (rd l0 0) 13).bind fun t121=>((transhipmentref02_turn.f k (rd l0 0) 22).bind fun t122=>(if 1<(l0.length:Int) then (if 2<(l0.length:Int) then (if 3<(l0.length:Int) then (some (([((((((((((rd l0 7)+(Go.bits .xor .u32 (Go.bits .xor .u32 t115 t116) t117)) % 4294967296)+(Go.bits .xor .u32 (Go.bits .and .u32 (rd l0 4) (rd l0 5)) (Go.bits .and .u32 ((4294967295-(rd l0 4)) % 4294967296) (rd l0 6)))) % 4294967296)+a1) % 4294967296)+a2) % 4294967296)+(((Go.bits .xor .u32 (Go.bits .xor .u32 t120 t121) t122)+(Go.bits .xor .u32 (Go.bits .xor .u32 (Go.bits .and .u32 (rd l0 0) (rd l0 1)) (Go.bits .and .u32 (rd l0 0) (rd l0 2))) (Go.bits .and .u32 (rd l0 1) (rd l0 2)))) % 4294967296)) % 4294967296,rd l0 0,rd l0 1,rd l0 2,((rd l0 3)+(((((((((rd l0 7)+(Go.bits .xor .u32 (Go.bits .xor .u32 t115 t116) t117)) % 4294967296)+(Go.bits .xor .u32 (Go.bits .and .u32 (rd l0 4) (rd l0 5)) (Go.bits .and .u32 ((4294967295-(rd l0 4)) % 4294967296) (rd l0 6)))) % 4294967296)+a1) % 4294967296)+a2) % 4294967296)) % 4294967296,rd l0 4,rd l0 5,rd l0 6]:List Int))) else (none)) else (none)) else (none))))=some r:=H
      have A12:=Aside0.mk A120
      clear A120
      replace H:=Option.bind_eq_some_iff.mp H
      obtain ⟨t121,A130,H⟩:=H
      replace H:((transhipmentref02_turn.f k (rd l0 0) 22).bind fun t122=>(if 1<(l0.length:Int) then (if 2<(l0.length:Int) then (if 3<(l0.length:Int) then (some (([((((((((((rd l0 7)+(Go.bits .xor .u32 (Go.bits .xor .u32 t115 t116) t117)) % 4294967296)+(Go.bits .xor .u32 (Go.bits .and .u32 (rd l0 4) (rd l0 5)) (Go.bits .and .u32 ((4294967295-(rd l0 4)) % 4294967296) (rd l0 6)))) % 4294967296)+a1) % 4294967296)+a2) % 4294967296)+(((Go.bits .xor .u32 (Go.bits .xor .u32 t120 t121) t122)+(Go.bits .xor .u32 (Go.bits .xor .u32 (Go.bits .and .u32 (rd l0 0) (rd l0 1)) (Go.bits .and .u32 (rd l0 0) (rd l0 2))) (Go.bits .and .u32 (rd l0 1) (rd l0 2)))) % 4294967296)) % 4294967296,rd l0 0,rd l0 1,rd l0 2,((rd l0 3)+(((((((((rd l0 7)+(Go.bits .xor .u32 (Go.bits .xor .u32 t115 t116) t117)) % 4294967296)+(Go.bits .xor .u32 (Go.bits .and .u32 (rd l0 4) (rd l0 5)) (Go.bits .and .u32 ((4294967295-(rd l0 4)) % 4294967296) (rd l0 6)))) % 4294967296)+a1) % 4294967296)+a2) % 4294967296)) % 4294967296,rd l0 4,rd l0 5,rd l0 6]:List Int))) else (none)) else (none)) else (none)))=some r:=H
      have A13:=Aside0.mk A130
      clear A130
      replace H:=Option.bind_eq_some_iff.mp H
      obtain ⟨t122,A140,H⟩:=H
      replace H:(if 1<(l0.length:Int) then (if 2<(l0.length:Int) then (if 3<(l0.length:Int) then (some (([((((((((((rd l0 7)+(Go.bits .xor .u32 (Go.bits .xor .u32 t115 t116) t117)) % 4294967296)+(Go.bits .xor .u32 (Go.bits .and .u32 (rd l0 4) (rd l0 5)) (Go.bits .and .u32 ((4294967295-(rd l0 4)) % 4294967296) (rd l0 6)))) % 4294967296)+a1) % 4294967296)+a2) % 4294967296)+(((Go.bits .xor .u32 (Go.bits .xor .u32 t120 t121) t122)+(Go.bits .xor .u32 (Go.bits .xor .u32 (Go.bits .and .u32 (rd l0 0) (rd l0 1)) (Go.bits .and .u32 (rd l0 0) (rd l0 2))) (Go.bits .and .u32 (rd l0 1) (rd l0 2)))) % 4294967296)) % 4294967296,rd l0 0,rd l0 1,rd l0 2,((rd l0 3)+(((((((((rd l0 7)+(Go.bits .xor .u32 (Go.bits .xor .u32 t115 t116) t117)) % 4294967296)+(Go.bits .xor .u32 (Go.bits .and .u32 (rd l0 4) (rd l0 5)) (Go.bits .and .u32 ((4294967295-(rd l0 4)) % 4294967296) (rd l0 6)))) % 4294967296)+a1) % 4294967296)+a2) % 4294967296)) % 4294967296,rd l0 4,rd l0 5,rd l0 6]:List Int))) else (none)) else (none)) else (none))=some r:=H
      have A14:=Aside0.mk A140
      clear A140
      by_cases c15:1<(l0.length:Int)
      ·rw [if_pos c15] at H
       have c15b0:decide (1<(l0.length:Int))=true:=decide_eq_true c15
       have c15b1:decide (1<l0.length)=true:=decide_eq_true (by omega)
       clear c15
       by_cases c16:2<(l0.length:Int)
       ·rw [if_pos c16] at H
        have c16b0:decide (2<(l0.length:Int))=true:=decide_eq_true c16
        have c16b1:decide (2<l0.length)=true:=decide_eq_true (by omega)
        clear c16
        by_cases c17:3<(l0.length:Int)
        ·rw [if_pos c17] at H
         have c17b0:decide (3<(l0.length:Int))=true:=decide_eq_true c17
         have c17b1:decide (3<l0.length)=true:=decide_eq_true (by omega)
         clear c17
         obtain ⟨y132,hy132⟩:∃ y_:List Int,y_=(([((((((((((rd l0 7)+(Go.bits .xor .u32 (Go.bits .xor .u32 t115 t116) t117)) % 4294967296)+(Go.bits .xor .u32 (Go.bits .and .u32 (rd l0 4) (rd l0 5)) (Go.bits .and .u32 ((4294967295-(rd l0 4)) % 4294967296) (rd l0 6)))) % 4294967296)+a1) % 4294967296)+a2) % 4294967296)+(((Go.bits .xor .u32 (Go.bits .xor .u32 t120 t121) t122)+(Go.bits .xor .u32 (Go.bits .xor .u32 (Go.bits .and .u32 (rd l0 0) (rd l0 1)) (Go.bits .and .u32 (rd l0 0) (rd l0 2))) (Go.bits .and .u32 (rd l0 1) (rd l0 2)))) % 4294967296)) % 4294967296,rd l0 0,rd l0 1,rd l0 2,((rd l0 3)+(((((((((rd l0 7)+(Go.bits .xor .u32 (Go.bits .xor .u32 t115 t116) t117)) % 4294967296)+(Go.bits .xor .u32 (Go.bits .and .u32 (rd l0 4) (rd l0 5)) (Go.bits .and .u32 ((4294967295-(rd l0 4)) % 4294967296) (rd l0 6)))) % 4294967296)+a1) % 4294967296)+a2) % 4294967296)) % 4294967296,rd l0 4,rd l0 5,rd l0 6]:List Int)):=⟨_,rfl⟩
         replace H:(some y132)=some r:=by first|(rw [hy132];with_reducible exact H)|(have H2_:=(Option.bind_some _ _).symm.trans H;rw [hy132];with_reducible exact H2_)|(have H2_:=(Option.bind_some _ _).symm.trans H;with_reducible exact H2_)|with_reducible exact H|(rw [hy132];exact H)|exact H
         have Ny132:=Aside0.mk hy132
         clear hy132
         obtain rfl:=Option.some.inj H
         have p112:0≤(0:Int):=(by omega)
         have q112:0<(l0.length:Int):=of_decide_eq_true (by first|(with_reducible assumption)|assumption)
         obtain ⟨ad112,e112,hx112_0⟩:=Kd.at_int HR0.out 0 p112 q112
         cases e112
         have qi112:(0<l0.length)=True:=eq_true (by omega)
         (try rw [show ((0:Int)).toNat=0 from rfl] at hx112_0)
         (try rw [Addr.add_zero'] at hx112_0)
         replace p112:=eq_true p112
         replace q112:=eq_true q112
         have p113:0≤(4:Int):=(by omega)
         have q113:4<(l0.length:Int):=of_decide_eq_true (by first|(with_reducible assumption)|assumption)
         obtain ⟨ad113,e113,hx113_0⟩:=Kd.at_int HR0.out 4 p113 q113
         obtain rfl:ad112=ad113:=(by injection e113)
         (try simp only [show (4:Int).toNat=4 from rfl,Nat.reduceMul,Nat.reduceEqDiff,Go.Addr.add,↓reduceIte] at hx113_0)
         have qi113:(4<l0.length)=True:=eq_true (by omega)
         (try rw [show ((4:Int)).toNat=4 from rfl] at hx113_0)
         replace p113:=eq_true p113
         replace q113:=eq_true q113
         go_enter Tryd.func56,Tryd.ntmps56
         try go_wp2
         have n0_:=Aside0.mk (below_drew1 HB.out)
         clear HB
         have HB:=n0_
         clear n0_
         have p114:0≤(7:Int):=(by omega)
         have q114:7<(l0.length:Int):=of_decide_eq_true (by first|(with_reducible assumption)|assumption)
         obtain ⟨ad114,e114,hx114_0⟩:=Kd.at_int HR0.out 7 p114 q114
         have hw114_0:=hx114_0
         (try rw [show ((7:Int)).toNat=7 from rfl] at hw114_0)
         (try rw [show 7*1=7 from rfl] at hw114_0)
         (try simp only [Nat.reduceMul,Nat.reduceEqDiff,Go.Addr.add,↓reduceIte] at hw114_0)
         obtain rfl:ad112=ad114:=(by injection e114)
         (try simp only [show (7:Int).toNat=7 from rfl,Nat.reduceMul,Nat.reduceEqDiff,Go.Addr.add,↓reduceIte] at hx114_0)
         have qi114:(7<l0.length)=True:=eq_true (by omega)
         (try rw [show ((7:Int)).toNat=7 from rfl] at hx114_0)
         replace hx114_0:=(HB.out.cell (World.block_lt_of_cell? w _ hx114_0)).trans hx114_0
         replace p114:=eq_true p114
         replace q114:=eq_true q114
         have p118:0≤(5:Int):=(by omega)
         have q118:5<(l0.length:Int):=of_decide_eq_true (by first|(with_reducible assumption)|assumption)
         obtain ⟨ad118,e118,hx118_0⟩:=Kd.at_int HR0.out 5 p118 q118
         have hw118_0:=hx118_0
         (try rw [show ((5:Int)).toNat=5 from rfl] at hw118_0)
         (try rw [show 5*1=5 from rfl] at hw118_0)
         (try simp only [Nat.reduceMul,Nat.reduceEqDiff,Go.Addr.add,↓reduceIte] at hw118_0)
         obtain rfl:ad112=ad118:=(by injection e118)
         (try simp only [show (5:Int).toNat=5 from rfl,Nat.reduceMul,Nat.reduceEqDiff,Go.Addr.add,↓reduceIte] at hx118_0)
         have qi118:(5<l0.length)=True:=eq_true (by omega)
         (try rw [show ((5:Int)).toNat=5 from rfl] at hx118_0)
         replace hx118_0:=(HB.out.cell (World.block_lt_of_cell? w _ hx118_0)).trans hx118_0
         replace p118:=eq_true p118
         replace q118:=eq_true q118
         have p119:0≤(6:Int):=(by omega)
         have q119:6<(l0.length:Int):=of_decide_eq_true (by first|(with_reducible assumption)|assumption)
         obtain ⟨ad119,e119,hx119_0⟩:=Kd.at_int HR0.out 6 p119 q119
         have hw119_0:=hx119_0
         (try rw [show ((6:Int)).toNat=6 from rfl] at hw119_0)
         (try rw [show 6*1=6 from rfl] at hw119_0)
         (try simp only [Nat.reduceMul,Nat.reduceEqDiff,Go.Addr.add,↓reduceIte] at hw119_0)
         obtain rfl:ad112=ad119:=(by injection e119)
         (try simp only [show (6:Int).toNat=6 from rfl,Nat.reduceMul,Nat.reduceEqDiff,Go.Addr.add,↓reduceIte] at hx119_0)
         have qi119:(6<l0.length)=True:=eq_true (by omega)
         (try rw [show ((6:Int)).toNat=6 from rfl] at hx119_0)
         replace hx119_0:=(HB.out.cell (World.block_lt_of_cell? w _ hx119_0)).trans hx119_0
         replace p119:=eq_true p119
         replace q119:=eq_true q119
         refine start_ (n:=30) (S:=fun w'=>w'.cell? ⟨ad112.block,ad112.off+7,none⟩=some (.int .u32 (rd l0 7))∧w'.cell? ⟨ad112.block,ad112.off+5,none⟩=some (.int .u32 (rd l0 5))∧w'.cell? ⟨ad112.block,ad112.off+6,none⟩=some (.int .u32 (rd l0 6))) (ds:=[]) #[false,false,false,false,false,false,false,false,false,false,false,false,false,false,false,false,false,false,false,false,false,false,false,false,false,false,false,false,false,false] (by kernel_rfl) rfl rfl ⟨((HB.out.cell (World.block_lt_of_cell? w _ hw114_0)).trans hw114_0),((HB.out.cell (World.block_lt_of_cell? w _ hw118_0)).trans hw118_0),((HB.out.cell (World.block_lt_of_cell? w _ hw119_0)).trans hw119_0)⟩ (fun hHeld=>?_);refine with_tabW transhipmentref02_Round.tab3 transhipmentref02_Round.bits3 (fun HT_ HW_=>?_)
         generalize w.drew=w18 at HB hx114_0 hx118_0 hx119_0 hHeld ⊢
         refine pure_ (i:=0) (N:=some 17) (v:=?_) (a':=?_) #[true,false,false,false,false,false,false,false,false,false,false,false,false,false,false,false,false,false,false,false,false,false,false,false,false,false,false,false,false,false] rfl rfl (any_of HT_.out (by kernel_rfl)) (fun _ _ _ h=>h) (Or.inl ⟨by rfl,?_⟩) ?_ ?_
         rotate_left
         ·intro w'
          go_simp
          with_reducible rfl
         rotate_left
         ·simp only [Act.put,List.setIfInBounds_toArray,List.set_cons_zero,List.set_cons_succ,i64_w,i32_w]
          rfl
         refine pure_ (i:=1) (N:=some 18) (v:=?_) (a':=?_) #[true,true,false,false,false,false,false,false,false,false,false,false,false,false,false,false,false,false,false,false,false,false,false,false,false,false,false,false,false,false] rfl rfl (any_of HT_.out (by kernel_rfl)) (fun _ _ _ h=>h) (Or.inl ⟨by rfl,?_⟩) ?_ ?_
         rotate_left
         ·intro w'
          go_simp
          with_reducible rfl
         rotate_left
         ·simp only [Act.put,List.setIfInBounds_toArray,List.set_cons_zero,List.set_cons_succ,i64_w,i32_w]
          rfl
         refine pure_ (i:=3) (N:=some 20) (v:=?_) (a':=?_) #[true,true,false,true,false,false,false,false,false,false,false,false,false,false,false,false,false,false,false,false,false,false,false,false,false,false,false,false,false,false] rfl rfl (any_of HT_.out (by kernel_rfl)) (fun _ _ _ h=>h) (Or.inl ⟨by rfl,?_⟩) ?_ ?_
         rotate_left
         ·intro w'
          go_simp
          with_reducible rfl
         rotate_left
         ·simp only [Act.put,List.setIfInBounds_toArray,List.set_cons_zero,List.set_cons_succ,i64_w,i32_w]
          rfl
         refine pure_ (i:=5) (N:=some 22) (v:=?_) (a':=?_) #[true,true,false,true,false,true,false,false,false,false,false,false,false,false,false,false,false,false,false,false,false,false,false,false,false,false,false,false,false,false] rfl rfl (any_of HT_.out (by kernel_rfl)) (fun _ _ _ h=>h) (Or.inl ⟨by rfl,?_⟩) ?_ ?_
         rotate_left
         ·intro w'
          go_simp
          with_reducible rfl
         rotate_left
         ·simp only [Act.put,List.setIfInBounds_toArray,List.set_cons_zero,List.set_cons_succ,i64_w,i32_w]
          rfl
         refine pure_ (i:=8) (N:=some 25) (v:=?_) (a':=?_) #[true,true,false,true,false,true,false,false,true,false,false,false,false,false,false,false,false,false,false,false,false,false,false,false,false,false,false,false,false,false] rfl rfl (any_of HT_.out (by kernel_rfl)) (fun _ _ _ h=>h) (Or.inl ⟨by rfl,?_⟩) ?_ ?_
         rotate_left
         ·intro w'
          go_simp
          with_reducible rfl
         rotate_left
         ·simp only [Act.put,List.setIfInBounds_toArray,List.set_cons_zero,List.set_cons_succ,i64_w,i32_w]
          rfl
         refine pure_ (i:=12) (N:=some 29) (v:=?_) (a':=?_) #[true,true,false,true,false,true,false,false,true,false,false,false,true,false,false,false,false,false,false,false,false,false,false,false,false,false,false,false,false,false] rfl rfl (any_of HT_.out (by kernel_rfl)) (fun _ _ _ h=>h) (Or.inl ⟨by rfl,?_⟩) ?_ ?_
         rotate_left
         ·intro w'
          go_simp
          with_reducible rfl
         rotate_left
         ·simp only [Act.put,List.setIfInBounds_toArray,List.set_cons_zero,List.set_cons_succ,i64_w,i32_w]
          rfl
         refine pure_ (i:=13) (N:=some 30) (v:=?_) (a':=?_) #[true,true,false,true,false,true,false,false,true,false,false,false,true,true,false,false,false,false,false,false,false,false,false,false,false,false,false,false,false,false] rfl rfl (any_of HT_.out (by kernel_rfl)) (fun _ _ _ h=>h) (Or.inl ⟨by rfl,?_⟩) ?_ ?_
         rotate_left
         ·intro w'
          go_simp
          with_reducible rfl
         rotate_left
         ·simp only [Act.put,List.setIfInBounds_toArray,List.set_cons_zero,List.set_cons_succ,i64_w,i32_w]
          rfl
         refine pure_ (i:=14) (N:=some 31) (v:=?_) (a':=?_) #[true,true,false,true,false,true,false,false,true,false,false,false,true,true,true,false,false,false,false,false,false,false,false,false,false,false,false,false,false,false] rfl rfl (any_of HT_.out (by kernel_rfl)) (fun _ _ _ h=>h) (Or.inl ⟨by rfl,?_⟩) ?_ ?_
         rotate_left
         ·intro w'
          go_simp
          with_reducible rfl
         rotate_left
         ·simp only [Act.put,List.setIfInBounds_toArray,List.set_cons_zero,List.set_cons_succ,i64_w,i32_w]
          rfl
         refine pure_ (i:=17) (N:=some 34) (v:=?_) (a':=?_) #[true,true,false,true,false,true,false,false,true,false,false,false,true,true,true,false,false,true,false,false,false,false,false,false,false,false,false,false,false,false] rfl rfl (any_of HT_.out (by kernel_rfl)) (fun _ _ _ h=>h) (Or.inl ⟨by rfl,?_⟩) ?_ ?_
         rotate_left
         ·intro w'
          go_simp
          with_reducible rfl
         rotate_left
         ·simp only [Act.put,List.setIfInBounds_toArray,List.set_cons_zero,List.set_cons_succ,i64_w,i32_w]
          rfl
         refine pure_ (i:=18) (N:=some 35) (v:=?_) (a':=?_) #[true,true,false,true,false,true,false,false,true,false,false,false,true,true,true,false,false,true,true,false,false,false,false,false,false,false,false,false,false,false] rfl rfl (any_of HT_.out (by kernel_rfl)) (fun _ _ _ h=>h) (Or.inl ⟨by rfl,?_⟩) ?_ ?_
         rotate_left
         ·intro w'
          go_simp
          with_reducible rfl
         rotate_left
         ·simp only [Act.put,List.setIfInBounds_toArray,List.set_cons_zero,List.set_cons_succ,i64_w,i32_w]
          rfl
         refine pure_ (i:=19) (N:=some 36) (v:=?_) (a':=?_) #[true,true,false,true,false,true,false,false,true,false,false,false,true,true,true,false,false,true,true,true,false,false,false,false,false,false,false,false,false,false] rfl rfl (any_of HT_.out (by kernel_rfl)) (fun _ _ _ h=>h) (Or.inl ⟨by rfl,?_⟩) ?_ ?_
         rotate_left
         ·intro w'
          go_simp
          with_reducible rfl
         rotate_left
         ·simp only [Act.put,List.setIfInBounds_toArray,List.set_cons_zero,List.set_cons_succ,i64_w,i32_w]
          rfl
         refine pure_ (i:=20) (N:=some 37) (v:=?_) (a':=?_) #[true,true,false,true,false,true,false,false,true,false,false,false,true,true,true,false,false,true,true,true,true,false,false,false,false,false,false,false,false,false] rfl rfl (any_of HT_.out (by kernel_rfl)) (fun _ _ _ h=>h) (Or.inl ⟨by rfl,?_⟩) ?_ ?_
         rotate_left
         ·intro w'
          go_simp
          with_reducible rfl
         rotate_left
         ·simp only [Act.put,List.setIfInBounds_toArray,List.set_cons_zero,List.set_cons_succ,i64_w,i32_w]
          rfl
         refine pure_ (i:=25) (N:=some 42) (v:=?_) (a':=?_) #[true,true,false,true,false,true,false,false,true,false,false,false,true,true,true,false,false,true,true,true,true,false,false,false,false,true,false,false,false,false] rfl rfl (any_of HT_.out (by kernel_rfl)) (fun _ _ _ h=>h) (Or.inl ⟨by rfl,?_⟩) ?_ ?_
         rotate_left
         ·intro w'
          go_simp
          with_reducible rfl
         rotate_left
         ·simp only [Act.put,List.setIfInBounds_toArray,List.set_cons_zero,List.set_cons_succ,i64_w,i32_w]
          rfl
         refine pure_ (i:=27) (N:=some 44) (v:=?_) (a':=?_) #[true,true,false,true,false,true,false,false,true,false,false,false,true,true,true,false,false,true,true,true,true,false,false,false,false,true,false,true,false,false] rfl rfl (any_of HT_.out (by kernel_rfl)) (fun _ _ _ h=>h) (Or.inl ⟨by rfl,?_⟩) ?_ ?_
         rotate_left
         ·intro w'
          go_simp
          with_reducible rfl
         rotate_left
         ·simp only [Act.put,List.setIfInBounds_toArray,List.set_cons_zero,List.set_cons_succ,i64_w,i32_w]
          rfl
         refine take_ (i:=2) (N:=some 19) (v:=?_) (a':=?_) #[true,true,true,true,false,true,false,false,true,false,false,false,true,true,true,false,false,true,true,true,true,false,false,false,false,true,false,true,false,false] rfl rfl (take_ofW HT_.out HW_.out (by kernel_rfl)) (fun _ _ _ h=>h) (Or.inl ⟨by rfl,?_⟩) hHeld ?_ ?_
         rotate_left
         ·rintro w' ⟨s0,s1,s2⟩
          go_simp
          with_reducible rfl
         rotate_left
         ·simp only [Act.put,List.setIfInBounds_toArray,List.set_cons_zero,List.set_cons_succ,i64_w,i32_w]
          rfl
         refine take_ (i:=15) (N:=some 32) (v:=?_) (a':=?_) #[true,true,true,true,false,true,false,false,true,false,false,false,true,true,true,true,false,true,true,true,true,false,false,false,false,true,false,true,false,false] rfl rfl (take_ofW HT_.out HW_.out (by kernel_rfl)) (fun _ _ _ h=>h) (Or.inl ⟨by rfl,?_⟩) hHeld ?_ ?_
         rotate_left
         ·rintro w' ⟨s0,s1,s2⟩
          go_simp
          with_reducible rfl
         rotate_left
         ·simp only [Act.put,List.setIfInBounds_toArray,List.set_cons_zero,List.set_cons_succ,i64_w,i32_w]
          rfl
         refine pure_ (i:=16) (N:=some 33) (v:=?_) (a':=?_) #[true,true,true,true,false,true,false,false,true,false,false,false,true,true,true,true,true,true,true,true,true,false,false,false,false,true,false,true,false,false] rfl rfl (any_of HT_.out (by kernel_rfl)) (fun _ _ _ h=>h) (Or.inl ⟨by rfl,?_⟩) ?_ ?_
         rotate_left
         ·intro w'
          go_simp
          with_reducible rfl
         rotate_left
         ·simp only [Act.put,List.setIfInBounds_toArray,List.set_cons_zero,List.set_cons_succ,i64_w,i32_w]
          rfl
         refine take_ (i:=21) (N:=some 38) (v:=?_) (a':=?_) #[true,true,true,true,false,true,false,false,true,false,false,false,true,true,true,true,true,true,true,true,true,true,false,false,false,true,false,true,false,false] rfl rfl (take_ofW HT_.out HW_.out (by kernel_rfl)) (fun _ _ _ h=>h) (Or.inl ⟨by rfl,?_⟩) hHeld ?_ ?_
         rotate_left
         ·rintro w' ⟨s0,s1,s2⟩
          go_simp
          with_reducible rfl
         rotate_left
         ·simp only [Act.put,List.setIfInBounds_toArray,List.set_cons_zero,List.set_cons_succ,i64_w,i32_w]
          rfl
         refine pure_ (i:=22) (N:=some 39) (v:=?_) (a':=?_) #[true,true,true,true,false,true,false,false,true,false,false,false,true,true,true,true,true,true,true,true,true,true,true,false,false,true,false,true,false,false] rfl rfl (any_of HT_.out (by kernel_rfl)) (fun _ _ _ h=>h) (Or.inl ⟨by rfl,?_⟩) ?_ ?_
         rotate_left
         ·intro w'
          go_simp
          with_reducible rfl
         rotate_left
         ·simp only [Act.put,List.setIfInBounds_toArray,List.set_cons_zero,List.set_cons_succ,i64_w,i32_w]
          rfl
         refine pure_ (i:=23) (N:=some 40) (v:=?_) (a':=?_) #[true,true,true,true,false,true,false,false,true,false,false,false,true,true,true,true,true,true,true,true,true,true,true,true,false,true,false,true,false,false] rfl rfl (any_of HT_.out (by kernel_rfl)) (fun _ _ _ h=>h) (Or.inl ⟨by rfl,?_⟩) ?_ ?_
         rotate_left
         ·intro w'
          go_simp
          with_reducible rfl
         rotate_left
         ·simp only [Act.put,List.setIfInBounds_toArray,List.set_cons_zero,List.set_cons_succ,i64_w,i32_w]
          rfl
         refine one_ (i:=4) (N:=some 21) #[true,true,true,true,true,true,false,false,true,false,false,false,true,true,true,true,true,true,true,true,true,true,true,true,false,true,false,true,false,false] rfl rfl (one_of HT_.out (by kernel_rfl)) (by decide) (fun K hK=>?_)
         refine goes_ Tryd.func55 (by kernel_rfl) rfl #[.int .u32 (rd l0 4),.int .i64 6] (by rfl) rfl rfl (by (try simp only [List.map_toArray,List.map_cons,List.map_nil]);first|done|rfl|(simp only [List.length_drop,List.length_take];rfl)) ?_
         with_reducible refine (transhipmentref02_turn.calls k (rd l0 4) 6 t115 _ A7.out).mono ?_
         rintro e w' ⟨rfl,⟨nd,rfl⟩⟩
         refine ⟨_,rfl,?_⟩
         refine hK.out _ _ ⟨((HB.out.cell (World.block_lt_of_cell? w _ hw114_0)).trans hw114_0),((HB.out.cell (World.block_lt_of_cell? w _ hw118_0)).trans hw118_0),((HB.out.cell (World.block_lt_of_cell? w _ hw119_0)).trans hw119_0)⟩ (fun hHeld=>?_)
         clear hK K
         refine norm_ (a':=?_) ?_ ?_
         rotate_left
         ·show Act.put _ (some 21) _=_
          simp only [Act.put,List.setIfInBounds_toArray,List.set_cons_zero,List.set_cons_succ,i64_w,i32_w]
          rfl
         refine one_ (i:=6) (N:=some 23) #[true,true,true,true,true,true,true,false,true,false,false,false,true,true,true,true,true,true,true,true,true,true,true,true,false,true,false,true,false,false] rfl rfl (one_of HT_.out (by kernel_rfl)) (by decide) (fun K hK=>?_)
         refine goes_ Tryd.func55 (by kernel_rfl) rfl #[.int .u32 (rd l0 4),.int .i64 11] (by rfl) rfl rfl (by (try simp only [List.map_toArray,List.map_cons,List.map_nil]);first|done|rfl|(simp only [List.length_drop,List.length_take];rfl)) ?_
         with_reducible refine (transhipmentref02_turn.calls k (rd l0 4) 11 t116 _ A8.out).mono ?_
         rintro e w' ⟨rfl,⟨nd,rfl⟩⟩
         refine ⟨_,rfl,?_⟩
         refine hK.out _ _ ⟨((HB.out.cell (World.block_lt_of_cell? w _ hw114_0)).trans hw114_0),((HB.out.cell (World.block_lt_of_cell? w _ hw118_0)).trans hw118_0),((HB.out.cell (World.block_lt_of_cell? w _ hw119_0)).trans hw119_0)⟩ (fun hHeld=>?_)
         clear hK K
         refine norm_ (a':=?_) ?_ ?_
         rotate_left
         ·show Act.put _ (some 23) _=_
          simp only [Act.put,List.setIfInBounds_toArray,List.set_cons_zero,List.set_cons_succ,i64_w,i32_w]
          rfl
         refine pure_ (i:=7) (N:=some 24) (v:=?_) (a':=?_) #[true,true,true,true,true,true,true,true,true,false,false,false,true,true,true,true,true,true,true,true,true,true,true,true,false,true,false,true,false,false] rfl rfl (any_of HT_.out (by kernel_rfl)) (fun _ _ _ h=>h) (Or.inl ⟨by rfl,?_⟩) ?_ ?_
         rotate_left
         ·intro w'
          go_simp
          with_reducible rfl
         rotate_left
         ·simp only [Act.put,List.setIfInBounds_toArray,List.set_cons_zero,List.set_cons_succ,i64_w,i32_w]
          rfl
         refine one_ (i:=9) (N:=some 26) #[true,true,true,true,true,true,true,true,true,true,false,false,true,true,true,true,true,true,true,true,true,true,true,true,false,true,false,true,false,false] rfl rfl (one_of HT_.out (by kernel_rfl)) (by decide) (fun K hK=>?_)
         refine goes_ Tryd.func55 (by kernel_rfl) rfl #[.int .u32 (rd l0 4),.int .i64 25] (by rfl) rfl rfl (by (try simp only [List.map_toArray,List.map_cons,List.map_nil]);first|done|rfl|(simp only [List.length_drop,List.length_take];rfl)) ?_
         with_reducible refine (transhipmentref02_turn.calls k (rd l0 4) 25 t117 _ A9.out).mono ?_
         rintro e w' ⟨rfl,⟨nd,rfl⟩⟩
         refine ⟨_,rfl,?_⟩
         refine hK.out _ _ ⟨((HB.out.cell (World.block_lt_of_cell? w _ hw114_0)).trans hw114_0),((HB.out.cell (World.block_lt_of_cell? w _ hw118_0)).trans hw118_0),((HB.out.cell (World.block_lt_of_cell? w _ hw119_0)).trans hw119_0)⟩ (fun hHeld=>?_)
         clear hK K
         refine norm_ (a':=?_) ?_ ?_
         rotate_left
         ·show Act.put _ (some 26) _=_
          simp only [Act.put,List.setIfInBounds_toArray,List.set_cons_zero,List.set_cons_succ,i64_w,i32_w]
          rfl
         refine pure_ (i:=10) (N:=some 27) (v:=?_) (a':=?_) #[true,true,true,true,true,true,true,true,true,true,true,false,true,true,true,true,true,true,true,true,true,true,true,true,false,true,false,true,false,false] rfl rfl (any_of HT_.out (by kernel_rfl)) (fun _ _ _ h=>h) (Or.inl ⟨by rfl,?_⟩) ?_ ?_
         rotate_left
         ·intro w'
          go_simp
          with_reducible rfl
         rotate_left
         ·simp only [Act.put,List.setIfInBounds_toArray,List.set_cons_zero,List.set_cons_succ,i64_w,i32_w]
          rfl
         refine pure_ (i:=11) (N:=some 28) (v:=?_) (a':=?_) #[true,true,true,true,true,true,true,true,true,true,true,true,true,true,true,true,true,true,true,true,true,true,true,true,false,true,false,true,false,false] rfl rfl (any_of HT_.out (by kernel_rfl)) (fun _ _ _ h=>h) (Or.inl ⟨by rfl,?_⟩) ?_ ?_
         rotate_left
         ·intro w'
          go_simp
          with_reducible rfl
         rotate_left
         ·simp only [Act.put,List.setIfInBounds_toArray,List.set_cons_zero,List.set_cons_succ,i64_w,i32_w]
          rfl
         refine pure_ (i:=24) (N:=some 41) (v:=?_) (a':=?_) #[true,true,true,true,true,true,true,true,true,true,true,true,true,true,true,true,true,true,true,true,true,true,true,true,true,true,false,true,false,false] rfl rfl (any_of HT_.out (by kernel_rfl)) (fun _ _ _ h=>h) (Or.inl ⟨by rfl,?_⟩) ?_ ?_
         rotate_left
         ·intro w'
          go_simp
          with_reducible rfl
         rotate_left
         ·simp only [Act.put,List.setIfInBounds_toArray,List.set_cons_zero,List.set_cons_succ,i64_w,i32_w]
          rfl
         refine pure_ (i:=26) (N:=some 43) (v:=?_) (a':=?_) #[true,true,true,true,true,true,true,true,true,true,true,true,true,true,true,true,true,true,true,true,true,true,true,true,true,true,true,true,false,false] rfl rfl (any_of HT_.out (by kernel_rfl)) (fun _ _ _ h=>h) (Or.inl ⟨by rfl,?_⟩) ?_ ?_
         rotate_left
         ·intro w'
          go_simp
          with_reducible rfl
         rotate_left
         ·simp only [Act.put,List.setIfInBounds_toArray,List.set_cons_zero,List.set_cons_succ,i64_w,i32_w]
          rfl
         refine pure_ (i:=28) (N:=some 45) (v:=?_) (a':=?_) #[true,true,true,true,true,true,true,true,true,true,true,true,true,true,true,true,true,true,true,true,true,true,true,true,true,true,true,true,true,false] rfl rfl (any_of HT_.out (by kernel_rfl)) (fun _ _ _ h=>h) (Or.inl ⟨by rfl,?_⟩) ?_ ?_
         rotate_left
         ·intro w'
          go_simp
          with_reducible rfl
         rotate_left
         ·simp only [Act.put,List.setIfInBounds_toArray,List.set_cons_zero,List.set_cons_succ,i64_w,i32_w]
          rfl
         refine pure_ (i:=29) (N:=some 9) (v:=?_) (a':=?_) #[true,true,true,true,true,true,true,true,true,true,true,true,true,true,true,true,true,true,true,true,true,true,true,true,true,true,true,true,true,true] rfl rfl (any_of HT_.out (by kernel_rfl)) (fun _ _ _ h=>h) (Or.inl ⟨by rfl,?_⟩) ?_ ?_
         rotate_left
         ·intro w'
          go_simp
          with_reducible rfl
         rotate_left
         ·simp only [Act.put,List.setIfInBounds_toArray,List.set_cons_zero,List.set_cons_succ,i64_w,i32_w]
          rfl
         refine done_ (done_of HT_.out (by kernel_rfl)) ?_
         try go_wp2
         (try (rw [drewN_self w18];generalize hq_:World.drewN w18 _=w18;have n0_:Aside0 (Below w.heap.size w w18):=⟨by rw [← hq_];exact (by repeat (first|(with_reducible first|exact HB.out|apply below_alloc|apply pw_below_drewN|apply below_drew1)|exact HB.out))⟩;clear HB hq_;have HB:=n0_;clear n0_))
         have n0_:=Aside0.mk (below_drew1 HB.out)
         clear HB
         have HB:=n0_
         clear n0_
         have p123:0≤(1:Int):=(by omega)
         have q123:1<(l0.length:Int):=of_decide_eq_true (by first|(with_reducible assumption)|assumption)
         obtain ⟨ad123,e123,hx123_0⟩:=Kd.at_int HR0.out 1 p123 q123
         have hw123_0:=hx123_0
         (try rw [show ((1:Int)).toNat=1 from rfl] at hw123_0)
         (try rw [show 1*1=1 from rfl] at hw123_0)
         (try simp only [Nat.reduceMul,Nat.reduceEqDiff,Go.Addr.add,↓reduceIte] at hw123_0)
         obtain rfl:ad112=ad123:=(by injection e123)
         (try simp only [show (1:Int).toNat=1 from rfl,Nat.reduceMul,Nat.reduceEqDiff,Go.Addr.add,↓reduceIte] at hx123_0)
         have qi123:(1<l0.length)=True:=eq_true (by omega)
         (try rw [show ((1:Int)).toNat=1 from rfl] at hx123_0)
         replace hx123_0:=(HB.out.cell (World.block_lt_of_cell? w _ hx123_0)).trans hx123_0
         replace p123:=eq_true p123
         replace q123:=eq_true q123
         have p124:0≤(2:Int):=(by omega)
         have q124:2<(l0.length:Int):=of_decide_eq_true (by first|(with_reducible assumption)|assumption)
         obtain ⟨ad124,e124,hx124_0⟩:=Kd.at_int HR0.out 2 p124 q124
         have hw124_0:=hx124_0
         (try rw [show ((2:Int)).toNat=2 from rfl] at hw124_0)
         (try rw [show 2*1=2 from rfl] at hw124_0)
         (try simp only [Nat.reduceMul,Nat.reduceEqDiff,Go.Addr.add,↓reduceIte] at hw124_0)
         obtain rfl:ad112=ad124:=(by injection e124)
         (try simp only [show (2:Int).toNat=2 from rfl,Nat.reduceMul,Nat.reduceEqDiff,Go.Addr.add,↓reduceIte] at hx124_0)
         have qi124:(2<l0.length)=True:=eq_true (by omega)
         (try rw [show ((2:Int)).toNat=2 from rfl] at hx124_0)
         replace hx124_0:=(HB.out.cell (World.block_lt_of_cell? w _ hx124_0)).trans hx124_0
         replace p124:=eq_true p124
         replace q124:=eq_true q124
         have p125:0≤(1:Int):=(by omega)
         have q125:1<(l0.length:Int):=of_decide_eq_true (by first|(with_reducible assumption)|assumption)
         obtain ⟨ad125,e125,hx125_0⟩:=Kd.at_int HR0.out 1 p125 q125
         have hw125_0:=hx125_0
         (try rw [show ((1:Int)).toNat=1 from rfl] at hw125_0)
         (try rw [show 1*1=1 from rfl] at hw125_0)
         (try simp only [Nat.reduceMul,Nat.reduceEqDiff,Go.Addr.add,↓reduceIte] at hw125_0)
         obtain rfl:ad112=ad125:=(by injection e125)
         (try simp only [show (1:Int).toNat=1 from rfl,Nat.reduceMul,Nat.reduceEqDiff,Go.Addr.add,↓reduceIte] at hx125_0)
         have qi125:(1<l0.length)=True:=eq_true (by omega)
         (try rw [show ((1:Int)).toNat=1 from rfl] at hx125_0)
         replace hx125_0:=(HB.out.cell (World.block_lt_of_cell? w _ hx125_0)).trans hx125_0
         replace p125:=eq_true p125
         replace q125:=eq_true q125
         have p126:0≤(2:Int):=(by omega)
         have q126:2<(l0.length:Int):=of_decide_eq_true (by first|(with_reducible assumption)|assumption)
         obtain ⟨ad126,e126,hx126_0⟩:=Kd.at_int HR0.out 2 p126 q126
         have hw126_0:=hx126_0
         (try rw [show ((2:Int)).toNat=2 from rfl] at hw126_0)
         (try rw [show 2*1=2 from rfl] at hw126_0)
         (try simp only [Nat.reduceMul,Nat.reduceEqDiff,Go.Addr.add,↓reduceIte] at hw126_0)
         obtain rfl:ad112=ad126:=(by injection e126)
         (try simp only [show (2:Int).toNat=2 from rfl,Nat.reduceMul,Nat.reduceEqDiff,Go.Addr.add,↓reduceIte] at hx126_0)
         have qi126:(2<l0.length)=True:=eq_true (by omega)
         (try rw [show ((2:Int)).toNat=2 from rfl] at hx126_0)
         replace hx126_0:=(HB.out.cell (World.block_lt_of_cell? w _ hx126_0)).trans hx126_0
         replace p126:=eq_true p126
         replace q126:=eq_true q126
         refine start_ (n:=29) (S:=fun w'=>w'.cell? ⟨ad112.block,ad112.off+1,none⟩=some (.int .u32 (rd l0 1))∧w'.cell? ⟨ad112.block,ad112.off+2,none⟩=some (.int .u32 (rd l0 2))∧w'.cell? ⟨ad112.block,ad112.off+1,none⟩=some (.int .u32 (rd l0 1))∧w'.cell? ⟨ad112.block,ad112.off+2,none⟩=some (.int .u32 (rd l0 2))) (ds:=[]) #[false,false,false,false,false,false,false,false,false,false,false,false,false,false,false,false,false,false,false,false,false,false,false,false,false,false,false,false,false] (by kernel_rfl) rfl rfl ⟨((HB.out.cell (World.block_lt_of_cell? w _ hw123_0)).trans hw123_0),((HB.out.cell (World.block_lt_of_cell? w _ hw124_0)).trans hw124_0),((HB.out.cell (World.block_lt_of_cell? w _ hw125_0)).trans hw125_0),((HB.out.cell (World.block_lt_of_cell? w _ hw126_0)).trans hw126_0)⟩ (fun hHeld=>?_);refine with_tabW transhipmentref02_Round.tab4 transhipmentref02_Round.bits4 (fun HT_ HW_=>?_)
         generalize w18.drew=w19 at HB hx123_0 hx124_0 hx125_0 hx126_0 hHeld ⊢
         refine pure_ (i:=0) (N:=some 46) (v:=?_) (a':=?_) #[true,false,false,false,false,false,false,false,false,false,false,false,false,false,false,false,false,false,false,false,false,false,false,false,false,false,false,false,false] rfl rfl (any_of HT_.out (by kernel_rfl)) (fun _ _ _ h=>h) (Or.inl ⟨by rfl,?_⟩) ?_ ?_
         rotate_left
         ·intro w'
          go_simp
          with_reducible rfl
         rotate_left
         ·simp only [Act.put,List.setIfInBounds_toArray,List.set_cons_zero,List.set_cons_succ,i64_w,i32_w]
          rfl
         refine pure_ (i:=2) (N:=some 48) (v:=?_) (a':=?_) #[true,false,true,false,false,false,false,false,false,false,false,false,false,false,false,false,false,false,false,false,false,false,false,false,false,false,false,false,false] rfl rfl (any_of HT_.out (by kernel_rfl)) (fun _ _ _ h=>h) (Or.inl ⟨by rfl,?_⟩) ?_ ?_
         rotate_left
         ·intro w'
          go_simp
          with_reducible rfl
         rotate_left
         ·simp only [Act.put,List.setIfInBounds_toArray,List.set_cons_zero,List.set_cons_succ,i64_w,i32_w]
          rfl
         refine pure_ (i:=5) (N:=some 51) (v:=?_) (a':=?_) #[true,false,true,false,false,true,false,false,false,false,false,false,false,false,false,false,false,false,false,false,false,false,false,false,false,false,false,false,false] rfl rfl (any_of HT_.out (by kernel_rfl)) (fun _ _ _ h=>h) (Or.inl ⟨by rfl,?_⟩) ?_ ?_
         rotate_left
         ·intro w'
          go_simp
          with_reducible rfl
         rotate_left
         ·simp only [Act.put,List.setIfInBounds_toArray,List.set_cons_zero,List.set_cons_succ,i64_w,i32_w]
          rfl
         refine pure_ (i:=8) (N:=some 54) (v:=?_) (a':=?_) #[true,false,true,false,false,true,false,false,true,false,false,false,false,false,false,false,false,false,false,false,false,false,false,false,false,false,false,false,false] rfl rfl (any_of HT_.out (by kernel_rfl)) (fun _ _ _ h=>h) (Or.inl ⟨by rfl,?_⟩) ?_ ?_
         rotate_left
         ·intro w'
          go_simp
          with_reducible rfl
         rotate_left
         ·simp only [Act.put,List.setIfInBounds_toArray,List.set_cons_zero,List.set_cons_succ,i64_w,i32_w]
          rfl
         refine pure_ (i:=9) (N:=some 55) (v:=?_) (a':=?_) #[true,false,true,false,false,true,false,false,true,true,false,false,false,false,false,false,false,false,false,false,false,false,false,false,false,false,false,false,false] rfl rfl (any_of HT_.out (by kernel_rfl)) (fun _ _ _ h=>h) (Or.inl ⟨by rfl,?_⟩) ?_ ?_
         rotate_left
         ·intro w'
          go_simp
          with_reducible rfl
         rotate_left
         ·simp only [Act.put,List.setIfInBounds_toArray,List.set_cons_zero,List.set_cons_succ,i64_w,i32_w]
          rfl
         refine pure_ (i:=10) (N:=some 56) (v:=?_) (a':=?_) #[true,false,true,false,false,true,false,false,true,true,true,false,false,false,false,false,false,false,false,false,false,false,false,false,false,false,false,false,false] rfl rfl (any_of HT_.out (by kernel_rfl)) (fun _ _ _ h=>h) (Or.inl ⟨by rfl,?_⟩) ?_ ?_
         rotate_left
         ·intro w'
          go_simp
          with_reducible rfl
         rotate_left
         ·simp only [Act.put,List.setIfInBounds_toArray,List.set_cons_zero,List.set_cons_succ,i64_w,i32_w]
          rfl
         refine pure_ (i:=13) (N:=some 59) (v:=?_) (a':=?_) #[true,false,true,false,false,true,false,false,true,true,true,false,false,true,false,false,false,false,false,false,false,false,false,false,false,false,false,false,false] rfl rfl (any_of HT_.out (by kernel_rfl)) (fun _ _ _ h=>h) (Or.inl ⟨by rfl,?_⟩) ?_ ?_
         rotate_left
         ·intro w'
          go_simp
          with_reducible rfl
         rotate_left
         ·simp only [Act.put,List.setIfInBounds_toArray,List.set_cons_zero,List.set_cons_succ,i64_w,i32_w]
          rfl
         refine pure_ (i:=14) (N:=some 60) (v:=?_) (a':=?_) #[true,false,true,false,false,true,false,false,true,true,true,false,false,true,true,false,false,false,false,false,false,false,false,false,false,false,false,false,false] rfl rfl (any_of HT_.out (by kernel_rfl)) (fun _ _ _ h=>h) (Or.inl ⟨by rfl,?_⟩) ?_ ?_
         rotate_left
         ·intro w'
          go_simp
          with_reducible rfl
         rotate_left
         ·simp only [Act.put,List.setIfInBounds_toArray,List.set_cons_zero,List.set_cons_succ,i64_w,i32_w]
          rfl
         refine pure_ (i:=15) (N:=some 61) (v:=?_) (a':=?_) #[true,false,true,false,false,true,false,false,true,true,true,false,false,true,true,true,false,false,false,false,false,false,false,false,false,false,false,false,false] rfl rfl (any_of HT_.out (by kernel_rfl)) (fun _ _ _ h=>h) (Or.inl ⟨by rfl,?_⟩) ?_ ?_
         rotate_left
         ·intro w'
          go_simp
          with_reducible rfl
         rotate_left
         ·simp only [Act.put,List.setIfInBounds_toArray,List.set_cons_zero,List.set_cons_succ,i64_w,i32_w]
          rfl
         refine pure_ (i:=19) (N:=some 65) (v:=?_) (a':=?_) #[true,false,true,false,false,true,false,false,true,true,true,false,false,true,true,true,false,false,false,true,false,false,false,false,false,false,false,false,false] rfl rfl (any_of HT_.out (by kernel_rfl)) (fun _ _ _ h=>h) (Or.inl ⟨by rfl,?_⟩) ?_ ?_
         rotate_left
         ·intro w'
          go_simp
          with_reducible rfl
         rotate_left
         ·simp only [Act.put,List.setIfInBounds_toArray,List.set_cons_zero,List.set_cons_succ,i64_w,i32_w]
          rfl
         refine pure_ (i:=20) (N:=some 66) (v:=?_) (a':=?_) #[true,false,true,false,false,true,false,false,true,true,true,false,false,true,true,true,false,false,false,true,true,false,false,false,false,false,false,false,false] rfl rfl (any_of HT_.out (by kernel_rfl)) (fun _ _ _ h=>h) (Or.inl ⟨by rfl,?_⟩) ?_ ?_
         rotate_left
         ·intro w'
          go_simp
          with_reducible rfl
         rotate_left
         ·simp only [Act.put,List.setIfInBounds_toArray,List.set_cons_zero,List.set_cons_succ,i64_w,i32_w]
          rfl
         refine pure_ (i:=22) (N:=some 68) (v:=?_) (a':=?_) #[true,false,true,false,false,true,false,false,true,true,true,false,false,true,true,true,false,false,false,true,true,false,true,false,false,false,false,false,false] rfl rfl (any_of HT_.out (by kernel_rfl)) (fun _ _ _ h=>h) (Or.inl ⟨by rfl,?_⟩) ?_ ?_
         rotate_left
         ·intro w'
          go_simp
          with_reducible rfl
         rotate_left
         ·simp only [Act.put,List.setIfInBounds_toArray,List.set_cons_zero,List.set_cons_succ,i64_w,i32_w]
          rfl
         refine pure_ (i:=23) (N:=some 69) (v:=?_) (a':=?_) #[true,false,true,false,false,true,false,false,true,true,true,false,false,true,true,true,false,false,false,true,true,false,true,true,false,false,false,false,false] rfl rfl (any_of HT_.out (by kernel_rfl)) (fun _ _ _ h=>h) (Or.inl ⟨by rfl,?_⟩) ?_ ?_
         rotate_left
         ·intro w'
          go_simp
          with_reducible rfl
         rotate_left
         ·simp only [Act.put,List.setIfInBounds_toArray,List.set_cons_zero,List.set_cons_succ,i64_w,i32_w]
          rfl
         refine take_ (i:=11) (N:=some 57) (v:=?_) (a':=?_) #[true,false,true,false,false,true,false,false,true,true,true,true,false,true,true,true,false,false,false,true,true,false,true,true,false,false,false,false,false] rfl rfl (take_ofW HT_.out HW_.out (by kernel_rfl)) (fun _ _ _ h=>h) (Or.inl ⟨by rfl,?_⟩) hHeld ?_ ?_
         rotate_left
         ·rintro w' ⟨s0,s1,s2,s3⟩
          go_simp
          with_reducible rfl
         rotate_left
         ·simp only [Act.put,List.setIfInBounds_toArray,List.set_cons_zero,List.set_cons_succ,i64_w,i32_w]
          rfl
         refine pure_ (i:=12) (N:=some 58) (v:=?_) (a':=?_) #[true,false,true,false,false,true,false,false,true,true,true,true,true,true,true,true,false,false,false,true,true,false,true,true,false,false,false,false,false] rfl rfl (any_of HT_.out (by kernel_rfl)) (fun _ _ _ h=>h) (Or.inl ⟨by rfl,?_⟩) ?_ ?_
         rotate_left
         ·intro w'
          go_simp
          with_reducible rfl
         rotate_left
         ·simp only [Act.put,List.setIfInBounds_toArray,List.set_cons_zero,List.set_cons_succ,i64_w,i32_w]
          rfl
         refine take_ (i:=16) (N:=some 62) (v:=?_) (a':=?_) #[true,false,true,false,false,true,false,false,true,true,true,true,true,true,true,true,true,false,false,true,true,false,true,true,false,false,false,false,false] rfl rfl (take_ofW HT_.out HW_.out (by kernel_rfl)) (fun _ _ _ h=>h) (Or.inl ⟨by rfl,?_⟩) hHeld ?_ ?_
         rotate_left
         ·rintro w' ⟨s0,s1,s2,s3⟩
          go_simp
          with_reducible rfl
         rotate_left
         ·simp only [Act.put,List.setIfInBounds_toArray,List.set_cons_zero,List.set_cons_succ,i64_w,i32_w]
          rfl
         refine pure_ (i:=17) (N:=some 63) (v:=?_) (a':=?_) #[true,false,true,false,false,true,false,false,true,true,true,true,true,true,true,true,true,true,false,true,true,false,true,true,false,false,false,false,false] rfl rfl (any_of HT_.out (by kernel_rfl)) (fun _ _ _ h=>h) (Or.inl ⟨by rfl,?_⟩) ?_ ?_
         rotate_left
         ·intro w'
          go_simp
          with_reducible rfl
         rotate_left
         ·simp only [Act.put,List.setIfInBounds_toArray,List.set_cons_zero,List.set_cons_succ,i64_w,i32_w]
          rfl
         refine pure_ (i:=18) (N:=some 64) (v:=?_) (a':=?_) #[true,false,true,false,false,true,false,false,true,true,true,true,true,true,true,true,true,true,true,true,true,false,true,true,false,false,false,false,false] rfl rfl (any_of HT_.out (by kernel_rfl)) (fun _ _ _ h=>h) (Or.inl ⟨by rfl,?_⟩) ?_ ?_
         rotate_left
         ·intro w'
          go_simp
          with_reducible rfl
         rotate_left
         ·simp only [Act.put,List.setIfInBounds_toArray,List.set_cons_zero,List.set_cons_succ,i64_w,i32_w]
          rfl
         refine take_ (i:=21) (N:=some 67) (v:=?_) (a':=?_) #[true,false,true,false,false,true,false,false,true,true,true,true,true,true,true,true,true,true,true,true,true,true,true,true,false,false,false,false,false] rfl rfl (take_ofW HT_.out HW_.out (by kernel_rfl)) (fun _ _ _ h=>h) (Or.inl ⟨by rfl,?_⟩) hHeld ?_ ?_
         rotate_left
         ·rintro w' ⟨s0,s1,s2,s3⟩
          go_simp
          with_reducible rfl
         rotate_left
         ·simp only [Act.put,List.setIfInBounds_toArray,List.set_cons_zero,List.set_cons_succ,i64_w,i32_w]
          rfl
         refine take_ (i:=24) (N:=some 70) (v:=?_) (a':=?_) #[true,false,true,false,false,true,false,false,true,true,true,true,true,true,true,true,true,true,true,true,true,true,true,true,true,false,false,false,false] rfl rfl (take_ofW HT_.out HW_.out (by kernel_rfl)) (fun _ _ _ h=>h) (Or.inl ⟨by rfl,?_⟩) hHeld ?_ ?_
         rotate_left
         ·rintro w' ⟨s0,s1,s2,s3⟩
          go_simp
          with_reducible rfl
         rotate_left
         ·simp only [Act.put,List.setIfInBounds_toArray,List.set_cons_zero,List.set_cons_succ,i64_w,i32_w]
          rfl
         refine pure_ (i:=25) (N:=some 71) (v:=?_) (a':=?_) #[true,false,true,false,false,true,false,false,true,true,true,true,true,true,true,true,true,true,true,true,true,true,true,true,true,true,false,false,false] rfl rfl (any_of HT_.out (by kernel_rfl)) (fun _ _ _ h=>h) (Or.inl ⟨by rfl,?_⟩) ?_ ?_
         rotate_left
         ·intro w'
          go_simp
          with_reducible rfl
         rotate_left
         ·simp only [Act.put,List.setIfInBounds_toArray,List.set_cons_zero,List.set_cons_succ,i64_w,i32_w]
          rfl
         refine pure_ (i:=26) (N:=some 72) (v:=?_) (a':=?_) #[true,false,true,false,false,true,false,false,true,true,true,true,true,true,true,true,true,true,true,true,true,true,true,true,true,true,true,false,false] rfl rfl (any_of HT_.out (by kernel_rfl)) (fun _ _ _ h=>h) (Or.inl ⟨by rfl,?_⟩) ?_ ?_
         rotate_left
         ·intro w'
          go_simp
          with_reducible rfl
         rotate_left
         ·simp only [Act.put,List.setIfInBounds_toArray,List.set_cons_zero,List.set_cons_succ,i64_w,i32_w]
          rfl
         refine one_ (i:=1) (N:=some 47) #[true,true,true,false,false,true,false,false,true,true,true,true,true,true,true,true,true,true,true,true,true,true,true,true,true,true,true,false,false] rfl rfl (one_of HT_.out (by kernel_rfl)) (by decide) (fun K hK=>?_)
         refine goes_ Tryd.func55 (by kernel_rfl) rfl #[.int .u32 (rd l0 0),.int .i64 2] (by rfl) rfl rfl (by (try simp only [List.map_toArray,List.map_cons,List.map_nil]);first|done|rfl|(simp only [List.length_drop,List.length_take];rfl)) ?_
         with_reducible refine (transhipmentref02_turn.calls k (rd l0 0) 2 t120 _ A12.out).mono ?_
         rintro e w' ⟨rfl,⟨nd,rfl⟩⟩
         refine ⟨_,rfl,?_⟩
         refine hK.out _ _ ⟨((HB.out.cell (World.block_lt_of_cell? w _ hw123_0)).trans hw123_0),((HB.out.cell (World.block_lt_of_cell? w _ hw124_0)).trans hw124_0),((HB.out.cell (World.block_lt_of_cell? w _ hw125_0)).trans hw125_0),((HB.out.cell (World.block_lt_of_cell? w _ hw126_0)).trans hw126_0)⟩ (fun hHeld=>?_)
         clear hK K
         refine norm_ (a':=?_) ?_ ?_
         rotate_left
         ·show Act.put _ (some 47) _=_
          simp only [Act.put,List.setIfInBounds_toArray,List.set_cons_zero,List.set_cons_succ,i64_w,i32_w]
          rfl
         refine one_ (i:=3) (N:=some 49) #[true,true,true,true,false,true,false,false,true,true,true,true,true,true,true,true,true,true,true,true,true,true,true,true,true,true,true,false,false] rfl rfl (one_of HT_.out (by kernel_rfl)) (by decide) (fun K hK=>?_)
         refine goes_ Tryd.func55 (by kernel_rfl) rfl #[.int .u32 (rd l0 0),.int .i64 13] (by rfl) rfl rfl (by (try simp only [List.map_toArray,List.map_cons,List.map_nil]);first|done|rfl|(simp only [List.length_drop,List.length_take];rfl)) ?_
         with_reducible refine (transhipmentref02_turn.calls k (rd l0 0) 13 t121 _ A13.out).mono ?_
         rintro e w' ⟨rfl,⟨nd,rfl⟩⟩
         refine ⟨_,rfl,?_⟩
         refine hK.out _ _ ⟨((HB.out.cell (World.block_lt_of_cell? w _ hw123_0)).trans hw123_0),((HB.out.cell (World.block_lt_of_cell? w _ hw124_0)).trans hw124_0),((HB.out.cell (World.block_lt_of_cell? w _ hw125_0)).trans hw125_0),((HB.out.cell (World.block_lt_of_cell? w _ hw126_0)).trans hw126_0)⟩ (fun hHeld=>?_)
         clear hK K
         refine norm_ (a':=?_) ?_ ?_
         rotate_left
         ·show Act.put _ (some 49) _=_
          simp only [Act.put,List.setIfInBounds_toArray,List.set_cons_zero,List.set_cons_succ,i64_w,i32_w]
          rfl
         refine pure_ (i:=4) (N:=some 50) (v:=?_) (a':=?_) #[true,true,true,true,true,true,false,false,true,true,true,true,true,true,true,true,true,true,true,true,true,true,true,true,true,true,true,false,false] rfl rfl (any_of HT_.out (by kernel_rfl)) (fun _ _ _ h=>h) (Or.inl ⟨by rfl,?_⟩) ?_ ?_
         rotate_left
         ·intro w'
          go_simp
          with_reducible rfl
         rotate_left
         ·simp only [Act.put,List.setIfInBounds_toArray,List.set_cons_zero,List.set_cons_succ,i64_w,i32_w]
          rfl
         refine one_ (i:=6) (N:=some 52) #[true,true,true,true,true,true,true,false,true,true,true,true,true,true,true,true,true,true,true,true,true,true,true,true,true,true,true,false,false] rfl rfl (one_of HT_.out (by kernel_rfl)) (by decide) (fun K hK=>?_)
         refine goes_ Tryd.func55 (by kernel_rfl) rfl #[.int .u32 (rd l0 0),.int .i64 22] (by rfl) rfl rfl (by (try simp only [List.map_toArray,List.map_cons,List.map_nil]);first|done|rfl|(simp only [List.length_drop,List.length_take];rfl)) ?_
         with_reducible refine (transhipmentref02_turn.calls k (rd l0 0) 22 t122 _ A14.out).mono ?_
         rintro e w' ⟨rfl,⟨nd,rfl⟩⟩
         refine ⟨_,rfl,?_⟩
         refine hK.out _ _ ⟨((HB.out.cell (World.block_lt_of_cell? w _ hw123_0)).trans hw123_0),((HB.out.cell (World.block_lt_of_cell? w _ hw124_0)).trans hw124_0),((HB.out.cell (World.block_lt_of_cell? w _ hw125_0)).trans hw125_0),((HB.out.cell (World.block_lt_of_cell? w _ hw126_0)).trans hw126_0)⟩ (fun hHeld=>?_)
         clear hK K
         refine norm_ (a':=?_) ?_ ?_
         rotate_left
         ·show Act.put _ (some 52) _=_
          simp only [Act.put,List.setIfInBounds_toArray,List.set_cons_zero,List.set_cons_succ,i64_w,i32_w]
          rfl
         refine pure_ (i:=7) (N:=some 53) (v:=?_) (a':=?_) #[true,true,true,true,true,true,true,true,true,true,true,true,true,true,true,true,true,true,true,true,true,true,true,true,true,true,true,false,false] rfl rfl (any_of HT_.out (by kernel_rfl)) (fun _ _ _ h=>h) (Or.inl ⟨by rfl,?_⟩) ?_ ?_
         rotate_left
         ·intro w'
          go_simp
          with_reducible rfl
         rotate_left
         ·simp only [Act.put,List.setIfInBounds_toArray,List.set_cons_zero,List.set_cons_succ,i64_w,i32_w]
          rfl
         refine pure_ (i:=27) (N:=some 73) (v:=?_) (a':=?_) #[true,true,true,true,true,true,true,true,true,true,true,true,true,true,true,true,true,true,true,true,true,true,true,true,true,true,true,true,false] rfl rfl (any_of HT_.out (by kernel_rfl)) (fun _ _ _ h=>h) (Or.inl ⟨by rfl,?_⟩) ?_ ?_
         rotate_left
         ·intro w'
          go_simp
          with_reducible rfl
         rotate_left
         ·simp only [Act.put,List.setIfInBounds_toArray,List.set_cons_zero,List.set_cons_succ,i64_w,i32_w]
          rfl
         refine pure_ (i:=28) (N:=some 10) (v:=?_) (a':=?_) #[true,true,true,true,true,true,true,true,true,true,true,true,true,true,true,true,true,true,true,true,true,true,true,true,true,true,true,true,true] rfl rfl (any_of HT_.out (by kernel_rfl)) (fun _ _ _ h=>h) (Or.inl ⟨by rfl,?_⟩) ?_ ?_
         rotate_left
         ·intro w'
          go_simp
          with_reducible rfl
         rotate_left
         ·simp only [Act.put,List.setIfInBounds_toArray,List.set_cons_zero,List.set_cons_succ,i64_w,i32_w]
          rfl
         refine done_ (done_of HT_.out (by kernel_rfl)) ?_
         try go_wp2
         (try (rw [drewN_self w19];generalize hq_:World.drewN w19 _=w19;have n0_:Aside0 (Below w.heap.size w w19):=⟨by rw [← hq_];exact (by repeat (first|(with_reducible first|exact HB.out|apply below_alloc|apply pw_below_drewN|apply below_drew1)|exact HB.out))⟩;clear HB hq_;have HB:=n0_;clear n0_))
         have n0_:=Aside0.mk (below_drew1 HB.out)
         clear HB
         have HB:=n0_
         clear n0_
         have p127:0≤(1:Int):=(by omega)
         have q127:1<(l0.length:Int):=of_decide_eq_true (by first|(with_reducible assumption)|assumption)
         obtain ⟨ad127,e127,hx127_0⟩:=Kd.at_int HR0.out 1 p127 q127
         have hw127_0:=hx127_0
         (try rw [show ((1:Int)).toNat=1 from rfl] at hw127_0)
         (try rw [show 1*1=1 from rfl] at hw127_0)
         (try simp only [Nat.reduceMul,Nat.reduceEqDiff,Go.Addr.add,↓reduceIte] at hw127_0)
         obtain rfl:ad112=ad127:=(by injection e127)
         (try simp only [show (1:Int).toNat=1 from rfl,Nat.reduceMul,Nat.reduceEqDiff,Go.Addr.add,↓reduceIte] at hx127_0)
         have qi127:(1<l0.length)=True:=eq_true (by omega)
         (try rw [show ((1:Int)).toNat=1 from rfl] at hx127_0)
         replace hx127_0:=(HB.out.cell (World.block_lt_of_cell? w _ hx127_0)).trans hx127_0
         replace p127:=eq_true p127
         replace q127:=eq_true q127
         have p128:0≤(2:Int):=(by omega)
         have q128:2<(l0.length:Int):=of_decide_eq_true (by first|(with_reducible assumption)|assumption)
         obtain ⟨ad128,e128,hx128_0⟩:=Kd.at_int HR0.out 2 p128 q128
         have hw128_0:=hx128_0
         (try rw [show ((2:Int)).toNat=2 from rfl] at hw128_0)
         (try rw [show 2*1=2 from rfl] at hw128_0)
         (try simp only [Nat.reduceMul,Nat.reduceEqDiff,Go.Addr.add,↓reduceIte] at hw128_0)
         obtain rfl:ad112=ad128:=(by injection e128)
         (try simp only [show (2:Int).toNat=2 from rfl,Nat.reduceMul,Nat.reduceEqDiff,Go.Addr.add,↓reduceIte] at hx128_0)
         have qi128:(2<l0.length)=True:=eq_true (by omega)
         (try rw [show ((2:Int)).toNat=2 from rfl] at hx128_0)
         replace hx128_0:=(HB.out.cell (World.block_lt_of_cell? w _ hx128_0)).trans hx128_0
         replace p128:=eq_true p128
         replace q128:=eq_true q128
         have p129:0≤(3:Int):=(by omega)
         have q129:3<(l0.length:Int):=of_decide_eq_true (by first|(with_reducible assumption)|assumption)
         obtain ⟨ad129,e129,hx129_0⟩:=Kd.at_int HR0.out 3 p129 q129
         have hw129_0:=hx129_0
         (try rw [show ((3:Int)).toNat=3 from rfl] at hw129_0)
         (try rw [show 3*1=3 from rfl] at hw129_0)
         (try simp only [Nat.reduceMul,Nat.reduceEqDiff,Go.Addr.add,↓reduceIte] at hw129_0)
         obtain rfl:ad112=ad129:=(by injection e129)
         (try simp only [show (3:Int).toNat=3 from rfl,Nat.reduceMul,Nat.reduceEqDiff,Go.Addr.add,↓reduceIte] at hx129_0)
         have qi129:(3<l0.length)=True:=eq_true (by omega)
         (try rw [show ((3:Int)).toNat=3 from rfl] at hx129_0)
         replace hx129_0:=(HB.out.cell (World.block_lt_of_cell? w _ hx129_0)).trans hx129_0
         replace p129:=eq_true p129
         replace q129:=eq_true q129
         have p130:0≤(5:Int):=(by omega)
         have q130:5<(l0.length:Int):=of_decide_eq_true (by first|(with_reducible assumption)|assumption)
         obtain ⟨ad130,e130,hx130_0⟩:=Kd.at_int HR0.out 5 p130 q130
         have hw130_0:=hx130_0
         (try rw [show ((5:Int)).toNat=5 from rfl] at hw130_0)
         (try rw [show 5*1=5 from rfl] at hw130_0)
         (try simp only [Nat.reduceMul,Nat.reduceEqDiff,Go.Addr.add,↓reduceIte] at hw130_0)
         obtain rfl:ad112=ad130:=(by injection e130)
         (try simp only [show (5:Int).toNat=5 from rfl,Nat.reduceMul,Nat.reduceEqDiff,Go.Addr.add,↓reduceIte] at hx130_0)
         have qi130:(5<l0.length)=True:=eq_true (by omega)
         (try rw [show ((5:Int)).toNat=5 from rfl] at hx130_0)
         replace hx130_0:=(HB.out.cell (World.block_lt_of_cell? w _ hx130_0)).trans hx130_0
         replace p130:=eq_true p130
         replace q130:=eq_true q130
         have p131:0≤(6:Int):=(by omega)
         have q131:6<(l0.length:Int):=of_decide_eq_true (by first|(with_reducible assumption)|assumption)
         obtain ⟨ad131,e131,hx131_0⟩:=Kd.at_int HR0.out 6 p131 q131
         have hw131_0:=hx131_0
         (try rw [show ((6:Int)).toNat=6 from rfl] at hw131_0)
         (try rw [show 6*1=6 from rfl] at hw131_0)
         (try simp only [Nat.reduceMul,Nat.reduceEqDiff,Go.Addr.add,↓reduceIte] at hw131_0)
         obtain rfl:ad112=ad131:=(by injection e131)
         (try simp only [show (6:Int).toNat=6 from rfl,Nat.reduceMul,Nat.reduceEqDiff,Go.Addr.add,↓reduceIte] at hx131_0)
         have qi131:(6<l0.length)=True:=eq_true (by omega)
         (try rw [show ((6:Int)).toNat=6 from rfl] at hx131_0)
         replace hx131_0:=(HB.out.cell (World.block_lt_of_cell? w _ hx131_0)).trans hx131_0
         replace p131:=eq_true p131
         replace q131:=eq_true q131
         refine start_ (n:=24) (S:=fun w'=>w'.cell? ⟨ad112.block,ad112.off+1,none⟩=some (.int .u32 (rd l0 1))∧w'.cell? ⟨ad112.block,ad112.off+2,none⟩=some (.int .u32 (rd l0 2))∧w'.cell? ⟨ad112.block,ad112.off+3,none⟩=some (.int .u32 (rd l0 3))∧w'.cell? ⟨ad112.block,ad112.off+5,none⟩=some (.int .u32 (rd l0 5))∧w'.cell? ⟨ad112.block,ad112.off+6,none⟩=some (.int .u32 (rd l0 6))) (ds:=[]) #[false,false,false,false,false,false,false,false,false,false,false,false,false,false,false,false,false,false,false,false,false,false,false,false] (by kernel_rfl) rfl rfl ⟨((HB.out.cell (World.block_lt_of_cell? w _ hw127_0)).trans hw127_0),((HB.out.cell (World.block_lt_of_cell? w _ hw128_0)).trans hw128_0),((HB.out.cell (World.block_lt_of_cell? w _ hw129_0)).trans hw129_0),((HB.out.cell (World.block_lt_of_cell? w _ hw130_0)).trans hw130_0),((HB.out.cell (World.block_lt_of_cell? w _ hw131_0)).trans hw131_0)⟩ (fun hHeld=>?_);refine with_tabW transhipmentref02_Round.tab5 transhipmentref02_Round.bits5 (fun HT_ HW_=>?_)
         generalize w19.drew=w20 at HB hx127_0 hx128_0 hx129_0 hx130_0 hx131_0 hHeld ⊢
         refine pure_ (i:=0) (N:=some 74) (v:=?_) (a':=?_) #[true,false,false,false,false,false,false,false,false,false,false,false,false,false,false,false,false,false,false,false,false,false,false,false] rfl rfl (any_of HT_.out (by kernel_rfl)) (fun _ _ _ h=>h) (Or.inl ⟨by rfl,?_⟩) ?_ ?_
         rotate_left
         ·intro w'
          go_simp
          with_reducible rfl
         rotate_left
         ·simp only [Act.put,List.setIfInBounds_toArray,List.set_cons_zero,List.set_cons_succ,i64_w,i32_w]
          rfl
         refine pure_ (i:=1) (N:=some 75) (v:=?_) (a':=?_) #[true,true,false,false,false,false,false,false,false,false,false,false,false,false,false,false,false,false,false,false,false,false,false,false] rfl rfl (any_of HT_.out (by kernel_rfl)) (fun _ _ _ h=>h) (Or.inl ⟨by rfl,?_⟩) ?_ ?_
         rotate_left
         ·intro w'
          go_simp
          with_reducible rfl
         rotate_left
         ·simp only [Act.put,List.setIfInBounds_toArray,List.set_cons_zero,List.set_cons_succ,i64_w,i32_w]
          rfl
         refine pure_ (i:=2) (N:=some 76) (v:=?_) (a':=?_) #[true,true,true,false,false,false,false,false,false,false,false,false,false,false,false,false,false,false,false,false,false,false,false,false] rfl rfl (any_of HT_.out (by kernel_rfl)) (fun _ _ _ h=>h) (Or.inl ⟨by rfl,?_⟩) ?_ ?_
         rotate_left
         ·intro w'
          go_simp
          with_reducible rfl
         rotate_left
         ·simp only [Act.put,List.setIfInBounds_toArray,List.set_cons_zero,List.set_cons_succ,i64_w,i32_w]
          rfl
         refine pure_ (i:=3) (N:=some 77) (v:=?_) (a':=?_) #[true,true,true,true,false,false,false,false,false,false,false,false,false,false,false,false,false,false,false,false,false,false,false,false] rfl rfl (any_of HT_.out (by kernel_rfl)) (fun _ _ _ h=>h) (Or.inl ⟨by rfl,?_⟩) ?_ ?_
         rotate_left
         ·intro w'
          go_simp
          with_reducible rfl
         rotate_left
         ·simp only [Act.put,List.setIfInBounds_toArray,List.set_cons_zero,List.set_cons_succ,i64_w,i32_w]
          rfl
         refine pure_ (i:=4) (N:=some 78) (v:=?_) (a':=?_) #[true,true,true,true,true,false,false,false,false,false,false,false,false,false,false,false,false,false,false,false,false,false,false,false] rfl rfl (any_of HT_.out (by kernel_rfl)) (fun _ _ _ h=>h) (Or.inl ⟨by rfl,?_⟩) ?_ ?_
         rotate_left
         ·intro w'
          go_simp
          with_reducible rfl
         rotate_left
         ·simp only [Act.put,List.setIfInBounds_toArray,List.set_cons_zero,List.set_cons_succ,i64_w,i32_w]
          rfl
         refine pure_ (i:=5) (N:=some 79) (v:=?_) (a':=?_) #[true,true,true,true,true,true,false,false,false,false,false,false,false,false,false,false,false,false,false,false,false,false,false,false] rfl rfl (any_of HT_.out (by kernel_rfl)) (fun _ _ _ h=>h) (Or.inl ⟨by rfl,?_⟩) ?_ ?_
         rotate_left
         ·intro w'
          go_simp
          with_reducible rfl
         rotate_left
         ·simp only [Act.put,List.setIfInBounds_toArray,List.set_cons_zero,List.set_cons_succ,i64_w,i32_w]
          rfl
         refine pure_ (i:=7) (N:=some 81) (v:=?_) (a':=?_) #[true,true,true,true,true,true,false,true,false,false,false,false,false,false,false,false,false,false,false,false,false,false,false,false] rfl rfl (any_of HT_.out (by kernel_rfl)) (fun _ _ _ h=>h) (Or.inl ⟨by rfl,?_⟩) ?_ ?_
         rotate_left
         ·intro w'
          go_simp
          with_reducible rfl
         rotate_left
         ·simp only [Act.put,List.setIfInBounds_toArray,List.set_cons_zero,List.set_cons_succ,i64_w,i32_w]
          rfl
         refine pure_ (i:=8) (N:=some 82) (v:=?_) (a':=?_) #[true,true,true,true,true,true,false,true,true,false,false,false,false,false,false,false,false,false,false,false,false,false,false,false] rfl rfl (any_of HT_.out (by kernel_rfl)) (fun _ _ _ h=>h) (Or.inl ⟨by rfl,?_⟩) ?_ ?_
         rotate_left
         ·intro w'
          go_simp
          with_reducible rfl
         rotate_left
         ·simp only [Act.put,List.setIfInBounds_toArray,List.set_cons_zero,List.set_cons_succ,i64_w,i32_w]
          rfl
         refine pure_ (i:=10) (N:=some 84) (v:=?_) (a':=?_) #[true,true,true,true,true,true,false,true,true,false,true,false,false,false,false,false,false,false,false,false,false,false,false,false] rfl rfl (any_of HT_.out (by kernel_rfl)) (fun _ _ _ h=>h) (Or.inl ⟨by rfl,?_⟩) ?_ ?_
         rotate_left
         ·intro w'
          go_simp
          with_reducible rfl
         rotate_left
         ·simp only [Act.put,List.setIfInBounds_toArray,List.set_cons_zero,List.set_cons_succ,i64_w,i32_w]
          rfl
         refine pure_ (i:=11) (N:=some 85) (v:=?_) (a':=?_) #[true,true,true,true,true,true,false,true,true,false,true,true,false,false,false,false,false,false,false,false,false,false,false,false] rfl rfl (any_of HT_.out (by kernel_rfl)) (fun _ _ _ h=>h) (Or.inl ⟨by rfl,?_⟩) ?_ ?_
         rotate_left
         ·intro w'
          go_simp
          with_reducible rfl
         rotate_left
         ·simp only [Act.put,List.setIfInBounds_toArray,List.set_cons_zero,List.set_cons_succ,i64_w,i32_w]
          rfl
         refine pure_ (i:=13) (N:=some 87) (v:=?_) (a':=?_) #[true,true,true,true,true,true,false,true,true,false,true,true,false,true,false,false,false,false,false,false,false,false,false,false] rfl rfl (any_of HT_.out (by kernel_rfl)) (fun _ _ _ h=>h) (Or.inl ⟨by rfl,?_⟩) ?_ ?_
         rotate_left
         ·intro w'
          go_simp
          with_reducible rfl
         rotate_left
         ·simp only [Act.put,List.setIfInBounds_toArray,List.set_cons_zero,List.set_cons_succ,i64_w,i32_w]
          rfl
         refine pure_ (i:=15) (N:=some 89) (v:=?_) (a':=?_) #[true,true,true,true,true,true,false,true,true,false,true,true,false,true,false,true,false,false,false,false,false,false,false,false] rfl rfl (any_of HT_.out (by kernel_rfl)) (fun _ _ _ h=>h) (Or.inl ⟨by rfl,?_⟩) ?_ ?_
         rotate_left
         ·intro w'
          go_simp
          with_reducible rfl
         rotate_left
         ·simp only [Act.put,List.setIfInBounds_toArray,List.set_cons_zero,List.set_cons_succ,i64_w,i32_w]
          rfl
         refine pure_ (i:=16) (N:=some 90) (v:=?_) (a':=?_) #[true,true,true,true,true,true,false,true,true,false,true,true,false,true,false,true,true,false,false,false,false,false,false,false] rfl rfl (any_of HT_.out (by kernel_rfl)) (fun _ _ _ h=>h) (Or.inl ⟨by rfl,?_⟩) ?_ ?_
         rotate_left
         ·intro w'
          go_simp
          with_reducible rfl
         rotate_left
         ·simp only [Act.put,List.setIfInBounds_toArray,List.set_cons_zero,List.set_cons_succ,i64_w,i32_w]
          rfl
         refine pure_ (i:=17) (N:=some 91) (v:=?_) (a':=?_) #[true,true,true,true,true,true,false,true,true,false,true,true,false,true,false,true,true,true,false,false,false,false,false,false] rfl rfl (any_of HT_.out (by kernel_rfl)) (fun _ _ _ h=>h) (Or.inl ⟨by rfl,?_⟩) ?_ ?_
         rotate_left
         ·intro w'
          go_simp
          with_reducible rfl
         rotate_left
         ·simp only [Act.put,List.setIfInBounds_toArray,List.set_cons_zero,List.set_cons_succ,i64_w,i32_w]
          rfl
         refine pure_ (i:=19) (N:=some 93) (v:=?_) (a':=?_) #[true,true,true,true,true,true,false,true,true,false,true,true,false,true,false,true,true,true,false,true,false,false,false,false] rfl rfl (any_of HT_.out (by kernel_rfl)) (fun _ _ _ h=>h) (Or.inl ⟨by rfl,?_⟩) ?_ ?_
         rotate_left
         ·intro w'
          go_simp
          with_reducible rfl
         rotate_left
         ·simp only [Act.put,List.setIfInBounds_toArray,List.set_cons_zero,List.set_cons_succ,i64_w,i32_w]
          rfl
         refine pure_ (i:=20) (N:=some 94) (v:=?_) (a':=?_) #[true,true,true,true,true,true,false,true,true,false,true,true,false,true,false,true,true,true,false,true,true,false,false,false] rfl rfl (any_of HT_.out (by kernel_rfl)) (fun _ _ _ h=>h) (Or.inl ⟨by rfl,?_⟩) ?_ ?_
         rotate_left
         ·intro w'
          go_simp
          with_reducible rfl
         rotate_left
         ·simp only [Act.put,List.setIfInBounds_toArray,List.set_cons_zero,List.set_cons_succ,i64_w,i32_w]
          rfl
         refine take_ (i:=6) (N:=some 80) (v:=?_) (a':=?_) #[true,true,true,true,true,true,true,true,true,false,true,true,false,true,false,true,true,true,false,true,true,false,false,false] rfl rfl (take_ofW HT_.out HW_.out (by kernel_rfl)) (fun _ _ _ h=>h) (Or.inl ⟨by rfl,?_⟩) hHeld ?_ ?_
         rotate_left
         ·rintro w' ⟨s0,s1,s2,s3,s4⟩
          go_simp
          with_reducible rfl
         rotate_left
         ·simp only [Act.put,List.setIfInBounds_toArray,List.set_cons_zero,List.set_cons_succ,i64_w,i32_w]
          rfl
         refine take_ (i:=9) (N:=some 83) (v:=?_) (a':=?_) #[true,true,true,true,true,true,true,true,true,true,true,true,false,true,false,true,true,true,false,true,true,false,false,false] rfl rfl (take_ofW HT_.out HW_.out (by kernel_rfl)) (fun _ _ _ h=>h) (Or.inl ⟨by rfl,?_⟩) hHeld ?_ ?_
         rotate_left
         ·rintro w' ⟨s0,s1,s2,s3,s4⟩
          go_simp
          with_reducible rfl
         rotate_left
         ·simp only [Act.put,List.setIfInBounds_toArray,List.set_cons_zero,List.set_cons_succ,i64_w,i32_w]
          rfl
         refine take_ (i:=12) (N:=some 86) (v:=?_) (a':=?_) #[true,true,true,true,true,true,true,true,true,true,true,true,true,true,false,true,true,true,false,true,true,false,false,false] rfl rfl (take_ofW HT_.out HW_.out (by kernel_rfl)) (fun _ _ _ h=>h) (Or.inl ⟨by rfl,?_⟩) hHeld ?_ ?_
         rotate_left
         ·rintro w' ⟨s0,s1,s2,s3,s4⟩
          go_simp
          with_reducible rfl
         rotate_left
         ·simp only [Act.put,List.setIfInBounds_toArray,List.set_cons_zero,List.set_cons_succ,i64_w,i32_w]
          rfl
         refine pure_ (i:=14) (N:=some 88) (v:=?_) (a':=?_) #[true,true,true,true,true,true,true,true,true,true,true,true,true,true,true,true,true,true,false,true,true,false,false,false] rfl rfl (any_of HT_.out (by kernel_rfl)) (fun _ _ _ h=>h) (Or.inl ⟨by rfl,?_⟩) ?_ ?_
         rotate_left
         ·intro w'
          go_simp
          with_reducible rfl
         rotate_left
         ·simp only [Act.put,List.setIfInBounds_toArray,List.set_cons_zero,List.set_cons_succ,i64_w,i32_w]
          rfl
         refine take_ (i:=18) (N:=some 92) (v:=?_) (a':=?_) #[true,true,true,true,true,true,true,true,true,true,true,true,true,true,true,true,true,true,true,true,true,false,false,false] rfl rfl (take_ofW HT_.out HW_.out (by kernel_rfl)) (fun _ _ _ h=>h) (Or.inl ⟨by rfl,?_⟩) hHeld ?_ ?_
         rotate_left
         ·rintro w' ⟨s0,s1,s2,s3,s4⟩
          go_simp
          with_reducible rfl
         rotate_left
         ·simp only [Act.put,List.setIfInBounds_toArray,List.set_cons_zero,List.set_cons_succ,i64_w,i32_w]
          rfl
         refine take_ (i:=21) (N:=some 95) (v:=?_) (a':=?_) #[true,true,true,true,true,true,true,true,true,true,true,true,true,true,true,true,true,true,true,true,true,true,false,false] rfl rfl (take_ofW HT_.out HW_.out (by kernel_rfl)) (fun _ _ _ h=>h) (Or.inl ⟨by rfl,?_⟩) hHeld ?_ ?_
         rotate_left
         ·rintro w' ⟨s0,s1,s2,s3,s4⟩
          go_simp
          with_reducible rfl
         rotate_left
         ·simp only [Act.put,List.setIfInBounds_toArray,List.set_cons_zero,List.set_cons_succ,i64_w,i32_w]
          rfl
         refine one_ (i:=22) (N:=some 96) #[true,true,true,true,true,true,true,true,true,true,true,true,true,true,true,true,true,true,true,true,true,true,true,false] rfl rfl (one_of HT_.out (by kernel_rfl)) (by decide) (fun K hK=>?_)
         refine Kd.R_lit_step (Kd.int .u32) _ 30 ?hg (N:=96) ?hd (xs:=([((((((((((rd l0 7)+(Go.bits .xor .u32 (Go.bits .xor .u32 t115 t116) t117)) % 4294967296)+(Go.bits .xor .u32 (Go.bits .and .u32 (rd l0 4) (rd l0 5)) (Go.bits .and .u32 ((4294967295-(rd l0 4)) % 4294967296) (rd l0 6)))) % 4294967296)+a1) % 4294967296)+a2) % 4294967296)+(((Go.bits .xor .u32 (Go.bits .xor .u32 t120 t121) t122)+(Go.bits .xor .u32 (Go.bits .xor .u32 (Go.bits .and .u32 (rd l0 0) (rd l0 1)) (Go.bits .and .u32 (rd l0 0) (rd l0 2))) (Go.bits .and .u32 (rd l0 1) (rd l0 2)))) % 4294967296)) % 4294967296,rd l0 0,rd l0 1,rd l0 2,((rd l0 3)+(((((((((rd l0 7)+(Go.bits .xor .u32 (Go.bits .xor .u32 t115 t116) t117)) % 4294967296)+(Go.bits .xor .u32 (Go.bits .and .u32 (rd l0 4) (rd l0 5)) (Go.bits .and .u32 ((4294967295-(rd l0 4)) % 4294967296) (rd l0 6)))) % 4294967296)+a1) % 4294967296)+a2) % 4294967296)) % 4294967296,rd l0 4,rd l0 5,rd l0 6]:List Int)) (inner:=[.int .u32 (((((((((((rd l0 7)+(Go.bits .xor .u32 (Go.bits .xor .u32 t115 t116) t117)) % 4294967296)+(Go.bits .xor .u32 (Go.bits .and .u32 (rd l0 4) (rd l0 5)) (Go.bits .and .u32 ((4294967295-(rd l0 4)) % 4294967296) (rd l0 6)))) % 4294967296)+a1) % 4294967296)+a2) % 4294967296)+(((Go.bits .xor .u32 (Go.bits .xor .u32 t120 t121) t122)+(Go.bits .xor .u32 (Go.bits .xor .u32 (Go.bits .and .u32 (rd l0 0) (rd l0 1)) (Go.bits .and .u32 (rd l0 0) (rd l0 2))) (Go.bits .and .u32 (rd l0 1) (rd l0 2)))) % 4294967296)) % 4294967296),.int .u32 (rd l0 0),.int .u32 (rd l0 1),.int .u32 (rd l0 2),.int .u32 (((rd l0 3)+(((((((((rd l0 7)+(Go.bits .xor .u32 (Go.bits .xor .u32 t115 t116) t117)) % 4294967296)+(Go.bits .xor .u32 (Go.bits .and .u32 (rd l0 4) (rd l0 5)) (Go.bits .and .u32 ((4294967295-(rd l0 4)) % 4294967296) (rd l0 6)))) % 4294967296)+a1) % 4294967296)+a2) % 4294967296)) % 4294967296),.int .u32 (rd l0 4),.int .u32 (rd l0 5),.int .u32 (rd l0 6)]) (ok:=fun _=>True) (okp:=fun _=>True) ?hr ?hp (fun _ hk=>hk) trivial (Below.refl _ _) (Nat.le_refl _) (by simp) ?_;(case hd=>rfl);(case hg=>rfl);(case hr=>first|(go_simp;done)|(go_simp;rfl)|(go_simp;simp [IntKind.wrap_u32]));(case hp=>exact (Reps.one (show Kd.M (Kd.int .u32) _ _ _ (((((((((((rd l0 7)+(Go.bits .xor .u32 (Go.bits .xor .u32 t115 t116) t117)) % 4294967296)+(Go.bits .xor .u32 (Go.bits .and .u32 (rd l0 4) (rd l0 5)) (Go.bits .and .u32 ((4294967295-(rd l0 4)) % 4294967296) (rd l0 6)))) % 4294967296)+a1) % 4294967296)+a2) % 4294967296)+(((Go.bits .xor .u32 (Go.bits .xor .u32 t120 t121) t122)+(Go.bits .xor .u32 (Go.bits .xor .u32 (Go.bits .and .u32 (rd l0 0) (rd l0 1)) (Go.bits .and .u32 (rd l0 0) (rd l0 2))) (Go.bits .and .u32 (rd l0 1) (rd l0 2)))) % 4294967296)) % 4294967296) [.int .u32 (((((((((((rd l0 7)+(Go.bits .xor .u32 (Go.bits .xor .u32 t115 t116) t117)) % 4294967296)+(Go.bits .xor .u32 (Go.bits .and .u32 (rd l0 4) (rd l0 5)) (Go.bits .and .u32 ((4294967295-(rd l0 4)) % 4294967296) (rd l0 6)))) % 4294967296)+a1) % 4294967296)+a2) % 4294967296)+(((Go.bits .xor .u32 (Go.bits .xor .u32 t120 t121) t122)+(Go.bits .xor .u32 (Go.bits .xor .u32 (Go.bits .and .u32 (rd l0 0) (rd l0 1)) (Go.bits .and .u32 (rd l0 0) (rd l0 2))) (Go.bits .and .u32 (rd l0 1) (rd l0 2)))) % 4294967296)) % 4294967296)] from rfl) (Reps.one (show Kd.M (Kd.int .u32) _ _ _ (rd l0 0) [.int .u32 (rd l0 0)] from rfl) (Reps.one (show Kd.M (Kd.int .u32) _ _ _ (rd l0 1) [.int .u32 (rd l0 1)] from rfl) (Reps.one (show Kd.M (Kd.int .u32) _ _ _ (rd l0 2) [.int .u32 (rd l0 2)] from rfl) (Reps.one (show Kd.M (Kd.int .u32) _ _ _ (((rd l0 3)+(((((((((rd l0 7)+(Go.bits .xor .u32 (Go.bits .xor .u32 t115 t116) t117)) % 4294967296)+(Go.bits .xor .u32 (Go.bits .and .u32 (rd l0 4) (rd l0 5)) (Go.bits .and .u32 ((4294967295-(rd l0 4)) % 4294967296) (rd l0 6)))) % 4294967296)+a1) % 4294967296)+a2) % 4294967296)) % 4294967296) [.int .u32 (((rd l0 3)+(((((((((rd l0 7)+(Go.bits .xor .u32 (Go.bits .xor .u32 t115 t116) t117)) % 4294967296)+(Go.bits .xor .u32 (Go.bits .and .u32 (rd l0 4) (rd l0 5)) (Go.bits .and .u32 ((4294967295-(rd l0 4)) % 4294967296) (rd l0 6)))) % 4294967296)+a1) % 4294967296)+a2) % 4294967296)) % 4294967296)] from rfl) (Reps.one (show Kd.M (Kd.int .u32) _ _ _ (rd l0 4) [.int .u32 (rd l0 4)] from rfl) (Reps.one (show Kd.M (Kd.int .u32) _ _ _ (rd l0 5) [.int .u32 (rd l0 5)] from rfl) (Reps.one (show Kd.M (Kd.int .u32) _ _ _ (rd l0 6) [.int .u32 (rd l0 6)] from rfl) (Reps.none _ _))))))))))
         intro v133 w21 ho22 hb hg_ hnew_
         clear hg_ hnew_
         (first|rw [← Ny132.out] at ho22|(simp only [Int.reduceToNat] at ho22;rw [← Ny132.out] at ho22))
         have n0_:=Aside0.mk (Kd.R_lower ho22 (below_size (by repeat (first|(with_reducible first|exact HB.out|apply below_alloc|apply pw_below_drewN|apply below_drew1)|exact HB.out))))
         have n1_:=Aside0.mk (below_step (by repeat (first|(with_reducible first|exact HB.out|apply below_alloc|apply pw_below_drewN|apply below_drew1)|exact HB.out)) hb)
         clear HB
         have HO134:=n0_
         have HB:=n1_
         clear n0_ n1_
         clear hb ho22
         refine hK.out _ _ ⟨((HB.out.cell (World.block_lt_of_cell? w _ hw127_0)).trans hw127_0),((HB.out.cell (World.block_lt_of_cell? w _ hw128_0)).trans hw128_0),((HB.out.cell (World.block_lt_of_cell? w _ hw129_0)).trans hw129_0),((HB.out.cell (World.block_lt_of_cell? w _ hw130_0)).trans hw130_0),((HB.out.cell (World.block_lt_of_cell? w _ hw131_0)).trans hw131_0)⟩ (fun hHeld=>?_)
         clear hK K
         refine norm_ (a':=?_) ?_ ?_
         rotate_left
         ·show Act.put _ (some 96) _=_
          simp only [Act.put,List.setIfInBounds_toArray,List.set_cons_zero,List.set_cons_succ,i64_w,i32_w]
          rfl
         refine pure_ (i:=23) (N:=some 6) (v:=?_) (a':=?_) #[true,true,true,true,true,true,true,true,true,true,true,true,true,true,true,true,true,true,true,true,true,true,true,true] rfl rfl (any_of HT_.out (by kernel_rfl)) (fun _ _ _ h=>h) (Or.inl ⟨by rfl,?_⟩) ?_ ?_
         rotate_left
         ·intro w'
          go_simp
          with_reducible rfl
         rotate_left
         ·simp only [Act.put,List.setIfInBounds_toArray,List.set_cons_zero,List.set_cons_succ,i64_w,i32_w]
          rfl
         refine done_ (done_of HT_.out (by kernel_rfl)) ?_
         try go_wp2
         (first|go_ret|go_ret2)
         exact ⟨_,by first|rfl|(simp [errW_none,errW_some]<;>rfl)|(simp [*,errW_none,errW_some]<;>rfl),by (with_reducible repeat (first|apply Kd.R_alloc|apply Kd.R_drewN|apply Kd.R_drew));exact HO134.out,by repeat (first|(with_reducible first|exact HB.out|apply below_alloc|apply pw_below_drewN|apply below_drew1)|exact HB.out)⟩
        ·rw [if_neg c17] at H
         exact absurd H (by simp)
       ·rw [if_neg c16] at H
        exact absurd H (by simp)
      ·rw [if_neg c15] at H
       exact absurd H (by simp)
     ·rw [if_neg c11] at H
      exact absurd H (by simp)
    ·rw [if_neg c10] at H
     exact absurd H (by simp)
   ·rw [if_neg c6] at H
    exact absurd H (by simp)
  ·rw [if_neg c5] at H
   exact absurd H (by simp)
 ·rw [if_neg c4] at H
  exact absurd H (by simp)
end Go.Proofs.YtceedgflpkaclaaDoor.P
