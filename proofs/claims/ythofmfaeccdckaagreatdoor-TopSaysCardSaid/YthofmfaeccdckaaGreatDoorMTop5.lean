/- What these functions of the program compute, and plain lemmas on it. Conditions: as each lemma says. -/
import Derived.Test.YthofmfaeccdckaaGreatDoorMTop3
import Derived.Test.YthofmfaeccdckaaGreatDoorMTop2
import Derived.Maps.OwnSet
import Derived.Maps.StringElems
import Derived.StringKeys
import Derived.Test.YthofmfaeccdckaaGreatDoorMTop4
import Derived.Laws.Rows
import Derived.Lib.LaidTab
import Derived.Lib.AppendIntMem
import Derived.Test.YthofmfaeccdckaaGreatDoorMTop1
set_option linter.unusedVariables false
set_option linter.unusedSimpArgs false
set_option maxHeartbeats 40000000
set_option maxRecDepth 20000
namespace Go.Proofs.YthofmfaeccdckaaGreatDoor.P
open Go.RowKit Go.Proofs.YthofmfaeccdckaaGreatDoorW.PrintWords Go.Proofs.YthofmfaeccdckaaGreatDoorW.PrintLast Go.Proofs.YthofmfaeccdckaaGreatDoorW.PrintMore
open Go.WideShapes Go.Maps Go.WideMaps
def SeenAt (w:World) (b n:Nat) (ns:List ByteArray):Prop:=∃ D:DataW Unit,w.ownsMap Tryz.prog 9 (plainElem Tryz.prog 4) b n D∧∀ s:ByteArray,D.atKey (.string s.data.toList) (.lit (.bool false))=.lit (.bool (Lib.containsS ns s))
theorem SeenAt.below {w w1:World} {b n:Nat} {ns:List ByteArray} (h:SeenAt w b n ns) (hb:Below w.heap.size w w1):SeenAt w1 b n ns:=by
 obtain ⟨D,⟨es,clock,h1,F,hs,hD⟩,hat⟩:=h
 exact ⟨D,⟨es,clock,blk_below h1 hb,F,hs,hD⟩,hat⟩
theorem SeenAt.set {w:World} {b n g j:Nat} {v:Value} {ns:List ByteArray} (h:SeenAt w b n ns) (hb:b≠g):SeenAt (w.setCell ⟨g,j,none⟩ v) b n ns:=by
 obtain ⟨D,h1,hat⟩:=h
 exact ⟨D,h1.setCell hb v,hat⟩
theorem SeenAt.lt {w:World} {b n:Nat} {ns:List ByteArray} (h:SeenAt w b n ns):b<w.heap.size:=by
 obtain ⟨D,h1,_⟩:=h
 exact h1.lt
theorem SeenAt.fresh {w:World} {b:Nat} (h:w.ownsMap Tryz.prog 9 (plainElem (H:=Unit) Tryz.prog 4) b 0 (.map [])):SeenAt w b 0 []:=⟨_,h,fun _=>rfl⟩
theorem SeenAt.look {w:World} {b n:Nat} {ns:List ByteArray} (h:SeenAt w b n ns) (s:ByteArray) (hs:s.size≤1000000):(Instr.lookup 113 (.map (some b)) (.string s) false).run Tryz.prog w=.ok (.bool (Lib.containsS ns s)) w:=by
 obtain ⟨D,h1,hat⟩:=h
 obtain ⟨v,ps,hrun,hv⟩:=World.ownsMap.lookup h1 (string_keyed Tryz.underlying9) Tryz.underlying113 (z:=.bool false) (by kernel_rfl) (plainElem_bool Tryz.underlying4 false) (keyOf_string_mk Tryz.underlying9 (s:=s) (by unfold maxLen;omega))
 rw [hat s] at hv
 rw [hrun]
 cases v with
 | bool x =>
   rw [plainElem_bool Tryz.underlying4 x] at hv
   simp only [Option.some.injEq,Prod.mk.injEq,DataW.lit.injEq,Lit.bool.injEq] at hv
   rw [hv.1]
 | _=>simp [plainElem,Tryz.underlying4] at hv
theorem contains_snoc (ns:List ByteArray) (s t:ByteArray):Lib.containsS (ns++[s]) t=(Lib.containsS ns t || decide (t=s)):=by
 rw [Bool.eq_iff_iff,Bool.or_eq_true,Lib.containsS_iff,Lib.containsS_iff,List.mem_append,List.mem_singleton,decide_eq_true_eq]
theorem seen_put {P:Program} {ops:Array Oper} {rest:List Oper} {o:Oper} {a:Act} {Q:Exit→Act→World→Prop} (hP:P=Tryz.prog) (w:World) (hg:o.guard=none) (m x v:Operand) (hop:o.op=Op.mapUpdate 113 m x v) (b n:Nat) (ns:List ByteArray) (s:ByteArray) (hs:s.size≤1000000) (hn:n≤1000000)
 (hm:a.eval m=.map (some b)) (hx:a.eval x=.string s) (hv:a.eval v=.bool true) (h:SeenAt w b n ns) (hK:∀ w',SeenAt w' b (n+1) (ns++[s])→w.grownBy w' (some b)→wpList P ops Q rest (a.put o.dst undef) w'):wpList P ops Q (o::rest) a w:=by
 subst hP
 obtain ⟨D,h1,hat⟩:=h
 refine wpList_mapUpdate_own w hg m x v 113 hop 9 4 (string_keyed Tryz.underlying9) Tryz.underlying113 _ b n D hm h1 (by unfold maxLen;omega) (.string s) (.bool true) (.string s.data.toList) hx hv (keyOf_string_mk Tryz.underlying9 (by unfold maxLen;omega)) _ [] (plainElem_bool Tryz.underlying4 true) ?_
 intro w' h2 hg2
 refine hK w' ⟨_,h2,fun t=>?_⟩ hg2
 rw [contains_snoc]
 by_cases e:t=s
 ·subst e
  rw [atKey_put_same h1.isMap (by trivial)]
  simp
 ·rw [atKey_put_other (fun h=>e (by
   injection h with h
   exact ByteArray.ext (Array.toList_inj.1 h))),hat t]
  simp [e]
def uniqB (ns:List ByteArray):Bool:=upTo (fun i=>!Lib.containsS (ns.take i) (wd ns i)) ns.length
theorem take_wd {ns:List ByteArray} {i:Nat} (h:i<ns.length):ns.take i++[wd ns i]=ns.take (i+1):=by
 rw [List.take_succ_eq_append_getElem h]
 unfold wd
 rw [List.getD_eq_getElem?_getD,List.getElem?_eq_getElem h]
 rfl
theorem uniq_Text (A:Option Addr) (c:Nat) (xs:List ByteArray) (w:World) (hr:Kd.C Kd.string w A xs.length xs) (hn:xs.length≤1000) (hs:∀ x∈xs,x.size≤1000000) :
 Calls Tryz.prog 22 #[.slice A xs.length c,.func (.func 23) #[] #[]] w fun e w'=>e=.returned (.bool (uniqB xs))∧Below w.heap.size w w':=by
 have hit:=fun (s:ByteArray) W=>(show Calls Tryz.prog 23 #[.string s] W fun e w'=>e=.returned (.string s)∧w'=W from by
  go_in
  go_wp2
  go_ret
  exact ⟨rfl,rfl⟩)
 have HR:=am hr
 have HS:=am hs
 have HIT:=am hit
 clear hr hs hit
 go_in
 go_wp2_with ((with_reducible refine gate_dst (N:=8) rfl ?_);refine wpList_makeMap_own _ rfl 113 9 rfl (plainElem Tryz.prog 4) ?_;intro w1 hown hb;have HSE:=am (SeenAt.fresh hown);have HB1:=am hb;clear hown hb)
 go_loopw [11] (fun v wr=>∃ (i b:Nat),v=.int .i64 i∧Aside0 (i≤xs.length)∧Aside0 (upTo (fun i=>!Lib.containsS (xs.take i) (wd xs i)) i=true)∧Aside0 (Below w.heap.size w wr)∧Aside0 (w.heap.size≤b)∧b=w.heap.size∧Aside0 (SeenAt wr b i (xs.take i))) (fun v _=>xs.length-(intOf v).toNat)
 case atStart=>exact ⟨0,_,rfl,⟨Nat.zero_le _⟩,⟨rfl⟩,HB1,⟨Nat.le_refl _⟩,rfl,HSE⟩
 case round =>
  obtain ⟨i,b,rfl,HI,HU,HB,HG,rfl,HM⟩:=hrel
  by_cases hlt:i<xs.length
  ·obtain ⟨ad,e,hc0⟩:=Kd.at_string (Kd.C_below HR.out HB.out) i (by omega) (by omega)
   cases e
   rw [rd_wd,Int.toNat_natCast] at hc0
   have b1:decide ((i:Int)<(xs.length:Int))=true:=decide_eq_true (by omega)
   have hw1:wrap64 ((i:Int)+1)=((i+1:Nat):Int):=by unfold wrap64;omega
   have hsz:(wd xs i).size≤1000000:=HS.out _ (by unfold wd;exact mem_rd (i:=(i:Int)) (by omega) (by omega))
   have hlk:=HM.out.look (wd xs i) hsz
   have hok:(fun i=>!Lib.containsS (xs.take i) (wd xs i)) i=!Lib.containsS (xs.take i) (wd xs i):=rfl
   have htk:=take_wd hlt
   generalize wd xs i=s at *
   obtain ⟨q1,e1⟩:∃ q,Lib.containsS (xs.take i) s=q:=⟨_,rfl⟩
   rw [e1] at hlk hok
   have HOK:=am hok
   have HW1:=am hw1
   have HLT:=am hlt
   have HSZ:=am hsz
   have HTK:=am htk
   clear hok hw1 hsz e1 htk
   cases q1 with
   | true =>
     go_wp2_with ((with_reducible refine gate_dst (N:=18) rfl ?_);refine goesV_ (some 18) rfl rfl Tryz.func23 (by kernel_rfl) rfl #[.string s] (by rfl) (by rfl) (by (try simp only [List.map_toArray,List.map_cons,List.map_nil]);first|done|rfl) ?_;refine (HIT.out _ _).mono ?_;rintro e w' ⟨rfl,rfl⟩;refine ⟨_,rfl,?_⟩)
     go_ret
     refine ⟨congrArg (fun b:Bool=>Ending.returned (.bool b)) ?_,HB.out⟩
     unfold uniqB
     rw [upTo_no HLT.out HOK.out]
   | false =>
     go_wp2_with (first
      | ((with_reducible refine gate_dst (N:=18) rfl ?_);refine goesV_ (some 18) rfl rfl Tryz.func23 (by kernel_rfl) rfl #[.string s] (by rfl) (by rfl) (by (try simp only [List.map_toArray,List.map_cons,List.map_nil]);first|done|rfl) ?_;refine (HIT.out _ _).mono ?_;rintro e w' ⟨rfl,rfl⟩;refine ⟨_,rfl,?_⟩)
      | ((with_reducible refine gate_dst (N:=23) rfl ?_);refine goesV_ (some 23) rfl rfl Tryz.func23 (by kernel_rfl) rfl #[.string s] (by rfl) (by rfl) (by (try simp only [List.map_toArray,List.map_cons,List.map_nil]);first|done|rfl) ?_;refine (HIT.out _ _).mono ?_;rintro e w' ⟨rfl,rfl⟩;refine ⟨_,rfl,?_⟩)
      | (at_mapUpdate;refine seen_put rfl _ (by rfl) _ _ _ (by rfl) w.heap.size i (xs.take i) s HSZ.out (by have:=HLT.out;omega) (by rfl) (by rfl) (by rfl) HM.out ?_;intro w2 hse hg2;have HSE2:=am hse;have HB2:=am (grown_below HB.out (Nat.le_refl _) hg2);clear hse hg2))
     go_roundw
     case rel=>exact ⟨i+1,_,by first|exact congrArg (Value.int .i64) HW1.out|rfl,⟨HLT.out⟩,⟨upTo_step HU.out HOK.out⟩,HB2,HG,rfl,⟨by rw [← HTK.out];exact HSE2.out⟩⟩
     case measure =>
      have h1:=HW1.out
      have h2:=HLT.out
      simp only [intOf]
      omega
  ·obtain rfl:i=xs.length:=by have:=HI.out;omega
   have b1:decide ((xs.length:Int)<(xs.length:Int))=false:=decide_eq_false (by omega)
   go_wp2
   go_ret
   exact ⟨congrArg (fun b:Bool=>Ending.returned (.bool b)) HU.out.symm,HB.out⟩
theorem of_Hours (x:S54) (W:World):Calls Tryz.prog 25 #[.agg #[.string x.f0,.int .i64 x.f1,.int .i64 x.f2,.int .i64 x.f3]] W fun e w'=>e=.returned (.string x.f0)∧Below W.heap.size W w':=by
 go_in
 go_wp2_with (first|((with_reducible refine bv 1 #[.string x.f0,.int .i64 x.f1,.int .i64 x.f2,.int .i64 x.f3] 54 ?_);intro gb hgb w1 hbox hb;obtain ⟨y0,y1,y2,y3⟩:=cc4 hbox;have HX1:=am hbox;have HB1:=am hb;clear hb hbox hgb))
 go_ret
 exact ⟨rfl,HB1.out⟩
theorem uniq_Hours (A:Option Addr) (c:Nat) (xs:List S54) (w:World) (hr:Kd.C k54 w A xs.length xs) (hn:xs.length≤1000) (hs:∀ x∈xs,x.f0.size≤1000000) :
 Calls Tryz.prog 24 #[.slice A xs.length c,.func (.func 25) #[] #[]] w fun e w'=>e=.returned (.bool (uniqB (xs.map (·.f0))))∧Below w.heap.size w w':=by
 obtain ⟨ns,hns⟩:∃ ns,xs.map (·.f0)=ns:=⟨_,rfl⟩
 have hnl:ns.length=xs.length:=by rw [← hns,List.length_map]
 have hnw:∀ i,i<xs.length→(xs.getD i z54).f0=wd ns i:=by
  intro i hi
  unfold wd
  rw [← hns,List.getD_eq_getElem?_getD,List.getD_eq_getElem?_getD,List.getElem?_map,List.getElem?_eq_getElem hi]
  rfl
 rw [hns]
 have HR:=am hr
 have HS:=am hs
 have HNL:=am hnl
 have HNW:=am hnw
 clear hr hs hns hnl hnw
 go_in
 go_wp2_with ((with_reducible refine gate_dst (N:=8) rfl ?_);refine wpList_makeMap_own _ rfl 113 9 rfl (plainElem Tryz.prog 4) ?_;intro w1 hown hb;have HSE:=am (SeenAt.fresh hown);have HB1:=am hb;clear hown hb)
 go_loopw [11] (fun v wr=>∃ (i b:Nat),v=.int .i64 i∧Aside0 (i≤xs.length)∧Aside0 (upTo (fun i=>!Lib.containsS (ns.take i) (wd ns i)) i=true)∧Aside0 (Below w.heap.size w wr)∧b=w.heap.size∧Aside0 (SeenAt wr b i (ns.take i))) (fun v _=>xs.length-(intOf v).toNat)
 case atStart=>exact ⟨0,_,rfl,⟨Nat.zero_le _⟩,⟨rfl⟩,HB1,rfl,HSE⟩
 case round =>
  obtain ⟨i,b,rfl,HI,HU,HB,rfl,HM⟩:=hrel
  clear HB1 HSE
  by_cases hlt:i<xs.length
  ·obtain ⟨ad,e,hx0,hx1,hx2,hx3⟩:=at_T54 (Kd.C_below HR.out HB.out) (i:Int) (by omega) (by omega)
   cases e
   simp only [Int.toNat_natCast] at hx0 hx1 hx2 hx3
   have b1:decide ((i:Int)<(xs.length:Int))=true:=decide_eq_true (by omega)
   have hw1:wrap64 ((i:Int)+1)=((i+1:Nat):Int):=by unfold wrap64;omega
   have hsz:(wd ns i).size≤1000000:=by
    rw [← HNW.out i hlt]
    exact HS.out _ (mem_rd (i:=(i:Int)) (by omega) (by omega))
   have hnm:(rd_T54 xs (i:Int)).f0=wd ns i:=HNW.out i hlt
   have hok:(fun i=>!Lib.containsS (ns.take i) (wd ns i)) i=!Lib.containsS (ns.take i) (wd ns i):=rfl
   have htk:=take_wd (ns:=ns) (i:=i) (by have:=HNL.out;omega)
   generalize wd ns i=s at *
   generalize rd_T54 xs (i:Int)=x at *
   subst hnm
   obtain ⟨q1,e1⟩:∃ q,Lib.containsS (ns.take i) x.f0=q:=⟨_,rfl⟩
   rw [e1] at hok
   have HOK:=am hok
   have HW1:=am hw1
   have HLT:=am hlt
   have HSZ:=am hsz
   have HTK:=am htk
   have HE1:=am e1
   clear hok hw1 hsz e1 htk
   go_upto_region 5 with (((with_reducible refine bv 7 #[.string (⟨#[]⟩:ByteArray),.int .i64 0,.int .i64 0,.int .i64 0] 54 ?_);intro gb hgb w1 hbox hb;obtain ⟨y0,y1,y2,y3⟩:=cc4 hbox;have z0:=blk_frozen hbox 0;have z1:=blk_frozen hbox 1;have z2:=blk_frozen hbox 2;have z3:=blk_frozen hbox 3;have HX1:=am hbox;have HG1:=am hgb;have HB1:=am hb;clear hb hbox hgb))
   have HGE:Aside0 (w.heap.size≤gb):=⟨by have:=HG1.out;have:=HB.out.size;omega⟩
   obtain ⟨W2,hW2⟩:∃ W2,W2=((((w1.setCell ⟨gb,0,none⟩ (.string x.f0)).setCell ⟨gb,1,none⟩ (.int .i64 x.f1)).setCell ⟨gb,2,none⟩ (.int .i64 x.f2)).setCell ⟨gb,3,none⟩ (.int .i64 x.f3)):=⟨_,rfl⟩
   rw [← hW2]
   have HX2:Aside0 (W2.heap[gb]?=some (.cells #[.string x.f0,.int .i64 x.f1,.int .i64 x.f2,.int .i64 x.f3] 54 (0,0))):=⟨by rw [hW2,(blk_set (blk_set (blk_set (blk_set HX1.out 0 _) 1 _) 2 _) 3 _)];rfl⟩
   have HB2:Aside0 (Below w.heap.size w W2):=⟨by rw [hW2];exact (below_set (below_set (below_set (below_set (below_step HB.out HB1.out) HGE.out) HGE.out) HGE.out) HGE.out)⟩
   have HM2:Aside0 (SeenAt W2 w.heap.size i (ns.take i)):=⟨by
    rw [hW2]
    exact (SeenAt.set (SeenAt.set (SeenAt.set (SeenAt.set (HM.out.below HB1.out) (by have:=HM.out.lt;have:=HG1.out;omega)) (by have:=HM.out.lt;have:=HG1.out;omega)) (by have:=HM.out.lt;have:=HG1.out;omega)) (by have:=HM.out.lt;have:=HG1.out;omega))⟩
   clear hW2 HX1 HB1 HG1 HGE y0 y1 y2 y3 z0 z1 z2 z3 hx0 hx1 hx2 hx3
   obtain ⟨y0,y1,y2,y3⟩:=cc4 HX2.out
   cases q1 with
   | true =>
     go_wp2_with ((with_reducible refine gate_dst (N:=18) rfl ?_);refine goesV_ (some 18) rfl rfl Tryz.func25 (by kernel_rfl) rfl #[.agg #[.string x.f0,.int .i64 x.f1,.int .i64 x.f2,.int .i64 x.f3]] (by rfl) (by rfl) (by (try simp only [List.map_toArray,List.map_cons,List.map_nil]);first|done|rfl) ?_;refine (of_Hours x _).mono ?_;rintro e w3 ⟨rfl,hb⟩;refine ⟨_,rfl,?_⟩;have HB3:=bS HB2 hb;have HX3:=bB HX2 hb;have hlk:=(HM2.out.below hb).look x.f0 HSZ.out;rw [HE1.out] at hlk;have HM3:=am (HM2.out.below hb);clear hb)
     go_ret
     refine ⟨congrArg (fun b:Bool=>Ending.returned (.bool b)) ?_,HB3.out⟩
     unfold uniqB
     rw [upTo_no (i:=i) (by have:=HNL.out;have:=HLT.out;omega) HOK.out]
   | false =>
     go_wp2_with (first
      | ((with_reducible refine gate_dst (N:=18) rfl ?_);refine goesV_ (some 18) rfl rfl Tryz.func25 (by kernel_rfl) rfl #[.agg #[.string x.f0,.int .i64 x.f1,.int .i64 x.f2,.int .i64 x.f3]] (by rfl) (by rfl) (by (try simp only [List.map_toArray,List.map_cons,List.map_nil]);first|done|rfl) ?_;refine (of_Hours x _).mono ?_;rintro e w3 ⟨rfl,hb⟩;refine ⟨_,rfl,?_⟩;have HB3:=bS HB2 hb;have HX3:=bB HX2 hb;have hlk:=(HM2.out.below hb).look x.f0 HSZ.out;rw [HE1.out] at hlk;have HM3:=am (HM2.out.below hb);obtain ⟨y0,y1,y2,y3⟩:=cc4 HX3.out;clear hb)
      | ((with_reducible refine gate_dst (N:=23) rfl ?_);refine goesV_ (some 23) rfl rfl Tryz.func25 (by kernel_rfl) rfl #[.agg #[.string x.f0,.int .i64 x.f1,.int .i64 x.f2,.int .i64 x.f3]] (by rfl) (by rfl) (by (try simp only [List.map_toArray,List.map_cons,List.map_nil]);first|done|rfl) ?_;refine (of_Hours x _).mono ?_;rintro e w4 ⟨rfl,hb⟩;refine ⟨_,rfl,?_⟩;have HB4:=bS HB3 hb;have HX4:=bB HX3 hb;have HM4:=am (HM3.out.below hb);clear hb)
      | (at_mapUpdate;refine seen_put rfl _ (by rfl) _ _ _ (by rfl) w.heap.size i (ns.take i) x.f0 HSZ.out (by have:=HLT.out;omega) (by rfl) (by rfl) (by rfl) HM4.out ?_;intro w5 hse hg2;have HSE5:=am hse;have HB5:=am (grown_below HB4.out (Nat.le_refl _) hg2);clear hse hg2))
     go_roundw
     case rel=>exact ⟨i+1,_,by first|exact congrArg (Value.int .i64) HW1.out|rfl,⟨HLT.out⟩,⟨upTo_step HU.out HOK.out⟩,HB5,rfl,⟨by rw [← HTK.out];exact HSE5.out⟩⟩
     case measure =>
      have h1:=HW1.out
      have h2:=HLT.out
      simp only [intOf]
      omega
  ·obtain rfl:i=xs.length:=by have:=HI.out;omega
   have b1:decide ((xs.length:Int)<(xs.length:Int))=false:=decide_eq_false (by omega)
   have hu:=HU.out
   rw [← HNL.out] at hu
   have HU2:=am hu
   clear hu
   go_wp2
   go_ret
   exact ⟨congrArg (fun b:Bool=>Ending.returned (.bool b)) HU2.out.symm,HB.out⟩
theorem of_Rule (x:S44) (A7:Option Addr) (c7:Nat) (W:World):Calls Tryz.prog 21 #[.agg #[.string x.f0,.string x.f1,.int .i64 x.f2,.int .i64 x.f3,.int .i64 x.f4,.int .i64 x.f5,.int .i64 x.f6,.slice A7 x.f7.length c7]] W fun e w'=>e=.returned (.string x.f0)∧Below W.heap.size W w':=by
 go_in
 go_wp2_with (first|((with_reducible refine bv 1 #[.string x.f0,.string x.f1,.int .i64 x.f2,.int .i64 x.f3,.int .i64 x.f4,.int .i64 x.f5,.int .i64 x.f6,.slice A7 x.f7.length c7] 44 ?_);intro gb hgb w1 hbox hb;obtain ⟨y0,y1,y2,y3,y4,y5,y6,y7⟩:=cc8 hbox;have HX1:=am hbox;have HB1:=am hb;clear hb hbox hgb))
 go_ret
 exact ⟨rfl,HB1.out⟩
theorem uniq_Rule (A:Option Addr) (c:Nat) (xs:List S44) (w:World) (hr:Kd.C k44 w A xs.length xs) (hn:xs.length≤1000) (hs:∀ x∈xs,x.f0.size≤1000000) :
 Calls Tryz.prog 20 #[.slice A xs.length c,.func (.func 21) #[] #[]] w fun e w'=>e=.returned (.bool (uniqB (xs.map (·.f0))))∧Below w.heap.size w w':=by
 obtain ⟨ns,hns⟩:∃ ns,xs.map (·.f0)=ns:=⟨_,rfl⟩
 have hnl:ns.length=xs.length:=by rw [← hns,List.length_map]
 have hnw:∀ i,i<xs.length→(xs.getD i z44).f0=wd ns i:=by
  intro i hi
  unfold wd
  rw [← hns,List.getD_eq_getElem?_getD,List.getD_eq_getElem?_getD,List.getElem?_map,List.getElem?_eq_getElem hi]
  rfl
 rw [hns]
 have HR:=am hr
 have HS:=am hs
 have HNL:=am hnl
 have HNW:=am hnw
 clear hr hs hns hnl hnw
 go_in
 go_wp2_with ((with_reducible refine gate_dst (N:=8) rfl ?_);refine wpList_makeMap_own _ rfl 113 9 rfl (plainElem Tryz.prog 4) ?_;intro w1 hown hb;have HSE:=am (SeenAt.fresh hown);have HB1:=am hb;clear hown hb)
 go_loopw [11] (fun v wr=>∃ (i b:Nat),v=.int .i64 i∧Aside0 (i≤xs.length)∧Aside0 (upTo (fun i=>!Lib.containsS (ns.take i) (wd ns i)) i=true)∧Aside0 (Below w.heap.size w wr)∧b=w.heap.size∧Aside0 (SeenAt wr b i (ns.take i))) (fun v _=>xs.length-(intOf v).toNat)
 case atStart=>exact ⟨0,_,rfl,⟨Nat.zero_le _⟩,⟨rfl⟩,HB1,rfl,HSE⟩
 case round =>
  obtain ⟨i,b,rfl,HI,HU,HB,rfl,HM⟩:=hrel
  clear HB1 HSE
  by_cases hlt:i<xs.length
  ·obtain ⟨ad,A7,c7,e,hx0,hx1,hx2,hx3,hx4,hx5,hx6,hx7,hl7,hg7⟩:=at_T44 (Kd.C_below HR.out HB.out) (i:Int) (by omega) (by omega)
   cases e
   simp only [Int.toNat_natCast] at hx0 hx1 hx2 hx3 hx4 hx5 hx6 hx7
   have b1:decide ((i:Int)<(xs.length:Int))=true:=decide_eq_true (by omega)
   have hw1:wrap64 ((i:Int)+1)=((i+1:Nat):Int):=by unfold wrap64;omega
   have hsz:(wd ns i).size≤1000000:=by
    rw [← HNW.out i hlt]
    exact HS.out _ (mem_rd (i:=(i:Int)) (by omega) (by omega))
   have hnm:(rd_T44 xs (i:Int)).f0=wd ns i:=HNW.out i hlt
   have hok:(fun i=>!Lib.containsS (ns.take i) (wd ns i)) i=!Lib.containsS (ns.take i) (wd ns i):=rfl
   have htk:=take_wd (ns:=ns) (i:=i) (by have:=HNL.out;omega)
   generalize wd ns i=s at *
   generalize rd_T44 xs (i:Int)=x at *
   subst hnm
   obtain ⟨q1,e1⟩:∃ q,Lib.containsS (ns.take i) x.f0=q:=⟨_,rfl⟩
   rw [e1] at hok
   have HOK:=am hok
   have HW1:=am hw1
   have HLT:=am hlt
   have HSZ:=am hsz
   have HTK:=am htk
   have HE1:=am e1
   clear hok hw1 hsz e1 htk
   go_upto_region 5 with (((with_reducible refine bv 7 #[.string (⟨#[]⟩:ByteArray),.string (⟨#[]⟩:ByteArray),.int .i64 0,.int .i64 0,.int .i64 0,.int .i64 0,.int .i64 0,.slice none 0 0] 44 ?_);intro gb hgb w1 hbox hb;obtain ⟨y0,y1,y2,y3,y4,y5,y6,y7⟩:=cc8 hbox;have z0:=blk_frozen hbox 0;have z1:=blk_frozen hbox 1;have z2:=blk_frozen hbox 2;have z3:=blk_frozen hbox 3;have z4:=blk_frozen hbox 4;have z5:=blk_frozen hbox 5;have z6:=blk_frozen hbox 6;have z7:=blk_frozen hbox 7;have HX1:=am hbox;have HG1:=am hgb;have HB1:=am hb;clear hb hbox hgb))
   have HGE:Aside0 (w.heap.size≤gb):=⟨by have:=HG1.out;have:=HB.out.size;omega⟩
   obtain ⟨W2,hW2⟩:∃ W2,W2=((((((((w1.setCell ⟨gb,0,none⟩ (.string x.f0)).setCell ⟨gb,1,none⟩ (.string x.f1)).setCell ⟨gb,2,none⟩ (.int .i64 x.f2)).setCell ⟨gb,3,none⟩ (.int .i64 x.f3)).setCell ⟨gb,4,none⟩ (.int .i64 x.f4)).setCell ⟨gb,5,none⟩ (.int .i64 x.f5)).setCell ⟨gb,6,none⟩ (.int .i64 x.f6)).setCell ⟨gb,7,none⟩ (.slice A7 x.f7.length c7)):=⟨_,rfl⟩
   rw [← hW2]
   have HX2:Aside0 (W2.heap[gb]?=some (.cells #[.string x.f0,.string x.f1,.int .i64 x.f2,.int .i64 x.f3,.int .i64 x.f4,.int .i64 x.f5,.int .i64 x.f6,.slice A7 x.f7.length c7] 44 (0,0))):=⟨by rw [hW2,(blk_set (blk_set (blk_set (blk_set (blk_set (blk_set (blk_set (blk_set HX1.out 0 _) 1 _) 2 _) 3 _) 4 _) 5 _) 6 _) 7 _)];rfl⟩
   have HB2:Aside0 (Below w.heap.size w W2):=⟨by rw [hW2];exact (below_set (below_set (below_set (below_set (below_set (below_set (below_set (below_set (below_step HB.out HB1.out) HGE.out) HGE.out) HGE.out) HGE.out) HGE.out) HGE.out) HGE.out) HGE.out)⟩
   have HM2:Aside0 (SeenAt W2 w.heap.size i (ns.take i)):=⟨by
    rw [hW2]
    exact (SeenAt.set (SeenAt.set (SeenAt.set (SeenAt.set (SeenAt.set (SeenAt.set (SeenAt.set (SeenAt.set (HM.out.below HB1.out) (by have:=HM.out.lt;have:=HG1.out;omega)) (by have:=HM.out.lt;have:=HG1.out;omega)) (by have:=HM.out.lt;have:=HG1.out;omega)) (by have:=HM.out.lt;have:=HG1.out;omega)) (by have:=HM.out.lt;have:=HG1.out;omega)) (by have:=HM.out.lt;have:=HG1.out;omega)) (by have:=HM.out.lt;have:=HG1.out;omega)) (by have:=HM.out.lt;have:=HG1.out;omega))⟩
   clear hW2 HX1 HB1 HG1 HGE y0 y1 y2 y3 y4 y5 y6 y7 z0 z1 z2 z3 z4 z5 z6 z7 hx0 hx1 hx2 hx3 hx4 hx5 hx6 hx7
   obtain ⟨y0,y1,y2,y3,y4,y5,y6,y7⟩:=cc8 HX2.out
   cases q1 with
   | true =>
     go_wp2_with ((with_reducible refine gate_dst (N:=18) rfl ?_);refine goesV_ (some 18) rfl rfl Tryz.func21 (by kernel_rfl) rfl #[.agg #[.string x.f0,.string x.f1,.int .i64 x.f2,.int .i64 x.f3,.int .i64 x.f4,.int .i64 x.f5,.int .i64 x.f6,.slice A7 x.f7.length c7]] (by rfl) (by rfl) (by (try simp only [List.map_toArray,List.map_cons,List.map_nil]);first|done|rfl) ?_;refine (of_Rule x A7 c7 _).mono ?_;rintro e w3 ⟨rfl,hb⟩;refine ⟨_,rfl,?_⟩;have HB3:=bS HB2 hb;have HX3:=bB HX2 hb;have hlk:=(HM2.out.below hb).look x.f0 HSZ.out;rw [HE1.out] at hlk;have HM3:=am (HM2.out.below hb);clear hb)
     go_ret
     refine ⟨congrArg (fun b:Bool=>Ending.returned (.bool b)) ?_,HB3.out⟩
     unfold uniqB
     rw [upTo_no (i:=i) (by have:=HNL.out;have:=HLT.out;omega) HOK.out]
   | false =>
     go_wp2_with (first
      | ((with_reducible refine gate_dst (N:=18) rfl ?_);refine goesV_ (some 18) rfl rfl Tryz.func21 (by kernel_rfl) rfl #[.agg #[.string x.f0,.string x.f1,.int .i64 x.f2,.int .i64 x.f3,.int .i64 x.f4,.int .i64 x.f5,.int .i64 x.f6,.slice A7 x.f7.length c7]] (by rfl) (by rfl) (by (try simp only [List.map_toArray,List.map_cons,List.map_nil]);first|done|rfl) ?_;refine (of_Rule x A7 c7 _).mono ?_;rintro e w3 ⟨rfl,hb⟩;refine ⟨_,rfl,?_⟩;have HB3:=bS HB2 hb;have HX3:=bB HX2 hb;have hlk:=(HM2.out.below hb).look x.f0 HSZ.out;rw [HE1.out] at hlk;have HM3:=am (HM2.out.below hb);obtain ⟨y0,y1,y2,y3,y4,y5,y6,y7⟩:=cc8 HX3.out;clear hb)
      | ((with_reducible refine gate_dst (N:=23) rfl ?_);refine goesV_ (some 23) rfl rfl Tryz.func21 (by kernel_rfl) rfl #[.agg #[.string x.f0,.string x.f1,.int .i64 x.f2,.int .i64 x.f3,.int .i64 x.f4,.int .i64 x.f5,.int .i64 x.f6,.slice A7 x.f7.length c7]] (by rfl) (by rfl) (by (try simp only [List.map_toArray,List.map_cons,List.map_nil]);first|done|rfl) ?_;refine (of_Rule x A7 c7 _).mono ?_;rintro e w4 ⟨rfl,hb⟩;refine ⟨_,rfl,?_⟩;have HB4:=bS HB3 hb;have HX4:=bB HX3 hb;have HM4:=am (HM3.out.below hb);clear hb)
      | (at_mapUpdate;refine seen_put rfl _ (by rfl) _ _ _ (by rfl) w.heap.size i (ns.take i) x.f0 HSZ.out (by have:=HLT.out;omega) (by rfl) (by rfl) (by rfl) HM4.out ?_;intro w5 hse hg2;have HSE5:=am hse;have HB5:=am (grown_below HB4.out (Nat.le_refl _) hg2);clear hse hg2))
     go_roundw
     case rel=>exact ⟨i+1,_,by first|exact congrArg (Value.int .i64) HW1.out|rfl,⟨HLT.out⟩,⟨upTo_step HU.out HOK.out⟩,HB5,rfl,⟨by rw [← HTK.out];exact HSE5.out⟩⟩
     case measure =>
      have h1:=HW1.out
      have h2:=HLT.out
      simp only [intOf]
      omega
  ·obtain rfl:i=xs.length:=by have:=HI.out;omega
   have b1:decide ((xs.length:Int)<(xs.length:Int))=false:=decide_eq_false (by omega)
   have hu:=HU.out
   rw [← HNL.out] at hu
   have HU2:=am hu
   clear hu
   go_wp2
   go_ret
   exact ⟨congrArg (fun b:Bool=>Ending.returned (.bool b)) HU2.out.symm,HB.out⟩
def hourB (h:S54):Bool:=rightB h.f0 h.f1 h.f2 h.f3
def partsB (x:Cfg):Bool:=(decide ((x.r.length:Int)≤16) && x.r.all ruleB) && (decide ((x.v.length:Int)≤16) && x.v.all bwordB) && (decide ((x.i.length:Int)≤8) && x.i.all inhB) && (decide ((x.h.length:Int)≤8) && x.h.all hourB)
def namesB1 (x:Cfg):Bool:=decide (((namesR x.t).length:Int)≤32) && (namesR x.t).all (fun s=>Lib.containsS x.v s)
def namesB2 (x:Cfg):Bool:=decide (((namesM x.t).length:Int)≤256) && (namesM x.t).all (fun s=>x.h.any (isHour s))
def cfgB (x:Cfg):Bool:=partsB x && (uniqB (x.r.map (·.f0)) && uniqB x.v && uniqB (x.h.map (·.f0))) && (rmayB 4 x.t && !decide (0<x.t.f1.length) && !x.t.f7 && !decide (32<(countN 4 x.t:Int))) && (namesB1 x && namesB2 x)
def CfgSz (x:Cfg):Prop:=(∀ r∈x.r,SetSz r.f7)∧(∀ i∈x.i,InhSz i)∧RSz 4 x.t
theorem bword_sz {s:ByteArray} (h:bwordB s=true):s.size≤64:=by
 unfold bwordB at h
 simp only [Bool.and_eq_true,decide_eq_true_eq] at h
 omega
theorem odep1_of:∀ (k:Nat) (x:S27),RDep k x→ODep (fun x=>[x.f0]) k x
 | 0,x,h=>h.elim
 | k+1,x,h=>⟨by simp,h.1,fun y hy=>odep1_of k y (h.2 y hy)⟩
theorem odep2_of:∀ (k:Nat) (x:S27),rmayB k x=true→ODep (fun x=>x.f6) k x
 | 0,x,h=>by cases h
 | k+1,x,h=>by
   have hd:=rdep_of (k+1) x h
   unfold rmayB at h
   simp only [Bool.and_eq_true,Bool.not_eq_true',decide_eq_false_iff_not,List.any_eq_false,Bool.not_eq_false] at h
   refine ⟨?_,hd.1,fun y hy=>odep2_of k y (by have:=h.2 y hy;simpa using this)⟩
   have:=h.1.2.1.1.2
   unfold ordB at this
   simp only [Bool.and_eq_true,decide_eq_true_eq] at this
   show x.f6.length≤8
   omega
theorem chain3' (q1 q2 q3:Bool):(q1=false)∨(q1=true∧q2=false)∨(q1=true∧q2=true∧q3=false)∨(q1=true∧q2=true∧q3=true):=by cases q1<;>cases q2<;>cases q3<;>simp
theorem cright_any (x:Cfg) (hsz:CfgSz x) (W:World) (cs:List Value) (h:CfgK W x cs):Calls Tryz.prog 5 #[.agg cs.toArray] W fun e W'=>e=.returned (.bool (cfgB x))∧Below W.heap.size W W':=by
 obtain ⟨hs1,hs2,hs3⟩:=hsz
 obtain ⟨A0,c0,A2,c2,A3,c3,A7,c7,A9,c9,A10,c10,A11,c11,A12,c12,rfl,l0,g0,l2,g2,l3,g3,l7,g7,l9,g9,l10,g10,l11,g11,l12,g12⟩:=h
 have k1:=fun W2 (hb:Below W.heap.size W W2)=>all_Rule 13 _ #[] ruleB A0 c0 x.r 16 W2 ⟨Tryz.func13,by kernel_rfl,rfl⟩ (Kd.C_below g0 hb) (fun y hy W3 cs hb3 hk=>by
  obtain ⟨B7,d7,rfl,l7',g7'⟩:=k44_open hk
  exact rright_any y B7 d7 W3 (hs1 y hy) l7' g7')
 have k2:=fun W2 (hb:Below W.heap.size W W2)=>all_Text 15 _ #[] bwordB A10 c10 x.v 16 W2 ⟨Tryz.func15,by kernel_rfl,rfl⟩ (Kd.C_below g10 hb) (fun y hy W3 hb3=>cword_any y W3)
 have k3:=fun W2 (hb:Below W.heap.size W W2)=>all_Inhibit 17 _ #[] inhB A11 c11 x.i 8 W2 ⟨Tryz.func17,by kernel_rfl,rfl⟩ (Kd.C_below g11 hb) (fun y hy W3 cs hb3 hk=>inh_any y (hs2 y hy) W3 cs hk)
 have k4:=fun W2 (hb:Below W.heap.size W W2)=>all_Hours 19 _ #[] hourB A12 c12 x.h 8 W2 ⟨Tryz.func19,by kernel_rfl,rfl⟩ (Kd.C_below g12 hb) (fun y hy W3 cs hb3 hk=>by
  obtain rfl:=k54_open hk
  exact right_any y.f0 y.f1 y.f2 y.f3 W3)
 have hcf:cfgB x=(((decide ((x.r.length:Int)≤16) && x.r.all ruleB) && (decide ((x.v.length:Int)≤16) && x.v.all bwordB) && (decide ((x.i.length:Int)≤8) && x.i.all inhB) && (decide ((x.h.length:Int)≤8) && x.h.all hourB)) && (uniqB (x.r.map (·.f0)) && uniqB x.v && uniqB (x.h.map (·.f0))) && (rmayB 4 x.t && !decide (0<x.t.f1.length) && !x.t.f7 && !decide (32<(countN 4 x.t:Int))) && (namesB1 x && namesB2 x)):=rfl
 have u1:∀ (hp:(decide ((x.r.length:Int)≤16) && x.r.all ruleB)=true) W2,Below W.heap.size W W2→_:=fun hp W2 (hb:Below W.heap.size W W2)=>uniq_Rule A0 c0 x.r W2 (Kd.C_below g0 hb) (by simp only [Bool.and_eq_true,decide_eq_true_eq] at hp;omega) (fun y hy=>by
  simp only [Bool.and_eq_true,List.all_eq_true] at hp
  have:=hp.2 y hy
  unfold ruleB at this
  simp only [Bool.and_eq_true] at this
  have:=bword_sz this.1.1.1.1.1.1.1.1.1
  omega)
 have u2:∀ (hp:(decide ((x.v.length:Int)≤16) && x.v.all bwordB)=true) W2,Below W.heap.size W W2→_:=fun hp W2 (hb:Below W.heap.size W W2)=>uniq_Text A10 c10 x.v W2 (Kd.C_below g10 hb) (by simp only [Bool.and_eq_true,decide_eq_true_eq] at hp;omega) (fun y hy=>by
  simp only [Bool.and_eq_true,List.all_eq_true] at hp
  have:=bword_sz (hp.2 y hy)
  omega)
 have u3:∀ (hp:(decide ((x.h.length:Int)≤8) && x.h.all hourB)=true) W2,Below W.heap.size W W2→_:=fun hp W2 (hb:Below W.heap.size W W2)=>uniq_Hours A12 c12 x.h W2 (Kd.C_below g12 hb) (by simp only [Bool.and_eq_true,decide_eq_true_eq] at hp;omega) (fun y hy=>by
  simp only [Bool.and_eq_true,List.all_eq_true] at hp
  have:=hp.2 y hy
  unfold hourB rightB at this
  simp only [Bool.and_eq_true,decide_eq_true_eq] at this
  omega)
 have hK:=fun W2 (hb:Below W.heap.size W W2)=>k27_mk W2 x.t l2 (Kd.C_below g2 hb) l3 (Kd.C_below g3 hb) l7 (Kd.C_below g7 hb) l9 (Kd.C_below g9 hb)
 have r1:=fun W2 (hb:Below W.heap.size W W2)=>rright_route x.t W2 _ hs3 (hK W2 hb)
 have r2:∀ (hp:rmayB 4 x.t=true) W2,Below W.heap.size W W2→_:=fun hp W2 (hb:Below W.heap.size W W2)=>count_all 4 (by omega) x.t W2 _ (rdep_of 4 x.t hp) (hK W2 hb)
 have r3:∀ (hp:rmayB 4 x.t=true) W2,Below W.heap.size W W2→_:=fun hp W2 (hb:Below W.heap.size W W2)=>names_any x.t (odep1_of 4 x.t (rdep_of 4 x.t hp)) (odep2_of 4 x.t hp) W2 _ (hK W2 hb)
 have a1:=fun A c gb W2 (hr:Kd.C Kd.string W2 A (namesR x.t).length (namesR x.t)) (hb:Below W.heap.size W W2) (hx:W2.heap[gb]?=some (.cells #[.slice A0 x.r.length c0,.string x.t.f0,.slice A2 x.t.f1.length c2,.slice A3 x.t.f2.length c3,.int .i64 x.t.f3,.int .i64 x.t.f4,.int .i64 x.t.f5,.slice A7 x.t.f6.length c7,.bool x.t.f7,.slice A9 x.t.f8.length c9,.slice A10 x.v.length c10,.slice A11 x.i.length c11,.slice A12 x.h.length c12] 31 (0,0)))=>all_Text 32 _ #[.pointer (some ⟨gb,0,none⟩)] (fun s=>Lib.containsS x.v s) A c (namesR x.t) 32 W2 ⟨Tryz.func32,by kernel_rfl,rfl⟩ hr (fun y hy W3 hb3=>receivers_has A10 c10 x.v y gb W3 (Kd.C_below g10 (below_step hb hb3)) l10 ((blk_cell (blk_below hx hb3) 10).trans rfl))
 have a2:=fun A c gb W2 (hr:Kd.C Kd.string W2 A (namesM x.t).length (namesM x.t)) (hb:Below W.heap.size W W2) (hx:W2.heap[gb]?=some (.cells #[.slice A0 x.r.length c0,.string x.t.f0,.slice A2 x.t.f1.length c2,.slice A3 x.t.f2.length c3,.int .i64 x.t.f3,.int .i64 x.t.f4,.int .i64 x.t.f5,.slice A7 x.t.f6.length c7,.bool x.t.f7,.slice A9 x.t.f8.length c9,.slice A10 x.v.length c10,.slice A11 x.i.length c11,.slice A12 x.h.length c12] 31 (0,0)))=>all_Text 29 _ #[.pointer (some ⟨gb,0,none⟩)] (fun s=>x.h.any (isHour s)) A c (namesM x.t) 256 W2 ⟨Tryz.func29,by kernel_rfl,rfl⟩ hr (fun y hy W3 hb3=>hours_has A12 c12 x.h y gb W3 (Kd.C_below g12 (below_step hb hb3)) ((blk_cell (blk_below hx hb3) 12).trans rfl))
 change ∀ A c gb W2,_→_→_→Calls _ _ _ W2 fun e w'=>e=.returned (.bool (namesB1 x))∧Below W2.heap.size W2 w' at a1
 change ∀ A c gb W2,_→_→_→Calls _ _ _ W2 fun e w'=>e=.returned (.bool (namesB2 x))∧Below W2.heap.size W2 w' at a2
 show Calls Tryz.prog 5 #[.agg #[.slice A0 x.r.length c0,.string x.t.f0,.slice A2 x.t.f1.length c2,.slice A3 x.t.f2.length c3,.int .i64 x.t.f3,.int .i64 x.t.f4,.int .i64 x.t.f5,.slice A7 x.t.f6.length c7,.bool x.t.f7,.slice A9 x.t.f8.length c9,.slice A10 x.v.length c10,.slice A11 x.i.length c11,.slice A12 x.h.length c12]] W fun e W'=>e=.returned (.bool (cfgB x))∧Below W.heap.size W W'
 generalize cfgB x=res at *
 generalize namesB1 x=n1 at *
 generalize namesB2 x=n2 at *
 generalize (decide ((x.r.length:Int)≤16) && x.r.all ruleB)=q1 at *
 generalize (decide ((x.v.length:Int)≤16) && x.v.all bwordB)=q2 at *
 generalize (decide ((x.i.length:Int)≤8) && x.i.all inhB)=q3 at *
 generalize (decide ((x.h.length:Int)≤8) && x.h.all hourB)=q4 at *
 generalize uniqB (x.r.map (·.f0))=p1 at *
 generalize uniqB x.v=p2 at *
 generalize uniqB (x.h.map (·.f0))=p3 at *
 generalize rmayB 4 x.t=s1 at *
 obtain ⟨s2,es2⟩:∃ q,decide (0<x.t.f1.length)=q:=⟨_,rfl⟩
 obtain ⟨s3,es3⟩:∃ q,x.t.f7=q:=⟨_,rfl⟩
 obtain ⟨s4,es4⟩:∃ q,decide (32<(countN 4 x.t:Int))=q:=⟨_,rfl⟩
 rw [es2,es3,es4] at hcf
 simp only [es3] at r1 r2 r3
 have HV:=am hcf
 have C1:=am k1
 have C2:=am k2
 have C3:=am k3
 have C4:=am k4
 have U1:=am u1
 have U2:=am u2
 have U3:=am u3
 have R1:=am r1
 have R2:=am r2
 have R3:=am r3
 have N1:=am a1
 have N2:=am a2
 clear hcf k1 k2 k3 k4 u1 u2 u3 r1 r2 r3 a1 a2 hK hs1 hs2 hs3 g0 g2 g3 g7 g9 g10 g11 g12
 go_in
 rcases chain4 q1 q2 q3 q4 with rfl|⟨rfl,rfl⟩|⟨rfl,rfl,rfl⟩|⟨rfl,rfl,rfl,rfl⟩|⟨rfl,rfl,rfl,rfl⟩
 iterate 4
  ·go_wp2_with (first|((with_reducible refine bv 1 #[.slice A0 x.r.length c0,.string x.t.f0,.slice A2 x.t.f1.length c2,.slice A3 x.t.f2.length c3,.int .i64 x.t.f3,.int .i64 x.t.f4,.int .i64 x.t.f5,.slice A7 x.t.f6.length c7,.bool x.t.f7,.slice A9 x.t.f8.length c9,.slice A10 x.v.length c10,.slice A11 x.i.length c11,.slice A12 x.h.length c12] 31 ?_);intro gb hgb w1 hbox hb;obtain ⟨y0,y1,y2,y3,y4,y5,y6,y7,y8,y9,y10,y11,y12⟩:=c13 hbox;have HX1:=am hbox;have HB1:=am hb;clear hb hbox hgb)|(go_at_call 18;go_loud (refine (C4.out _ HB4.out).mono ?_);rintro e w5 ⟨rfl,hb⟩;have HB5:=bS HB4 hb;have HX5:=bB HX4 hb;have zw50:w5.cell? ⟨gb,0,none⟩=some (.slice A0 x.r.length c0):=bz HX5.out 0 rfl;clear hb)|(go_at_call 16;go_loud (refine (C3.out _ HB3.out).mono ?_);rintro e w4 ⟨rfl,hb⟩;have HB4:=bS HB3 hb;have HX4:=bB HX3 hb;have zw412:w4.cell? ⟨gb,12,none⟩=some (.slice A12 x.h.length c12):=bz HX4.out 12 rfl;clear hb)|(go_at_call 14;go_loud (refine (C2.out _ HB2.out).mono ?_);rintro e w3 ⟨rfl,hb⟩;have HB3:=bS HB2 hb;have HX3:=bB HX2 hb;have zw311:w3.cell? ⟨gb,11,none⟩=some (.slice A11 x.i.length c11):=bz HX3.out 11 rfl;clear hb)|(go_at_call 12;go_loud (refine (C1.out _ HB1.out).mono ?_);rintro e w2 ⟨rfl,hb⟩;have HB2:=bS HB1 hb;have HX2:=bB HX1 hb;have zw210:w2.cell? ⟨gb,10,none⟩=some (.slice A10 x.v.length c10):=bz HX2.out 10 rfl;clear hb))
   go_ret
   exact ⟨congrArg (fun b:Bool=>Ending.returned (.bool b)) (by rw [HV.out];simp),by first|exact HB5.out|exact HB4.out|exact HB3.out|exact HB2.out⟩
 rcases chain3' p1 p2 p3 with rfl|⟨rfl,rfl⟩|⟨rfl,rfl,rfl⟩|⟨rfl,rfl,rfl⟩
 iterate 3
  ·go_wp2_with (first|((with_reducible refine bv 1 #[.slice A0 x.r.length c0,.string x.t.f0,.slice A2 x.t.f1.length c2,.slice A3 x.t.f2.length c3,.int .i64 x.t.f3,.int .i64 x.t.f4,.int .i64 x.t.f5,.slice A7 x.t.f6.length c7,.bool x.t.f7,.slice A9 x.t.f8.length c9,.slice A10 x.v.length c10,.slice A11 x.i.length c11,.slice A12 x.h.length c12] 31 ?_);intro gb hgb w1 hbox hb;obtain ⟨y0,y1,y2,y3,y4,y5,y6,y7,y8,y9,y10,y11,y12⟩:=c13 hbox;have HX1:=am hbox;have HB1:=am hb;clear hb hbox hgb)|(go_at_call 24;go_loud (refine (U3.out (by first|trivial|rfl) _ HB7.out).mono ?_);rintro e w8 ⟨rfl,hb⟩;have HB8:=bS HB7 hb;have HX8:=bB HX7 hb;have zw81:w8.cell? ⟨gb,1,none⟩=some (.string x.t.f0):=bz HX8.out 1 rfl;have zw82:w8.cell? ⟨gb,2,none⟩=some (.slice A2 x.t.f1.length c2):=bz HX8.out 2 rfl;have zw83:w8.cell? ⟨gb,3,none⟩=some (.slice A3 x.t.f2.length c3):=bz HX8.out 3 rfl;have zw84:w8.cell? ⟨gb,4,none⟩=some (.int .i64 x.t.f3):=bz HX8.out 4 rfl;have zw85:w8.cell? ⟨gb,5,none⟩=some (.int .i64 x.t.f4):=bz HX8.out 5 rfl;have zw86:w8.cell? ⟨gb,6,none⟩=some (.int .i64 x.t.f5):=bz HX8.out 6 rfl;have zw87:w8.cell? ⟨gb,7,none⟩=some (.slice A7 x.t.f6.length c7):=bz HX8.out 7 rfl;have zw88:w8.cell? ⟨gb,8,none⟩=some (.bool x.t.f7):=bz HX8.out 8 rfl;have zw89:w8.cell? ⟨gb,9,none⟩=some (.slice A9 x.t.f8.length c9):=bz HX8.out 9 rfl;clear hb)|(go_at_call 22;go_loud (refine (U2.out (by first|trivial|rfl) _ HB6.out).mono ?_);rintro e w7 ⟨rfl,hb⟩;have HB7:=bS HB6 hb;have HX7:=bB HX6 hb;have zw712:w7.cell? ⟨gb,12,none⟩=some (.slice A12 x.h.length c12):=bz HX7.out 12 rfl;clear hb)|(go_at_call 20;go_loud (refine (U1.out (by first|trivial|rfl) _ HB5.out).mono ?_);rintro e w6 ⟨rfl,hb⟩;have HB6:=bS HB5 hb;have HX6:=bB HX5 hb;have zw610:w6.cell? ⟨gb,10,none⟩=some (.slice A10 x.v.length c10):=bz HX6.out 10 rfl;clear hb)|(go_at_call 18;go_loud (refine (C4.out _ HB4.out).mono ?_);rintro e w5 ⟨rfl,hb⟩;have HB5:=bS HB4 hb;have HX5:=bB HX4 hb;have zw50:w5.cell? ⟨gb,0,none⟩=some (.slice A0 x.r.length c0):=bz HX5.out 0 rfl;clear hb)|(go_at_call 16;go_loud (refine (C3.out _ HB3.out).mono ?_);rintro e w4 ⟨rfl,hb⟩;have HB4:=bS HB3 hb;have HX4:=bB HX3 hb;have zw412:w4.cell? ⟨gb,12,none⟩=some (.slice A12 x.h.length c12):=bz HX4.out 12 rfl;clear hb)|(go_at_call 14;go_loud (refine (C2.out _ HB2.out).mono ?_);rintro e w3 ⟨rfl,hb⟩;have HB3:=bS HB2 hb;have HX3:=bB HX2 hb;have zw311:w3.cell? ⟨gb,11,none⟩=some (.slice A11 x.i.length c11):=bz HX3.out 11 rfl;clear hb)|(go_at_call 12;go_loud (refine (C1.out _ HB1.out).mono ?_);rintro e w2 ⟨rfl,hb⟩;have HB2:=bS HB1 hb;have HX2:=bB HX1 hb;have zw210:w2.cell? ⟨gb,10,none⟩=some (.slice A10 x.v.length c10):=bz HX2.out 10 rfl;clear hb))
   go_ret
   exact ⟨congrArg (fun b:Bool=>Ending.returned (.bool b)) (by rw [HV.out];simp),by first|exact HB8.out|exact HB7.out|exact HB6.out⟩
 rcases chain4' s1 s2 s3 s4 with rfl|⟨rfl,rfl⟩|⟨rfl,rfl,rfl⟩|⟨rfl,rfl,rfl,rfl⟩|⟨rfl,rfl,rfl,rfl⟩
 iterate 4
  ·go_wp2_with (first|((with_reducible refine bv 1 #[.slice A0 x.r.length c0,.string x.t.f0,.slice A2 x.t.f1.length c2,.slice A3 x.t.f2.length c3,.int .i64 x.t.f3,.int .i64 x.t.f4,.int .i64 x.t.f5,.slice A7 x.t.f6.length c7,.bool x.t.f7,.slice A9 x.t.f8.length c9,.slice A10 x.v.length c10,.slice A11 x.i.length c11,.slice A12 x.h.length c12] 31 ?_);intro gb hgb w1 hbox hb;obtain ⟨y0,y1,y2,y3,y4,y5,y6,y7,y8,y9,y10,y11,y12⟩:=c13 hbox;have HX1:=am hbox;have HB1:=am hb;clear hb hbox hgb)|(go_at_call 27;go_loud (refine (R2.out (by first|trivial|rfl) _ HB9.out).mono ?_);rintro e w10 ⟨rfl,hb⟩;have HB10:=bS HB9 hb;have HX10:=bB HX9 hb;have zw101:w10.cell? ⟨gb,1,none⟩=some (.string x.t.f0):=bz HX10.out 1 rfl;have zw102:w10.cell? ⟨gb,2,none⟩=some (.slice A2 x.t.f1.length c2):=bz HX10.out 2 rfl;have zw103:w10.cell? ⟨gb,3,none⟩=some (.slice A3 x.t.f2.length c3):=bz HX10.out 3 rfl;have zw104:w10.cell? ⟨gb,4,none⟩=some (.int .i64 x.t.f3):=bz HX10.out 4 rfl;have zw105:w10.cell? ⟨gb,5,none⟩=some (.int .i64 x.t.f4):=bz HX10.out 5 rfl;have zw106:w10.cell? ⟨gb,6,none⟩=some (.int .i64 x.t.f5):=bz HX10.out 6 rfl;have zw107:w10.cell? ⟨gb,7,none⟩=some (.slice A7 x.t.f6.length c7):=bz HX10.out 7 rfl;have zw108:w10.cell? ⟨gb,8,none⟩=some (.bool x.t.f7):=bz HX10.out 8 rfl;have zw109:w10.cell? ⟨gb,9,none⟩=some (.slice A9 x.t.f8.length c9):=bz HX10.out 9 rfl;clear hb)|(go_at_call 26;go_loud (refine (R1.out _ HB8.out).mono ?_);rintro e w9 ⟨rfl,hb⟩;have HB9:=bS HB8 hb;have HX9:=bB HX8 hb;have zw91:w9.cell? ⟨gb,1,none⟩=some (.string x.t.f0):=bz HX9.out 1 rfl;have zw92:w9.cell? ⟨gb,2,none⟩=some (.slice A2 x.t.f1.length c2):=bz HX9.out 2 rfl;have zw93:w9.cell? ⟨gb,3,none⟩=some (.slice A3 x.t.f2.length c3):=bz HX9.out 3 rfl;have zw94:w9.cell? ⟨gb,4,none⟩=some (.int .i64 x.t.f3):=bz HX9.out 4 rfl;have zw95:w9.cell? ⟨gb,5,none⟩=some (.int .i64 x.t.f4):=bz HX9.out 5 rfl;have zw96:w9.cell? ⟨gb,6,none⟩=some (.int .i64 x.t.f5):=bz HX9.out 6 rfl;have zw97:w9.cell? ⟨gb,7,none⟩=some (.slice A7 x.t.f6.length c7):=bz HX9.out 7 rfl;have zw98:w9.cell? ⟨gb,8,none⟩=some (.bool x.t.f7):=bz HX9.out 8 rfl;have zw99:w9.cell? ⟨gb,9,none⟩=some (.slice A9 x.t.f8.length c9):=bz HX9.out 9 rfl;clear hb)|(go_at_call 24;go_loud (refine (U3.out (by first|trivial|rfl) _ HB7.out).mono ?_);rintro e w8 ⟨rfl,hb⟩;have HB8:=bS HB7 hb;have HX8:=bB HX7 hb;have zw81:w8.cell? ⟨gb,1,none⟩=some (.string x.t.f0):=bz HX8.out 1 rfl;have zw82:w8.cell? ⟨gb,2,none⟩=some (.slice A2 x.t.f1.length c2):=bz HX8.out 2 rfl;have zw83:w8.cell? ⟨gb,3,none⟩=some (.slice A3 x.t.f2.length c3):=bz HX8.out 3 rfl;have zw84:w8.cell? ⟨gb,4,none⟩=some (.int .i64 x.t.f3):=bz HX8.out 4 rfl;have zw85:w8.cell? ⟨gb,5,none⟩=some (.int .i64 x.t.f4):=bz HX8.out 5 rfl;have zw86:w8.cell? ⟨gb,6,none⟩=some (.int .i64 x.t.f5):=bz HX8.out 6 rfl;have zw87:w8.cell? ⟨gb,7,none⟩=some (.slice A7 x.t.f6.length c7):=bz HX8.out 7 rfl;have zw88:w8.cell? ⟨gb,8,none⟩=some (.bool x.t.f7):=bz HX8.out 8 rfl;have zw89:w8.cell? ⟨gb,9,none⟩=some (.slice A9 x.t.f8.length c9):=bz HX8.out 9 rfl;clear hb)|(go_at_call 22;go_loud (refine (U2.out (by first|trivial|rfl) _ HB6.out).mono ?_);rintro e w7 ⟨rfl,hb⟩;have HB7:=bS HB6 hb;have HX7:=bB HX6 hb;have zw712:w7.cell? ⟨gb,12,none⟩=some (.slice A12 x.h.length c12):=bz HX7.out 12 rfl;clear hb)|(go_at_call 20;go_loud (refine (U1.out (by first|trivial|rfl) _ HB5.out).mono ?_);rintro e w6 ⟨rfl,hb⟩;have HB6:=bS HB5 hb;have HX6:=bB HX5 hb;have zw610:w6.cell? ⟨gb,10,none⟩=some (.slice A10 x.v.length c10):=bz HX6.out 10 rfl;clear hb)|(go_at_call 18;go_loud (refine (C4.out _ HB4.out).mono ?_);rintro e w5 ⟨rfl,hb⟩;have HB5:=bS HB4 hb;have HX5:=bB HX4 hb;have zw50:w5.cell? ⟨gb,0,none⟩=some (.slice A0 x.r.length c0):=bz HX5.out 0 rfl;clear hb)|(go_at_call 16;go_loud (refine (C3.out _ HB3.out).mono ?_);rintro e w4 ⟨rfl,hb⟩;have HB4:=bS HB3 hb;have HX4:=bB HX3 hb;have zw412:w4.cell? ⟨gb,12,none⟩=some (.slice A12 x.h.length c12):=bz HX4.out 12 rfl;clear hb)|(go_at_call 14;go_loud (refine (C2.out _ HB2.out).mono ?_);rintro e w3 ⟨rfl,hb⟩;have HB3:=bS HB2 hb;have HX3:=bB HX2 hb;have zw311:w3.cell? ⟨gb,11,none⟩=some (.slice A11 x.i.length c11):=bz HX3.out 11 rfl;clear hb)|(go_at_call 12;go_loud (refine (C1.out _ HB1.out).mono ?_);rintro e w2 ⟨rfl,hb⟩;have HB2:=bS HB1 hb;have HX2:=bB HX1 hb;have zw210:w2.cell? ⟨gb,10,none⟩=some (.slice A10 x.v.length c10):=bz HX2.out 10 rfl;clear hb))
   go_ret
   exact ⟨congrArg (fun b:Bool=>Ending.returned (.bool b)) (by rw [HV.out];simp),by first|exact HB10.out|exact HB9.out⟩
 rcases n1 with _|_
 ·go_wp2_with (first|((with_reducible refine bv 1 #[.slice A0 x.r.length c0,.string x.t.f0,.slice A2 x.t.f1.length c2,.slice A3 x.t.f2.length c3,.int .i64 x.t.f3,.int .i64 x.t.f4,.int .i64 x.t.f5,.slice A7 x.t.f6.length c7,.bool x.t.f7,.slice A9 x.t.f8.length c9,.slice A10 x.v.length c10,.slice A11 x.i.length c11,.slice A12 x.h.length c12] 31 ?_);intro gb hgb w1 hbox hb;obtain ⟨y0,y1,y2,y3,y4,y5,y6,y7,y8,y9,y10,y11,y12⟩:=c13 hbox;have HX1:=am hbox;have HB1:=am hb;clear hb hbox hgb)|(go_at_call 14;refine (N1.out _ _ _ _ HCA.out HB11.out HX11.out).mono ?_;rintro e w12 ⟨rfl,hb⟩;have HB12:=bS HB11 hb;have HX12:=bB HX11 hb;have HCB12:=am (Kd.C_below HCB.out hb);clear hb)|(go_at_call 28;refine (R3.out (by first|trivial|rfl) _ HB10.out).mono ?_;rintro e w11 ⟨⟨A,c,B,d,rfl,hcA,hlA,hcB,hlB⟩,hb⟩;have HB11:=bS HB10 hb;have HX11:=bB HX10 hb;have HCA:=am hcA;have HCB:=am hcB;clear hb hcA hcB)|(go_at_call 27;go_loud (refine (R2.out (by first|trivial|rfl) _ HB9.out).mono ?_);rintro e w10 ⟨rfl,hb⟩;have HB10:=bS HB9 hb;have HX10:=bB HX9 hb;have zw101:w10.cell? ⟨gb,1,none⟩=some (.string x.t.f0):=bz HX10.out 1 rfl;have zw102:w10.cell? ⟨gb,2,none⟩=some (.slice A2 x.t.f1.length c2):=bz HX10.out 2 rfl;have zw103:w10.cell? ⟨gb,3,none⟩=some (.slice A3 x.t.f2.length c3):=bz HX10.out 3 rfl;have zw104:w10.cell? ⟨gb,4,none⟩=some (.int .i64 x.t.f3):=bz HX10.out 4 rfl;have zw105:w10.cell? ⟨gb,5,none⟩=some (.int .i64 x.t.f4):=bz HX10.out 5 rfl;have zw106:w10.cell? ⟨gb,6,none⟩=some (.int .i64 x.t.f5):=bz HX10.out 6 rfl;have zw107:w10.cell? ⟨gb,7,none⟩=some (.slice A7 x.t.f6.length c7):=bz HX10.out 7 rfl;have zw108:w10.cell? ⟨gb,8,none⟩=some (.bool x.t.f7):=bz HX10.out 8 rfl;have zw109:w10.cell? ⟨gb,9,none⟩=some (.slice A9 x.t.f8.length c9):=bz HX10.out 9 rfl;clear hb)|(go_at_call 26;go_loud (refine (R1.out _ HB8.out).mono ?_);rintro e w9 ⟨rfl,hb⟩;have HB9:=bS HB8 hb;have HX9:=bB HX8 hb;have zw91:w9.cell? ⟨gb,1,none⟩=some (.string x.t.f0):=bz HX9.out 1 rfl;have zw92:w9.cell? ⟨gb,2,none⟩=some (.slice A2 x.t.f1.length c2):=bz HX9.out 2 rfl;have zw93:w9.cell? ⟨gb,3,none⟩=some (.slice A3 x.t.f2.length c3):=bz HX9.out 3 rfl;have zw94:w9.cell? ⟨gb,4,none⟩=some (.int .i64 x.t.f3):=bz HX9.out 4 rfl;have zw95:w9.cell? ⟨gb,5,none⟩=some (.int .i64 x.t.f4):=bz HX9.out 5 rfl;have zw96:w9.cell? ⟨gb,6,none⟩=some (.int .i64 x.t.f5):=bz HX9.out 6 rfl;have zw97:w9.cell? ⟨gb,7,none⟩=some (.slice A7 x.t.f6.length c7):=bz HX9.out 7 rfl;have zw98:w9.cell? ⟨gb,8,none⟩=some (.bool x.t.f7):=bz HX9.out 8 rfl;have zw99:w9.cell? ⟨gb,9,none⟩=some (.slice A9 x.t.f8.length c9):=bz HX9.out 9 rfl;clear hb)|(go_at_call 24;go_loud (refine (U3.out (by first|trivial|rfl) _ HB7.out).mono ?_);rintro e w8 ⟨rfl,hb⟩;have HB8:=bS HB7 hb;have HX8:=bB HX7 hb;have zw81:w8.cell? ⟨gb,1,none⟩=some (.string x.t.f0):=bz HX8.out 1 rfl;have zw82:w8.cell? ⟨gb,2,none⟩=some (.slice A2 x.t.f1.length c2):=bz HX8.out 2 rfl;have zw83:w8.cell? ⟨gb,3,none⟩=some (.slice A3 x.t.f2.length c3):=bz HX8.out 3 rfl;have zw84:w8.cell? ⟨gb,4,none⟩=some (.int .i64 x.t.f3):=bz HX8.out 4 rfl;have zw85:w8.cell? ⟨gb,5,none⟩=some (.int .i64 x.t.f4):=bz HX8.out 5 rfl;have zw86:w8.cell? ⟨gb,6,none⟩=some (.int .i64 x.t.f5):=bz HX8.out 6 rfl;have zw87:w8.cell? ⟨gb,7,none⟩=some (.slice A7 x.t.f6.length c7):=bz HX8.out 7 rfl;have zw88:w8.cell? ⟨gb,8,none⟩=some (.bool x.t.f7):=bz HX8.out 8 rfl;have zw89:w8.cell? ⟨gb,9,none⟩=some (.slice A9 x.t.f8.length c9):=bz HX8.out 9 rfl;clear hb)|(go_at_call 22;go_loud (refine (U2.out (by first|trivial|rfl) _ HB6.out).mono ?_);rintro e w7 ⟨rfl,hb⟩;have HB7:=bS HB6 hb;have HX7:=bB HX6 hb;have zw712:w7.cell? ⟨gb,12,none⟩=some (.slice A12 x.h.length c12):=bz HX7.out 12 rfl;clear hb)|(go_at_call 20;go_loud (refine (U1.out (by first|trivial|rfl) _ HB5.out).mono ?_);rintro e w6 ⟨rfl,hb⟩;have HB6:=bS HB5 hb;have HX6:=bB HX5 hb;have zw610:w6.cell? ⟨gb,10,none⟩=some (.slice A10 x.v.length c10):=bz HX6.out 10 rfl;clear hb)|(go_at_call 18;go_loud (refine (C4.out _ HB4.out).mono ?_);rintro e w5 ⟨rfl,hb⟩;have HB5:=bS HB4 hb;have HX5:=bB HX4 hb;have zw50:w5.cell? ⟨gb,0,none⟩=some (.slice A0 x.r.length c0):=bz HX5.out 0 rfl;clear hb)|(go_at_call 16;go_loud (refine (C3.out _ HB3.out).mono ?_);rintro e w4 ⟨rfl,hb⟩;have HB4:=bS HB3 hb;have HX4:=bB HX3 hb;have zw412:w4.cell? ⟨gb,12,none⟩=some (.slice A12 x.h.length c12):=bz HX4.out 12 rfl;clear hb)|(go_at_call 14;go_loud (refine (C2.out _ HB2.out).mono ?_);rintro e w3 ⟨rfl,hb⟩;have HB3:=bS HB2 hb;have HX3:=bB HX2 hb;have zw311:w3.cell? ⟨gb,11,none⟩=some (.slice A11 x.i.length c11):=bz HX3.out 11 rfl;clear hb)|(go_at_call 12;go_loud (refine (C1.out _ HB1.out).mono ?_);rintro e w2 ⟨rfl,hb⟩;have HB2:=bS HB1 hb;have HX2:=bB HX1 hb;have zw210:w2.cell? ⟨gb,10,none⟩=some (.slice A10 x.v.length c10):=bz HX2.out 10 rfl;clear hb))
  go_ret
  exact ⟨congrArg (fun b:Bool=>Ending.returned (.bool b)) (by rw [HV.out];simp),HB12.out⟩
 ·go_wp2_with (first|((with_reducible refine bv 1 #[.slice A0 x.r.length c0,.string x.t.f0,.slice A2 x.t.f1.length c2,.slice A3 x.t.f2.length c3,.int .i64 x.t.f3,.int .i64 x.t.f4,.int .i64 x.t.f5,.slice A7 x.t.f6.length c7,.bool x.t.f7,.slice A9 x.t.f8.length c9,.slice A10 x.v.length c10,.slice A11 x.i.length c11,.slice A12 x.h.length c12] 31 ?_);intro gb hgb w1 hbox hb;obtain ⟨y0,y1,y2,y3,y4,y5,y6,y7,y8,y9,y10,y11,y12⟩:=c13 hbox;have HX1:=am hbox;have HB1:=am hb;clear hb hbox hgb)|(go_at_call 14;refine (N2.out _ _ _ _ HCB12.out HB12.out HX12.out).mono ?_;rintro e w13 ⟨rfl,hb⟩;have HB13:=bS HB12 hb;clear hb)|(go_at_call 14;refine (N1.out _ _ _ _ HCA.out HB11.out HX11.out).mono ?_;rintro e w12 ⟨rfl,hb⟩;have HB12:=bS HB11 hb;have HX12:=bB HX11 hb;have HCB12:=am (Kd.C_below HCB.out hb);clear hb)|(go_at_call 28;refine (R3.out (by first|trivial|rfl) _ HB10.out).mono ?_;rintro e w11 ⟨⟨A,c,B,d,rfl,hcA,hlA,hcB,hlB⟩,hb⟩;have HB11:=bS HB10 hb;have HX11:=bB HX10 hb;have HCA:=am hcA;have HCB:=am hcB;clear hb hcA hcB)|(go_at_call 27;go_loud (refine (R2.out (by first|trivial|rfl) _ HB9.out).mono ?_);rintro e w10 ⟨rfl,hb⟩;have HB10:=bS HB9 hb;have HX10:=bB HX9 hb;have zw101:w10.cell? ⟨gb,1,none⟩=some (.string x.t.f0):=bz HX10.out 1 rfl;have zw102:w10.cell? ⟨gb,2,none⟩=some (.slice A2 x.t.f1.length c2):=bz HX10.out 2 rfl;have zw103:w10.cell? ⟨gb,3,none⟩=some (.slice A3 x.t.f2.length c3):=bz HX10.out 3 rfl;have zw104:w10.cell? ⟨gb,4,none⟩=some (.int .i64 x.t.f3):=bz HX10.out 4 rfl;have zw105:w10.cell? ⟨gb,5,none⟩=some (.int .i64 x.t.f4):=bz HX10.out 5 rfl;have zw106:w10.cell? ⟨gb,6,none⟩=some (.int .i64 x.t.f5):=bz HX10.out 6 rfl;have zw107:w10.cell? ⟨gb,7,none⟩=some (.slice A7 x.t.f6.length c7):=bz HX10.out 7 rfl;have zw108:w10.cell? ⟨gb,8,none⟩=some (.bool x.t.f7):=bz HX10.out 8 rfl;have zw109:w10.cell? ⟨gb,9,none⟩=some (.slice A9 x.t.f8.length c9):=bz HX10.out 9 rfl;clear hb)|(go_at_call 26;go_loud (refine (R1.out _ HB8.out).mono ?_);rintro e w9 ⟨rfl,hb⟩;have HB9:=bS HB8 hb;have HX9:=bB HX8 hb;have zw91:w9.cell? ⟨gb,1,none⟩=some (.string x.t.f0):=bz HX9.out 1 rfl;have zw92:w9.cell? ⟨gb,2,none⟩=some (.slice A2 x.t.f1.length c2):=bz HX9.out 2 rfl;have zw93:w9.cell? ⟨gb,3,none⟩=some (.slice A3 x.t.f2.length c3):=bz HX9.out 3 rfl;have zw94:w9.cell? ⟨gb,4,none⟩=some (.int .i64 x.t.f3):=bz HX9.out 4 rfl;have zw95:w9.cell? ⟨gb,5,none⟩=some (.int .i64 x.t.f4):=bz HX9.out 5 rfl;have zw96:w9.cell? ⟨gb,6,none⟩=some (.int .i64 x.t.f5):=bz HX9.out 6 rfl;have zw97:w9.cell? ⟨gb,7,none⟩=some (.slice A7 x.t.f6.length c7):=bz HX9.out 7 rfl;have zw98:w9.cell? ⟨gb,8,none⟩=some (.bool x.t.f7):=bz HX9.out 8 rfl;have zw99:w9.cell? ⟨gb,9,none⟩=some (.slice A9 x.t.f8.length c9):=bz HX9.out 9 rfl;clear hb)|(go_at_call 24;go_loud (refine (U3.out (by first|trivial|rfl) _ HB7.out).mono ?_);rintro e w8 ⟨rfl,hb⟩;have HB8:=bS HB7 hb;have HX8:=bB HX7 hb;have zw81:w8.cell? ⟨gb,1,none⟩=some (.string x.t.f0):=bz HX8.out 1 rfl;have zw82:w8.cell? ⟨gb,2,none⟩=some (.slice A2 x.t.f1.length c2):=bz HX8.out 2 rfl;have zw83:w8.cell? ⟨gb,3,none⟩=some (.slice A3 x.t.f2.length c3):=bz HX8.out 3 rfl;have zw84:w8.cell? ⟨gb,4,none⟩=some (.int .i64 x.t.f3):=bz HX8.out 4 rfl;have zw85:w8.cell? ⟨gb,5,none⟩=some (.int .i64 x.t.f4):=bz HX8.out 5 rfl;have zw86:w8.cell? ⟨gb,6,none⟩=some (.int .i64 x.t.f5):=bz HX8.out 6 rfl;have zw87:w8.cell? ⟨gb,7,none⟩=some (.slice A7 x.t.f6.length c7):=bz HX8.out 7 rfl;have zw88:w8.cell? ⟨gb,8,none⟩=some (.bool x.t.f7):=bz HX8.out 8 rfl;have zw89:w8.cell? ⟨gb,9,none⟩=some (.slice A9 x.t.f8.length c9):=bz HX8.out 9 rfl;clear hb)|(go_at_call 22;go_loud (refine (U2.out (by first|trivial|rfl) _ HB6.out).mono ?_);rintro e w7 ⟨rfl,hb⟩;have HB7:=bS HB6 hb;have HX7:=bB HX6 hb;have zw712:w7.cell? ⟨gb,12,none⟩=some (.slice A12 x.h.length c12):=bz HX7.out 12 rfl;clear hb)|(go_at_call 20;go_loud (refine (U1.out (by first|trivial|rfl) _ HB5.out).mono ?_);rintro e w6 ⟨rfl,hb⟩;have HB6:=bS HB5 hb;have HX6:=bB HX5 hb;have zw610:w6.cell? ⟨gb,10,none⟩=some (.slice A10 x.v.length c10):=bz HX6.out 10 rfl;clear hb)|(go_at_call 18;go_loud (refine (C4.out _ HB4.out).mono ?_);rintro e w5 ⟨rfl,hb⟩;have HB5:=bS HB4 hb;have HX5:=bB HX4 hb;have zw50:w5.cell? ⟨gb,0,none⟩=some (.slice A0 x.r.length c0):=bz HX5.out 0 rfl;clear hb)|(go_at_call 16;go_loud (refine (C3.out _ HB3.out).mono ?_);rintro e w4 ⟨rfl,hb⟩;have HB4:=bS HB3 hb;have HX4:=bB HX3 hb;have zw412:w4.cell? ⟨gb,12,none⟩=some (.slice A12 x.h.length c12):=bz HX4.out 12 rfl;clear hb)|(go_at_call 14;go_loud (refine (C2.out _ HB2.out).mono ?_);rintro e w3 ⟨rfl,hb⟩;have HB3:=bS HB2 hb;have HX3:=bB HX2 hb;have zw311:w3.cell? ⟨gb,11,none⟩=some (.slice A11 x.i.length c11):=bz HX3.out 11 rfl;clear hb)|(go_at_call 12;go_loud (refine (C1.out _ HB1.out).mono ?_);rintro e w2 ⟨rfl,hb⟩;have HB2:=bS HB1 hb;have HX2:=bB HX1 hb;have zw210:w2.cell? ⟨gb,10,none⟩=some (.slice A10 x.v.length c10):=bz HX2.out 10 rfl;clear hb))
  go_ret
  exact ⟨congrArg (fun b:Bool=>Ending.returned (.bool b)) (by rw [HV.out];simp),HB13.out⟩
theorem bare_any (x:Cfg) (W:World) (cs:List Value) (h:CfgK W x cs):Calls Tryz.prog 39 #[.agg cs.toArray] W fun e W'=>(∃ cs':List Value,e=.returned (.agg cs'.toArray)∧CfgK W' ⟨[],x.t,x.v,x.i,x.h⟩ cs')∧Below W.heap.size W W':=by
 obtain ⟨A0,c0,A2,c2,A3,c3,A7,c7,A9,c9,A10,c10,A11,c11,A12,c12,rfl,l0,g0,l2,g2,l3,g3,l7,g7,l9,g9,l10,g10,l11,g11,l12,g12⟩:=h
 have hm:∀ W2,Below W.heap.size W W2→CfgK W2 ⟨[],x.t,x.v,x.i,x.h⟩ [.slice none 0 0,.string x.t.f0,.slice A2 x.t.f1.length c2,.slice A3 x.t.f2.length c3,.int .i64 x.t.f3,.int .i64 x.t.f4,.int .i64 x.t.f5,.slice A7 x.t.f6.length c7,.bool x.t.f7,.slice A9 x.t.f8.length c9,.slice A10 x.v.length c10,.slice A11 x.i.length c11,.slice A12 x.h.length c12]:=fun W2 hb=>⟨none,0,A2,c2,A3,c3,A7,c7,A9,c9,A10,c10,A11,c11,A12,c12,rfl,Nat.le_refl _,C_nil _ _ _,l2,Kd.C_below g2 hb,l3,Kd.C_below g3 hb,l7,Kd.C_below g7 hb,l9,Kd.C_below g9 hb,l10,Kd.C_below g10 hb,l11,Kd.C_below g11 hb,l12,Kd.C_below g12 hb⟩
 show Calls Tryz.prog 39 #[.agg #[.slice A0 x.r.length c0,.string x.t.f0,.slice A2 x.t.f1.length c2,.slice A3 x.t.f2.length c3,.int .i64 x.t.f3,.int .i64 x.t.f4,.int .i64 x.t.f5,.slice A7 x.t.f6.length c7,.bool x.t.f7,.slice A9 x.t.f8.length c9,.slice A10 x.v.length c10,.slice A11 x.i.length c11,.slice A12 x.h.length c12]] W fun e W'=>(∃ cs':List Value,e=.returned (.agg cs'.toArray)∧CfgK W' ⟨[],x.t,x.v,x.i,x.h⟩ cs')∧Below W.heap.size W W'
 have HM:=am hm
 clear hm g0 g2 g3 g7 g9 g10 g11 g12
 go_in
 go_upto_region 2 with (first|((with_reducible refine bv 1 #[.slice A0 x.r.length c0,.string x.t.f0,.slice A2 x.t.f1.length c2,.slice A3 x.t.f2.length c3,.int .i64 x.t.f3,.int .i64 x.t.f4,.int .i64 x.t.f5,.slice A7 x.t.f6.length c7,.bool x.t.f7,.slice A9 x.t.f8.length c9,.slice A10 x.v.length c10,.slice A11 x.i.length c11,.slice A12 x.h.length c12] 31 ?_);intro gb hgb w1 hbox hb;have HX1:=am hbox;have HB1:=am hb;have HGHX1:=am hgb;clear hb hbox hgb)|((with_reducible refine bv 2 #[.slice none 0 0,.string (⟨#[]⟩:ByteArray),.slice none 0 0,.slice none 0 0,.int .i64 0,.int .i64 0,.int .i64 0,.slice none 0 0,.bool false,.slice none 0 0,.slice none 0 0,.slice none 0 0,.slice none 0 0] 31 ?_);intro gk hgb w2 hbox hb;have HX3:=bB HX1 hb;have y0:w2.cell? ⟨gb,0,none⟩=some (.slice A0 x.r.length c0):=bz HX3.out 0 rfl;have f0:=blk_frozen HX3.out 0;have HX2:=am hbox;have HB2:=bS HB1 hb;have HGHX2:=am hgb;clear hb hbox hgb))
 have HG:Aside0 (gb≠gk∧W.heap.size≤gb∧W.heap.size≤gk):=⟨by have h1:=HGHX1.out;have h2:=HGHX2.out;have h3:=HB1.out.size;have h4:=blk_lt HX1.out;omega⟩
 obtain ⟨W2,hW2⟩:∃ W2,W2=w2.setCell ⟨gb,0,none⟩ (.slice none 0 0):=⟨_,rfl⟩
 rw [← hW2]
 have HXb:Aside0 (W2.heap[gb]?=some (.cells #[.slice none 0 0,.string x.t.f0,.slice A2 x.t.f1.length c2,.slice A3 x.t.f2.length c3,.int .i64 x.t.f3,.int .i64 x.t.f4,.int .i64 x.t.f5,.slice A7 x.t.f6.length c7,.bool x.t.f7,.slice A9 x.t.f8.length c9,.slice A10 x.v.length c10,.slice A11 x.i.length c11,.slice A12 x.h.length c12] 31 (0,0))):=⟨by rw [hW2,(blk_set HX3.out 0 _)];simp only [nm]⟩
 have HXk:Aside0 (W2.heap[gk]?=some (.cells #[.slice none 0 0,.string (⟨#[]⟩:ByteArray),.slice none 0 0,.slice none 0 0,.int .i64 0,.int .i64 0,.int .i64 0,.slice none 0 0,.bool false,.slice none 0 0,.slice none 0 0,.slice none 0 0,.slice none 0 0] 31 (0,0))):=⟨by rw [hW2];exact blk_far HX2.out (Ne.symm HG.out.1) _⟩
 have HB3:Aside0 (Below W.heap.size W W2):=⟨by rw [hW2];exact below_set HB2.out HG.out.2.1⟩
 clear hW2 HX1 HX2 HX3 y0 f0
 obtain ⟨y0,y1,y2,y3,y4,y5,y6,y7,y8,y9,y10,y11,y12⟩:=c13 HXb.out
 obtain ⟨z0,z1,z2,z3,z4,z5,z6,z7,z8,z9,z10,z11,z12⟩:=c13 HXk.out
 have f0:=blk_frozen HXk.out 0
 have f1:=blk_frozen HXk.out 1
 have f2:=blk_frozen HXk.out 2
 have f3:=blk_frozen HXk.out 3
 have f4:=blk_frozen HXk.out 4
 have f5:=blk_frozen HXk.out 5
 have f6:=blk_frozen HXk.out 6
 have f7:=blk_frozen HXk.out 7
 have f8:=blk_frozen HXk.out 8
 have f9:=blk_frozen HXk.out 9
 have f10:=blk_frozen HXk.out 10
 have f11:=blk_frozen HXk.out 11
 have f12:=blk_frozen HXk.out 12
 go_wp2
 have HGk:Aside0 (W.heap.size≤gk):=⟨HG.out.2.2⟩
 have hend:((((((((((((((W2.setCell ⟨gk,0,none⟩ (.slice none 0 0)).setCell ⟨gk,1,none⟩ (.string x.t.f0)).setCell ⟨gk,2,none⟩ (.slice A2 x.t.f1.length c2)).setCell ⟨gk,3,none⟩ (.slice A3 x.t.f2.length c3)).setCell ⟨gk,4,none⟩ (.int .i64 x.t.f3)).setCell ⟨gk,5,none⟩ (.int .i64 x.t.f4)).setCell ⟨gk,6,none⟩ (.int .i64 x.t.f5)).setCell ⟨gk,7,none⟩ (.slice A7 x.t.f6.length c7)).setCell ⟨gk,8,none⟩ (.bool x.t.f7)).setCell ⟨gk,9,none⟩ (.slice A9 x.t.f8.length c9)).setCell ⟨gk,10,none⟩ (.slice A10 x.v.length c10)).setCell ⟨gk,11,none⟩ (.slice A11 x.i.length c11)).setCell ⟨gk,12,none⟩ (.slice A12 x.h.length c12))).heap[gk]?=some (.cells #[.slice none 0 0,.string x.t.f0,.slice A2 x.t.f1.length c2,.slice A3 x.t.f2.length c3,.int .i64 x.t.f3,.int .i64 x.t.f4,.int .i64 x.t.f5,.slice A7 x.t.f6.length c7,.bool x.t.f7,.slice A9 x.t.f8.length c9,.slice A10 x.v.length c10,.slice A11 x.i.length c11,.slice A12 x.h.length c12] 31 (0,0)):=by rw [(blk_set (blk_set (blk_set (blk_set (blk_set (blk_set (blk_set (blk_set (blk_set (blk_set (blk_set (blk_set (blk_set HXk.out 0 _) 1 _) 2 _) 3 _) 4 _) 5 _) 6 _) 7 _) 8 _) 9 _) 10 _) 11 _) 12 _)];simp only [nm]
 refine bodyPost_ret (results_cell_row rfl _ _ gk 31 #[.slice none 0 0,.string x.t.f0,.slice A2 x.t.f1.length c2,.slice A3 x.t.f2.length c3,.int .i64 x.t.f3,.int .i64 x.t.f4,.int .i64 x.t.f5,.slice A7 x.t.f6.length c7,.bool x.t.f7,.slice A9 x.t.f8.length c9,.slice A10 x.v.length c10,.slice A11 x.i.length c11,.slice A12 x.h.length c12] (0,0) _ rfl (hend) Tryz.underlying31 rfl (by kernel_rfl)) rfl ?_
 exact ⟨⟨_,rfl,HM.out _ (below_set (below_set (below_set (below_set (below_set (below_set (below_set (below_set (below_set (below_set (below_set (below_set (below_set HB3.out HGk.out) HGk.out) HGk.out) HGk.out) HGk.out) HGk.out) HGk.out) HGk.out) HGk.out) HGk.out) HGk.out) HGk.out) HGk.out)⟩,(below_set (below_set (below_set (below_set (below_set (below_set (below_set (below_set (below_set (below_set (below_set (below_set (below_set HB3.out HGk.out) HGk.out) HGk.out) HGk.out) HGk.out) HGk.out) HGk.out) HGk.out) HGk.out) HGk.out) HGk.out) HGk.out) HGk.out)⟩
def longM (m:S108):Bool:=decide (200<((if matchB m=true then mtextB m else (⟨#[]⟩:ByteArray)).size:Int))
def shortB (l:List S108):Bool:=!l.any longM
def flatB:Nat→S27→Bool
 | 0,_=>false
 | k+1,x=>shortB x.f1 && !x.f8.any (fun y=>!flatB k y)
def tallB (x:S50):Bool:=!shortB x.f0 || !shortB x.f1
def amB (x:Cfg):Bool:=cfgB ⟨[],x.t,x.v,x.i,x.h⟩ && flatB 3 x.t && !x.i.any tallB
theorem long_any (x:S108) (hs:MatSz x) (W:World) (cs:List Value) (h:k108.K W x cs):Calls Tryz.prog 145 (#[.agg cs.toArray]++#[]) W fun e W'=>e=.returned (.bool (longM x))∧Below W.heap.size W W':=by
 have hc:=fun W2 (hb:Below W.heap.size W W2)=>mtext_any x hs W2 cs (k108.K_below hb h)
 obtain ⟨A2,c2,rfl,l2,g2⟩:=k108_open h
 unfold longM
 generalize (if matchB x=true then mtextB x else (⟨#[]⟩:ByteArray))=s at *
 generalize (if matchB x=true then (0:Int) else 1)=r at *
 have HC:=am hc
 clear h g2 hs hc
 show Calls Tryz.prog 145 #[.agg #[.string x.f0,.int .i64 x.f1,.slice A2 x.f2.length c2]] W fun e W'=>e=.returned (.bool (decide (200<(s.size:Int))))∧Below W.heap.size W W'
 go_in
 go_wp2_with (first|((with_reducible refine bv 1 #[.string x.f0,.int .i64 x.f1,.slice A2 x.f2.length c2] 108 ?_);intro gb hgb w1 hbox hb;obtain ⟨y0,y1,y2⟩:=cc3 hbox;have HX1:=am hbox;have HB1:=am hb;have HGHX1:=am hgb;clear hb hbox hgb)|(go_at_call 146;refine (HC.out _ HB1.out).mono ?_;rintro e w2 ⟨rfl,hb⟩;have HB2:=bS HB1 hb;clear hb))
 go_ret
 exact ⟨by first|rfl|(congr 2),HB2.out⟩
theorem short_any (l:List S108) (hs:∀ m∈l,MatSz m) (A:Option Addr) (c:Nat) (W:World) (hr:Kd.C k108 W A l.length l):Calls Tryz.prog 83 #[.slice A l.length c] W fun e W'=>e=.returned (.bool (shortB l))∧Below W.heap.size W W':=by
 have hc:=has_Matcher 145 _ #[] longM A c l W ⟨Tryz.func145,by kernel_rfl,rfl⟩ hr (fun y hy W3 cs hb hk=>long_any y (hs y hy) W3 cs hk)
 unfold shortB
 generalize l.any longM=q at *
 have HC:=am hc
 clear hc hr hs
 go_in
 go_wp2_with (go_at_call 125;refine HC.out.mono ?_;rintro e w2 ⟨rfl,hb⟩;have HB2:=am hb;clear hb)
 go_ret
 exact ⟨rfl,HB2.out⟩
def FlatAt (k:Nat):Prop:=∀ (x:S27) (W:World) (cs:List Value),RSz k x→k27.K W x cs→Calls Tryz.prog 84 #[.agg cs.toArray,.int .i64 (k:Int)] W fun e W'=>e=.returned (.bool (flatB k x))∧Below W.heap.size W W'
theorem flat1_any (k:Nat) (hk:FlatAt k) (hkb:(k:Int)≤1000) (x:S27) (hs:RSz k x) (g:Nat) (W:World) (hg:W.heap[g]?=some (.cells #[.int .i64 ((k:Int)+1)] 3 (0,0))) (cs:List Value) (h:k27.K W x cs):Calls Tryz.prog 147 (#[.agg cs.toArray]++#[.pointer (some ⟨g,0,none⟩)]) W fun e W'=>e=.returned (.bool (!flatB k x))∧Below W.heap.size W W':=by
 have hc:=fun W2 (hb:Below W.heap.size W W2)=>hk x W2 cs hs (k27.K_below hb h)
 obtain ⟨A1,c1,A2,c2,A6,c6,A8,c8,rfl,l1,g1,l2,g2,l6,g6,l8,g8⟩:=k27_open h
 have hwk:wrap64 ((k:Int)+1-1)=(k:Int):=by unfold wrap64;omega
 have hwk2:(k:Int)+1-1=(k:Int):=by omega
 generalize flatB k x=q at *
 have HC:=am hc
 have HG:=am hg
 clear hc hk hs hg h g1 g2 g6 g8
 show Calls Tryz.prog 147 #[.agg #[.string x.f0,.slice A1 x.f1.length c1,.slice A2 x.f2.length c2,.int .i64 x.f3,.int .i64 x.f4,.int .i64 x.f5,.slice A6 x.f6.length c6,.bool x.f7,.slice A8 x.f8.length c8],.pointer (some ⟨g,0,none⟩)] W fun e W'=>e=.returned (.bool (!q))∧Below W.heap.size W W'
 generalize hkk:(k:Int)=kk at *
 go_in
 go_wp2_with (first|((with_reducible refine bv 2 #[.string x.f0,.slice A1 x.f1.length c1,.slice A2 x.f2.length c2,.int .i64 x.f3,.int .i64 x.f4,.int .i64 x.f5,.slice A6 x.f6.length c6,.bool x.f7,.slice A8 x.f8.length c8] 27 ?_);intro gb hgb w1 hbox hb;obtain ⟨y0,y1,y2,y3,y4,y5,y6,y7,y8⟩:=cc9 hbox;have yd:w1.cell? ⟨g,0,none⟩=some (.int .i64 (kk+1)):=(blk_cell (blk_below HG.out hb) 0).trans rfl;have HX1:=am hbox;have HB1:=am hb;have HGHX1:=am hgb;clear hb hbox hgb)|(go_at_call 84;(try rw [hwk]);(try rw [hwk2]);refine (HC.out _ HB1.out).mono ?_;rintro e w2 ⟨rfl,hb⟩;have HB2:=bS HB1 hb;clear hb))
 go_ret
 exact ⟨rfl,HB2.out⟩
theorem flat_zero:FlatAt 0:=by
 intro x W cs hs h
 obtain ⟨A1,c1,A2,c2,A6,c6,A8,c8,rfl,l1,g1,l2,g2,l6,g6,l8,g8⟩:=k27_open h
 show Calls Tryz.prog 84 #[.agg #[.string x.f0,.slice A1 x.f1.length c1,.slice A2 x.f2.length c2,.int .i64 x.f3,.int .i64 x.f4,.int .i64 x.f5,.slice A6 x.f6.length c6,.bool x.f7,.slice A8 x.f8.length c8],.int .i64 0] W fun e W'=>e=.returned (.bool false)∧Below W.heap.size W W'
 clear h hs g1 g2 g6 g8
 go_in
 go_wp2_with (first|((with_reducible refine bv 2 #[.string x.f0,.slice A1 x.f1.length c1,.slice A2 x.f2.length c2,.int .i64 x.f3,.int .i64 x.f4,.int .i64 x.f5,.slice A6 x.f6.length c6,.bool x.f7,.slice A8 x.f8.length c8] 27 ?_);intro gb hgb w1 hbox hb;obtain ⟨y0,y1,y2,y3,y4,y5,y6,y7,y8⟩:=cc9 hbox;have HX1:=am hbox;have HB1:=am hb;have HGHX1:=am hgb;clear hb hbox hgb)|((with_reducible refine bv 3 #[.int .i64 0] 3 ?_);intro gd hgb w2 hbox hb;have yd:w2.cell? ⟨gd,0,none⟩=some (.int .i64 0):=bz hbox 0 rfl;have HD2:=am hbox;have HB2:=bS HB1 hb;have HGHD2:=am hgb;clear hb hbox hgb))
 go_ret
 exact ⟨rfl,HB2.out⟩
theorem flat_step (k:Nat) (hk:FlatAt k) (hkb:(k:Int)≤1000):FlatAt (k+1):=by
 intro x W cs hs h
 obtain ⟨kk,hkk⟩:∃ kk:Int,kk=(k:Int)+1:=⟨_,rfl⟩
 obtain ⟨A1,c1,A2,c2,A6,c6,A8,c8,rfl,l1,g1,l2,g2,l6,g6,l8,g8⟩:=k27_open h
 have hv:flatB (k+1) x=(shortB x.f1 && !x.f8.any (fun y=>!flatB k y)):=rfl
 have d1:=fun W2 (hb:Below W.heap.size W W2)=>short_any x.f1 hs.1 A1 c1 W2 (Kd.C_below g1 hb)
 have d2:=fun g W2 (hb:Below W.heap.size W W2) (hg:W2.heap[g]?=some (.cells #[.int .i64 kk] 3 (0,0)))=>has_Route 147 _ #[.pointer (some ⟨g,0,none⟩)] (fun y=>!flatB k y) A8 c8 x.f8 W2 ⟨Tryz.func147,by kernel_rfl,rfl⟩ (Kd.C_below g8 hb) (fun y hy W3 cs3 hb3 h3=>flat1_any k hk hkb y (hs.2.2 y hy) g W3 (by rw [← hkk];exact blk_below hg hb3) cs3 h3)
 generalize flatB (k+1) x=res at *
 generalize shortB x.f1=q1 at *
 generalize x.f8.any (fun y=>!flatB k y)=q2 at *
 have HV:=am hv
 have C1:=am d1
 have C2:=am d2
 have hpos:decide ((0:Int)<kk)=true:=decide_eq_true (by omega)
 clear h hs hv d1 d2 hk g1 g2 g6 g8
 show Calls Tryz.prog 84 #[.agg #[.string x.f0,.slice A1 x.f1.length c1,.slice A2 x.f2.length c2,.int .i64 x.f3,.int .i64 x.f4,.int .i64 x.f5,.slice A6 x.f6.length c6,.bool x.f7,.slice A8 x.f8.length c8],.int .i64 (((k+1:Nat)):Int)] W fun e W'=>e=.returned (.bool res)∧Below W.heap.size W W'
 rw [show (((k+1:Nat)):Int)=kk from by rw [hkk];rfl]
 clear hkk
 go_in
 cases q1 <;>
 (go_wp2_with (first|((with_reducible refine bv 2 #[.string x.f0,.slice A1 x.f1.length c1,.slice A2 x.f2.length c2,.int .i64 x.f3,.int .i64 x.f4,.int .i64 x.f5,.slice A6 x.f6.length c6,.bool x.f7,.slice A8 x.f8.length c8] 27 ?_);intro gb hgb w1 hbox hb;obtain ⟨y0,y1,y2,y3,y4,y5,y6,y7,y8⟩:=cc9 hbox;have HX1:=am hbox;have HB1:=am hb;have HGHX1:=am hgb;clear hb hbox hgb)|((with_reducible refine bv 3 #[.int .i64 kk] 3 ?_);intro gd hgb w2 hbox hb;have yd:w2.cell? ⟨gd,0,none⟩=some (.int .i64 kk):=bz hbox 0 rfl;have HX2:=bB HX1 hb;have z1:w2.cell? ⟨gb,1,none⟩=some (.slice A1 x.f1.length c1):=bz HX2.out 1 rfl;have HD2:=am hbox;have HB2:=bS HB1 hb;have HGHD2:=am hgb;clear hb hbox hgb)|(go_at_call 83;refine (C1.out _ HB2.out).mono ?_;rintro e w3 ⟨rfl,hb⟩;have HB3:=bS HB2 hb;have HD3:=bB HD2 hb;have z8:w3.cell? ⟨gb,8,none⟩=some (.slice A8 x.f8.length c8):=(blk_cell (blk_below HX2.out hb) 8).trans rfl;clear hb)|(go_at_call 135;refine (C2.out _ _ HB3.out HD3.out).mono ?_;rintro e w4 ⟨rfl,hb⟩;have HB4:=bS HB3 hb;clear hb))
  go_ret
  exact ⟨congrArg (fun b:Bool=>Ending.returned (.bool b)) (by rw [HV.out];simp),by first|exact HB4.out|exact HB3.out⟩)
theorem flat_all:∀ k:Nat,k≤1000→FlatAt k
 | 0,_=>flat_zero
 | k+1,h=>flat_step k (flat_all k (by omega)) (by omega)
theorem tall_any (x:S50) (hs:InhSz x) (W:World) (cs:List Value) (h:k50.K W x cs):Calls Tryz.prog 82 (#[.agg cs.toArray]++#[]) W fun e W'=>e=.returned (.bool (tallB x))∧Below W.heap.size W W':=by
 obtain ⟨A0,c0,A1,c1,A2,c2,rfl,l0,g0,l1,g1,l2,g2⟩:=k50_open h
 have d1:=fun W2 (hb:Below W.heap.size W W2)=>short_any x.f0 hs.1 A0 c0 W2 (Kd.C_below g0 hb)
 have d2:=fun W2 (hb:Below W.heap.size W W2)=>short_any x.f1 hs.2.1 A1 c1 W2 (Kd.C_below g1 hb)
 unfold tallB
 generalize shortB x.f0=q1 at *
 generalize shortB x.f1=q2 at *
 have C1:=am d1
 have C2:=am d2
 clear h hs d1 d2 g0 g1 g2
 show Calls Tryz.prog 82 #[.agg #[.slice A0 x.f0.length c0,.slice A1 x.f1.length c1,.slice A2 x.f2.length c2]] W fun e W'=>e=.returned (.bool (!q1 || !q2))∧Below W.heap.size W W'
 go_in
 cases q1 <;>
 (go_wp2_with (first|((with_reducible refine bv 1 #[.slice A0 x.f0.length c0,.slice A1 x.f1.length c1,.slice A2 x.f2.length c2] 50 ?_);intro gb hgb w1 hbox hb;obtain ⟨y0,y1,y2⟩:=cc3 hbox;have HX1:=am hbox;have HB1:=am hb;have HGHX1:=am hgb;clear hb hbox hgb)|(go_at_call 83;refine (C2.out _ HB2.out).mono ?_;rintro e w3 ⟨rfl,hb⟩;have HB3:=bS HB2 hb;clear hb)|(go_at_call 83;refine (C1.out _ HB1.out).mono ?_;rintro e w2 ⟨rfl,hb⟩;have HB2:=bS HB1 hb;have z1:w2.cell? ⟨gb,1,none⟩=some (.slice A1 x.f1.length c1):=(blk_cell (blk_below HX1.out hb) 1).trans rfl;clear hb))
  go_ret
  exact ⟨by first|rfl|(congr 2;simp),by first|exact HB3.out|exact HB2.out⟩)
theorem am_any (x:Cfg) (hsz:CfgSz x) (W:World) (cs:List Value) (h:CfgK W x cs):Calls Tryz.prog 37 #[.agg cs.toArray] W fun e W'=>e=.returned (.bool (amB x))∧Below W.heap.size W W':=by
 have b1:=fun W2 (hb:Below W.heap.size W W2)=>bare_any x W2 cs (h.below hb)
 have b2:=fun W2 cs' (hk:CfgK W2 ⟨[],x.t,x.v,x.i,x.h⟩ cs')=>cright_any ⟨[],x.t,x.v,x.i,x.h⟩ ⟨fun r hr=>absurd hr List.not_mem_nil,hsz.2.1,hsz.2.2⟩ W2 cs' hk
 obtain ⟨A0,c0,A2,c2,A3,c3,A7,c7,A9,c9,A10,c10,A11,c11,A12,c12,rfl,l0,g0,l2,g2,l3,g3,l7,g7,l9,g9,l10,g10,l11,g11,l12,g12⟩:=h
 have b3:=fun W2 (hb:Below W.heap.size W W2)=>flat_all 3 (by omega) x.t W2 _ (by have:=hsz.2.2;exact ⟨this.1,this.2.1,fun y hy=>⟨(this.2.2 y hy).1,(this.2.2 y hy).2.1,fun z hz=>⟨((this.2.2 y hy).2.2 z hz).1,((this.2.2 y hy).2.2 z hz).2.1,fun _ _=>trivial⟩⟩⟩) (k27_mk W2 x.t l2 (Kd.C_below g2 hb) l3 (Kd.C_below g3 hb) l7 (Kd.C_below g7 hb) l9 (Kd.C_below g9 hb))
 have b4:=fun W2 (hb:Below W.heap.size W W2)=>has_Inhibit 82 _ #[] tallB A11 c11 x.i W2 ⟨Tryz.func82,by kernel_rfl,rfl⟩ (Kd.C_below g11 hb) (fun y hy W3 cs3 hb3 h3=>tall_any y (hsz.2.1 y hy) W3 cs3 h3)
 have hv:amB x=(cfgB ⟨[],x.t,x.v,x.i,x.h⟩ && flatB 3 x.t && !x.i.any tallB):=rfl
 show Calls Tryz.prog 37 #[.agg #[.slice A0 x.r.length c0,.string x.t.f0,.slice A2 x.t.f1.length c2,.slice A3 x.t.f2.length c3,.int .i64 x.t.f3,.int .i64 x.t.f4,.int .i64 x.t.f5,.slice A7 x.t.f6.length c7,.bool x.t.f7,.slice A9 x.t.f8.length c9,.slice A10 x.v.length c10,.slice A11 x.i.length c11,.slice A12 x.h.length c12]] W fun e W'=>e=.returned (.bool (amB x))∧Below W.heap.size W W'
 generalize amB x=res at *
 generalize cfgB ⟨[],x.t,x.v,x.i,x.h⟩=q1 at *
 generalize flatB 3 x.t=q2 at *
 generalize x.i.any tallB=q3 at *
 have HV:=am hv
 have B1:=am b1
 have B2:=am b2
 have B3:=am b3
 have B4:=am b4
 clear hv b1 b2 b3 b4 hsz g0 g2 g3 g7 g9 g10 g11 g12
 go_in
 rcases chain3' q1 q2 q3 with rfl|⟨rfl,rfl⟩|⟨rfl,rfl,rfl⟩|⟨rfl,rfl,rfl⟩ <;>
 (go_wp2_with (first|((with_reducible refine bv 1 #[.slice A0 x.r.length c0,.string x.t.f0,.slice A2 x.t.f1.length c2,.slice A3 x.t.f2.length c3,.int .i64 x.t.f3,.int .i64 x.t.f4,.int .i64 x.t.f5,.slice A7 x.t.f6.length c7,.bool x.t.f7,.slice A9 x.t.f8.length c9,.slice A10 x.v.length c10,.slice A11 x.i.length c11,.slice A12 x.h.length c12] 31 ?_);intro gb hgb w1 hbox hb;obtain ⟨y0,y1,y2,y3,y4,y5,y6,y7,y8,y9,y10,y11,y12⟩:=c13 hbox;have HX1:=am hbox;have HB1:=am hb;clear hb hbox hgb)|(go_at_call 39;refine (B1.out _ HB1.out).mono ?_;rintro e w2 ⟨⟨cs',rfl,hk⟩,hb⟩;have HB2:=bS HB1 hb;have HX2:=bB HX1 hb;have HK2:=am hk;clear hb hk)|(go_at_call 5;refine (B2.out _ _ HK2.out).mono ?_;rintro e w3 ⟨rfl,hb⟩;have HB3:=bS HB2 hb;have HX3:=bB HX2 hb;have z1:w3.cell? ⟨gb,1,none⟩=some (.string x.t.f0):=bz HX3.out 1 rfl;have z2:w3.cell? ⟨gb,2,none⟩=some (.slice A2 x.t.f1.length c2):=bz HX3.out 2 rfl;have z3:w3.cell? ⟨gb,3,none⟩=some (.slice A3 x.t.f2.length c3):=bz HX3.out 3 rfl;have z4:w3.cell? ⟨gb,4,none⟩=some (.int .i64 x.t.f3):=bz HX3.out 4 rfl;have z5:w3.cell? ⟨gb,5,none⟩=some (.int .i64 x.t.f4):=bz HX3.out 5 rfl;have z6:w3.cell? ⟨gb,6,none⟩=some (.int .i64 x.t.f5):=bz HX3.out 6 rfl;have z7:w3.cell? ⟨gb,7,none⟩=some (.slice A7 x.t.f6.length c7):=bz HX3.out 7 rfl;have z8:w3.cell? ⟨gb,8,none⟩=some (.bool x.t.f7):=bz HX3.out 8 rfl;have z9:w3.cell? ⟨gb,9,none⟩=some (.slice A9 x.t.f8.length c9):=bz HX3.out 9 rfl;clear hb)|(go_at_call 84;refine (B3.out _ HB3.out).mono ?_;rintro e w4 ⟨rfl,hb⟩;have HB4:=bS HB3 hb;have z11:w4.cell? ⟨gb,11,none⟩=some (.slice A11 x.i.length c11):=(blk_cell (blk_below HX3.out hb) 11).trans rfl;clear hb)|(go_at_call 60;refine (B4.out _ HB4.out).mono ?_;rintro e w5 ⟨rfl,hb⟩;have HB5:=bS HB4 hb;clear hb))
  go_ret
  exact ⟨congrArg (fun b:Bool=>Ending.returned (.bool b)) (by rw [HV.out];simp),by first|exact HB5.out|exact HB4.out|exact HB3.out⟩)
theorem R_lits {α:Type} (d:Kd α) {e base:Nat} {w:World} {g:Nat} {ps:List α} {inner:List Value} (hx:w.heap[g]?=some (.cells inner.toArray e (0,0))) (hg:base≤g) (hm:ps.length≤9223372036854775807) (hr:Reps (d.M w base (fun k=>k≠g)) d.sz ps inner) :
 d.R e w base (fun _=>True) (.slice (some ⟨g,0,none⟩) ps.length ps.length) ps:=by
 refine ⟨fun _ _=>trivial,inner,?_,hr.imp_ (fun p c hp=>d.M_mono (fun k hk=>⟨trivial,fun e=>hk (by injection e with e)⟩) hp)⟩
 have hl:inner.length=ps.length*d.sz:=hr.1
 refine ⟨hl,.inr ⟨g,ps.length,inner.toArray,rfl,hg,hx,Nat.le_refl _,by simpa [maxLen] using hm,by rw [List.size_toArray];exact hl,?_⟩⟩
 show inner.toArray.toList.take (ps.length*d.sz)=inner
 rw [List.toList_toArray,← hl,List.take_length]
theorem mword_any (s:ByteArray) (h:owordB s=true) (k:Nat) (w:World):Calls Tryz.prog 101 #[.string s] w fun e w'=>Made (k+1) w e w':=by
 have H0:=am h
 clear h
 go_in
 go_wp2_with ((with_reducible refine bv 2 #[.int .i64 0,.string (⟨#[]⟩:ByteArray),.slice none 0 0,.slice none 0 0] 76 ?_);intro gr hgb w1 hbox hb;obtain ⟨r0,r1,r2,r3⟩:=cc4 hbox;have q0:=blk_frozen hbox 0;have q1:=blk_frozen hbox 1;have q2:=blk_frozen hbox 2;have q3:=blk_frozen hbox 3;have HX1:=am hbox;have HB1:=am hb;have HG1:=am hgb;clear hb hbox hgb)
 have hend:(((((w1.setCell ⟨gr,0,none⟩ (.int .i64 1)).setCell ⟨gr,1,none⟩ (.string s)).setCell ⟨gr,2,none⟩ (.slice none 0 0)).setCell ⟨gr,3,none⟩ (.slice none 0 0))).heap[gr]?=some (.cells #[.int .i64 1,.string s,.slice none 0 0,.slice none 0 0] 76 (0,0)):=by rw [(blk_set (blk_set (blk_set (blk_set HX1.out 0 _) 1 _) 2 _) 3 _)];simp only [nm]
 refine bodyPost_ret (results_cell_row rfl _ _ gr 76 #[.int .i64 1,.string s,.slice none 0 0,.slice none 0 0] (0,0) _ rfl (hend) Tryz.underlying76 rfl (by kernel_rfl)) rfl ?_
 exact ⟨⟨⟨1,s,[],[]⟩,_,rfl,.inl ⟨rfl,H0.out,rfl,rfl⟩,k76_mkM _ _ _ ⟨1,s,[],[]⟩ (Kd.R_nil _ _ _ _ _) (Kd.R_nil _ _ _ _ _)⟩,(below_set (below_set (below_set (below_set HB1.out (by have:=HG1.out;omega)) (by have:=HG1.out;omega)) (by have:=HG1.out;omega)) (by have:=HG1.out;omega))⟩
def PKeys (w : World) : Prop := Lib.TabIs Tryz.prog w "internal/strconv.uint64pow10" .u64 Lib.pow10Tab
theorem pkeys_step {w w':World} (h:PKeys w) (hb:Below w.heap.size w w'):PKeys w':=by
 unfold PKeys Lib.TabIs World.var? at *
 cases hg : Tryz.prog.globalNamed "internal/strconv.uint64pow10" with
 | none=>simp [hg] at h
 | some g =>
   simp only [hg,Option.bind_some] at h ⊢
   have hlt:g<w.heap.size:=by
    rcases Nat.lt_or_ge g w.heap.size with h'|h'
    ·exact h'
    ·rw [Array.getElem?_eq_none h'] at h;simp at h
   rw [hb.block g hlt]
   exact h
theorem itoa_any (n:Int) (h0:-9223372036854775808≤n) (h1:n≤9223372036854775807) (w:World) (hK:PKeys w):Calls Tryz.prog 181 #[.int .i64 n] w fun e w'=>e=.returned (.string (numT n))∧Below w.heap.size w w':=by
 refine (Tryz.strconv_Itoa n h0 h1 w hK).mono ?_
 rintro e w' ⟨rfl,k,os,rfl⟩
 exact ⟨rfl,Lib.below_grow _ _ (Nat.le_refl _) k os⟩
theorem M_res {W W2 W3:World} {nd:S76} {g:Nat} {c0 c1 c2 c3:Value} {cs:List Value} (h:k76.M W3 W2.heap.size (fun _=>True) nd cs) (hl:W.heap.size≤W2.heap.size) (hg:g<W2.heap.size):k76.M ((((W3.setCell ⟨g,0,none⟩ c0).setCell ⟨g,1,none⟩ c1).setCell ⟨g,2,none⟩ c2).setCell ⟨g,3,none⟩ c3) W.heap.size (fun _=>True) nd cs :=
 k76.M_lower hl (M_low (M_low (M_low (M_low h hg) hg) hg) hg)
theorem number_any (n:Int) (h0:-9223372036854775808≤n) (h1:n≤9223372036854775807) (k:Nat) (w:World) (hK:PKeys w):Calls Tryz.prog 166 #[.int .i64 n] w fun e w'=>Made (k+1) w e w':=by
 have hi:=fun W (hb:Below w.heap.size w W)=>itoa_any n h0 h1 W (pkeys_step hK hb)
 have hw:=fun W=>mword_any (numT n) (oword_of (pr_num n) (by have:=num_size h0 h1;omega)) k W
 have HI:=am hi
 have HW:=am hw
 clear hi hw hK
 generalize numT n=s at *
 go_in
 go_wp2_with (first|((with_reducible refine bv 2 #[.int .i64 0,.string (⟨#[]⟩:ByteArray),.slice none 0 0,.slice none 0 0] 76 ?_);intro gr hgb w1 hbox hb;have HX1:=am hbox;have HB1:=am hb;have HG1:=am hgb;clear hb hbox hgb)|(go_at_call 181;refine (HI.out _ HB1.out).mono ?_;rintro e w2 ⟨rfl,hb⟩;have HB2:=bS HB1 hb;have HX2:=bB HX1 hb;clear hb)|(go_at_call 101;refine (HW.out _).mono ?_;rintro e w3 ⟨⟨nd,cs,rfl,hnk,hM⟩,hb⟩;obtain ⟨B2,d2,B3,d3,rfl,_,_,_,_⟩:=k76_open (k76.K_of_M hM);have HM:=am hM;have HNK:=am hnk;have HB3:=bS HB2 hb;have HX3:=bB HX2 hb;have HL:=am (HB2.out.size);have HGE:=am (blk_lt HX2.out);obtain ⟨r0,r1,r2,r3⟩:=cc4 HX3.out;have q0:=blk_frozen HX3.out 0;have q1:=blk_frozen HX3.out 1;have q2:=blk_frozen HX3.out 2;have q3:=blk_frozen HX3.out 3;clear hb hM hnk))
 have hend:(((((w3.setCell ⟨gr,0,none⟩ (.int .i64 nd.f0)).setCell ⟨gr,1,none⟩ (.string nd.f1)).setCell ⟨gr,2,none⟩ (.slice B2 nd.f2.length d2)).setCell ⟨gr,3,none⟩ (.slice B3 nd.f3.length d3))).heap[gr]?=some (.cells #[.int .i64 nd.f0,.string nd.f1,.slice B2 nd.f2.length d2,.slice B3 nd.f3.length d3] 76 (0,0)):=by rw [(blk_set (blk_set (blk_set (blk_set HX3.out 0 _) 1 _) 2 _) 3 _)];simp only [nm]
 refine bodyPost_ret (results_cell_row rfl _ _ gr 76 #[.int .i64 nd.f0,.string nd.f1,.slice B2 nd.f2.length d2,.slice B3 nd.f3.length d3] (0,0) _ rfl (hend) Tryz.underlying76 rfl (by kernel_rfl)) rfl ?_
 exact ⟨⟨nd,_,rfl,HNK.out,M_res HM.out HL.out HGE.out⟩,(below_set (below_set (below_set (below_set HB3.out (by have:=HG1.out;omega)) (by have:=HG1.out;omega)) (by have:=HG1.out;omega)) (by have:=HG1.out;omega))⟩
theorem table_any (A B:Option Addr) (n c m d:Nat) (w:World):Calls Tryz.prog 97 #[.slice A n c,.slice B m d] w fun e w'=>e=.returned (.agg #[.int .i64 3,.string (⟨#[]⟩:ByteArray),.slice A n c,.slice B m d])∧Below w.heap.size w w':=by
 go_in
 go_wp2_with ((with_reducible refine bv 4 #[.int .i64 0,.string (⟨#[]⟩:ByteArray),.slice none 0 0,.slice none 0 0] 76 ?_);intro gr hgb w1 hbox hb;obtain ⟨r0,r1,r2,r3⟩:=cc4 hbox;have q0:=blk_frozen hbox 0;have q1:=blk_frozen hbox 1;have q2:=blk_frozen hbox 2;have q3:=blk_frozen hbox 3;have HX1:=am hbox;have HB1:=am hb;have HG1:=am hgb;clear hb hbox hgb)
 have hend:(((((w1.setCell ⟨gr,0,none⟩ (.int .i64 3)).setCell ⟨gr,1,none⟩ (.string (⟨#[]⟩:ByteArray))).setCell ⟨gr,2,none⟩ (.slice A n c)).setCell ⟨gr,3,none⟩ (.slice B m d))).heap[gr]?=some (.cells #[.int .i64 3,.string (⟨#[]⟩:ByteArray),.slice A n c,.slice B m d] 76 (0,0)):=by rw [(blk_set (blk_set (blk_set (blk_set HX1.out 0 _) 1 _) 2 _) 3 _)];simp only [nm]
 refine bodyPost_ret (results_cell_row rfl _ _ gr 76 #[.int .i64 3,.string (⟨#[]⟩:ByteArray),.slice A n c,.slice B m d] (0,0) _ rfl (hend) Tryz.underlying76 rfl (by kernel_rfl)) rfl ?_
 exact ⟨rfl,(below_set (below_set (below_set (below_set HB1.out (by have:=HG1.out;omega)) (by have:=HG1.out;omega)) (by have:=HG1.out;omega)) (by have:=HG1.out;omega))⟩
theorem item_M {w W2 W3 Wg:World} {nd:S76} {cs:List Value} {gr gi:Nat} {c0 c1 c2 c3:Value} (h:k76.M W3 W2.heap.size (fun _=>True) nd cs) (hb:Below W3.heap.size W3 Wg) (hi:W3.heap.size≤gi) (hg:gr<W2.heap.size) (hl:w.heap.size≤W2.heap.size) :
 k76.M ((((Wg.setCell ⟨gr,0,none⟩ (c0)).setCell ⟨gr,1,none⟩ (c1)).setCell ⟨gr,2,none⟩ (c2)).setCell ⟨gr,3,none⟩ (c3)) w.heap.size (fun k=>k≠gi) nd cs :=
 k76.M_lower hl (k76.M_mono (fun k hk=>by omega) (k76.M_move (w:=W3) (ok:=fun k=>W2.heap.size≤k∧k<W3.heap.size) (fun k hk=>by
  rw [Below.heap_setCell _ _ _ _ (by show k≠gr;omega),Below.heap_setCell _ _ _ _ (by show k≠gr;omega),Below.heap_setCell _ _ _ _ (by show k≠gr;omega),Below.heap_setCell _ _ _ _ (by show k≠gr;omega)]
  exact hb.block k hk.2) (k76.M_mono (fun k hk=>⟨hk.2.1,hk.2.2.1⟩) (k76.M_bound h))))
theorem table_made4 {w Wg:World} {gr gn gi:Nat} {ns:List ByteArray} {nds:List S76} {inner:List Value} {c0 c1 c2 c3:Value} (k:Nat) (hgn:Wg.heap[gn]?=some (.cells (ns.map Value.string).toArray 9 (0,0))) (hgi:Wg.heap[gi]?=some (.cells inner.toArray 76 (0,0))) (h1:w.heap.size≤gn) (h2:w.heap.size≤gi) (h3:gn≠gr) (h4:gi≠gr)
 (hrep:Reps (k76.M ((((Wg.setCell ⟨gr,0,none⟩ (c0)).setCell ⟨gr,1,none⟩ (c1)).setCell ⟨gr,2,none⟩ (c2)).setCell ⟨gr,3,none⟩ (c3)) w.heap.size (fun k=>k≠gi)) 4 nds inner) (hl:ns.length=nds.length) (h16:nds.length≤16) (hn:namesB onameB ns=true) (hk:∀ y∈nds,NOK k y) :
 ∃ (nd:S76) (cs':List Value),Ending.returned (.agg #[.int .i64 3,.string (⟨#[]⟩:ByteArray),.slice (some ⟨gn,0,none⟩) ns.length ns.length,.slice (some ⟨gi,0,none⟩) nds.length nds.length])=.returned (.agg cs'.toArray)∧NOK (k+1) nd∧nd.f3.length=nds.length∧k76.M ((((Wg.setCell ⟨gr,0,none⟩ (c0)).setCell ⟨gr,1,none⟩ (c1)).setCell ⟨gr,2,none⟩ (c2)).setCell ⟨gr,3,none⟩ (c3)) w.heap.size (fun _=>True) nd cs':=by
 refine ⟨⟨3,⟨#[]⟩,ns,nds⟩,_,rfl,.inr ⟨rfl,h16,hk,.inr ⟨rfl,hl,hn⟩⟩,rfl,k76_mkM _ _ _ ⟨3,⟨#[]⟩,ns,nds⟩ (R_lits Kd.string (blk_far (blk_far (blk_far (blk_far hgn h3 _) h3 _) h3 _) h3 _) h1 (by rw [hl];omega) (Kd.reps_scalar ns)) (R_lits k76 (blk_far (blk_far (blk_far (blk_far hgi h4 _) h4 _) h4 _) h4 _) h2 (Nat.le_trans h16 (by decide)) hrep)⟩
theorem table_made {w Wg:World} {gr gn gi:Nat} {ns:List ByteArray} {nds:List S76} {inner:List Value} {c0 c1 c2 c3:Value} (k:Nat) (hgn:Wg.heap[gn]?=some (.cells (ns.map Value.string).toArray 9 (0,0))) (hgi:Wg.heap[gi]?=some (.cells inner.toArray 76 (0,0))) (h1:w.heap.size≤gn) (h2:w.heap.size≤gi) (h3:gn≠gr) (h4:gi≠gr)
 (hrep:Reps (k76.M ((((Wg.setCell ⟨gr,0,none⟩ (c0)).setCell ⟨gr,1,none⟩ (c1)).setCell ⟨gr,2,none⟩ (c2)).setCell ⟨gr,3,none⟩ (c3)) w.heap.size (fun k=>k≠gi)) 4 nds inner) (hl:ns.length=nds.length) (h16:nds.length≤16) (hn:namesB onameB ns=true) (hk:∀ y∈nds,NOK k y) :
 ∃ (nd:S76) (cs':List Value),Ending.returned (.agg #[.int .i64 3,.string (⟨#[]⟩:ByteArray),.slice (some ⟨gn,0,none⟩) ns.length ns.length,.slice (some ⟨gi,0,none⟩) nds.length nds.length])=.returned (.agg cs'.toArray)∧NOK (k+1) nd∧k76.M ((((Wg.setCell ⟨gr,0,none⟩ (c0)).setCell ⟨gr,1,none⟩ (c1)).setCell ⟨gr,2,none⟩ (c2)).setCell ⟨gr,3,none⟩ (c3)) w.heap.size (fun _=>True) nd cs' :=
 let ⟨nd,cs',h1,h2,_,h3⟩:=table_made4 (c0:=c0) (c1:=c1) (c2:=c2) (c3:=c3) k hgn hgi h1 h2 h3 h4 hrep hl h16 hn hk
 ⟨nd,cs',h1,h2,h3⟩
def MadeN (k m:Nat) (W:World) (e:Ending) (W':World):Prop:=(∃ (nd:S76) (cs':List Value),e=.returned (.agg cs'.toArray)∧NOK k nd∧nd.f3.length=m∧k76.M W' W.heap.size (fun _=>True) nd cs')∧Below W.heap.size W W'
theorem match_made (x:S108) (hs:MatSz x) (h:matchB x=true) (hl:longM x=false) (k:Nat) (w:World) (cs:List Value) (hk:k108.K w x cs):Calls Tryz.prog 165 (#[.agg cs.toArray]++#[]) w fun e w'=>Made (k+1) w e w':=by
 have hsz:(mtextB x).size≤200:=by
  unfold longM at hl
  rw [if_pos h] at hl
  have:=of_decide_eq_false hl
  omega
 have ht:=fun W (hb:Below w.heap.size w W)=>mtext_any x hs W cs (k108.K_below hb hk)
 rw [if_pos h,if_pos h] at ht
 have hw:=fun W=>mword_any (mtextB x) (oword_of (pr_mtext h) hsz) k W
 obtain ⟨A2,c2,rfl,l2,g2⟩:=k108_open hk
 generalize mtextB x=s at *
 have HT:=am ht
 have HW:=am hw
 clear ht hw hk hs g2 hl h
 show Calls Tryz.prog 165 #[.agg #[.string x.f0,.int .i64 x.f1,.slice A2 x.f2.length c2]] w fun e w'=>Made (k+1) w e w'
 go_in
 go_wp2_with (first|((with_reducible refine bv 1 #[.string x.f0,.int .i64 x.f1,.slice A2 x.f2.length c2] 108 ?_);intro gb hgb wa hbox hb;obtain ⟨y0,y1,y2⟩:=cc3 hbox;have HXa:=am hbox;have HBa:=am hb;have HGa:=am hgb;clear hb hbox hgb)|((with_reducible refine bv 2 #[.int .i64 0,.string (⟨#[]⟩:ByteArray),.slice none 0 0,.slice none 0 0] 76 ?_);intro gr hgb w1 hbox hb;have HXb:=bB HXa hb;obtain ⟨u0,u1,u2⟩:=cc3 HXb.out;have HX1:=am hbox;have HB1:=bS HBa hb;have HG1:=am hgb;clear hb hbox hgb)|(go_at_call 146;refine (HT.out _ HB1.out).mono ?_;rintro e w2 ⟨rfl,hb⟩;have HB2:=bS HB1 hb;have HX2:=bB HX1 hb;clear hb)|(go_at_call 101;refine (HW.out _).mono ?_;rintro e w3 ⟨⟨nd,cs,rfl,hnk,hM⟩,hb⟩;obtain ⟨B2,d2,B3,d3,rfl,_,_,_,_⟩:=k76_open (k76.K_of_M hM);have HM:=am hM;have HNK:=am hnk;have HB3:=bS HB2 hb;have HX3:=bB HX2 hb;have HL:=am (HB2.out.size);have HGE:=am (blk_lt HX2.out);obtain ⟨r0,r1,r2,r3⟩:=cc4 HX3.out;have q0:=blk_frozen HX3.out 0;have q1:=blk_frozen HX3.out 1;have q2:=blk_frozen HX3.out 2;have q3:=blk_frozen HX3.out 3;clear hb hM hnk))
 have hend:(((((w3.setCell ⟨gr,0,none⟩ (.int .i64 nd.f0)).setCell ⟨gr,1,none⟩ (.string nd.f1)).setCell ⟨gr,2,none⟩ (.slice B2 nd.f2.length d2)).setCell ⟨gr,3,none⟩ (.slice B3 nd.f3.length d3))).heap[gr]?=some (.cells #[.int .i64 nd.f0,.string nd.f1,.slice B2 nd.f2.length d2,.slice B3 nd.f3.length d3] 76 (0,0)):=by rw [(blk_set (blk_set (blk_set (blk_set HX3.out 0 _) 1 _) 2 _) 3 _)];simp only [nm]
 refine bodyPost_ret (results_cell_row rfl _ _ gr 76 #[.int .i64 nd.f0,.string nd.f1,.slice B2 nd.f2.length d2,.slice B3 nd.f3.length d3] (0,0) _ rfl (hend) Tryz.underlying76 rfl (by kernel_rfl)) rfl ?_
 exact ⟨⟨nd,_,rfl,HNK.out,M_res HM.out HL.out HGE.out⟩,(below_set (below_set (below_set (below_set HB3.out (by have:=HG1.out;have:=HBa.out.size;omega)) (by have:=HG1.out;have:=HBa.out.size;omega)) (by have:=HG1.out;have:=HBa.out.size;omega)) (by have:=HG1.out;have:=HBa.out.size;omega))⟩
theorem row_Matcher (F : Nat) (fn : Func) (k : Nat) (xs : List S108) (hF : Tryz.prog.funcs[F]? = some fn ∧ (fn.name == "runtime.NumGoroutine") = false ∧ fn.body.isSome = true) (h16 : xs.length ≤ 16) (A : Option Addr) (c : Nat) (w : World) (hr : Kd.C k108 w A xs.length xs) (hof : OfA F k k108 w xs) :
 Calls Tryz.prog 164 #[.slice A xs.length c,.func (.func F) #[] #[]] w fun e w'=>Made (k+1) w e w':=by
 have HF:=am hF
 have HR0:=am hr
 have HOF:=am hof
 have m16:(xs.length:Int)≤16:=by omega
 have H16:=am h16
 clear hF hr hof h16
 go_in
 go_upto_region 2 with (first|((with_reducible refine bv 4 #[.int .i64 0,.string (⟨#[]⟩:ByteArray),.slice none 0 0,.slice none 0 0] 76 ?_);intro gr hgb w1 hbox hb;have HX1:=am hbox;have HB1:=am hb;have HG1:=am hgb;clear hb hbox hgb)|((with_reducible refine bv 5 #[.int .i64 0,.string (⟨#[]⟩:ByteArray),.slice none 0 0,.slice none 0 0] 76 ?_);intro gk hgb w2 hbox hb;have HXr2:=bB HX1 hb;obtain ⟨y0,y1,y2,y3⟩:=cc4 hbox;have z0:=blk_frozen hbox 0;have z1:=blk_frozen hbox 1;have z2:=blk_frozen hbox 2;have z3:=blk_frozen hbox 3;have HX2:=am hbox;have HB2:=bS HB1 hb;have HG2:=am hgb;clear hb hbox hgb))
 have HGE:Aside0 (w.heap.size≤gr∧w.heap.size≤gk):=⟨by have h1:=HG1.out;have h2:=HG2.out;have h3:=HB1.out.size;omega⟩
 obtain ⟨W3,hW3⟩:∃ W3,W3=((((w2.setCell ⟨gk,0,none⟩ (.int .i64 2)).setCell ⟨gk,1,none⟩ (.string (⟨#[]⟩:ByteArray))).setCell ⟨gk,2,none⟩ (.slice none 0 0)).setCell ⟨gk,3,none⟩ (.slice none 0 0)):=⟨_,rfl⟩
 rw [← hW3]
 have hne:gr≠gk:=by have h1:=blk_lt HX1.out;have h2:=HG2.out;omega
 have HXk3:Aside0 (W3.heap[gk]?=some (.cells #[.int .i64 2,.string (⟨#[]⟩:ByteArray),.slice none 0 0,.slice none 0 0] 76 (0,0))):=⟨by rw [hW3,(blk_set (blk_set (blk_set (blk_set HX2.out 0 _) 1 _) 2 _) 3 _)];simp only [nm]⟩
 have HXr3:Aside0 (W3.heap[gr]?=some (.cells #[.int .i64 0,.string (⟨#[]⟩:ByteArray),.slice none 0 0,.slice none 0 0] 76 (0,0))):=⟨by rw [hW3];exact blk_far (blk_far (blk_far (blk_far HXr2.out hne _) hne _) hne _) hne _⟩
 have HB3:Aside0 (Below w.heap.size w W3):=⟨by rw [hW3];exact (below_set (below_set (below_set (below_set HB2.out HGE.out.2) HGE.out.2) HGE.out.2) HGE.out.2)⟩
 obtain ⟨B,hB⟩:∃ B,B=W3.heap.size:=⟨_,rfl⟩
 have HGB:Aside0 (gk<B∧gr<B):=⟨by rw [hB];exact ⟨blk_lt HXk3.out,blk_lt HXr3.out⟩⟩
 have HGE3:Aside0 (w.heap.size≤B):=⟨by rw [hB];exact HB3.out.size⟩
 have HBS3:Aside0 (B≤W3.heap.size):=⟨by rw [hB];exact Nat.le_refl _⟩
 have HNE:Aside0 (gr≠gk):=⟨hne⟩
 clear hW3 hB HX1 HX2 HXr2 HB1 HB2 HG1 HG2 y0 y1 y2 y3 z0 z1 z2 z3 hne
 go_wp2
 go_loopw [11] (fun u wr=>∃ (i:Nat) (v:Value) (ns:List S76),u=.int .i64 i∧Aside0 (i≤xs.length)∧Aside0 (wr.heap[gk]?=some (.cells #[.int .i64 2,.string (⟨#[]⟩:ByteArray),.slice none 0 0,v] 76 (0,0)))∧Aside0 (wr.heap[gr]?=some (.cells #[.int .i64 0,.string (⟨#[]⟩:ByteArray),.slice none 0 0,.slice none 0 0] 76 (0,0)))∧Aside0 (k76.R 76 wr B (fun _=>True) v ns)∧Aside0 (ns.length=i∧∀ y∈ns,NOK k y)∧Aside0 (Below w.heap.size w wr)∧Aside0 (B≤wr.heap.size)) (fun u _=>xs.length-(intOf u).toNat)
 case atStart=>exact ⟨0,_,[],rfl,⟨Nat.zero_le _⟩,HXk3,HXr3,⟨Kd.R_nil _ _ _ _ _⟩,⟨rfl,fun y hy=>absurd hy List.not_mem_nil⟩,HB3,HBS3⟩
 case round =>
  obtain ⟨i,v,xs1,rfl,HI,HXk,HXr,HR,HNS,HB,HBS⟩:=hrel
  obtain ⟨Av,cv,rfl⟩:=Kd.R_slice HR.out
  clear HXk3 HXr3 HB3 HBS3
  by_cases hlt:i<xs.length
  ·obtain ⟨ad,B2,e2,e_,hx0,hx1,hx2,hl2,hg2⟩:=at_T108 (Kd.C_below HR0.out HB.out) (i:Int) (by omega) (by omega)
   cases e_
   simp only [Int.toNat_natCast] at hx0 hx1 hx2
   have hmem:rd_T108 xs (i:Int)∈xs:=by
    unfold rd_T108
    rw [Int.toNat_natCast,List.getD_eq_getElem?_getD,List.getElem?_eq_getElem hlt]
    exact List.getElem_mem hlt
   have hcall:=fun W2 (hb:Below wr.heap.size wr W2)=>HOF.out _ hmem W2 _ (below_step HB.out hb) (k108_mk W2 (rd_T108 xs (i:Int)) hl2 (Kd.C_below hg2 hb))
   generalize rd_T108 xs (i:Int)=y at *
   have b1:decide ((i:Int)<(xs.length:Int))=true:=decide_eq_true (by omega)
   have hw1:wrap64 ((i:Int)+1)=((i+1:Nat):Int):=by unfold wrap64;omega
   have HCALL:=am hcall
   have HW1:=am hw1
   have HLT:=am hlt
   have HXL:Aside0 (xs1.length≤16):=⟨by rw [HNS.out.1];exact Nat.le_trans HI.out H16.out⟩
   clear hcall hw1 hmem hg2
   go_upto_region 5 with (((with_reducible refine bv 7 #[.string (⟨#[]⟩:ByteArray),.int .i64 0,.slice none 0 0] 108 ?_);intro gs hgb w5 hbox hb;obtain ⟨y0,y1,y2⟩:=cc3 hbox;have z0:=blk_frozen hbox 0;have z1:=blk_frozen hbox 1;have z2:=blk_frozen hbox 2;have HX5:=am hbox;have HB5_:=am hb;have HG5:=am hgb;clear hb hbox hgb))
   obtain ⟨W5,hW5⟩:∃ W5,W5=(((w5.setCell ⟨gs,0,none⟩ (.string y.f0)).setCell ⟨gs,1,none⟩ (.int .i64 y.f1)).setCell ⟨gs,2,none⟩ (.slice B2 y.f2.length e2)):=⟨_,rfl⟩
   rw [← hW5]
   have HXs5:Aside0 (W5.heap[gs]?=some (.cells #[.string y.f0,.int .i64 y.f1,.slice B2 y.f2.length e2] 108 (0,0))):=⟨by rw [hW5,(blk_set (blk_set (blk_set HX5.out 0 _) 1 _) 2 _)];simp only [nm]⟩
   have HBr:Aside0 (Below wr.heap.size wr W5):=⟨by rw [hW5];exact (below_set (below_set (below_set HB5_.out (by have:=HG5.out;omega)) (by have:=HG5.out;omega)) (by have:=HG5.out;omega))⟩
   have HGS:Aside0 (wr.heap.size≤gs):=⟨by have:=HG5.out;omega⟩
   have HXk5:=am (blk_below HXk.out HBr.out)
   have HXr5:=am (blk_below HXr.out HBr.out)
   have HR5:=am (Kd.R_below HR.out HBr.out)
   have HB5:=am (below_step HB.out HBr.out)
   have HBS5:Aside0 (B≤W5.heap.size):=⟨Nat.le_trans HBS.out HBr.out.size⟩
   have hc5:=fun W2 (hb:Below W5.heap.size W5 W2)=>HCALL.out W2 (below_step HBr.out hb)
   clear HCALL
   have HCALL:=am hc5
   clear hc5 hW5 HX5 HB5_ HG5 y0 z0 y1 z1 y2 z2 hx0 hx1 hx2
   refine sv 9 (fun w'=>w'.cell? ⟨gk,3,none⟩=some (.slice Av xs1.length cv)∧w'.frozen? ⟨gk,3,none⟩=false∧w'.cell? ⟨gs,0,none⟩=some (.string y.f0)∧w'.cell? ⟨gs,1,none⟩=some (.int .i64 y.f1)∧w'.cell? ⟨gs,2,none⟩=some (.slice B2 y.f2.length e2)) [8] ⟨bz HXk5.out 3 rfl,blk_frozen HXk5.out 3,bz HXs5.out 0 rfl,bz HXs5.out 1 rfl,bz HXs5.out 2 rfl⟩ fun hHeld=>?_
   refine pv 0 15 ?_
   refine pv 2 17 ?_
   refine tv 1 16 ?_
   refine tv 3 18 ?_
   refine ov 4 19 fun K hK=>?_
   refine goesK_ HF.out.1 HF.out.2.1 HF.out.2.2 #[.agg #[.string y.f0,.int .i64 y.f1,.slice B2 y.f2.length e2]] (by rfl) rfl rfl (by rfl) (by (try simp only [List.map_toArray,List.map_cons,List.map_nil]);first|done|rfl) ?_
   refine (HCALL.out _ (below_drew (Below.refl _ _))).mono ?_
   rintro e w4 ⟨⟨nd,cs,rfl,hnk,hM⟩,hb⟩
   obtain ⟨B2,d2,B3,d3,rfl,_,_,_,_⟩:=k76_open (k76.K_of_M hM)
   have HM4:=am (M_fresh hM)
   have HNK:=am hnk
   have HR4:=am (Kd.R_below (Kd.R_drew HR5.out) hb)
   have HXk4:=am (blk_below (blk_drew HXk5.out) hb)
   have HXr4:=am (blk_below (blk_drew HXr5.out) hb)
   have HXs4:=am (blk_below (blk_drew HXs5.out) hb)
   have HB4:=am (below_step (below_drew HB5.out) hb)
   have HB4x:Aside0 (W5.heap.size≤w4.heap.size):=⟨hb.size⟩
   clear hb hM hnk
   refine ⟨_,rfl,?_⟩
   refine hK.out _ _ ⟨bz HXk4.out 3 rfl,blk_frozen HXk4.out 3,bz HXs4.out 0 rfl,bz HXs4.out 1 rfl,bz HXs4.out 2 rfl⟩ (fun hHeld=>?_)
   clear hK K
   refine nv 19 ?_
   refine ov 5 20 fun K hK=>?_
   obtain ⟨xs2,hxs2⟩:∃ z,z=xs1++[nd]:=⟨_,rfl⟩
   have HY1:=am hxs2
   clear hxs2
   refine value_ (v:=.slice (some ⟨w4.heap.size,0,none⟩) 1 1) (w1:=w4.alloc (.cells #[.int .i64 nd.f0,.string nd.f1,.slice B2 nd.f2.length d2,.slice B3 nd.f3.length d3] 76)) (by rfl) rfl (by first|(go_simp;done)|(go_simp;rfl)) ?_
   refine hK.out _ _ ⟨(blk_cell (blk_alloc HXk4.out _) 3).trans rfl,blk_frozen (blk_alloc HXk4.out _) 3,(blk_cell (blk_alloc HXs4.out _) 0).trans rfl,(blk_cell (blk_alloc HXs4.out _) 1).trans rfl,(blk_cell (blk_alloc HXs4.out _) 2).trans rfl⟩ (fun hHeld=>?_)
   clear hK K
   refine nv 20 ?_
   refine ov 6 21 fun K hK=>?_
   refine Kd.R_append_step k76 (w0:=w4) B (by rfl) (.tmp 16) (.tmp 20) 74 76 NodeV 72 rfl Tryz.underlying74 info_node rfl (by decide) (by decide) (.slice Av xs1.length cv) xs1 nd [.int .i64 nd.f0,.string nd.f1,.slice B2 nd.f2.length d2,.slice B3 nd.f3.length d3] (fun _=>True) (fun k=>W5.drew.heap.size≤k) rfl rfl ?aP ?aK (fun _ _=>trivial) ?aO ?aB ?aS ?aL ?_
   case aP=>exact k76.M_lower HBS5.out HM4.out
   case aK=>exact fun k hk=>⟨trivial,fun e=>by have h1:=Kd.R_lt HR5.out k e.symm;have h2:W5.heap.size≤k:=hk;omega⟩
   case aO=>exact HR4.out
   case aB=>exact Below.refl _ _
   case aS=>exact Nat.le_trans HBS5.out HB4x.out
   case aL=>have:=HXL.out;omega
   intro v1 wa ho hb hg hat
   rw [← HY1.out] at ho
   obtain ⟨Aw,cw,rfl⟩:=Kd.R_slice ho
   have HRa:=am ho
   have HXka:=am ((hb.block gk HGB.out.1).trans HXk4.out)
   have HXra:=am ((hb.block gr HGB.out.2).trans HXr4.out)
   have HXsa:=am ((blk_grown HXs4.out hg (fun e=>by have h1:=Kd.R_lt HR.out gs e.symm;have h2:=HGS.out;omega)))
   have HBa:=am (below_weaken HB4.out HGE3.out hb)
   have HBax:Aside0 (B≤wa.heap.size):=⟨Nat.le_trans HBS5.out (Nat.le_trans HB4x.out hb.size)⟩
   clear ho hb hg hat
   refine hK.out _ _ ⟨bz HXka.out 3 rfl,blk_frozen HXka.out 3,bz HXsa.out 0 rfl,bz HXsa.out 1 rfl,bz HXsa.out 2 rfl⟩ (fun hHeld=>?_)
   clear hK K
   refine nv 21 ?_
   refine pv 7 22 ?_
   refine zv 8 fun K hK=>?_
   have s3:wa.cell? ⟨gk,3,none⟩=some (.slice Av xs1.length cv):=bz HXka.out 3 rfl
   have f3:=blk_frozen HXka.out 3
   refine skip_ (w1:=wa.setCell ⟨gk,3,none⟩ (.slice Aw xs2.length cw)) (by rfl) rfl (by first|(go_simp;done)|(go_simp;rfl)) ?_
   refine hK.out _ _ ?_
   clear hK K
   refine done_ (by kernel_rfl) ?_
   go_wp2
   go_roundw
   case rel=>exact ⟨i+1,_,xs2,by first|exact congrArg (Value.int .i64) HW1.out|rfl,⟨HLT.out⟩,⟨by rw [blk_set HXka.out 3 _];simp only [nm]⟩,⟨blk_far HXra.out HNE.out _⟩,⟨R_low HRa.out HGB.out.1⟩,⟨by rw [HY1.out,List.length_append,HNS.out.1];rfl,fun y hy=>by rw [HY1.out,List.mem_append,List.mem_singleton] at hy;rcases hy with hy|rfl;(exact HNS.out.2 y hy);exact HNK.out⟩,⟨below_set HBa.out HGE.out.2⟩,⟨by show B≤(wa.setCell _ _).heap.size;rw [size_setCellN];exact HBax.out⟩⟩
   case measure=>first|exact meas_wrap rfl HLT.out HW1.out|exact meas_plain HLT.out
  ·obtain rfl:i=xs.length:=by have:=HI.out;omega
   have b1:decide ((xs.length:Int)<(xs.length:Int))=false:=decide_eq_false (by omega)
   obtain ⟨y0,y1,y2,y3⟩:=cc4 HXk.out
   obtain ⟨x0,x1,x2,x3⟩:=cc4 HXr.out
   have z0:=blk_frozen HXr.out 0
   have z1:=blk_frozen HXr.out 1
   have z2:=blk_frozen HXr.out 2
   have z3:=blk_frozen HXr.out 3
   go_wp2
   have hend:(((((wr.setCell ⟨gr,0,none⟩ (.int .i64 2)).setCell ⟨gr,1,none⟩ (.string (⟨#[]⟩:ByteArray))).setCell ⟨gr,2,none⟩ (.slice none 0 0)).setCell ⟨gr,3,none⟩ (.slice Av xs1.length cv))).heap[gr]?=some (.cells #[.int .i64 2,.string (⟨#[]⟩:ByteArray),.slice none 0 0,.slice Av xs1.length cv] 76 (0,0)):=by rw [(blk_set (blk_set (blk_set (blk_set HXr.out 0 _) 1 _) 2 _) 3 _)];simp only [nm]
   refine bodyPost_ret (results_cell_row rfl _ _ gr 76 #[.int .i64 2,.string (⟨#[]⟩:ByteArray),.slice none 0 0,.slice Av xs1.length cv] (0,0) _ rfl (hend) Tryz.underlying76 rfl (by kernel_rfl)) rfl ?_
   refine ⟨⟨⟨2,⟨#[]⟩,[],xs1⟩,_,rfl,.inr ⟨rfl,by show xs1.length≤16;rw [HNS.out.1];exact H16.out,HNS.out.2,.inl ⟨rfl,rfl⟩⟩,?_⟩,(below_set (below_set (below_set (below_set HB.out HGE.out.1) HGE.out.1) HGE.out.1) HGE.out.1)⟩
   exact k76_mkM _ _ _ ⟨2,⟨#[]⟩,[],xs1⟩ (Kd.R_nil _ _ _ _ _) (Kd.R_lower (R_low (R_low (R_low (R_low HR.out HGB.out.2) HGB.out.2) HGB.out.2) HGB.out.2) HGE3.out)
theorem row_Text (F : Nat) (fn : Func) (k : Nat) (xs : List ByteArray) (hF : Tryz.prog.funcs[F]? = some fn ∧ (fn.name == "runtime.NumGoroutine") = false ∧ fn.body.isSome = true) (h16 : xs.length ≤ 16) (A : Option Addr) (c : Nat) (w : World) (hr : Kd.C Kd.string w A xs.length xs) (hof : OfV F k w xs) :
 Calls Tryz.prog 100 #[.slice A xs.length c,.func (.func F) #[] #[]] w fun e w'=>Made (k+1) w e w':=by
 have HF:=am hF
 have HR0:=am hr
 have HOF:=am hof
 have m16:(xs.length:Int)≤16:=by omega
 have H16:=am h16
 clear hF hr hof h16
 go_in
 go_upto_region 2 with (first|((with_reducible refine bv 4 #[.int .i64 0,.string (⟨#[]⟩:ByteArray),.slice none 0 0,.slice none 0 0] 76 ?_);intro gr hgb w1 hbox hb;have HX1:=am hbox;have HB1:=am hb;have HG1:=am hgb;clear hb hbox hgb)|((with_reducible refine bv 5 #[.int .i64 0,.string (⟨#[]⟩:ByteArray),.slice none 0 0,.slice none 0 0] 76 ?_);intro gk hgb w2 hbox hb;have HXr2:=bB HX1 hb;obtain ⟨y0,y1,y2,y3⟩:=cc4 hbox;have z0:=blk_frozen hbox 0;have z1:=blk_frozen hbox 1;have z2:=blk_frozen hbox 2;have z3:=blk_frozen hbox 3;have HX2:=am hbox;have HB2:=bS HB1 hb;have HG2:=am hgb;clear hb hbox hgb))
 have HGE:Aside0 (w.heap.size≤gr∧w.heap.size≤gk):=⟨by have h1:=HG1.out;have h2:=HG2.out;have h3:=HB1.out.size;omega⟩
 obtain ⟨W3,hW3⟩:∃ W3,W3=((((w2.setCell ⟨gk,0,none⟩ (.int .i64 2)).setCell ⟨gk,1,none⟩ (.string (⟨#[]⟩:ByteArray))).setCell ⟨gk,2,none⟩ (.slice none 0 0)).setCell ⟨gk,3,none⟩ (.slice none 0 0)):=⟨_,rfl⟩
 rw [← hW3]
 have hne:gr≠gk:=by have h1:=blk_lt HX1.out;have h2:=HG2.out;omega
 have HXk3:Aside0 (W3.heap[gk]?=some (.cells #[.int .i64 2,.string (⟨#[]⟩:ByteArray),.slice none 0 0,.slice none 0 0] 76 (0,0))):=⟨by rw [hW3,(blk_set (blk_set (blk_set (blk_set HX2.out 0 _) 1 _) 2 _) 3 _)];simp only [nm]⟩
 have HXr3:Aside0 (W3.heap[gr]?=some (.cells #[.int .i64 0,.string (⟨#[]⟩:ByteArray),.slice none 0 0,.slice none 0 0] 76 (0,0))):=⟨by rw [hW3];exact blk_far (blk_far (blk_far (blk_far HXr2.out hne _) hne _) hne _) hne _⟩
 have HB3:Aside0 (Below w.heap.size w W3):=⟨by rw [hW3];exact (below_set (below_set (below_set (below_set HB2.out HGE.out.2) HGE.out.2) HGE.out.2) HGE.out.2)⟩
 obtain ⟨B,hB⟩:∃ B,B=W3.heap.size:=⟨_,rfl⟩
 have HGB:Aside0 (gk<B∧gr<B):=⟨by rw [hB];exact ⟨blk_lt HXk3.out,blk_lt HXr3.out⟩⟩
 have HGE3:Aside0 (w.heap.size≤B):=⟨by rw [hB];exact HB3.out.size⟩
 have HBS3:Aside0 (B≤W3.heap.size):=⟨by rw [hB];exact Nat.le_refl _⟩
 have HNE:Aside0 (gr≠gk):=⟨hne⟩
 clear hW3 hB HX1 HX2 HXr2 HB1 HB2 HG1 HG2 y0 y1 y2 y3 z0 z1 z2 z3 hne
 go_wp2
 go_loopw [11] (fun u wr=>∃ (i:Nat) (v:Value) (ns:List S76),u=.int .i64 i∧Aside0 (i≤xs.length)∧Aside0 (wr.heap[gk]?=some (.cells #[.int .i64 2,.string (⟨#[]⟩:ByteArray),.slice none 0 0,v] 76 (0,0)))∧Aside0 (wr.heap[gr]?=some (.cells #[.int .i64 0,.string (⟨#[]⟩:ByteArray),.slice none 0 0,.slice none 0 0] 76 (0,0)))∧Aside0 (k76.R 76 wr B (fun _=>True) v ns)∧Aside0 (ns.length=i∧∀ y∈ns,NOK k y)∧Aside0 (Below w.heap.size w wr)∧Aside0 (B≤wr.heap.size)) (fun u _=>xs.length-(intOf u).toNat)
 case atStart=>exact ⟨0,_,[],rfl,⟨Nat.zero_le _⟩,HXk3,HXr3,⟨Kd.R_nil _ _ _ _ _⟩,⟨rfl,fun y hy=>absurd hy List.not_mem_nil⟩,HB3,HBS3⟩
 case round =>
  obtain ⟨i,v,xs1,rfl,HI,HXk,HXr,HR,HNS,HB,HBS⟩:=hrel
  obtain ⟨Av,cv,rfl⟩:=Kd.R_slice HR.out
  clear HXk3 HXr3 HB3 HBS3
  by_cases hlt:i<xs.length
  ·obtain ⟨ad,e,hc0⟩:=Kd.at_string (Kd.C_below HR0.out HB.out) (i:Int) (by omega) (by omega)
   cases e
   rw [rd_wd,Int.toNat_natCast] at hc0
   have hmem:wd xs i∈xs:=by unfold wd;exact mem_rd (i:=(i:Int)) (by omega) (by omega)
   have hcall:=fun W2 (hb:Below w.heap.size w W2)=>HOF.out _ hmem W2 hb
   generalize wd xs i=s at *
   have b1:decide ((i:Int)<(xs.length:Int))=true:=decide_eq_true (by omega)
   have hw1:wrap64 ((i:Int)+1)=((i+1:Nat):Int):=by unfold wrap64;omega
   have HCALL:=am hcall
   have HW1:=am hw1
   have HLT:=am hlt
   have HXL:Aside0 (xs1.length≤16):=⟨by rw [HNS.out.1];exact Nat.le_trans HI.out H16.out⟩
   clear hcall hw1 hmem
   go_upto_region 5 with (fail)
   refine sv 9 (fun w'=>w'.cell? ⟨gk,3,none⟩=some (.slice Av xs1.length cv)∧w'.frozen? ⟨gk,3,none⟩=false) [8] ⟨bz HXk.out 3 rfl,blk_frozen HXk.out 3⟩ fun hHeld=>?_
   refine pv 0 15 ?_
   refine pv 2 17 ?_
   refine pv 3 18 ?_
   refine tv 1 16 ?_
   refine ov 4 19 fun K hK=>?_
   refine goesK_ HF.out.1 HF.out.2.1 HF.out.2.2 #[.string s] (by rfl) rfl rfl (by rfl) (by (try simp only [List.map_toArray,List.map_cons,List.map_nil]);first|done|rfl) ?_
   refine (HCALL.out _ (below_drew HB.out)).mono ?_
   rintro e w4 ⟨⟨nd,cs,rfl,hnk,hM⟩,hb⟩
   obtain ⟨B2,d2,B3,d3,rfl,_,_,_,_⟩:=k76_open (k76.K_of_M hM)
   have HM4:=am (M_fresh hM)
   have HNK:=am hnk
   have HR4:=am (Kd.R_below (Kd.R_drew HR.out) hb)
   have HXk4:=am (blk_below (blk_drew HXk.out) hb)
   have HXr4:=am (blk_below (blk_drew HXr.out) hb)
   have HB4:=am (below_step (below_drew HB.out) hb)
   have HB4x:Aside0 (wr.heap.size≤w4.heap.size):=⟨hb.size⟩
   clear hb hM hnk
   refine ⟨_,rfl,?_⟩
   refine hK.out _ _ ⟨bz HXk4.out 3 rfl,blk_frozen HXk4.out 3⟩ (fun hHeld=>?_)
   clear hK K
   refine nv 19 ?_
   refine ov 5 20 fun K hK=>?_
   obtain ⟨xs2,hxs2⟩:∃ z,z=xs1++[nd]:=⟨_,rfl⟩
   have HY1:=am hxs2
   clear hxs2
   refine value_ (v:=.slice (some ⟨w4.heap.size,0,none⟩) 1 1) (w1:=w4.alloc (.cells #[.int .i64 nd.f0,.string nd.f1,.slice B2 nd.f2.length d2,.slice B3 nd.f3.length d3] 76)) (by rfl) rfl (by first|(go_simp;done)|(go_simp;rfl)) ?_
   refine hK.out _ _ ⟨(blk_cell (blk_alloc HXk4.out _) 3).trans rfl,blk_frozen (blk_alloc HXk4.out _) 3⟩ (fun hHeld=>?_)
   clear hK K
   refine nv 20 ?_
   refine ov 6 21 fun K hK=>?_
   refine Kd.R_append_step k76 (w0:=w4) B (by rfl) (.tmp 16) (.tmp 20) 74 76 NodeV 72 rfl Tryz.underlying74 info_node rfl (by decide) (by decide) (.slice Av xs1.length cv) xs1 nd [.int .i64 nd.f0,.string nd.f1,.slice B2 nd.f2.length d2,.slice B3 nd.f3.length d3] (fun _=>True) (fun k=>wr.drew.heap.size≤k) rfl rfl ?aP ?aK (fun _ _=>trivial) ?aO ?aB ?aS ?aL ?_
   case aP=>exact k76.M_lower HBS.out HM4.out
   case aK=>exact fun k hk=>⟨trivial,fun e=>by have h1:=Kd.R_lt HR.out k e.symm;have h2:wr.heap.size≤k:=hk;omega⟩
   case aO=>exact HR4.out
   case aB=>exact Below.refl _ _
   case aS=>exact Nat.le_trans HBS.out HB4x.out
   case aL=>have:=HXL.out;omega
   intro v1 wa ho hb hg hat
   rw [← HY1.out] at ho
   obtain ⟨Aw,cw,rfl⟩:=Kd.R_slice ho
   have HRa:=am ho
   have HXka:=am ((hb.block gk HGB.out.1).trans HXk4.out)
   have HXra:=am ((hb.block gr HGB.out.2).trans HXr4.out)
   have HBa:=am (below_weaken HB4.out HGE3.out hb)
   have HBax:Aside0 (B≤wa.heap.size):=⟨Nat.le_trans HBS.out (Nat.le_trans HB4x.out hb.size)⟩
   clear ho hb hg hat
   refine hK.out _ _ ⟨bz HXka.out 3 rfl,blk_frozen HXka.out 3⟩ (fun hHeld=>?_)
   clear hK K
   refine nv 21 ?_
   refine pv 7 22 ?_
   refine zv 8 fun K hK=>?_
   have s3:wa.cell? ⟨gk,3,none⟩=some (.slice Av xs1.length cv):=bz HXka.out 3 rfl
   have f3:=blk_frozen HXka.out 3
   refine skip_ (w1:=wa.setCell ⟨gk,3,none⟩ (.slice Aw xs2.length cw)) (by rfl) rfl (by first|(go_simp;done)|(go_simp;rfl)) ?_
   refine hK.out _ _ ?_
   clear hK K
   refine done_ (by kernel_rfl) ?_
   go_wp2
   go_roundw
   case rel=>exact ⟨i+1,_,xs2,by first|exact congrArg (Value.int .i64) HW1.out|rfl,⟨HLT.out⟩,⟨by rw [blk_set HXka.out 3 _];simp only [nm]⟩,⟨blk_far HXra.out HNE.out _⟩,⟨R_low HRa.out HGB.out.1⟩,⟨by rw [HY1.out,List.length_append,HNS.out.1];rfl,fun y hy=>by rw [HY1.out,List.mem_append,List.mem_singleton] at hy;rcases hy with hy|rfl;(exact HNS.out.2 y hy);exact HNK.out⟩,⟨below_set HBa.out HGE.out.2⟩,⟨by show B≤(wa.setCell _ _).heap.size;rw [size_setCellN];exact HBax.out⟩⟩
   case measure=>first|exact meas_wrap rfl HLT.out HW1.out|exact meas_plain HLT.out
  ·obtain rfl:i=xs.length:=by have:=HI.out;omega
   have b1:decide ((xs.length:Int)<(xs.length:Int))=false:=decide_eq_false (by omega)
   obtain ⟨y0,y1,y2,y3⟩:=cc4 HXk.out
   obtain ⟨x0,x1,x2,x3⟩:=cc4 HXr.out
   have z0:=blk_frozen HXr.out 0
   have z1:=blk_frozen HXr.out 1
   have z2:=blk_frozen HXr.out 2
   have z3:=blk_frozen HXr.out 3
   go_wp2
   have hend:(((((wr.setCell ⟨gr,0,none⟩ (.int .i64 2)).setCell ⟨gr,1,none⟩ (.string (⟨#[]⟩:ByteArray))).setCell ⟨gr,2,none⟩ (.slice none 0 0)).setCell ⟨gr,3,none⟩ (.slice Av xs1.length cv))).heap[gr]?=some (.cells #[.int .i64 2,.string (⟨#[]⟩:ByteArray),.slice none 0 0,.slice Av xs1.length cv] 76 (0,0)):=by rw [(blk_set (blk_set (blk_set (blk_set HXr.out 0 _) 1 _) 2 _) 3 _)];simp only [nm]
   refine bodyPost_ret (results_cell_row rfl _ _ gr 76 #[.int .i64 2,.string (⟨#[]⟩:ByteArray),.slice none 0 0,.slice Av xs1.length cv] (0,0) _ rfl (hend) Tryz.underlying76 rfl (by kernel_rfl)) rfl ?_
   refine ⟨⟨⟨2,⟨#[]⟩,[],xs1⟩,_,rfl,.inr ⟨rfl,by show xs1.length≤16;rw [HNS.out.1];exact H16.out,HNS.out.2,.inl ⟨rfl,rfl⟩⟩,?_⟩,(below_set (below_set (below_set (below_set HB.out HGE.out.1) HGE.out.1) HGE.out.1) HGE.out.1)⟩
   exact k76_mkM _ _ _ ⟨2,⟨#[]⟩,[],xs1⟩ (Kd.R_nil _ _ _ _ _) (Kd.R_lower (R_low (R_low (R_low (R_low HR.out HGB.out.2) HGB.out.2) HGB.out.2) HGB.out.2) HGE3.out)
end Go.Proofs.YthofmfaeccdckaaGreatDoor.P
