/- What these functions of the program compute, and plain lemmas on it. Conditions: as each lemma says. -/
import Derived.Test.YthofmfaeccdckaaGreatDoorMTop2
import Derived.Test.YthofmfaeccdckaaGreatDoorMTop1
import Derived.Laws.Rows
import Derived.Lib.ConvBytes
import Derived.Laws.BytesArg
set_option linter.unusedVariables false
set_option linter.unusedSimpArgs false
set_option maxHeartbeats 40000000
set_option maxRecDepth 20000
namespace Go.Proofs.YthofmfaeccdckaaGreatDoor.P
open Go.RowKit Go.Proofs.YthofmfaeccdckaaGreatDoorW.PrintWords Go.Proofs.YthofmfaeccdckaaGreatDoorW.PrintLast Go.Proofs.YthofmfaeccdckaaGreatDoorW.PrintMore
def mwAt (ws:List ByteArray) (i:Nat):Bool:=wordB (wd ws i) && (!decide (0<i) || ltB (wd ws (i-1)) (wd ws i))
def mostI (how:Int):Int:=if 2<how then 8 else 1
def matchB (x:S108):Bool:=upTo (mwAt x.f2) x.f2.length && (isSign x.f1 && setB [⟨x.f0,⟨#[120]⟩⟩] && decide (1≤(x.f2.length:Int)) && decide ((x.f2.length:Int)≤mostI x.f1))
theorem mright_any (x:S108) (A2:Option Addr) (c2:Nat) (w:World) (hw:(Lit.int .i64 x.f1).wf=true) (hz:(x.f0.size:Int)≤9223372036854775807) (l2:x.f2.length≤c2) (h2:Kd.C Kd.string w A2 x.f2.length x.f2) :
 Calls Tryz.prog 63 #[.agg #[.string x.f0,.int .i64 x.f1,.slice A2 x.f2.length c2]] w fun e w'=>e=.returned (.bool (matchB x))∧Below w.heap.size w w':=by
 have m1:(x.f2.length:Int)≤9223372036854775807:=by have:=h2.2.1;omega
 have HR:=am h2
 have HWF:=am hw
 have HZ:=am hz
 obtain ⟨q0,e0⟩:∃ q,decide (2<x.f1)=q:=⟨_,rfl⟩
 have hm:mostI x.f1=if q0=true then 8 else 1:=by
  unfold mostI
  rw [← e0]
  simp only [decide_eq_true_eq]
 have HM:=am hm
 clear h2 hw hz hm
 cases q0
 all_goals
  go_in
  go_wp2_with ((with_reducible refine bv 1 #[.string x.f0,.int .i64 x.f1,.slice A2 x.f2.length c2] 108 ?_);intro gb hgb w1 hbox hb;obtain ⟨y0,y1,y2⟩:=cc3 hbox;have HX1:=am hbox;have HB1:=am hb;clear hb hbox hgb)
  go_loopw [14] (fun v wr=>∃ i:Nat,v=.int .i64 i∧Aside0 (i≤x.f2.length)∧Aside0 (upTo (mwAt x.f2) i=true)∧Aside0 (Below w.heap.size w wr)∧Aside0 (wr.heap[gb]?=some (.cells #[.string x.f0,.int .i64 x.f1,.slice A2 x.f2.length c2] 108 (0,0)))) (fun v _=>x.f2.length-(intOf v).toNat)
  case atStart=>exact ⟨0,rfl,⟨Nat.zero_le _⟩,⟨rfl⟩,HB1,HX1⟩
  case round =>
   obtain ⟨i,rfl,HI,HU,HB,HX⟩:=hrel
   clear y0 y1 y2 HB1 HX1
   by_cases hlt:i<x.f2.length
   ·obtain ⟨ad,e,hc0⟩:=Kd.at_string (Kd.C_below HR.out HB.out) i (by omega) (by omega)
    cases e
    rw [rd_wd,Int.toNat_natCast] at hc0
    have b1:decide ((i:Int)<(x.f2.length:Int))=true:=decide_eq_true (by omega)
    have hw1:wrap64 ((i:Int)+1)=((i+1:Nat):Int):=by unfold wrap64;omega
    have hwd:=fun W=>word_any (wd x.f2 i) W
    have hok:mwAt x.f2 i=(wordB (wd x.f2 i) && (!decide (0<i) || ltB (wd x.f2 (i-1)) (wd x.f2 i))):=rfl
    obtain ⟨q1,e1⟩:∃ q,wordB (wd x.f2 i)=q:=⟨_,rfl⟩
    obtain ⟨q2,e2⟩:∃ q,decide (0<i)=q:=⟨_,rfl⟩
    obtain ⟨q3,e3⟩:∃ q,ltB (wd x.f2 (i-1)) (wd x.f2 i)=q:=⟨_,rfl⟩
    rw [e1,e2,e3] at hok
    simp only [e1] at hwd
    have HOK:=am hok
    have HWD:=am hwd
    have HW1:=am hw1
    have HLT:=am hlt
    have HE3:=am e3
    clear e3
    clear hok hwd hw1 e1
    cases q1 with
    | false =>
      go_wp2_with (go_at_call 127;refine (HWD.out _).mono ?_;rintro e w2 ⟨rfl,hb⟩;have HB2:=bS HB hb;have HX2:=bB HX hb;have y2:w2.cell? ⟨gb,2,none⟩=some (.slice (some ad) x.f2.length c2):=bz HX2.out 2 rfl;clear hb)
      go_ret
      refine ⟨congrArg (fun b:Bool=>Ending.returned (.bool b)) ?_,HB2.out⟩
      unfold matchB
      rw [upTo_no HLT.out HOK.out]
      rfl
    | true =>
      cases q2 with
      | false =>
        go_wp2_with (go_at_call 127;refine (HWD.out _).mono ?_;rintro e w2 ⟨rfl,hb⟩;have HB2:=bS HB hb;have HX2:=bB HX hb;have y2:w2.cell? ⟨gb,2,none⟩=some (.slice (some ad) x.f2.length c2):=bz HX2.out 2 rfl;clear hb)
        go_roundw
        case rel=>exact ⟨i+1,by first|exact congrArg (Value.int .i64) HW1.out|rfl,⟨HLT.out⟩,⟨upTo_step HU.out HOK.out⟩,HB2,HX2⟩
        case measure =>
         have h1:=HW1.out
         have h2:=HLT.out
         simp only [intOf]
         omega
      | true =>
        have h0:0<i:=of_decide_eq_true e2
        have hP:∀ W,Below w.heap.size w W→W.cell? (ad.add (i-1))=some (.string (wd x.f2 (i-1))):=fun W hb=>by
         obtain ⟨ad'',e'',hp0⟩:=Kd.at_string (Kd.C_below HR.out hb) ((i-1:Nat):Int) (by omega) (by omega)
         cases e''
         rw [rd_wd,Int.toNat_natCast] at hp0
         exact hp0
        have HP:=am hP
        have e4:Op.bytesLess (wd x.f2 (i-1)).toList (wd x.f2 i).toList=q3:=HE3.out
        clear hP
        cases q3 with
        | false =>
          go_wp2_with (go_at_call 127;refine (HWD.out _).mono ?_;rintro e w2 ⟨rfl,hb⟩;have HB2:=bS HB hb;have HX2:=bB HX hb;have y2:w2.cell? ⟨gb,2,none⟩=some (.slice (some ad) x.f2.length c2):=bz HX2.out 2 rfl;have y9:=HP.out _ HB2.out;clear hb)
          go_ret
          refine ⟨congrArg (fun b:Bool=>Ending.returned (.bool b)) ?_,HB2.out⟩
          unfold matchB
          rw [upTo_no HLT.out HOK.out]
          rfl
        | true =>
          go_wp2_with (go_at_call 127;refine (HWD.out _).mono ?_;rintro e w2 ⟨rfl,hb⟩;have HB2:=bS HB hb;have HX2:=bB HX hb;have y2:w2.cell? ⟨gb,2,none⟩=some (.slice (some ad) x.f2.length c2):=bz HX2.out 2 rfl;have y9:=HP.out _ HB2.out;clear hb)
          go_roundw
          case rel=>exact ⟨i+1,by first|exact congrArg (Value.int .i64) HW1.out|rfl,⟨HLT.out⟩,⟨upTo_step HU.out HOK.out⟩,HB2,HX2⟩
          case measure =>
           have h1:=HW1.out
           have h2:=HLT.out
           simp only [intOf]
           omega
   ·obtain rfl:i=x.f2.length:=by have:=HI.out;omega
    have b1:decide ((x.f2.length:Int)<(x.f2.length:Int))=false:=decide_eq_false (by omega)
    go_wp2
    refine sv 9 (fun w'=>w'.cell? ⟨gb,1,none⟩=some (.int .i64 x.f1)) [] (bz HX.out 1 rfl) fun hHeld=>?_
    refine pv 1 39 ?_
    refine tv 2 40 ?_
    refine ca_ 0 (fl 9 7) (some 38) Tryz.func128 (by kernel_rfl) rfl #[] rfl rfl (by kernel_rfl) (by decide) (by rfl) rfl (by (try simp only [List.map_toArray,List.map_cons,List.map_nil]);first|done|rfl) ?_
    refine (signs_new _).mono ?_
    rintro e w2 ⟨mb,rfl,hsg,hb⟩
    have HB2:=am (below_step (below_drew HB.out) hb)
    have HX2:=am (blk_below (blk_drew HX.out) hb)
    have HSG:=am hsg
    clear hb hsg
    refine ⟨_,rfl,(bz HX2.out 1 rfl),fun hHeld a' ha=>?_⟩
    simp only [nm] at ha
    subst ha
    refine ov 3 41 fun K hK=>?_
    refine look2_ (b:=mb) (how:=x.f1) (by rfl) rfl rfl (by rfl) (by rfl) HSG.out HWF.out rfl rfl ?_
    intro w3 hb hsg
    have HB3:=bS HB2 hb
    have HX3:=bB HX2 hb
    clear hb hsg
    refine hK.out _ _ (bz HX3.out 1 rfl) (fun hHeld=>?_)
    clear hK K
    refine nv 41 ?_
    refine pv 4 37 ?_
    refine pv 5 42 ?_
    refine pv 6 43 ?_
    refine pv 7 6 ?_
    refine pv 8 7 ?_
    refine done_ (by kernel_rfl) ?_
    have hval:matchB x=(isSign x.f1 && setB [⟨x.f0,⟨#[120]⟩⟩] && decide (1≤(x.f2.length:Int)) && decide ((x.f2.length:Int)≤mostI x.f1)):=by
     unfold matchB
     rw [HU.out,Bool.true_and]
    have hset:=fun g (W:World) (hx:W.heap[g]?=some (.cells ([.string x.f0,.string ⟨#[120]⟩]:List Value).toArray 105 (0,0)))=>lright_any [⟨x.f0,⟨#[120]⟩⟩] (fun y hy=>by rw [List.mem_singleton] at hy;rw [hy];exact HZ.out) (some ⟨g,0,none⟩) 1 W (C_single hx (k105_mk W ⟨x.f0,⟨#[120]⟩⟩))
    obtain ⟨q4,e4⟩:∃ q,isSign x.f1=q:=⟨_,rfl⟩
    obtain ⟨q5,e5⟩:∃ q,setB [⟨x.f0,⟨#[120]⟩⟩]=q:=⟨_,rfl⟩
    obtain ⟨q6,e6⟩:∃ q,decide (1≤(x.f2.length:Int))=q:=⟨_,rfl⟩
    obtain ⟨q7,e7⟩:∃ q,decide ((x.f2.length:Int)≤mostI x.f1)=q:=⟨_,rfl⟩
    rw [e4,e5,e6,e7] at hval
    rw [HM.out] at e7
    (try simp only [Bool.false_eq_true,if_true,if_false,↓reduceIte] at e7)
    simp only [e5] at hset
    rw [e4]
    have HV:=am hval
    have HS:=am hset
    obtain ⟨y0,-,y2⟩:=cc3 HX3.out
    clear hval hset e4 e5
    rcases chain4 q4 q5 q6 q7 with rfl|⟨rfl,rfl⟩|⟨rfl,rfl,rfl⟩|⟨rfl,rfl,rfl,rfl⟩|⟨rfl,rfl,rfl,rfl⟩ <;>
    (go_wp2_with (first|((with_reducible refine gate_dst (N:=49) rfl ?_);refine lit_guard (N:=49) ?hd (by rfl) (cs:=#[.string x.f0,.string (⟨#[120]⟩:ByteArray)]) (t:=105) (n:=1) ?hr ?_;(case hd=>rfl);(case hr=>first|(go_simp;done)|(go_simp;rfl));intro gl hgb w4 hbox hb;have HX4:=am hbox;have HB4:=bS HB3 hb;have HB34:=am hb;clear hb hbox hgb)|(go_at_call 55;refine (HS.out _ _ HX4.out).mono ?_;rintro e w5 ⟨rfl,hb⟩;have HB5:=bS HB4 hb;have y2':w5.cell? ⟨gb,2,none⟩=some (.slice A2 x.f2.length c2):=(pw_cell_below hb (pw_cell_below HB34.out y2));clear hb))
     go_ret
     refine ⟨congrArg (fun b:Bool=>Ending.returned (.bool b)) (Eq.trans ?_ HV.out.symm),by first|exact HB5.out|exact HB3.out⟩
     first|rfl|(simp;done))
theorem all1_Hours (F : Nat) (fn : Func) (cap : Array Value) (p : S54 → Bool) (xs : List S54) (w W : World) (g : Nat) (hF : Tryz.prog.funcs[F]? = some fn ∧ (fn.name == "runtime.NumGoroutine") = false ∧ fn.body.isSome = true) (hc : ClosA Tryz.prog F cap k54 w p xs) (hW : Below w.heap.size w W) (hg : W.heap[g]? = some (.cells #[.func (.func F) #[] cap] 55 (0, 0))) : ClosA Tryz.prog 64 #[.pointer (some ⟨g, 0, none⟩)] k54 W (fun x => !p x) xs := by
 intro x hx W1 cs hb hk
 obtain rfl:=k54_open hk
 have hcall:=fun W2 (hb2:Below W1.heap.size W1 W2)=>hc x hx W2 [.string x.f0,.int .i64 x.f1,.int .i64 x.f2,.int .i64 x.f3] (below_step hW (below_step hb hb2)) (k54_mk _ x )
 show Calls Tryz.prog 64 #[.agg #[.string x.f0,.int .i64 x.f1,.int .i64 x.f2,.int .i64 x.f3],.pointer (some ⟨g,0,none⟩)] W1 fun e W'=>e=.returned (.bool (!p x))∧Below W1.heap.size W1 W'
 generalize p x=q at *
 have HCALL:=am hcall
 have HG:=am (blk_below hg hb)
 have HF:=am hF
 clear hcall hc hF hg hb hW hx
 go_in
 go_wp2_with (first|((with_reducible refine bv 2 #[.string x.f0,.int .i64 x.f1,.int .i64 x.f2,.int .i64 x.f3] 54 ?_);intro gb hgb w1 hbox hb;obtain ⟨y0,y1,y2,y3⟩:=cc4 hbox;have yf:w1.cell? ⟨g,0,none⟩=some (.func (.func F) #[] cap):=(blk_cell (blk_below HG.out hb) 0).trans rfl;have HX1:=am hbox;have HB1:=am hb;clear hb hbox hgb)|((with_reducible refine gate_dst (N:=6) rfl ?_);go_must (refine gV 6 HF.out.1 HF.out.2.1 HF.out.2.2 #[.agg #[.string x.f0,.int .i64 x.f1,.int .i64 x.f2,.int .i64 x.f3]] ?_);refine (HCALL.out _ HB1.out).mono ?_;rintro e w2 ⟨rfl,hb⟩;refine ⟨_,rfl,?_⟩;have HB2:=bS HB1 hb;clear hb))
 go_ret
 exact ⟨rfl,HB2.out⟩
theorem all_Hours (F : Nat) (fn : Func) (cap : Array Value) (p : S54 → Bool) (A : Option Addr) (c : Nat) (xs : List S54) (most : Int) (w : World) (hF : Tryz.prog.funcs[F]? = some fn ∧ (fn.name == "runtime.NumGoroutine") = false ∧ fn.body.isSome = true) (hr : Kd.C k54 w A xs.length xs) (hc : ClosA Tryz.prog F cap k54 w p xs) :
 Calls Tryz.prog 18 #[.slice A xs.length c,.int .i64 most,.func (.func F) #[] cap] w fun e w'=>e=.returned (.bool (decide ((xs.length:Int)≤most) && xs.all p))∧Below w.heap.size w w':=by
 have hin:=fun g W (hb:Below w.heap.size w W) hg=>has_Hours 64 _ #[.pointer (some ⟨g,0,none⟩)] (fun x=>!p x) A c xs W ⟨Tryz.func64,by kernel_rfl,rfl⟩ (Kd.C_below hr hb) (all1_Hours F fn cap p xs w W g hF hc hb hg)
 rw [show xs.all p=!xs.any (fun x=>!p x) from by rw [List.all_eq_not_any_not]]
 generalize xs.any (fun x=>!p x)=q at *
 have HIN:=am hin
 clear hin hr hc hF
 rcases e2:decide ((xs.length:Int)≤most) with _|_ <;>
 (go_in
  go_wp2_with (first|((with_reducible refine bv 5 #[.func (.func F) #[] cap] 55 ?_);intro gb hgb w1 hbox hb;have HX1:=am hbox;have HB1:=am hb;clear hb hbox hgb)|(go_at_call 30;refine (HIN.out _ _ HB1.out HX1.out).mono ?_;rintro e w2 ⟨rfl,hb⟩;have HB2:=bS HB1 hb;clear hb))
  go_ret
  exact ⟨rfl,by first|exact HB2.out|exact HB1.out⟩)
theorem all1_Text (F : Nat) (fn : Func) (cap : Array Value) (p : ByteArray → Bool) (xs : List ByteArray) (w W : World) (g : Nat) (hF : Tryz.prog.funcs[F]? = some fn ∧ (fn.name == "runtime.NumGoroutine") = false ∧ fn.body.isSome = true) (hc : ClosV Tryz.prog F cap Value.string w p xs) (hW : Below w.heap.size w W) (hg : W.heap[g]? = some (.cells #[.func (.func F) #[] cap] 47 (0, 0))) : ClosV Tryz.prog 58 #[.pointer (some ⟨g, 0, none⟩)] Value.string W (fun x => !p x) xs := by
 intro x hx W1 hb
 have hcall:=fun W2 (hb2:Below W1.heap.size W1 W2)=>hc x hx W2 (below_step hW (below_step hb hb2))
 have yf:W1.cell? ⟨g,0,none⟩=some (.func (.func F) #[] cap):=(blk_cell (blk_below hg hb) 0).trans rfl
 show Calls Tryz.prog 58 #[.string x,.pointer (some ⟨g,0,none⟩)] W1 fun e W'=>e=.returned (.bool (!p x))∧Below W1.heap.size W1 W'
 generalize p x=q at *
 have HCALL:=am hcall
 have HG:=am (blk_below hg hb)
 have HF:=am hF
 clear hcall hc hF hg hb hW hx
 go_in
 go_wp2_with (first|((with_reducible refine gate_dst (N:=6) rfl ?_);go_must (refine gV 6 HF.out.1 HF.out.2.1 HF.out.2.2 #[.string x] ?_);refine (HCALL.out _ (Below.refl _ _)).mono ?_;rintro e w2 ⟨rfl,hb⟩;refine ⟨_,rfl,?_⟩;have HB2:=am hb;clear hb))
 go_ret
 exact ⟨rfl,HB2.out⟩
theorem all_Text (F : Nat) (fn : Func) (cap : Array Value) (p : ByteArray → Bool) (A : Option Addr) (c : Nat) (xs : List ByteArray) (most : Int) (w : World) (hF : Tryz.prog.funcs[F]? = some fn ∧ (fn.name == "runtime.NumGoroutine") = false ∧ fn.body.isSome = true) (hr : Kd.C Kd.string w A xs.length xs) (hc : ClosV Tryz.prog F cap Value.string w p xs) :
 Calls Tryz.prog 14 #[.slice A xs.length c,.int .i64 most,.func (.func F) #[] cap] w fun e w'=>e=.returned (.bool (decide ((xs.length:Int)≤most) && xs.all p))∧Below w.heap.size w w':=by
 have hin:=fun g W (hb:Below w.heap.size w W) hg=>has_Text 58 _ #[.pointer (some ⟨g,0,none⟩)] (fun x=>!p x) A c xs W ⟨Tryz.func58,by kernel_rfl,rfl⟩ (Kd.C_below hr hb) (all1_Text F fn cap p xs w W g hF hc hb hg)
 rw [show xs.all p=!xs.any (fun x=>!p x) from by rw [List.all_eq_not_any_not]]
 generalize xs.any (fun x=>!p x)=q at *
 have HIN:=am hin
 clear hin hr hc hF
 rcases e2:decide ((xs.length:Int)≤most) with _|_ <;>
 (go_in
  go_wp2_with (first|((with_reducible refine bv 5 #[.func (.func F) #[] cap] 47 ?_);intro gb hgb w1 hbox hb;have HX1:=am hbox;have HB1:=am hb;clear hb hbox hgb)|(go_at_call 57;refine (HIN.out _ _ HB1.out HX1.out).mono ?_;rintro e w2 ⟨rfl,hb⟩;have HB2:=bS HB1 hb;clear hb))
  go_ret
  exact ⟨rfl,by first|exact HB2.out|exact HB1.out⟩)
theorem all1_Rule (F : Nat) (fn : Func) (cap : Array Value) (p : S44 → Bool) (xs : List S44) (w W : World) (g : Nat) (hF : Tryz.prog.funcs[F]? = some fn ∧ (fn.name == "runtime.NumGoroutine") = false ∧ fn.body.isSome = true) (hc : ClosA Tryz.prog F cap k44 w p xs) (hW : Below w.heap.size w W) (hg : W.heap[g]? = some (.cells #[.func (.func F) #[] cap] 45 (0, 0))) : ClosA Tryz.prog 52 #[.pointer (some ⟨g, 0, none⟩)] k44 W (fun x => !p x) xs := by
 intro x hx W1 cs hb hk
 obtain ⟨A7,c7,rfl,l7,g7⟩:=k44_open hk
 have hcall:=fun W2 (hb2:Below W1.heap.size W1 W2)=>hc x hx W2 [.string x.f0,.string x.f1,.int .i64 x.f2,.int .i64 x.f3,.int .i64 x.f4,.int .i64 x.f5,.int .i64 x.f6,.slice A7 x.f7.length c7] (below_step hW (below_step hb hb2)) (k44_mk _ x l7 (Kd.C_below g7 hb2))
 show Calls Tryz.prog 52 #[.agg #[.string x.f0,.string x.f1,.int .i64 x.f2,.int .i64 x.f3,.int .i64 x.f4,.int .i64 x.f5,.int .i64 x.f6,.slice A7 x.f7.length c7],.pointer (some ⟨g,0,none⟩)] W1 fun e W'=>e=.returned (.bool (!p x))∧Below W1.heap.size W1 W'
 generalize p x=q at *
 have HCALL:=am hcall
 have HG:=am (blk_below hg hb)
 have HF:=am hF
 clear hcall hc hF hg hb hW hx
 go_in
 go_wp2_with (first|((with_reducible refine bv 2 #[.string x.f0,.string x.f1,.int .i64 x.f2,.int .i64 x.f3,.int .i64 x.f4,.int .i64 x.f5,.int .i64 x.f6,.slice A7 x.f7.length c7] 44 ?_);intro gb hgb w1 hbox hb;obtain ⟨y0,y1,y2,y3,y4,y5,y6,y7⟩:=cc8 hbox;have yf:w1.cell? ⟨g,0,none⟩=some (.func (.func F) #[] cap):=(blk_cell (blk_below HG.out hb) 0).trans rfl;have HX1:=am hbox;have HB1:=am hb;clear hb hbox hgb)|((with_reducible refine gate_dst (N:=6) rfl ?_);go_must (refine gV 6 HF.out.1 HF.out.2.1 HF.out.2.2 #[.agg #[.string x.f0,.string x.f1,.int .i64 x.f2,.int .i64 x.f3,.int .i64 x.f4,.int .i64 x.f5,.int .i64 x.f6,.slice A7 x.f7.length c7]] ?_);refine (HCALL.out _ HB1.out).mono ?_;rintro e w2 ⟨rfl,hb⟩;refine ⟨_,rfl,?_⟩;have HB2:=bS HB1 hb;clear hb))
 go_ret
 exact ⟨rfl,HB2.out⟩
theorem all_Rule (F : Nat) (fn : Func) (cap : Array Value) (p : S44 → Bool) (A : Option Addr) (c : Nat) (xs : List S44) (most : Int) (w : World) (hF : Tryz.prog.funcs[F]? = some fn ∧ (fn.name == "runtime.NumGoroutine") = false ∧ fn.body.isSome = true) (hr : Kd.C k44 w A xs.length xs) (hc : ClosA Tryz.prog F cap k44 w p xs) :
 Calls Tryz.prog 12 #[.slice A xs.length c,.int .i64 most,.func (.func F) #[] cap] w fun e w'=>e=.returned (.bool (decide ((xs.length:Int)≤most) && xs.all p))∧Below w.heap.size w w':=by
 have hin:=fun g W (hb:Below w.heap.size w W) hg=>has_Rule 52 _ #[.pointer (some ⟨g,0,none⟩)] (fun x=>!p x) A c xs W ⟨Tryz.func52,by kernel_rfl,rfl⟩ (Kd.C_below hr hb) (all1_Rule F fn cap p xs w W g hF hc hb hg)
 rw [show xs.all p=!xs.any (fun x=>!p x) from by rw [List.all_eq_not_any_not]]
 generalize xs.any (fun x=>!p x)=q at *
 have HIN:=am hin
 clear hin hr hc hF
 rcases e2:decide ((xs.length:Int)≤most) with _|_ <;>
 (go_in
  go_wp2_with (first|((with_reducible refine bv 5 #[.func (.func F) #[] cap] 45 ?_);intro gb hgb w1 hbox hb;have HX1:=am hbox;have HB1:=am hb;clear hb hbox hgb)|(go_at_call 51;refine (HIN.out _ _ HB1.out HX1.out).mono ?_;rintro e w2 ⟨rfl,hb⟩;have HB2:=bS HB1 hb;clear hb))
  go_ret
  exact ⟨rfl,by first|exact HB2.out|exact HB1.out⟩)
theorem all1_Inhibit (F : Nat) (fn : Func) (cap : Array Value) (p : S50 → Bool) (xs : List S50) (w W : World) (g : Nat) (hF : Tryz.prog.funcs[F]? = some fn ∧ (fn.name == "runtime.NumGoroutine") = false ∧ fn.body.isSome = true) (hc : ClosA Tryz.prog F cap k50 w p xs) (hW : Below w.heap.size w W) (hg : W.heap[g]? = some (.cells #[.func (.func F) #[] cap] 51 (0, 0))) : ClosA Tryz.prog 61 #[.pointer (some ⟨g, 0, none⟩)] k50 W (fun x => !p x) xs := by
 intro x hx W1 cs hb hk
 obtain ⟨A0,c0,A1,c1,A2,c2,rfl,l0,g0,l1,g1,l2,g2⟩:=k50_open hk
 have hcall:=fun W2 (hb2:Below W1.heap.size W1 W2)=>hc x hx W2 [.slice A0 x.f0.length c0,.slice A1 x.f1.length c1,.slice A2 x.f2.length c2] (below_step hW (below_step hb hb2)) (k50_mk _ x l0 (Kd.C_below g0 hb2) l1 (Kd.C_below g1 hb2) l2 (Kd.C_below g2 hb2))
 show Calls Tryz.prog 61 #[.agg #[.slice A0 x.f0.length c0,.slice A1 x.f1.length c1,.slice A2 x.f2.length c2],.pointer (some ⟨g,0,none⟩)] W1 fun e W'=>e=.returned (.bool (!p x))∧Below W1.heap.size W1 W'
 generalize p x=q at *
 have HCALL:=am hcall
 have HG:=am (blk_below hg hb)
 have HF:=am hF
 clear hcall hc hF hg hb hW hx
 go_in
 go_wp2_with (first|((with_reducible refine bv 2 #[.slice A0 x.f0.length c0,.slice A1 x.f1.length c1,.slice A2 x.f2.length c2] 50 ?_);intro gb hgb w1 hbox hb;obtain ⟨y0,y1,y2⟩:=cc3 hbox;have yf:w1.cell? ⟨g,0,none⟩=some (.func (.func F) #[] cap):=(blk_cell (blk_below HG.out hb) 0).trans rfl;have HX1:=am hbox;have HB1:=am hb;clear hb hbox hgb)|((with_reducible refine gate_dst (N:=6) rfl ?_);go_must (refine gV 6 HF.out.1 HF.out.2.1 HF.out.2.2 #[.agg #[.slice A0 x.f0.length c0,.slice A1 x.f1.length c1,.slice A2 x.f2.length c2]] ?_);refine (HCALL.out _ HB1.out).mono ?_;rintro e w2 ⟨rfl,hb⟩;refine ⟨_,rfl,?_⟩;have HB2:=bS HB1 hb;clear hb))
 go_ret
 exact ⟨rfl,HB2.out⟩
theorem all_Inhibit (F : Nat) (fn : Func) (cap : Array Value) (p : S50 → Bool) (A : Option Addr) (c : Nat) (xs : List S50) (most : Int) (w : World) (hF : Tryz.prog.funcs[F]? = some fn ∧ (fn.name == "runtime.NumGoroutine") = false ∧ fn.body.isSome = true) (hr : Kd.C k50 w A xs.length xs) (hc : ClosA Tryz.prog F cap k50 w p xs) :
 Calls Tryz.prog 16 #[.slice A xs.length c,.int .i64 most,.func (.func F) #[] cap] w fun e w'=>e=.returned (.bool (decide ((xs.length:Int)≤most) && xs.all p))∧Below w.heap.size w w':=by
 have hin:=fun g W (hb:Below w.heap.size w W) hg=>has_Inhibit 61 _ #[.pointer (some ⟨g,0,none⟩)] (fun x=>!p x) A c xs W ⟨Tryz.func61,by kernel_rfl,rfl⟩ (Kd.C_below hr hb) (all1_Inhibit F fn cap p xs w W g hF hc hb hg)
 rw [show xs.all p=!xs.any (fun x=>!p x) from by rw [List.all_eq_not_any_not]]
 generalize xs.any (fun x=>!p x)=q at *
 have HIN:=am hin
 clear hin hr hc hF
 rcases e2:decide ((xs.length:Int)≤most) with _|_ <;>
 (go_in
  go_wp2_with (first|((with_reducible refine bv 5 #[.func (.func F) #[] cap] 51 ?_);intro gb hgb w1 hbox hb;have HX1:=am hbox;have HB1:=am hb;clear hb hbox hgb)|(go_at_call 60;refine (HIN.out _ _ HB1.out HX1.out).mono ?_;rintro e w2 ⟨rfl,hb⟩;have HB2:=bS HB1 hb;clear hb))
  go_ret
  exact ⟨rfl,by first|exact HB2.out|exact HB1.out⟩)
theorem all1_Matcher (F : Nat) (fn : Func) (cap : Array Value) (p : S108 → Bool) (xs : List S108) (w W : World) (g : Nat) (hF : Tryz.prog.funcs[F]? = some fn ∧ (fn.name == "runtime.NumGoroutine") = false ∧ fn.body.isSome = true) (hc : ClosA Tryz.prog F cap k108 w p xs) (hW : Below w.heap.size w W) (hg : W.heap[g]? = some (.cells #[.func (.func F) #[] cap] 109 (0, 0))) : ClosA Tryz.prog 126 #[.pointer (some ⟨g, 0, none⟩)] k108 W (fun x => !p x) xs := by
 intro x hx W1 cs hb hk
 obtain ⟨A2,c2,rfl,l2,g2⟩:=k108_open hk
 have hcall:=fun W2 (hb2:Below W1.heap.size W1 W2)=>hc x hx W2 [.string x.f0,.int .i64 x.f1,.slice A2 x.f2.length c2] (below_step hW (below_step hb hb2)) (k108_mk _ x l2 (Kd.C_below g2 hb2))
 show Calls Tryz.prog 126 #[.agg #[.string x.f0,.int .i64 x.f1,.slice A2 x.f2.length c2],.pointer (some ⟨g,0,none⟩)] W1 fun e W'=>e=.returned (.bool (!p x))∧Below W1.heap.size W1 W'
 generalize p x=q at *
 have HCALL:=am hcall
 have HG:=am (blk_below hg hb)
 have HF:=am hF
 clear hcall hc hF hg hb hW hx
 go_in
 go_wp2_with (first|((with_reducible refine bv 2 #[.string x.f0,.int .i64 x.f1,.slice A2 x.f2.length c2] 108 ?_);intro gb hgb w1 hbox hb;obtain ⟨y0,y1,y2⟩:=cc3 hbox;have yf:w1.cell? ⟨g,0,none⟩=some (.func (.func F) #[] cap):=(blk_cell (blk_below HG.out hb) 0).trans rfl;have HX1:=am hbox;have HB1:=am hb;clear hb hbox hgb)|((with_reducible refine gate_dst (N:=6) rfl ?_);go_must (refine gV 6 HF.out.1 HF.out.2.1 HF.out.2.2 #[.agg #[.string x.f0,.int .i64 x.f1,.slice A2 x.f2.length c2]] ?_);refine (HCALL.out _ HB1.out).mono ?_;rintro e w2 ⟨rfl,hb⟩;refine ⟨_,rfl,?_⟩;have HB2:=bS HB1 hb;clear hb))
 go_ret
 exact ⟨rfl,HB2.out⟩
theorem all_Matcher (F : Nat) (fn : Func) (cap : Array Value) (p : S108 → Bool) (A : Option Addr) (c : Nat) (xs : List S108) (most : Int) (w : World) (hF : Tryz.prog.funcs[F]? = some fn ∧ (fn.name == "runtime.NumGoroutine") = false ∧ fn.body.isSome = true) (hr : Kd.C k108 w A xs.length xs) (hc : ClosA Tryz.prog F cap k108 w p xs) :
 Calls Tryz.prog 62 #[.slice A xs.length c,.int .i64 most,.func (.func F) #[] cap] w fun e w'=>e=.returned (.bool (decide ((xs.length:Int)≤most) && xs.all p))∧Below w.heap.size w w':=by
 have hin:=fun g W (hb:Below w.heap.size w W) hg=>has_Matcher 126 _ #[.pointer (some ⟨g,0,none⟩)] (fun x=>!p x) A c xs W ⟨Tryz.func126,by kernel_rfl,rfl⟩ (Kd.C_below hr hb) (all1_Matcher F fn cap p xs w W g hF hc hb hg)
 rw [show xs.all p=!xs.any (fun x=>!p x) from by rw [List.all_eq_not_any_not]]
 generalize xs.any (fun x=>!p x)=q at *
 have HIN:=am hin
 clear hin hr hc hF
 rcases e2:decide ((xs.length:Int)≤most) with _|_ <;>
 (go_in
  go_wp2_with (first|((with_reducible refine bv 5 #[.func (.func F) #[] cap] 109 ?_);intro gb hgb w1 hbox hb;have HX1:=am hbox;have HB1:=am hb;clear hb hbox hgb)|(go_at_call 125;refine (HIN.out _ _ HB1.out HX1.out).mono ?_;rintro e w2 ⟨rfl,hb⟩;have HB2:=bS HB1 hb;clear hb))
  go_ret
  exact ⟨rfl,by first|exact HB2.out|exact HB1.out⟩)
def lname1 (s:ByteArray):Bool:=setB [⟨s,⟨#[120]⟩⟩]
theorem tname_any (s:ByteArray) (hz:(s.size:Int)≤9223372036854775807) (w:World):Calls Tryz.prog 133 #[.string s] w fun e w'=>e=.returned (.bool (lname1 s))∧Below w.heap.size w w':=by
 have hc:=fun g (W:World) (hx:W.heap[g]?=some (.cells ([.string s,.string ⟨#[120]⟩]:List Value).toArray 105 (0,0)))=>lright_any [⟨s,⟨#[120]⟩⟩] (fun y hy=>by rw [List.mem_singleton] at hy;rw [hy];exact hz) (some ⟨g,0,none⟩) 1 W (C_single hx (k105_mk W ⟨s,⟨#[120]⟩⟩))
 have hl:setB [⟨s,⟨#[120]⟩⟩]=lname1 s:=rfl
 rw [hl] at hc
 generalize lname1 s=q at *
 have HC:=am hc
 clear hc hl
 go_in
 go_wp2_with (first|((with_reducible refine lv 5 #[.string s,.string (⟨#[120]⟩:ByteArray)] 105 1 ?_);intro gl hgb w1 hbox hb;have HX1:=am hbox;have HB1:=am hb;clear hb hbox hgb)|(go_at_call 55;refine (HC.out _ _ HX1.out).mono ?_;rintro e w2 ⟨rfl,hb⟩;have HB2:=bS HB1 hb;clear hb))
 go_ret
 exact ⟨rfl,HB2.out⟩
def ordAt (p:ByteArray→Bool) (ws:List ByteArray) (i:Nat):Bool:=p (wd ws i) && (!decide (0<i) || ltB (wd ws (i-1)) (wd ws i))
def ordB (p:ByteArray→Bool) (ws:List ByteArray):Bool:=upTo (ordAt p ws) ws.length && decide ((ws.length:Int)≤8)
theorem ordered_any (F : Nat) (fn : Func) (p : ByteArray → Bool) (A : Option Addr) (c : Nat) (xs : List ByteArray) (w : World) (hF : Tryz.prog.funcs[F]? = some fn ∧ (fn.name == "runtime.NumGoroutine") = false ∧ fn.body.isSome = true) (hr : Kd.C Kd.string w A xs.length xs)
 (hc:∀ x∈xs,∀ W,Calls Tryz.prog F #[.string x] W fun e w'=>e=.returned (.bool (p x))∧Below W.heap.size W w') :
 Calls Tryz.prog 132 #[.slice A xs.length c,.func (.func F) #[] #[]] w fun e w'=>e=.returned (.bool (ordB p xs))∧Below w.heap.size w w':=by
 have m1:(xs.length:Int)≤9223372036854775807:=by have:=hr.2.1;omega
 have HR:=am hr
 have HC:=am hc
 have HF:=am hF
 clear hr hc hF
 go_in
 go_wp2
 go_loopw [9] (fun v wr=>∃ i:Nat,v=.int .i64 i∧Aside0 (i≤xs.length)∧Aside0 (upTo (ordAt p xs) i=true)∧Aside0 (Below w.heap.size w wr)) (fun v _=>xs.length-(intOf v).toNat)
 case atStart=>exact ⟨0,rfl,⟨Nat.zero_le _⟩,⟨rfl⟩,⟨Below.refl _ _⟩⟩
 case round =>
  obtain ⟨i,rfl,HI,HU,HB⟩:=hrel
  by_cases hlt:i<xs.length
  ·obtain ⟨ad,e,hc0⟩:=Kd.at_string (Kd.C_below HR.out HB.out) i (by omega) (by omega)
   cases e
   rw [rd_wd,Int.toNat_natCast] at hc0
   have b1:decide ((i:Int)<(xs.length:Int))=true:=decide_eq_true (by omega)
   have hw1:wrap64 ((i:Int)+1)=((i+1:Nat):Int):=by unfold wrap64;omega
   have hwd:=HC.out (wd xs i) (by unfold wd;exact mem_rd (i:=(i:Int)) (by omega) (by omega))
   have hok:ordAt p xs i=(p (wd xs i) && (!decide (0<i) || ltB (wd xs (i-1)) (wd xs i))):=rfl
   obtain ⟨q1,e1⟩:∃ q,p (wd xs i)=q:=⟨_,rfl⟩
   obtain ⟨q2,e2⟩:∃ q,decide (0<i)=q:=⟨_,rfl⟩
   obtain ⟨q3,e3⟩:∃ q,ltB (wd xs (i-1)) (wd xs i)=q:=⟨_,rfl⟩
   rw [e1,e2,e3] at hok
   simp only [e1] at hwd
   have HOK:=am hok
   have HWD:=am hwd
   have HW1:=am hw1
   have HLT:=am hlt
   have HE3:=am e3
   clear hok hwd hw1 e1 e3
   cases q1 with
   | false =>
     go_wp2_with ((with_reducible refine gate_dst (N:=16) rfl ?_);go_must (refine gV 16 HF.out.1 HF.out.2.1 HF.out.2.2 #[.string (wd xs i)] ?_);refine (HWD.out _).mono ?_;rintro e w2 ⟨rfl,hb⟩;refine ⟨_,rfl,?_⟩;have HB2:=bS HB hb;clear hb)
     go_ret
     refine ⟨congrArg (fun b:Bool=>Ending.returned (.bool b)) ?_,HB2.out⟩
     unfold ordB
     rw [upTo_no HLT.out HOK.out]
     rfl
   | true =>
     cases q2 with
     | false =>
       go_wp2_with ((with_reducible refine gate_dst (N:=16) rfl ?_);go_must (refine gV 16 HF.out.1 HF.out.2.1 HF.out.2.2 #[.string (wd xs i)] ?_);refine (HWD.out _).mono ?_;rintro e w2 ⟨rfl,hb⟩;refine ⟨_,rfl,?_⟩;have HB2:=bS HB hb;clear hb)
       go_roundw
       case rel=>exact ⟨i+1,by first|exact congrArg (Value.int .i64) HW1.out|rfl,⟨HLT.out⟩,⟨upTo_step HU.out HOK.out⟩,HB2⟩
       case measure =>
        have h1:=HW1.out
        have h2:=HLT.out
        simp only [intOf]
        omega
     | true =>
       have h0:0<i:=of_decide_eq_true e2
       have hP:∀ W,Below w.heap.size w W→W.cell? (ad.add (i-1))=some (.string (wd xs (i-1))):=fun W hb=>by
        obtain ⟨ad'',e'',hp0⟩:=Kd.at_string (Kd.C_below HR.out hb) ((i-1:Nat):Int) (by omega) (by omega)
        cases e''
        rw [rd_wd,Int.toNat_natCast] at hp0
        exact hp0
       have HP:=am hP
       have e4:Op.bytesLess (wd xs (i-1)).toList (wd xs i).toList=q3:=HE3.out
       clear hP
       cases q3 with
       | false =>
         go_wp2_with ((with_reducible refine gate_dst (N:=16) rfl ?_);go_must (refine gV 16 HF.out.1 HF.out.2.1 HF.out.2.2 #[.string (wd xs i)] ?_);refine (HWD.out _).mono ?_;rintro e w2 ⟨rfl,hb⟩;refine ⟨_,rfl,?_⟩;have HB2:=bS HB hb;have y9:=HP.out _ HB2.out;clear hb)
         go_ret
         refine ⟨congrArg (fun b:Bool=>Ending.returned (.bool b)) ?_,HB2.out⟩
         unfold ordB
         rw [upTo_no HLT.out HOK.out]
         rfl
       | true =>
         go_wp2_with ((with_reducible refine gate_dst (N:=16) rfl ?_);go_must (refine gV 16 HF.out.1 HF.out.2.1 HF.out.2.2 #[.string (wd xs i)] ?_);refine (HWD.out _).mono ?_;rintro e w2 ⟨rfl,hb⟩;refine ⟨_,rfl,?_⟩;have HB2:=bS HB hb;have y9:=HP.out _ HB2.out;clear hb)
         go_roundw
         case rel=>exact ⟨i+1,by first|exact congrArg (Value.int .i64) HW1.out|rfl,⟨HLT.out⟩,⟨upTo_step HU.out HOK.out⟩,HB2⟩
         case measure =>
          have h1:=HW1.out
          have h2:=HLT.out
          simp only [intOf]
          omega
  ·obtain rfl:i=xs.length:=by have:=HI.out;omega
   have b1:decide ((xs.length:Int)<(xs.length:Int))=false:=decide_eq_false (by omega)
   have hval:ordB p xs=decide ((xs.length:Int)≤8):=by
    unfold ordB
    rw [HU.out,Bool.true_and]
   have HV:=am hval
   go_wp2
   go_ret
   exact ⟨congrArg (fun b:Bool=>Ending.returned (.bool b)) HV.out.symm,HB.out⟩
def inTime (least n:Int):Bool:=!(decide (n<least) || decide (1099511627776<n))
theorem times1_any (n least:Int) (g:Nat) (w:World) (hg:w.heap[g]?=some (.cells #[.int .i64 least] 3 (0,0))):Calls Tryz.prog 195 #[.int .i64 n,.pointer (some ⟨g,0,none⟩)] w fun e w'=>e=.returned (.bool (!inTime least n))∧Below w.heap.size w w':=by
 have y0:w.cell? ⟨g,0,none⟩=some (.int .i64 least):=bz hg 0 rfl
 have hv:(!inTime least n)=(decide (n<least) || decide (1099511627776<n)):=by unfold inTime;rw [Bool.not_not]
 rw [hv]
 clear hg hv
 rcases e1:decide (n<least) with _|_ <;>
 rcases e2:decide (1099511627776<n) with _|_ <;>
 (go_in
  go_wp2
  go_ret
  exact ⟨rfl,Below.refl _ _⟩)
theorem times_any (least:Int) (A:Option Addr) (c:Nat) (xs:List Int) (w:World) (hr:Kd.C (Kd.int .i64) w A xs.length xs):Calls Tryz.prog 134 #[.int .i64 least,.slice A xs.length c] w fun e w'=>e=.returned (.bool (xs.all (inTime least)))∧Below w.heap.size w w':=by
 have hin:=fun g W (hb:Below w.heap.size w W) (hg:W.heap[g]?=some (.cells #[.int .i64 least] 3 (0,0)))=>has_Num 195 _ #[.pointer (some ⟨g,0,none⟩)] (fun n=>!inTime least n) A c xs W ⟨Tryz.func195,by kernel_rfl,rfl⟩ (Kd.C_below hr hb) (fun n _ W2 hb2=>times1_any n least g W2 (blk_below hg hb2))
 rw [show xs.all (inTime least)=!xs.any (fun n=>!inTime least n) from by rw [List.all_eq_not_any_not]]
 generalize xs.any (fun n=>!inTime least n)=q at *
 have HIN:=am hin
 clear hin hr
 go_in
 go_wp2_with (first|((with_reducible refine bv 2 #[.int .i64 least] 3 ?_);intro gb hgb w1 hbox hb;have HX1:=am hbox;have HB1:=am hb;clear hb hbox hgb)|(go_at_call 194;refine (HIN.out _ _ HB1.out HX1.out).mono ?_;rintro e w2 ⟨rfl,hb⟩;have HB2:=bS HB1 hb;clear hb))
 go_ret
 exact ⟨rfl,HB2.out⟩
theorem C_two (a b:Int) {W:World} {g:Nat} {ty:TypeId} (hb:W.heap[g]?=some (.cells #[.int .i64 a,.int .i64 b] ty (0,0))):Kd.C (Kd.int .i64) W (some ⟨g,0,none⟩) 2 [a,b] :=
 C_cells (xs:=[a,b]) (inner:=[.int .i64 a,.int .i64 b]) hb (Reps.one rfl (Reps.one rfl (Reps.none _ _))) (by simp)
theorem C_one1 (a:Int) {W:World} {g:Nat} {ty:TypeId} (hb:W.heap[g]?=some (.cells #[.int .i64 a] ty (0,0))):Kd.C (Kd.int .i64) W (some ⟨g,0,none⟩) 1 [a] :=
 C_cells (xs:=[a]) (inner:=[.int .i64 a]) hb (Reps.one rfl (Reps.none _ _)) (by simp)
def MatSz (x:S108):Prop:=(Lit.int .i64 x.f1).wf=true∧(x.f0.size:Int)≤9223372036854775807
def RSz:Nat→S27→Prop
 | 0,_=>True
 | k+1,x=>(∀ m∈x.f1,MatSz m)∧(∀ s∈x.f2,(s.size:Int)≤9223372036854775807)∧∀ y∈x.f8,RSz k y
def rmayB:Nat→S27→Bool
 | 0,_=>false
 | k+1,x=>(bwordB x.f0 && !decide (8<(x.f1.length:Int)) && !x.f1.any (fun m=>!matchB m) && !decide (16<(x.f8.length:Int))) && (ordB lname1 x.f2 && ordB bwordB x.f6 && [x.f3].all (inTime 0) && [x.f4,x.f5].all (inTime 1)) && !x.f8.any (fun y=>!rmayB k y)
theorem may1_any (x:S108) (hs:MatSz x) (W:World) (cs:List Value) (h:k108.K W x cs):Calls Tryz.prog 130 (#[.agg cs.toArray]++#[]) W fun e W'=>e=.returned (.bool (!matchB x))∧Below W.heap.size W W':=by
 obtain ⟨A2,c2,rfl,l2,g2⟩:=k108_open h
 have hc:=fun W2 (hb:Below W.heap.size W W2)=>mright_any x A2 c2 W2 hs.1 hs.2 l2 (Kd.C_below g2 hb)
 generalize matchB x=q at *
 have HC:=am hc
 clear hc g2
 show Calls Tryz.prog 130 #[.agg #[.string x.f0,.int .i64 x.f1,.slice A2 x.f2.length c2]] W fun e W'=>e=.returned (.bool (!q))∧Below W.heap.size W W'
 go_in
 go_wp2_with (first|((with_reducible refine bv 1 #[.string x.f0,.int .i64 x.f1,.slice A2 x.f2.length c2] 108 ?_);intro gb hgb w1 hbox hb;obtain ⟨y0,y1,y2⟩:=cc3 hbox;have HX1:=am hbox;have HB1:=am hb;clear hb hbox hgb)|(go_at_call 63;refine (HC.out _ HB1.out).mono ?_;rintro e w2 ⟨rfl,hb⟩;have HB2:=bS HB1 hb;clear hb))
 go_ret
 exact ⟨rfl,HB2.out⟩
def MayAt (k:Nat):Prop:=∀ (x:S27) (W:World) (cs:List Value),RSz k x→k27.K W x cs→Calls Tryz.prog 67 #[.agg cs.toArray,.int .i64 (k:Int)] W fun e W'=>e=.returned (.bool (rmayB k x))∧Below W.heap.size W W'
theorem may2_any (k:Nat) (hk:MayAt k) (hkb:(k:Int)≤1000) (x:S27) (hs:RSz k x) (g:Nat) (W:World) (hg:W.heap[g]?=some (.cells #[.int .i64 ((k:Int)+1)] 3 (0,0))) (cs:List Value) (h:k27.K W x cs):Calls Tryz.prog 136 (#[.agg cs.toArray]++#[.pointer (some ⟨g,0,none⟩)]) W fun e W'=>e=.returned (.bool (!rmayB k x))∧Below W.heap.size W W':=by
 obtain ⟨A1,c1,A2,c2,A6,c6,A8,c8,rfl,l1,g1,l2,g2,l6,g6,l8,g8⟩:=k27_open h
 have hc:=fun W2 (hb:Below W.heap.size W W2)=>hk x W2 _ hs (k27_mk W2 x l1 (Kd.C_below g1 hb) l2 (Kd.C_below g2 hb) l6 (Kd.C_below g6 hb) l8 (Kd.C_below g8 hb))
 have hwk:wrap64 ((k:Int)+1-1)=(k:Int):=by unfold wrap64;omega
 have hwk2:(k:Int)+1-1=(k:Int):=by omega
 generalize rmayB k x=q at *
 have HC:=am hc
 have HG:=am hg
 clear hc hk hs hg g1 g2 g6 g8
 show Calls Tryz.prog 136 #[.agg #[.string x.f0,.slice A1 x.f1.length c1,.slice A2 x.f2.length c2,.int .i64 x.f3,.int .i64 x.f4,.int .i64 x.f5,.slice A6 x.f6.length c6,.bool x.f7,.slice A8 x.f8.length c8],.pointer (some ⟨g,0,none⟩)] W fun e W'=>e=.returned (.bool (!q))∧Below W.heap.size W W'
 generalize hkk:(k:Int)=kk at *
 go_in
 go_wp2_with (first|((with_reducible refine bv 2 #[.string x.f0,.slice A1 x.f1.length c1,.slice A2 x.f2.length c2,.int .i64 x.f3,.int .i64 x.f4,.int .i64 x.f5,.slice A6 x.f6.length c6,.bool x.f7,.slice A8 x.f8.length c8] 27 ?_);intro gb hgb w1 hbox hb;obtain ⟨y0,y1,y2,y3,y4,y5,y6,y7,y8⟩:=cc9 hbox;have yd:w1.cell? ⟨g,0,none⟩=some (.int .i64 (kk+1)):=(blk_cell (blk_below HG.out hb) 0).trans rfl;have HX1:=am hbox;have HB1:=am hb;clear hb hbox hgb)|(go_at_call 67;refine (HC.out _ HB1.out).mono ?_;rintro e w2 ⟨rfl,hb⟩;have HB2:=bS HB1 hb;clear hb))
 go_ret
 exact ⟨rfl,HB2.out⟩
theorem chain4' (q1 q2 q3 q4:Bool):(q1=false)∨(q1=true∧q2=true)∨(q1=true∧q2=false∧q3=true)∨(q1=true∧q2=false∧q3=false∧q4=true)∨(q1=true∧q2=false∧q3=false∧q4=false):=by
 cases q1<;>cases q2<;>cases q3<;>cases q4<;>simp
theorem may_zero:MayAt 0:=by
 intro x W cs hs h
 obtain ⟨A1,c1,A2,c2,A6,c6,A8,c8,rfl,l1,g1,l2,g2,l6,g6,l8,g8⟩:=k27_open h
 show Calls Tryz.prog 67 #[.agg #[.string x.f0,.slice A1 x.f1.length c1,.slice A2 x.f2.length c2,.int .i64 x.f3,.int .i64 x.f4,.int .i64 x.f5,.slice A6 x.f6.length c6,.bool x.f7,.slice A8 x.f8.length c8],.int .i64 0] W fun e W'=>e=.returned (.bool false)∧Below W.heap.size W W'
 clear g1 g2 g6 g8 hs
 go_in
 go_wp2_with (first|((with_reducible refine bv 2 #[.string x.f0,.slice A1 x.f1.length c1,.slice A2 x.f2.length c2,.int .i64 x.f3,.int .i64 x.f4,.int .i64 x.f5,.slice A6 x.f6.length c6,.bool x.f7,.slice A8 x.f8.length c8] 27 ?_);intro gb hgb w1 hbox hb;have HX1:=am hbox;have HB1:=am hb;clear hb hbox hgb)|((with_reducible refine bv 3 #[.int .i64 0] 3 ?_);intro gd hgd w2 hbox hb;have yd:w2.cell? ⟨gd,0,none⟩=some (.int .i64 0):=bz hbox 0 rfl;have HD2:=am hbox;have HX2:=bB HX1 hb;have HB2:=bS HB1 hb;have y0:w2.cell? ⟨gb,0,none⟩=some (.string x.f0):=bz HX2.out 0 rfl;clear hb hbox hgd))
 go_ret
 exact ⟨rfl,HB2.out⟩
theorem may_step (k:Nat) (hkb:(k:Int)≤1000) (hk:MayAt k):MayAt (k+1):=by
 intro x W cs hs h
 obtain ⟨A1,c1,A2,c2,A6,c6,A8,c8,rfl,l1,g1,l2,g2,l6,g6,l8,g8⟩:=k27_open h
 obtain ⟨hs1,hs2,hs8⟩:=hs
 have h2:=fun W2=>tword_any x.f0 W2
 have h4:=fun W2 (hb:Below W.heap.size W W2)=>has_Matcher 130 _ #[] (fun m=>!matchB m) A1 c1 x.f1 W2 ⟨Tryz.func130,by kernel_rfl,rfl⟩ (Kd.C_below g1 hb) (fun m hm W3 cs3 _ h3=>may1_any m (hs1 m hm) W3 cs3 h3)
 have d1:=fun W2 (hb:Below W.heap.size W W2)=>ordered_any 133 _ lname1 A2 c2 x.f2 W2 ⟨Tryz.func133,by kernel_rfl,rfl⟩ (Kd.C_below g2 hb) (fun s hm W3=>tname_any s (hs2 s hm) W3)
 have d2:=fun W2 (hb:Below W.heap.size W W2)=>ordered_any 131 _ bwordB A6 c6 x.f6 W2 ⟨Tryz.func131,by kernel_rfl,rfl⟩ (Kd.C_below g6 hb) (fun s hm W3=>tword_any s W3)
 have d3:∀ g (W2:World),W2.heap[g]?=some (.cells #[.int .i64 x.f3] 3 (0,0))→Calls Tryz.prog 134 #[.int .i64 0,.slice (some ⟨g,0,none⟩) 1 1] W2 fun e w'=>e=.returned (.bool ([x.f3].all (inTime 0)))∧Below W2.heap.size W2 w':=fun g W2 hx=>times_any 0 (some ⟨g,0,none⟩) 1 [x.f3] W2 (C_one1 x.f3 hx)
 have d4:∀ g (W2:World),W2.heap[g]?=some (.cells #[.int .i64 x.f4,.int .i64 x.f5] 3 (0,0))→Calls Tryz.prog 134 #[.int .i64 1,.slice (some ⟨g,0,none⟩) 2 2] W2 fun e w'=>e=.returned (.bool ([x.f4,x.f5].all (inTime 1)))∧Below W2.heap.size W2 w':=fun g W2 hx=>times_any 1 (some ⟨g,0,none⟩) 2 [x.f4,x.f5] W2 (C_two x.f4 x.f5 hx)
 have hl:=fun g W2 (hb:Below W.heap.size W W2) (hg:W2.heap[g]?=some (.cells #[.int .i64 ((k:Int)+1)] 3 (0,0)))=>has_Route 136 _ #[.pointer (some ⟨g,0,none⟩)] (fun y=>!rmayB k y) A8 c8 x.f8 W2 ⟨Tryz.func136,by kernel_rfl,rfl⟩ (Kd.C_below g8 hb) (fun y hm W3 cs3 hb3 h3=>may2_any k hk hkb y (hs8 y hm) g W3 (blk_below hg hb3) cs3 h3)
 have hv:rmayB (k+1) x=((bwordB x.f0 && !decide (8<(x.f1.length:Int)) && !x.f1.any (fun m=>!matchB m) && !decide (16<(x.f8.length:Int))) && (ordB lname1 x.f2 && ordB bwordB x.f6 && [x.f3].all (inTime 0) && [x.f4,x.f5].all (inTime 1)) && !x.f8.any (fun y=>!rmayB k y)):=rfl
 rw [show ((k+1:Nat):Int)=(k:Int)+1 from by omega]
 show Calls Tryz.prog 67 #[.agg #[.string x.f0,.slice A1 x.f1.length c1,.slice A2 x.f2.length c2,.int .i64 x.f3,.int .i64 x.f4,.int .i64 x.f5,.slice A6 x.f6.length c6,.bool x.f7,.slice A8 x.f8.length c8],.int .i64 ((k:Int)+1)] W fun e W'=>e=.returned (.bool (rmayB (k+1) x))∧Below W.heap.size W W'
 have e0:((k:Int)+1 == 0)=false:=by simp;omega
 have m8:(x.f8.length:Int)≤9223372036854775807:=by have:=g8.2.1;omega
 generalize rmayB (k+1) x=res at *
 generalize x.f8.any (fun y=>!rmayB k y)=ql at *
 generalize x.f1.any (fun m=>!matchB m)=q3 at *
 generalize bwordB x.f0=q1 at *
 generalize ordB lname1 x.f2=p1 at *
 generalize ordB bwordB x.f6=p2 at *
 generalize [x.f3].all (inTime 0)=p3 at *
 generalize [x.f4,x.f5].all (inTime 1)=p4 at *
 obtain ⟨q2,e2⟩:∃ q,decide (8<(x.f1.length:Int))=q:=⟨_,rfl⟩
 obtain ⟨q4,e4⟩:∃ q,decide (16<(x.f8.length:Int))=q:=⟨_,rfl⟩
 rw [e2,e4] at hv
 generalize hkk:(k:Int)=kk at *
 have HV:=am hv
 have H2:=am h2
 have H4:=am h4
 have D1:=am d1
 have D2:=am d2
 have D3:=am d3
 have D4:=am d4
 have HL:=am hl
 clear hv h2 h4 d1 d2 d3 d4 hl hk hkb hs1 hs2 hs8 g1 g2 g6 g8 hkk
 rcases chain4' q1 q2 q3 q4 with rfl|⟨rfl,rfl⟩|⟨rfl,rfl,rfl⟩|⟨rfl,rfl,rfl,rfl⟩|⟨rfl,rfl,rfl,rfl⟩ <;>
 first
 | (go_in
    go_wp2_with (first|((with_reducible refine bv 2 #[.string x.f0,.slice A1 x.f1.length c1,.slice A2 x.f2.length c2,.int .i64 x.f3,.int .i64 x.f4,.int .i64 x.f5,.slice A6 x.f6.length c6,.bool x.f7,.slice A8 x.f8.length c8] 27 ?_);intro gb hgb w1 hbox hb;have HX1:=am hbox;have HB1:=am hb;clear hb hbox hgb)|((with_reducible refine bv 3 #[.int .i64 (kk+1)] 3 ?_);intro gd hgd w2 hbox hb;have yd:w2.cell? ⟨gd,0,none⟩=some (.int .i64 (kk+1)):=bz hbox 0 rfl;have HD2:=am hbox;have HX2:=bB HX1 hb;have HB2:=bS HB1 hb;have y0:w2.cell? ⟨gb,0,none⟩=some (.string x.f0):=bz HX2.out 0 rfl;clear hb hbox hgd)|(go_at_call 131;with_reducible refine (H2.out _).mono ?_;rintro e w3 ⟨rfl,hb⟩;have HB3:=bS HB2 hb;have HX3:=bB HX2 hb;have HD3:=bB HD2 hb;have y1:w3.cell? ⟨gb,1,none⟩=some (.slice A1 x.f1.length c1):=bz HX3.out 1 rfl;clear hb)|(go_at_call 125;with_reducible refine (H4.out _ HB3.out).mono ?_;rintro e w4 ⟨rfl,hb⟩;have HB4:=bS HB3 hb;have HX4:=bB HX3 hb;have HD4:=bB HD3 hb;have y8:w4.cell? ⟨gb,8,none⟩=some (.slice A8 x.f8.length c8):=bz HX4.out 8 rfl;have y2:w4.cell? ⟨gb,2,none⟩=some (.slice A2 x.f2.length c2):=bz HX4.out 2 rfl;clear hb)|(go_at_call 132;with_reducible refine (D1.out _ HB4.out).mono ?_;rintro e w5 ⟨rfl,hb⟩;have HB5:=bS HB4 hb;have HX5:=bB HX4 hb;have HD5:=bB HD4 hb;have y6:w5.cell? ⟨gb,6,none⟩=some (.slice A6 x.f6.length c6):=bz HX5.out 6 rfl;clear hb)|(go_at_call 132;with_reducible refine (D2.out _ HB5.out).mono ?_;rintro e w6 ⟨rfl,hb⟩;have HB6:=bS HB5 hb;have HX6:=bB HX5 hb;have HD6:=bB HD5 hb;have y3:w6.cell? ⟨gb,3,none⟩=some (.int .i64 x.f3):=bz HX6.out 3 rfl;clear hb)|((with_reducible refine gate_dst (N:=45) rfl ?_);refine lit_guard (N:=45) ?hd (by rfl) (cs:=#[.int .i64 x.f3]) (t:=3) (n:=1) ?hr ?_;(case hd=>rfl);(case hr=>first|(go_simp;done)|(go_simp;rfl));intro g7 hgb w7 hbox hb;have HL7:=am hbox;have HB7:=bS HB6 hb;have HX7:=bB HX6 hb;have HD7:=bB HD6 hb;clear hb;clear hbox hgb)|(go_at_call 134;with_reducible refine (D3.out _ _ HL7.out).mono ?_;rintro e w8 ⟨rfl,hb⟩;have HB8:=bS HB7 hb;have HX8:=bB HX7 hb;have HD8:=bB HD7 hb;obtain ⟨-,-,-,-,y4,y5⟩:=cc6 HX8.out;clear hb)|((with_reducible refine gate_dst (N:=54) rfl ?_);refine lit_guard (N:=54) ?hd (by rfl) (cs:=#[.int .i64 x.f4,.int .i64 x.f5]) (t:=3) (n:=2) ?hr ?_;(case hd=>rfl);(case hr=>first|(go_simp;done)|(go_simp;rfl));intro g9 hgb w9 hbox hb;have HL9:=am hbox;have HB9:=bS HB8 hb;have HX9:=bB HX8 hb;have HD9:=bB HD8 hb;clear hb;clear hbox hgb)|(go_at_call 134;with_reducible refine (D4.out _ _ HL9.out).mono ?_;rintro e w10 ⟨rfl,hb⟩;have HB10:=bS HB9 hb;have HX10:=bB HX9 hb;have HD10:=bB HD9 hb;have y8:w10.cell? ⟨gb,8,none⟩=some (.slice A8 x.f8.length c8):=bz HX10.out 8 rfl;clear hb)|(go_at_call 135;refine (HL.out _ _ HB10.out HD10.out).mono ?_;rintro e w11 ⟨rfl,hb⟩;have HB11:=bS HB10 hb;clear hb))
    go_ret
    refine ⟨congrArg (fun b:Bool=>Ending.returned (.bool b)) (Eq.trans ?_ HV.out.symm),by first|exact HB11.out|exact HB10.out|exact HB8.out|exact HB6.out|exact HB5.out|exact HB4.out|exact HB3.out⟩
    first|rfl|(simp;done))
 | (rcases chain4 p1 p2 p3 p4 with rfl|⟨rfl,rfl⟩|⟨rfl,rfl,rfl⟩|⟨rfl,rfl,rfl,rfl⟩|⟨rfl,rfl,rfl,rfl⟩ <;>
    (go_in
     go_wp2_with (first|((with_reducible refine bv 2 #[.string x.f0,.slice A1 x.f1.length c1,.slice A2 x.f2.length c2,.int .i64 x.f3,.int .i64 x.f4,.int .i64 x.f5,.slice A6 x.f6.length c6,.bool x.f7,.slice A8 x.f8.length c8] 27 ?_);intro gb hgb w1 hbox hb;have HX1:=am hbox;have HB1:=am hb;clear hb hbox hgb)|((with_reducible refine bv 3 #[.int .i64 (kk+1)] 3 ?_);intro gd hgd w2 hbox hb;have yd:w2.cell? ⟨gd,0,none⟩=some (.int .i64 (kk+1)):=bz hbox 0 rfl;have HD2:=am hbox;have HX2:=bB HX1 hb;have HB2:=bS HB1 hb;have y0:w2.cell? ⟨gb,0,none⟩=some (.string x.f0):=bz HX2.out 0 rfl;clear hb hbox hgd)|(go_at_call 131;with_reducible refine (H2.out _).mono ?_;rintro e w3 ⟨rfl,hb⟩;have HB3:=bS HB2 hb;have HX3:=bB HX2 hb;have HD3:=bB HD2 hb;have y1:w3.cell? ⟨gb,1,none⟩=some (.slice A1 x.f1.length c1):=bz HX3.out 1 rfl;clear hb)|(go_at_call 125;with_reducible refine (H4.out _ HB3.out).mono ?_;rintro e w4 ⟨rfl,hb⟩;have HB4:=bS HB3 hb;have HX4:=bB HX3 hb;have HD4:=bB HD3 hb;have y8:w4.cell? ⟨gb,8,none⟩=some (.slice A8 x.f8.length c8):=bz HX4.out 8 rfl;have y2:w4.cell? ⟨gb,2,none⟩=some (.slice A2 x.f2.length c2):=bz HX4.out 2 rfl;clear hb)|(go_at_call 132;with_reducible refine (D1.out _ HB4.out).mono ?_;rintro e w5 ⟨rfl,hb⟩;have HB5:=bS HB4 hb;have HX5:=bB HX4 hb;have HD5:=bB HD4 hb;have y6:w5.cell? ⟨gb,6,none⟩=some (.slice A6 x.f6.length c6):=bz HX5.out 6 rfl;clear hb)|(go_at_call 132;with_reducible refine (D2.out _ HB5.out).mono ?_;rintro e w6 ⟨rfl,hb⟩;have HB6:=bS HB5 hb;have HX6:=bB HX5 hb;have HD6:=bB HD5 hb;have y3:w6.cell? ⟨gb,3,none⟩=some (.int .i64 x.f3):=bz HX6.out 3 rfl;clear hb)|((with_reducible refine gate_dst (N:=45) rfl ?_);refine lit_guard (N:=45) ?hd (by rfl) (cs:=#[.int .i64 x.f3]) (t:=3) (n:=1) ?hr ?_;(case hd=>rfl);(case hr=>first|(go_simp;done)|(go_simp;rfl));intro g7 hgb w7 hbox hb;have HL7:=am hbox;have HB7:=bS HB6 hb;have HX7:=bB HX6 hb;have HD7:=bB HD6 hb;clear hb;clear hbox hgb)|(go_at_call 134;with_reducible refine (D3.out _ _ HL7.out).mono ?_;rintro e w8 ⟨rfl,hb⟩;have HB8:=bS HB7 hb;have HX8:=bB HX7 hb;have HD8:=bB HD7 hb;obtain ⟨-,-,-,-,y4,y5⟩:=cc6 HX8.out;clear hb)|((with_reducible refine gate_dst (N:=54) rfl ?_);refine lit_guard (N:=54) ?hd (by rfl) (cs:=#[.int .i64 x.f4,.int .i64 x.f5]) (t:=3) (n:=2) ?hr ?_;(case hd=>rfl);(case hr=>first|(go_simp;done)|(go_simp;rfl));intro g9 hgb w9 hbox hb;have HL9:=am hbox;have HB9:=bS HB8 hb;have HX9:=bB HX8 hb;have HD9:=bB HD8 hb;clear hb;clear hbox hgb)|(go_at_call 134;with_reducible refine (D4.out _ _ HL9.out).mono ?_;rintro e w10 ⟨rfl,hb⟩;have HB10:=bS HB9 hb;have HX10:=bB HX9 hb;have HD10:=bB HD9 hb;have y8:w10.cell? ⟨gb,8,none⟩=some (.slice A8 x.f8.length c8):=bz HX10.out 8 rfl;clear hb)|(go_at_call 135;refine (HL.out _ _ HB10.out HD10.out).mono ?_;rintro e w11 ⟨rfl,hb⟩;have HB11:=bS HB10 hb;clear hb))
     go_ret
     refine ⟨congrArg (fun b:Bool=>Ending.returned (.bool b)) (Eq.trans ?_ HV.out.symm),by first|exact HB11.out|exact HB10.out|exact HB8.out|exact HB6.out|exact HB5.out|exact HB4.out|exact HB3.out⟩
     first|rfl|(simp;done)))
theorem may_all:∀ k:Nat,k≤1000→MayAt k
 | 0,_=>may_zero
 | k+1,h=>may_step k (by omega) (may_all k (by omega))
theorem rright_route (x:S27) (W:World) (cs:List Value) (hs:RSz 4 x) (h:k27.K W x cs):Calls Tryz.prog 26 #[.agg cs.toArray] W fun e W'=>e=.returned (.bool (rmayB 4 x))∧Below W.heap.size W W':=by
 obtain ⟨A1,c1,A2,c2,A6,c6,A8,c8,rfl,l1,g1,l2,g2,l6,g6,l8,g8⟩:=k27_open h
 have hc:=fun W2 (hb:Below W.heap.size W W2)=>may_all 4 (by omega) x W2 _ hs (k27_mk W2 x l1 (Kd.C_below g1 hb) l2 (Kd.C_below g2 hb) l6 (Kd.C_below g6 hb) l8 (Kd.C_below g8 hb))
 generalize rmayB 4 x=q at *
 have HC:=am hc
 clear hc hs g1 g2 g6 g8
 show Calls Tryz.prog 26 #[.agg #[.string x.f0,.slice A1 x.f1.length c1,.slice A2 x.f2.length c2,.int .i64 x.f3,.int .i64 x.f4,.int .i64 x.f5,.slice A6 x.f6.length c6,.bool x.f7,.slice A8 x.f8.length c8]] W fun e W'=>e=.returned (.bool q)∧Below W.heap.size W W'
 go_in
 go_wp2_with (first|((with_reducible refine bv 1 #[.string x.f0,.slice A1 x.f1.length c1,.slice A2 x.f2.length c2,.int .i64 x.f3,.int .i64 x.f4,.int .i64 x.f5,.slice A6 x.f6.length c6,.bool x.f7,.slice A8 x.f8.length c8] 27 ?_);intro gb hgb w1 hbox hb;obtain ⟨y0,y1,y2,y3,y4,y5,y6,y7,y8⟩:=cc9 hbox;have HX1:=am hbox;have HB1:=am hb;clear hb hbox hgb)|(go_at_call 67;refine (HC.out _ HB1.out).mono ?_;rintro e w2 ⟨rfl,hb⟩;have HB2:=bS HB1 hb;clear hb))
 go_ret
 exact ⟨rfl,HB2.out⟩
def InhSz (x:S50):Prop:=(∀ m∈x.f0,MatSz m)∧(∀ m∈x.f1,MatSz m)∧∀ s∈x.f2,(s.size:Int)≤9223372036854775807
def inhB (x:S50):Bool:=upTo (ordAt lname1 x.f2) x.f2.length && ((decide (0<x.f0.length) && decide (0<x.f1.length) && decide ((x.f2.length:Int)≤8)) && (decide ((x.f0.length:Int)≤8) && x.f0.all matchB) && (decide ((x.f1.length:Int)≤8) && x.f1.all matchB))
theorem mright_cs (x:S108) (hs:MatSz x) (W:World) (cs:List Value) (h:k108.K W x cs):Calls Tryz.prog 63 (#[.agg cs.toArray]++#[]) W fun e W'=>e=.returned (.bool (matchB x))∧Below W.heap.size W W':=by
 obtain ⟨A2,c2,rfl,l2,g2⟩:=k108_open h
 exact mright_any x A2 c2 W hs.1 hs.2 l2 g2
theorem inh_any (x:S50) (hs:InhSz x) (W:World) (cs:List Value) (h:k50.K W x cs):Calls Tryz.prog 17 (#[.agg cs.toArray]++#[]) W fun e W'=>e=.returned (.bool (inhB x))∧Below W.heap.size W W':=by
 obtain ⟨A0,c0,A1,c1,A2,c2,rfl,l0,g0,l1,g1,l2,g2⟩:=k50_open h
 obtain ⟨hs0,hs1,hs2⟩:=hs
 show Calls Tryz.prog 17 #[.agg #[.slice A0 x.f0.length c0,.slice A1 x.f1.length c1,.slice A2 x.f2.length c2]] W fun e W'=>e=.returned (.bool (inhB x))∧Below W.heap.size W W'
 have m1:(x.f2.length:Int)≤9223372036854775807:=by have:=g2.2.1;omega
 have h0:=fun W2 (hb:Below W.heap.size W W2)=>all_Matcher 63 _ #[] matchB A0 c0 x.f0 8 W2 ⟨Tryz.func63,by kernel_rfl,rfl⟩ (Kd.C_below g0 hb) (fun m hm W3 cs3 _ h3=>mright_cs m (hs0 m hm) W3 cs3 h3)
 have h1:=fun W2 (hb:Below W.heap.size W W2)=>all_Matcher 63 _ #[] matchB A1 c1 x.f1 8 W2 ⟨Tryz.func63,by kernel_rfl,rfl⟩ (Kd.C_below g1 hb) (fun m hm W3 cs3 _ h3=>mright_cs m (hs1 m hm) W3 cs3 h3)
 have HR:=am g2
 have HZ:=am hs2
 have H0:=am h0
 have H1:=am h1
 clear h g0 g1 g2 hs0 hs1 hs2 h0 h1
 go_in
 go_wp2_with ((with_reducible refine bv 1 #[.slice A0 x.f0.length c0,.slice A1 x.f1.length c1,.slice A2 x.f2.length c2] 50 ?_);intro gb hgb w1 hbox hb;obtain ⟨y0,y1,y2⟩:=cc3 hbox;have HX1:=am hbox;have HB1:=am hb;clear hb hbox hgb)
 go_loopw [9] (fun v wr=>∃ i:Nat,v=.int .i64 i∧Aside0 (i≤x.f2.length)∧Aside0 (upTo (ordAt lname1 x.f2) i=true)∧Aside0 (Below W.heap.size W wr)∧Aside0 (wr.heap[gb]?=some (.cells #[.slice A0 x.f0.length c0,.slice A1 x.f1.length c1,.slice A2 x.f2.length c2] 50 (0,0)))) (fun v _=>x.f2.length-(intOf v).toNat)
 case atStart=>exact ⟨0,rfl,⟨Nat.zero_le _⟩,⟨rfl⟩,HB1,HX1⟩
 case round =>
  obtain ⟨i,rfl,HI,HU,HB,HX⟩:=hrel
  clear y0 y1 y2 HB1 HX1
  by_cases hlt:i<x.f2.length
  ·obtain ⟨ad,e,hc0⟩:=Kd.at_string (Kd.C_below HR.out HB.out) i (by omega) (by omega)
   cases e
   rw [rd_wd,Int.toNat_natCast] at hc0
   have b1:decide ((i:Int)<(x.f2.length:Int))=true:=decide_eq_true (by omega)
   have hw1:wrap64 ((i:Int)+1)=((i+1:Nat):Int):=by unfold wrap64;omega
   have hwd:=fun g (W2:World) (hx:W2.heap[g]?=some (.cells ([.string (wd x.f2 i),.string ⟨#[120]⟩]:List Value).toArray 105 (0,0)))=>lright_any [⟨wd x.f2 i,⟨#[120]⟩⟩] (fun y hy=>by rw [List.mem_singleton] at hy;rw [hy];exact HZ.out _ (by unfold wd;exact mem_rd (i:=(i:Int)) (by omega) (by omega))) (some ⟨g,0,none⟩) 1 W2 (C_single hx (k105_mk W2 ⟨wd x.f2 i,⟨#[120]⟩⟩))
   have hl1:setB [⟨wd x.f2 i,⟨#[120]⟩⟩]=lname1 (wd x.f2 i):=rfl
   have hok:ordAt lname1 x.f2 i=(lname1 (wd x.f2 i) && (!decide (0<i) || ltB (wd x.f2 (i-1)) (wd x.f2 i))):=rfl
   obtain ⟨q1,e1⟩:∃ q,lname1 (wd x.f2 i)=q:=⟨_,rfl⟩
   obtain ⟨q2,e2⟩:∃ q,decide (0<i)=q:=⟨_,rfl⟩
   obtain ⟨q3,e3⟩:∃ q,ltB (wd x.f2 (i-1)) (wd x.f2 i)=q:=⟨_,rfl⟩
   rw [e1,e2,e3] at hok
   rw [e1] at hl1
   simp only [hl1] at hwd
   have HOK:=am hok
   have HWD:=am hwd
   have HW1:=am hw1
   have HLT:=am hlt
   have HE3:=am e3
   clear hok hwd hw1 e1 e3 hl1
   cases q1 with
   | false =>
     go_wp2_with (first|((with_reducible refine lv 16 #[.string (wd x.f2 i),.string (⟨#[120]⟩:ByteArray)] 105 1 ?_);intro gl hgb w2 hbox hb;have HL2:=am hbox;have HB2:=bS HB hb;have HX2:=bB HX hb;clear hb hbox hgb)|(go_at_call 55;refine (HWD.out _ _ HL2.out).mono ?_;rintro e w3 ⟨rfl,hb⟩;have HB3:=bS HB2 hb;have HX3:=bB HX2 hb;have y2:w3.cell? ⟨gb,2,none⟩=some (.slice (some ad) x.f2.length c2):=bz HX3.out 2 rfl;clear hb))
     go_ret
     refine ⟨congrArg (fun b:Bool=>Ending.returned (.bool b)) ?_,HB3.out⟩
     unfold inhB
     rw [upTo_no HLT.out HOK.out]
     rfl
   | true =>
     cases q2 with
     | false =>
       go_wp2_with (first|((with_reducible refine lv 16 #[.string (wd x.f2 i),.string (⟨#[120]⟩:ByteArray)] 105 1 ?_);intro gl hgb w2 hbox hb;have HL2:=am hbox;have HB2:=bS HB hb;have HX2:=bB HX hb;clear hb hbox hgb)|(go_at_call 55;refine (HWD.out _ _ HL2.out).mono ?_;rintro e w3 ⟨rfl,hb⟩;have HB3:=bS HB2 hb;have HX3:=bB HX2 hb;have y2:w3.cell? ⟨gb,2,none⟩=some (.slice (some ad) x.f2.length c2):=bz HX3.out 2 rfl;clear hb))
       go_roundw
       case rel=>exact ⟨i+1,by first|exact congrArg (Value.int .i64) HW1.out|rfl,⟨HLT.out⟩,⟨upTo_step HU.out HOK.out⟩,HB3,HX3⟩
       case measure =>
        have h1:=HW1.out
        have h2:=HLT.out
        simp only [intOf]
        omega
     | true =>
       have h0:0<i:=of_decide_eq_true e2
       have hP:∀ W2,Below W.heap.size W W2→W2.cell? (ad.add (i-1))=some (.string (wd x.f2 (i-1))):=fun W2 hb=>by
        obtain ⟨ad'',e'',hp0⟩:=Kd.at_string (Kd.C_below HR.out hb) ((i-1:Nat):Int) (by omega) (by omega)
        cases e''
        rw [rd_wd,Int.toNat_natCast] at hp0
        exact hp0
       have HP:=am hP
       have e4:Op.bytesLess (wd x.f2 (i-1)).toList (wd x.f2 i).toList=q3:=HE3.out
       clear hP
       cases q3 with
       | false =>
         go_wp2_with (first|((with_reducible refine lv 16 #[.string (wd x.f2 i),.string (⟨#[120]⟩:ByteArray)] 105 1 ?_);intro gl hgb w2 hbox hb;have HL2:=am hbox;have HB2:=bS HB hb;have HX2:=bB HX hb;clear hb hbox hgb)|(go_at_call 55;refine (HWD.out _ _ HL2.out).mono ?_;rintro e w3 ⟨rfl,hb⟩;have HB3:=bS HB2 hb;have HX3:=bB HX2 hb;have y2:w3.cell? ⟨gb,2,none⟩=some (.slice (some ad) x.f2.length c2):=bz HX3.out 2 rfl;have y9:=HP.out _ HB3.out;clear hb))
         go_ret
         refine ⟨congrArg (fun b:Bool=>Ending.returned (.bool b)) ?_,HB3.out⟩
         unfold inhB
         rw [upTo_no HLT.out HOK.out]
         rfl
       | true =>
         go_wp2_with (first|((with_reducible refine lv 16 #[.string (wd x.f2 i),.string (⟨#[120]⟩:ByteArray)] 105 1 ?_);intro gl hgb w2 hbox hb;have HL2:=am hbox;have HB2:=bS HB hb;have HX2:=bB HX hb;clear hb hbox hgb)|(go_at_call 55;refine (HWD.out _ _ HL2.out).mono ?_;rintro e w3 ⟨rfl,hb⟩;have HB3:=bS HB2 hb;have HX3:=bB HX2 hb;have y2:w3.cell? ⟨gb,2,none⟩=some (.slice (some ad) x.f2.length c2):=bz HX3.out 2 rfl;have y9:=HP.out _ HB3.out;clear hb))
         go_roundw
         case rel=>exact ⟨i+1,by first|exact congrArg (Value.int .i64) HW1.out|rfl,⟨HLT.out⟩,⟨upTo_step HU.out HOK.out⟩,HB3,HX3⟩
         case measure =>
          have h1:=HW1.out
          have h2:=HLT.out
          simp only [intOf]
          omega
  ·obtain rfl:i=x.f2.length:=by have:=HI.out;omega
   have b1:decide ((x.f2.length:Int)<(x.f2.length:Int))=false:=decide_eq_false (by omega)
   have hval:inhB x=((decide (0<x.f0.length) && decide (0<x.f1.length) && decide ((x.f2.length:Int)≤8)) && (decide ((x.f0.length:Int)≤8) && x.f0.all matchB) && (decide ((x.f1.length:Int)≤8) && x.f1.all matchB)):=by
    unfold inhB
    rw [HU.out,Bool.true_and]
   obtain ⟨y0,y1,y2⟩:=cc3 HX.out
   obtain ⟨q1,e1⟩:∃ q,decide (0<x.f0.length)=q:=⟨_,rfl⟩
   obtain ⟨q2,e2⟩:∃ q,decide (0<x.f1.length)=q:=⟨_,rfl⟩
   obtain ⟨q3,e3⟩:∃ q,decide ((x.f2.length:Int)≤8)=q:=⟨_,rfl⟩
   obtain ⟨q4,e4⟩:∃ q,(decide ((x.f0.length:Int)≤8) && x.f0.all matchB)=q:=⟨_,rfl⟩
   obtain ⟨q5,e5⟩:∃ q,(decide ((x.f1.length:Int)≤8) && x.f1.all matchB)=q:=⟨_,rfl⟩
   have h0:=H0.out
   have h1:=H1.out
   rw [e1,e2,e3,e4,e5] at hval
   simp only [e4] at h0
   simp only [e5] at h1
   have HV:=am hval
   have K0:=am h0
   have K1:=am h1
   clear hval h0 h1 e4 e5 H0 H1
   rcases chain5 q1 q2 q3 q4 q5 with rfl|⟨rfl,rfl⟩|⟨rfl,rfl,rfl⟩|⟨rfl,rfl,rfl,rfl⟩|⟨rfl,rfl,rfl,rfl,rfl⟩|⟨rfl,rfl,rfl,rfl,rfl⟩ <;>
   (go_wp2_with (first|(go_at_call 62;with_reducible refine (K0.out _ HB.out).mono ?_;rintro e w5 ⟨rfl,hb⟩;have HB5:=bS HB hb;have y1':w5.cell? ⟨gb,1,none⟩=some (.slice A1 x.f1.length c1):=(blk_cell (blk_below HX.out hb) 1).trans rfl;clear hb)|(go_at_call 62;with_reducible refine (K1.out _ HB5.out).mono ?_;rintro e w6 ⟨rfl,hb⟩;have HB6:=bS HB5 hb;clear hb))
    go_ret
    refine ⟨congrArg (fun b:Bool=>Ending.returned (.bool b)) (Eq.trans ?_ HV.out.symm),by first|exact HB6.out|exact HB5.out|exact HB.out⟩
    first|rfl|(simp;done))
theorem meas_plain {n i:Nat} (h:i<n):n-(intOf (.int .i64 ((i:Int)+1))).toNat<n-(intOf (.int .i64 (i:Int))).toNat:=by
 show n-((i:Int)+1).toNat<n-((i:Nat):Int).toNat
 rw [show (i:Int)+1=((i+1:Nat):Int) from by omega,Int.toNat_natCast,Int.toNat_natCast]
 omega
def RDep:Nat→S27→Prop
 | 0,_=>False
 | k+1,x=>x.f8.length≤16∧∀ y∈x.f8,RDep k y
def countN:Nat→S27→Nat
 | 0,_=>0
 | k+1,x=>1+(x.f8.map (countN k)).sum
theorem rdep_of:∀ (k:Nat) (x:S27),rmayB k x=true→RDep k x
 | 0,x,h=>by cases h
 | k+1,x,h=>by
   unfold rmayB at h
   simp only [Bool.and_eq_true,Bool.not_eq_true',decide_eq_false_iff_not,List.any_eq_false,Bool.not_eq_false] at h
   refine ⟨by have:=h.1.1.2;omega,fun y hy=>rdep_of k y (by have:=h.2 y hy;simpa using this)⟩
theorem sum_le (f:S27→Nat) (m:Nat):∀ l:List S27,(∀ y∈l,f y≤m)→(l.map f).sum≤l.length*m
 | [],_=>by simp
 | y::l,h=>by
   have h1:=sum_le f m l (fun z hz=>h z (List.mem_cons_of_mem _ hz))
   have h2:=h y List.mem_cons_self
   rw [List.map_cons,List.sum_cons,List.length_cons,Nat.succ_mul]
   omega
theorem count_le:∀ (k:Nat) (x:S27),RDep k x→countN k x≤17 ^ k
 | 0,x,h=>h.elim
 | k+1,x,h=>by
   have h1:=sum_le (countN k) (17 ^ k) x.f8 (fun y hy=>count_le k y (h.2 y hy))
   have h2:x.f8.length*17 ^ k≤16*17 ^ k:=Nat.mul_le_mul_right _ h.1
   have h3:1≤17 ^ k:=Nat.one_le_pow _ _ (by omega)
   show 1+(x.f8.map (countN k)).sum≤17 ^ k*17
   omega
def CountAt (k:Nat):Prop:=∀ (x:S27) (W:World) (cs:List Value),RDep k x→k27.K W x cs→Calls Tryz.prog 27 #[.agg cs.toArray] W fun e W'=>e=.returned (.int .i64 (countN k x:Int))∧Below W.heap.size W W'
theorem sum_take (f:S27→Nat) (l:List S27) (i:Nat) (h:i<l.length):((l.take (i+1)).map f).sum=((l.take i).map f).sum+f (l.getD i z27):=by
 rw [List.take_succ_eq_append_getElem h,List.map_append,List.sum_append,List.getD_eq_getElem?_getD,List.getElem?_eq_getElem h]
 simp
theorem count_step (k:Nat) (hk4:k≤3) (hk:CountAt k):CountAt (k+1):=by
 intro x W cs hs h
 obtain ⟨A1,c1,A2,c2,A6,c6,A8,c8,rfl,l1,g1,l2,g2,l6,g6,l8,g8⟩:=k27_open h
 obtain ⟨hs16,hs8⟩:=hs
 have hb17:(17:Nat) ^ k≤4913:=Nat.le_trans (Nat.pow_le_pow_right (by omega) hk4) (by decide)
 have hkid:∀ y∈x.f8,countN k y≤4913:=fun y hy=>Nat.le_trans (count_le k y (hs8 y hy)) hb17
 have hpart:∀ i,((x.f8.take i).map (countN k)).sum≤100000:=fun i=>by
  have h1:=sum_le (countN k) 4913 (x.f8.take i) (fun y hy=>hkid y (List.mem_of_mem_take hy))
  have h2:(x.f8.take i).length≤16:=by rw [List.length_take];omega
  have h3:(x.f8.take i).length*4913≤16*4913:=Nat.mul_le_mul_right _ h2
  omega
 have hv:countN (k+1) x=1+(x.f8.map (countN k)).sum:=rfl
 show Calls Tryz.prog 27 #[.agg #[.string x.f0,.slice A1 x.f1.length c1,.slice A2 x.f2.length c2,.int .i64 x.f3,.int .i64 x.f4,.int .i64 x.f5,.slice A6 x.f6.length c6,.bool x.f7,.slice A8 x.f8.length c8]] W fun e W'=>e=.returned (.int .i64 (countN (k+1) x:Int))∧Below W.heap.size W W'
 have HV:=am hv
 have HR:=am g8
 have HS8:=am hs8
 have HP:=am hpart
 have HKID:=am hkid
 have HK:=am hk
 have m8:x.f8.length≤16:=hs16
 clear h hv hs16 hs8 hb17 hkid hpart hk g1 g2 g6 g8
 go_in
 go_wp2_with ((with_reducible refine bv 1 #[.string x.f0,.slice A1 x.f1.length c1,.slice A2 x.f2.length c2,.int .i64 x.f3,.int .i64 x.f4,.int .i64 x.f5,.slice A6 x.f6.length c6,.bool x.f7,.slice A8 x.f8.length c8] 27 ?_);intro gb hgb w1 hbox hb;obtain ⟨y0,y1,y2,y3,y4,y5,y6,y7,y8⟩:=cc9 hbox;have HX1:=am hbox;have HB1:=am hb;clear hb hbox hgb)
 go_loopw [3,9] (fun a v wr=>∃ (i:Nat) (n:Int),v=.int .i64 i∧a=.int .i64 n∧Aside0 (n=((1+((x.f8.take i).map (countN k)).sum:Nat):Int))∧Aside0 (i≤x.f8.length)∧Aside0 (Below W.heap.size W wr)) (fun _ v _=>x.f8.length-(intOf v).toNat)
 case atStart=>exact ⟨0,1,rfl,rfl,⟨rfl⟩,⟨Nat.zero_le _⟩,HB1⟩
 case round =>
  obtain ⟨i,n,rfl,rfl,HN,HI,HB⟩:=hrel
  clear y0 y1 y2 y3 y4 y5 y6 y7 y8 HB1 HX1
  by_cases hlt:i<x.f8.length
  ·obtain ⟨ad,B1,d1,B2,d2,B6,d6,B8,d8,e,hx0,hx1,hx2,hx3,hx4,hx5,hx6,hx7,hx8,hl1,hg1,hl2,hg2,hl6,hg6,hl8,hg8⟩:=at_T27 (Kd.C_below HR.out HB.out) (i:Int) (by omega) (by omega)
   cases e
   simp only [Int.toNat_natCast] at hx0 hx1 hx2 hx3 hx4 hx5 hx6 hx7 hx8
   have b1:decide ((i:Int)<(x.f8.length:Int))=true:=decide_eq_true (by omega)
   have hw1:wrap64 ((i:Int)+1)=((i+1:Nat):Int):=by unfold wrap64;omega
   have hmem:rd_T27 x.f8 (i:Int)∈x.f8:=by
    unfold rd_T27
    rw [Int.toNat_natCast,List.getD_eq_getElem?_getD,List.getElem?_eq_getElem hlt]
    exact List.getElem_mem hlt
   have hst:=sum_take (countN k) x.f8 i hlt
   have hgd:x.f8.getD i z27=rd_T27 x.f8 (i:Int):=by unfold rd_T27;rw [Int.toNat_natCast]
   rw [hgd] at hst
   have hdep:=HS8.out _ hmem
   have hc1:=HKID.out _ hmem
   have hp1:=HP.out i
   generalize rd_T27 x.f8 (i:Int)=y at *
   have hcall:=fun W2 (hb:Below wr.heap.size wr W2)=>HK.out y W2 _ hdep (k27_mk W2 y hl1 (Kd.C_below hg1 hb) hl2 (Kd.C_below hg2 hb) hl6 (Kd.C_below hg6 hb) hl8 (Kd.C_below hg8 hb))
   generalize hsi:((x.f8.take i).map (countN k)).sum=si at *
   generalize hcy:countN k y=cy at *
   have hn:=HN.out
   have hw2:wrap64 (n+(cy:Int))=((1+(si+cy):Nat):Int):=by
    rw [hn]
    unfold wrap64
    omega
   clear hn hsi hcy
   generalize hcz:(cy:Int)=cz at *
   have HST:=am hst
   have HW1:=am hw1
   have HW2:=am hw2
   have HLT:=am hlt
   have HC:=am hcall
   clear hst hw1 hw2 hcall hmem hgd hdep hc1 hp1 hg1 hg2 hg6 hg8
   go_upto_region 5 with (((with_reducible refine bv 5 #[.string (⟨#[]⟩:ByteArray),.slice none 0 0,.slice none 0 0,.int .i64 0,.int .i64 0,.int .i64 0,.slice none 0 0,.bool false,.slice none 0 0] 27 ?_);intro gk hgb w2 hbox hb;obtain ⟨y0,y1,y2,y3,y4,y5,y6,y7,y8⟩:=cc9 hbox;have z0:=blk_frozen hbox 0;have z1:=blk_frozen hbox 1;have z2:=blk_frozen hbox 2;have z3:=blk_frozen hbox 3;have z4:=blk_frozen hbox 4;have z5:=blk_frozen hbox 5;have z6:=blk_frozen hbox 6;have z7:=blk_frozen hbox 7;have z8:=blk_frozen hbox 8;have HX2:=am hbox;have HG2:=am hgb;have HB2:=am hb;clear hb hbox hgb))
   have HGE:Aside0 (W.heap.size≤gk):=⟨by have:=HG2.out;have:=HB.out.size;omega⟩
   obtain ⟨W2,hW2⟩:∃ W2,W2=(((((((((w2.setCell ⟨gk,0,none⟩ (.string y.f0)).setCell ⟨gk,1,none⟩ (.slice B1 y.f1.length d1)).setCell ⟨gk,2,none⟩ (.slice B2 y.f2.length d2)).setCell ⟨gk,3,none⟩ (.int .i64 y.f3)).setCell ⟨gk,4,none⟩ (.int .i64 y.f4)).setCell ⟨gk,5,none⟩ (.int .i64 y.f5)).setCell ⟨gk,6,none⟩ (.slice B6 y.f6.length d6)).setCell ⟨gk,7,none⟩ (.bool y.f7)).setCell ⟨gk,8,none⟩ (.slice B8 y.f8.length d8)):=⟨_,rfl⟩
   rw [← hW2]
   have HX3:Aside0 (W2.heap[gk]?=some (.cells #[.string y.f0,.slice B1 y.f1.length d1,.slice B2 y.f2.length d2,.int .i64 y.f3,.int .i64 y.f4,.int .i64 y.f5,.slice B6 y.f6.length d6,.bool y.f7,.slice B8 y.f8.length d8] 27 (0,0))):=⟨by rw [hW2,(blk_set (blk_set (blk_set (blk_set (blk_set (blk_set (blk_set (blk_set (blk_set HX2.out 0 _) 1 _) 2 _) 3 _) 4 _) 5 _) 6 _) 7 _) 8 _)];simp only [nm]⟩
   have HB3:Aside0 (Below W.heap.size W W2):=⟨by rw [hW2];exact (below_set (below_set (below_set (below_set (below_set (below_set (below_set (below_set (below_set (below_step HB.out HB2.out) HGE.out) HGE.out) HGE.out) HGE.out) HGE.out) HGE.out) HGE.out) HGE.out) HGE.out)⟩
   have HBr:Aside0 (Below wr.heap.size wr W2):=⟨by rw [hW2];exact (below_set (below_set (below_set (below_set (below_set (below_set (below_set (below_set (below_set HB2.out (by have:=HG2.out;omega)) (by have:=HG2.out;omega)) (by have:=HG2.out;omega)) (by have:=HG2.out;omega)) (by have:=HG2.out;omega)) (by have:=HG2.out;omega)) (by have:=HG2.out;omega)) (by have:=HG2.out;omega)) (by have:=HG2.out;omega))⟩
   clear hW2 HX2 HB2 HG2 HGE y0 y1 y2 y3 y4 y5 y6 y7 y8 z0 z1 z2 z3 z4 z5 z6 z7 z8 hx0 hx1 hx2 hx3 hx4 hx5 hx6 hx7 hx8
   obtain ⟨y0,y1,y2,y3,y4,y5,y6,y7,y8⟩:=cc9 HX3.out
   go_wp2_with (go_at_call 27;refine (HC.out _ HBr.out).mono ?_;rintro e w4 ⟨rfl,hb⟩;have HB4:=bS HB3 hb;clear hb)
   go_roundw
   case rel=>exact ⟨i+1,_,by first|exact congrArg (Value.int .i64) HW1.out|rfl,rfl,⟨by rw [HST.out];first|exact HW2.out|exact HW2.out.symm⟩,⟨HLT.out⟩,HB4⟩
   case measure=>first|exact meas_wrap rfl HLT.out HW1.out|exact meas_plain HLT.out
  ·obtain rfl:i=x.f8.length:=by have:=HI.out;omega
   have b1:decide ((x.f8.length:Int)<(x.f8.length:Int))=false:=decide_eq_false (by omega)
   have hv:=HV.out
   have hn:=HN.out
   rw [List.take_length,← hv] at hn
   have HN2:=am hn
   clear hn hv
   go_wp2
   go_ret
   exact ⟨congrArg (fun n:Int=>Ending.returned (.int .i64 n)) HN2.out,HB.out⟩
theorem count_all:∀ k:Nat,k≤4→CountAt k
 | 0,_=>fun x W cs h _=>h.elim
 | k+1,h=>count_step k (by omega) (count_all k (by omega))
def NOK:Nat→S76→Prop
 | 0,_=>False
 | k+1,x=>(x.f0=1∧owordB x.f1=true∧x.f2=[]∧x.f3=[])∨(x.f1=⟨#[]⟩∧x.f3.length≤16∧(∀ y∈x.f3,NOK k y)∧((x.f0=2∧x.f2=[])∨(x.f0=3∧x.f2.length=x.f3.length∧namesB onameB x.f2=true)))
theorem onames_any (l:List ByteArray) (m:Int) (hm:(l.length:Int)=m) (hk:namesB onameB l=true) (A:Option Addr) (c:Nat) (w:World) (hl:l.length≤c) (hr:Kd.C Kd.string w A l.length l):Calls Tryz.prog 209 #[.slice A l.length c,.int .i64 m] w fun e w'=>e=.returned (.bool true)∧Below w.heap.size w w':=by
 subst hm
 have m1:(l.length:Int)≤9223372036854775807:=by have:=hr.2.1;omega
 have hall:=(upTo_iff _ _).1 hk
 have HR:=am hr
 have HL:=am hl
 have HA:=am hall
 clear hr hk hall
 go_in
 go_wp2
 go_loopw [9] (fun v wr=>∃ i:Nat,v=.int .i64 i∧Aside0 (i≤l.length)∧Aside0 (Below w.heap.size w wr)) (fun v _=>l.length-(intOf v).toNat)
 case atStart=>exact ⟨0,rfl,⟨Nat.zero_le _⟩,⟨Below.refl _ _⟩⟩
 case round =>
  obtain ⟨i,rfl,HI,HB⟩:=hrel
  by_cases hlt:i<l.length
  ·obtain ⟨ad,e,hc0⟩:=Kd.at_string (Kd.C_below HR.out HB.out) i (by omega) (by omega)
   cases e
   rw [rd_wd,Int.toNat_natCast] at hc0
   have hok:(onameB (wd l i) && !Lib.containsS (l.take i) (wd l i))=true:=HA.out i hlt
   simp only [Bool.and_eq_true,Bool.not_eq_true'] at hok
   have hw:=fun W=>oname_any (wd l i) W
   have hct:=fun W hb=>contains_take _ c l.length l i (wd l i) w W HR.out hb (by omega) HL.out
   simp only [hok.1] at hw
   simp only [hok.2] at hct
   have hw1:wrap64 ((i:Int)+1)=((i+1:Nat):Int):=by unfold wrap64;omega
   have b1:decide ((i:Int)<(l.length:Int))=true:=decide_eq_true (by omega)
   have b2:((i:Int)≤(c:Int))=True:=eq_true (by have:=HL.out;omega)
   generalize wd l i=s at *
   have HW:=am hw
   have HCT:=am hct
   have HN:=am hw1
   have HLT:=am hlt
   clear hw hct hok hw1
   go_wp2_with (first|(go_at_call 249;refine (HW.out _).mono ?_;rintro e w2 ⟨rfl,hb⟩;have HB2:=bS HB hb;clear hb)|(go_at_call 33;refine (HCT.out _ HB2.out).mono ?_;rintro e w3 ⟨rfl,hb⟩;have HB3:=bS HB2 hb;clear hb))
   go_roundw
   case rel=>exact ⟨i+1,by first|exact congrArg (Value.int .i64) HN.out|rfl,⟨HLT.out⟩,HB3⟩
   case measure=>first|exact meas_wrap rfl HLT.out HN.out|exact meas_plain HLT.out
  ·obtain rfl:i=l.length:=by have:=HI.out;omega
   have b1:decide ((l.length:Int)<(l.length:Int))=false:=decide_eq_false (by omega)
   have b3:((l.length:Int) == (l.length:Int))=true:=beq_self_eq_true _
   go_wp2
   go_ret
   exact ⟨by first|rfl|simp,HB.out⟩
def MayN (k:Nat):Prop:=∀ (x:S76) (W:World) (cs:List Value),NOK k x→k76.K W x cs→Calls Tryz.prog 160 #[.agg cs.toArray,.int .i64 (k:Int)] W fun e W'=>e=.returned (.bool true)∧Below W.heap.size W W'
theorem nmay1_any (k:Nat) (hk:MayN k) (hkb:(k:Int)≤1000) (x:S76) (hs:NOK k x) (g:Nat) (W:World) (hg:W.heap[g]?=some (.cells #[.int .i64 ((k:Int)+1)] 3 (0,0))) (cs:List Value) (h:k76.K W x cs):Calls Tryz.prog 211 (#[.agg cs.toArray]++#[.pointer (some ⟨g,0,none⟩)]) W fun e W'=>e=.returned (.bool false)∧Below W.heap.size W W':=by
 have hc:=fun W2 (hb:Below W.heap.size W W2)=>hk x W2 cs hs (k76.K_below hb h)
 obtain ⟨A2,c2,A3,c3,rfl,l2,g2,l3,g3⟩:=k76_open h
 have hwk:wrap64 ((k:Int)+1-1)=(k:Int):=by unfold wrap64;omega
 have hwk2:(k:Int)+1-1=(k:Int):=by omega
 have HC:=am hc
 have HG:=am hg
 clear hc hk hs hg h g2 g3
 show Calls Tryz.prog 211 #[.agg #[.int .i64 x.f0,.string x.f1,.slice A2 x.f2.length c2,.slice A3 x.f3.length c3],.pointer (some ⟨g,0,none⟩)] W fun e W'=>e=.returned (.bool false)∧Below W.heap.size W W'
 generalize hkk:(k:Int)=kk at *
 go_in
 go_wp2_with (first|((with_reducible refine bv 2 #[.int .i64 x.f0,.string x.f1,.slice A2 x.f2.length c2,.slice A3 x.f3.length c3] 76 ?_);intro gb hgb w1 hbox hb;obtain ⟨y0,y1,y2,y3⟩:=cc4 hbox;have yd:w1.cell? ⟨g,0,none⟩=some (.int .i64 (kk+1)):=(blk_cell (blk_below HG.out hb) 0).trans rfl;have HX1:=am hbox;have HB1:=am hb;have HGHX1:=am hgb;clear hb hbox hgb)|(go_at_call 160;(try rw [hwk]);(try rw [hwk2]);refine (HC.out _ HB1.out).mono ?_;rintro e w2 ⟨rfl,hb⟩;have HB2:=bS HB1 hb;clear hb))
 go_ret
 exact ⟨rfl,HB2.out⟩
theorem nmay_step (k:Nat) (hk:MayN k) (hkb:(k:Int)≤1000):MayN (k+1):=by
 intro x W cs hs h
 obtain ⟨kk,hkk⟩:∃ kk:Int,kk=(k:Int)+1:=⟨_,rfl⟩
 obtain ⟨f0,f1,f2,f3⟩:=x
 have hopen:∃ A2 c2 A3 c3,cs=[.int .i64 f0,.string f1,.slice A2 f2.length c2,.slice A3 f3.length c3]∧f2.length≤c2∧Kd.C Kd.string W A2 f2.length f2∧f3.length≤c3∧Kd.C k76 W A3 f3.length f3:=k76_open h
 obtain ⟨A2,c2,A3,c3,rfl,l2,g2,l3,g3⟩:=hopen
 have hs':(f0=1∧owordB f1=true∧f2=[]∧f3=[])∨(f1=⟨#[]⟩∧f3.length≤16∧(∀ y∈f3,NOK k y)∧((f0=2∧f2=[])∨(f0=3∧f2.length=f3.length∧namesB onameB f2=true))):=hs
 clear hs
 have d1:=fun W2=>oword_any f1 W2
 have hany:f3.any (fun _=>false)=false:=by rw [List.any_eq_false];intro _ _ h;cases h
 have d3:(∀ y∈f3,NOK k y)→∀ g W2,Below W.heap.size W W2→W2.heap[g]?=some (.cells #[.int .i64 kk] 3 (0,0))→Calls Tryz.prog 210 #[.slice A3 f3.length c3,.func (.func 211) #[] #[.pointer (some ⟨g,0,none⟩)]] W2 fun e w'=>e=.returned (.bool false)∧Below W2.heap.size W2 w':=fun hall g W2 hb hg=>by
  have:=has_Node 211 _ #[.pointer (some ⟨g,0,none⟩)] (fun y=>false) A3 c3 f3 W2 ⟨Tryz.func211,by kernel_rfl,rfl⟩ (Kd.C_below g3 hb) (fun y hy W3 cs3 hb3 h3=>nmay1_any k hk hkb y (hall y hy) g W3 (by rw [← hkk];exact blk_below hg hb3) cs3 h3)
  rwa [hany] at this
 have d2:=fun (hn:namesB onameB f2=true) m (hm:(f2.length:Int)=m) W2 (hb:Below W.heap.size W W2)=>onames_any f2 m hm hn A2 c2 W2 l2 (Kd.C_below g2 hb)
 have hpos:(kk == 0)=false:=by rw [beq_eq_false_iff_ne];omega
 have hnil:namesB onameB []=true:=rfl
 have m8:(f3.length:Int)≤9223372036854775807:=by have:=g3.2.1;omega
 show Calls Tryz.prog 160 #[.agg #[.int .i64 f0,.string f1,.slice A2 f2.length c2,.slice A3 f3.length c3],.int .i64 (((k+1:Nat)):Int)] W fun e W'=>e=.returned (.bool true)∧Below W.heap.size W W'
 rw [show (((k+1:Nat)):Int)=kk from by rw [hkk];rfl]
 clear h g2 g3 hk hany hkk
 rcases hs' with ⟨rfl,hw,rfl,rfl⟩|⟨e1,h16,hall,⟨rfl,rfl⟩|⟨rfl,hlen,hnm⟩⟩
 ·simp only [hw] at d1
  have C1:=am d1
  clear d1 d2 d3 hw
  go_in
  go_wp2_with (first|((with_reducible refine bv 2 #[.int .i64 1,.string f1,.slice A2 0 c2,.slice A3 0 c3] 76 ?_);intro gb hgb w1 hbox hb;have HX1:=am hbox;have HB1:=am hb;have HGHX1:=am hgb;clear hb hbox hgb)|((with_reducible refine bv 3 #[.int .i64 kk] 3 ?_);intro gd hgb w2 hbox hb;have yd:w2.cell? ⟨gd,0,none⟩=some (.int .i64 kk):=bz hbox 0 rfl;have HX2:=bB HX1 hb;obtain ⟨z0,z1,z2,z3⟩:=cc4 HX2.out;have HD2:=am hbox;have HB2:=bS HB1 hb;have HGHD2:=am hgb;clear hb hbox hgb)|(go_at_call 208;refine (C1.out _).mono ?_;rintro e w3 ⟨rfl,hb⟩;have HB3:=bS HB2 hb;have HX3:=bB HX2 hb;obtain ⟨z0,z1,z2,z3⟩:=cc4 HX3.out;clear hb))
  go_ret
  exact ⟨by first|rfl|simp,HB3.out⟩
 ·have z1:(f1.toList == ([]:List UInt8))=true:=by rw [e1,ByteArray.toList_eq];rfl
  have C2:=am (d2 hnil 0 (by simp))
  have C3:=am (d3 hall)
  have b16:decide ((f3.length:Int)≤64)=true:=decide_eq_true (by omega)
  clear d1 d2 d3 e1 hall
  go_in
  go_wp2_with (first|((with_reducible refine bv 2 #[.int .i64 2,.string f1,.slice A2 0 c2,.slice A3 f3.length c3] 76 ?_);intro gb hgb w1 hbox hb;have HX1:=am hbox;have HB1:=am hb;have HGHX1:=am hgb;clear hb hbox hgb)|((with_reducible refine bv 3 #[.int .i64 kk] 3 ?_);intro gd hgb w2 hbox hb;have yd:w2.cell? ⟨gd,0,none⟩=some (.int .i64 kk):=bz hbox 0 rfl;have HX2:=bB HX1 hb;obtain ⟨z0,z1,z2,z3⟩:=cc4 HX2.out;have HD2:=am hbox;have HB2:=bS HB1 hb;have HGHD2:=am hgb;clear hb hbox hgb)|(go_at_call 209;refine (C2.out _ HB2.out).mono ?_;rintro e w3 ⟨rfl,hb⟩;have HB3:=bS HB2 hb;have HD3:=bB HD2 hb;have HX3:=bB HX2 hb;obtain ⟨z0,z1,z2,z3⟩:=cc4 HX3.out;clear hb)|(go_at_call 210;refine (C3.out _ _ HB3.out HD3.out).mono ?_;rintro e w4 ⟨rfl,hb⟩;have HB4:=bS HB3 hb;clear hb))
  go_ret
  exact ⟨by first|rfl|simp,HB4.out⟩
 ·have z1:(f1.toList == ([]:List UInt8))=true:=by rw [e1,ByteArray.toList_eq];rfl
  have C2:=am (d2 hnm (f3.length:Int) (congrArg (fun n:Nat=>(n:Int)) hlen))
  have C3:=am (d3 hall)
  have b16:decide ((f3.length:Int)≤64)=true:=decide_eq_true (by omega)
  clear d1 d2 d3 e1 hall hnm hlen
  go_in
  go_wp2_with (first|((with_reducible refine bv 2 #[.int .i64 3,.string f1,.slice A2 f2.length c2,.slice A3 f3.length c3] 76 ?_);intro gb hgb w1 hbox hb;have HX1:=am hbox;have HB1:=am hb;have HGHX1:=am hgb;clear hb hbox hgb)|((with_reducible refine bv 3 #[.int .i64 kk] 3 ?_);intro gd hgb w2 hbox hb;have yd:w2.cell? ⟨gd,0,none⟩=some (.int .i64 kk):=bz hbox 0 rfl;have HX2:=bB HX1 hb;obtain ⟨z0,z1,z2,z3⟩:=cc4 HX2.out;have HD2:=am hbox;have HB2:=bS HB1 hb;have HGHD2:=am hgb;clear hb hbox hgb)|(go_at_call 209;refine (C2.out _ HB2.out).mono ?_;rintro e w3 ⟨rfl,hb⟩;have HB3:=bS HB2 hb;have HD3:=bB HD2 hb;have HX3:=bB HX2 hb;obtain ⟨z0,z1,z2,z3⟩:=cc4 HX3.out;clear hb)|(go_at_call 210;refine (C3.out _ _ HB3.out HD3.out).mono ?_;rintro e w4 ⟨rfl,hb⟩;have HB4:=bS HB3 hb;clear hb))
  go_ret
  exact ⟨by first|rfl|simp,HB4.out⟩
theorem nmay_all:∀ k:Nat,k≤1000→MayN k
 | 0,_=>fun x W cs hs _=>hs.elim
 | k+1,h=>nmay_step k (nmay_all k (by omega)) (by omega)
theorem oright_any (x:S76) (hs:NOK 8 x) (W:World) (cs:List Value) (h:k76.K W x cs):Calls Tryz.prog 93 #[.agg cs.toArray] W fun e W'=>e=.returned (.bool true)∧Below W.heap.size W W':=by
 have hc:=fun W2 (hb:Below W.heap.size W W2)=>nmay_all 8 (by omega) x W2 cs hs (k76.K_below hb h)
 obtain ⟨A2,c2,A3,c3,rfl,l2,g2,l3,g3⟩:=k76_open h
 have HC:=am hc
 clear hc hs h g2 g3
 show Calls Tryz.prog 93 #[.agg #[.int .i64 x.f0,.string x.f1,.slice A2 x.f2.length c2,.slice A3 x.f3.length c3]] W fun e W'=>e=.returned (.bool true)∧Below W.heap.size W W'
 go_in
 go_wp2_with (first|((with_reducible refine bv 1 #[.int .i64 x.f0,.string x.f1,.slice A2 x.f2.length c2,.slice A3 x.f3.length c3] 76 ?_);intro gb hgb w1 hbox hb;obtain ⟨y0,y1,y2,y3⟩:=cc4 hbox;have HX1:=am hbox;have HB1:=am hb;have HGHX1:=am hgb;clear hb hbox hgb)|(go_at_call 160;refine (HC.out _ HB1.out).mono ?_;rintro e w2 ⟨rfl,hb⟩;have HB2:=bS HB1 hb;clear hb))
 go_ret
 exact ⟨rfl,HB2.out⟩
def NodeV:Value:=.agg #[.int .i64 0,.string (⟨#[]⟩:ByteArray),.slice none 0 0,.slice none 0 0]
theorem info_node:(Tryz.prog.info? 76).map (fun i=>(i.zero,i.size,i.bytes))=some (some NodeV,4,72):=by kernel_rfl
def Made (k:Nat) (W:World) (e:Ending) (W':World):Prop:=(∃ (nd:S76) (cs':List Value),e=.returned (.agg cs'.toArray)∧NOK k nd∧k76.M W' W.heap.size (fun _=>True) nd cs')∧Below W.heap.size W W'
def OfV (F k:Nat) (w:World) (xs:List ByteArray):Prop:=∀ x∈xs,∀ W,Below w.heap.size w W→Calls Tryz.prog F (#[.string x]++#[]) W fun e W'=>Made k W e W'
def OfA {α:Type} (F k:Nat) (d:Kd α) (w:World) (xs:List α):Prop:=∀ x∈xs,∀ (W:World) (cs:List Value),Below w.heap.size w W→d.K W x cs→Calls Tryz.prog F (#[.agg cs.toArray]++#[]) W fun e W'=>Made k W e W'
theorem M_fresh {W W3:World} {nd:S76} {cs:List Value} (h:k76.M W3 W.heap.size (fun _=>True) nd cs):k76.M W3 W.heap.size (fun k=>W.heap.size≤k) nd cs:=k76.M_mono (fun k hk=>hk.2.1) (k76.M_bound h)
theorem R_low {α:Type} {d:Kd α} {e base g j:Nat} {w:World} {v u:Value} {xs:List α} (h:d.R e w base (fun _=>True) v xs) (hg:g<base):d.R e (w.setCell ⟨g,j,none⟩ u) base (fun _=>True) v xs :=
 Kd.R_mono (Kd.R_far (p:=⟨g,j,none⟩) (Kd.R_mono (ok':=fun k=>base≤k) (Kd.R_bound h) (fun k hk=>hk.2.1)) (fun k hk=>by show k≠g;omega) u) (fun _ _=>trivial)
theorem M_low {g j:Nat} {w:World} {base:Nat} {u:Value} {nd:S76} {cs:List Value} (h:k76.M w base (fun _=>True) nd cs) (hg:g<base):k76.M (w.setCell ⟨g,j,none⟩ u) base (fun _=>True) nd cs :=
 k76.M_mono (fun _ _=>trivial) (Kd.M_far (p:=⟨g,j,none⟩) (k76.M_mono (ok':=fun k=>base≤k) (fun k hk=>hk.2.1) (k76.M_bound h)) (fun k hk=>by show k≠g;omega) u)
theorem size_setCellN (w:World) (a:Addr) (u:Value):(w.setCell a u).heap.size=w.heap.size:=by simp [World.setCell]
theorem joinTail_len (sep:List UInt8) (N:Nat):∀ (r:List (List UInt8)),(∀ x∈r,x.length≤N)→(Lib.joinTail sep r).length≤r.length*(sep.length+N)
 | [],_=>by simp [Lib.joinTail]
 | x::r,h=>by
   have ih:=joinTail_len sep N r (fun y hy=>h y (List.mem_cons_of_mem _ hy))
   have hx:=h x List.mem_cons_self
   have e:Lib.joinTail sep (x::r)=sep++x++Lib.joinTail sep r:=by simp [Lib.joinTail]
   rw [e,List.length_append,List.length_append,List.length_cons,Nat.succ_mul]
   omega
theorem join_len (sep:List UInt8) (N:Nat) (r:List (List UInt8)) (h:∀ x∈r,x.length≤N):(Lib.join r sep).length≤r.length*(sep.length+N):=by
 cases r with
 | nil=>simp [Lib.join,List.intercalate]
 | cons x r =>
   have hx:=h x List.mem_cons_self
   have ih:=joinTail_len sep N r (fun y hy=>h y (List.mem_cons_of_mem _ hy))
   rw [Lib.join_cons,List.length_append,List.length_cons,Nat.succ_mul]
   omega
theorem joinT_size (c:UInt8) (ws:List ByteArray) (N:Nat) (h:∀ i,i<ws.length→(wd ws i).size≤N):(joinT ws ⟨#[c]⟩).size≤ws.length*(1+N):=by
 have h2:=join_len [c] N (ws.map (·.data.toList)) (by
  intro x hx
  obtain ⟨s,hs,rfl⟩:=List.mem_map.1 hx
  obtain ⟨i,hi,he⟩:=List.getElem_of_mem hs
  have:=h i hi
  unfold wd at this
  rw [List.getD_eq_getElem?_getD,List.getElem?_eq_getElem hi] at this
  rw [data_length,← he]
  exact this)
 rw [List.length_map] at h2
 have e:(joinT ws ⟨#[c]⟩).size=(Lib.join (ws.map (·.data.toList)) [c]).length:=by simp [joinT,ByteArray.size]
 rw [e]
 exact h2
def mtextB (x:S108):ByteArray:=x.f0++signOf x.f1++⟨#[34]⟩++joinT x.f2 ⟨#[124]⟩++⟨#[34]⟩
theorem join_any (A:Option Addr) (c:Nat) (xs:List ByteArray) (s:UInt8) (W:World) (hc:Kd.C Kd.string W A xs.length xs) (hl:xs.length≤c) (hn:xs.length≤1000) (hs:∀ i,i<xs.length→(wd xs i).size≤1000):Calls Tryz.prog 110 #[.slice A xs.length c,.string ⟨#[s]⟩] W fun e w'=>e=.returned (.string (joinT xs ⟨#[s]⟩))∧Below W.heap.size W w' :=
 strings_Join.calls A c xs ⟨#[s]⟩ _ W hc hl (by
  unfold strings_Join.f
  have h:=joinT_size s xs 1000 hs
  have h2:xs.length*(1+1000)≤1000*(1+1000):=Nat.mul_le_mul_right _ hn
  rw [if_pos ⟨by omega,by omega⟩])
theorem match_words {x:S108} (h:matchB x=true):x.f2.length≤8∧∀ i,i<x.f2.length→(wd x.f2 i).size≤64:=by
 unfold matchB at h
 simp only [Bool.and_eq_true,decide_eq_true_eq] at h
 obtain ⟨h1,_,h3⟩:=h
 constructor
 ·unfold mostI at h3
  split at h3<;>omega
 ·intro i hi
  have:=(upTo_iff _ _).1 h1 i hi
  unfold mwAt wordB at this
  simp only [Bool.and_eq_true,decide_eq_true_eq] at this
  exact this.1.1
theorem match_name {x:S108} (h:matchB x=true):x.f0.size≤64:=by
 unfold matchB at h
 simp only [Bool.and_eq_true] at h
 have h2:=h.2.1.1.2
 unfold setB at h2
 simp only [Bool.and_eq_true] at h2
 have h3:setAt [⟨x.f0,⟨#[120]⟩⟩] 0=true:=(upTo_iff _ _).1 h2.1 0 (by simp)
 unfold setAt lmayB nameB lab at h3
 simp at h3
 omega
theorem signOf_size (how:Int):(signOf how).size≤2:=by
 unfold signOf
 split
 ·decide
 split
 ·decide
 split
 ·decide
 split
 ·decide
 ·decide
theorem mtext_any (x:S108) (hs:MatSz x) (W:World) (cs:List Value) (h:k108.K W x cs) :
 Calls Tryz.prog 146 #[.agg cs.toArray] W fun e W'=>e=.returned (.tuple #[.string (if matchB x=true then mtextB x else ⟨#[]⟩),.int .i64 (if matchB x=true then 0 else 1)])∧Below W.heap.size W W':=by
 obtain ⟨A2,c2,rfl,l2,g2⟩:=k108_open h
 have hm:=fun W2 (hb:Below W.heap.size W W2)=>mright_any x A2 c2 W2 hs.1 hs.2 l2 (Kd.C_below g2 hb)
 have hw:=hs.1
 have hj:=fun (hp:matchB x=true) W2 (hb:Below W.heap.size W W2)=>join_any A2 c2 x.f2 124 W2 (Kd.C_below g2 hb) l2 (by have:=(match_words hp).1;omega) (fun i hi=>by have:=(match_words hp).2 i hi;omega)
 have hnm:matchB x=true→x.f0.size≤64:=fun hp=>match_name hp
 have hsg:(signOf x.f1).size≤2:=signOf_size x.f1
 have hjs:matchB x=true→(joinT x.f2 ⟨#[124]⟩).size≤600:=fun hp=>by
  have h1:=match_words hp
  have h:=joinT_size 124 x.f2 64 h1.2
  have h2:x.f2.length*(1+64)≤8*(1+64):=Nat.mul_le_mul_right _ h1.1
  omega
 have HM:=am hm
 have HWF:=am hw
 have hmt:mtextB x=x.f0++signOf x.f1++⟨#[34]⟩++joinT x.f2 ⟨#[124]⟩++⟨#[34]⟩:=rfl
 clear h g2 hs hm hw
 generalize joinT x.f2 ⟨#[124]⟩=jt at *
 generalize mtextB x=mt at *
 generalize matchB x=q at *
 have HJ:=am hj
 have HT:=am hmt
 clear hj hmt
 show Calls Tryz.prog 146 #[.agg #[.string x.f0,.int .i64 x.f1,.slice A2 x.f2.length c2]] W fun e W'=>e=.returned (.tuple #[.string (if q=true then mt else ⟨#[]⟩),.int .i64 (if q=true then 0 else 1)])∧Below W.heap.size W W'
 go_in
 cases q with
 | false =>
   go_wp2_with (first|((with_reducible refine bv 1 #[.string x.f0,.int .i64 x.f1,.slice A2 x.f2.length c2] 108 ?_);intro gb hgb w1 hbox hb;obtain ⟨y0,y1,y2⟩:=cc3 hbox;have HX1:=am hbox;have HB1:=am hb;clear hb hbox hgb)|(go_at_call 63;refine (HM.out _ HB1.out).mono ?_;rintro e w2 ⟨rfl,hb⟩;have HB2:=bS HB1 hb;have HX2:=bB HX1 hb;clear hb))
   go_ret2
   exact ⟨rfl,HB2.out⟩
 | true =>
   have hn64:=hnm rfl
   have hj600:=hjs rfl
   have n1:(9223372036854775807<x.f0.size+(signOf x.f1).size)=False:=eq_false (by omega)
   have n2:(9223372036854775807<x.f0.size+(signOf x.f1).size+1)=False:=eq_false (by omega)
   have n3:(9223372036854775807<x.f0.size+(signOf x.f1).size+1+jt.size)=False:=eq_false (by omega)
   have n4:(9223372036854775807<x.f0.size+(signOf x.f1).size+1+jt.size+1)=False:=eq_false (by omega)
   go_upto_region 3 with (first|((with_reducible refine bv 1 #[.string x.f0,.int .i64 x.f1,.slice A2 x.f2.length c2] 108 ?_);intro gb hgb w1 hbox hb;obtain ⟨y0,y1,y2⟩:=cc3 hbox;have HX1:=am hbox;have HB1:=am hb;clear hb hbox hgb)|(go_at_call 63;refine (HM.out _ HB1.out).mono ?_;rintro e w2 ⟨rfl,hb⟩;have HB2:=bS HB1 hb;have HX2:=bB HX1 hb;clear hb))
   refine sv 15 (fun w'=>w'.cell? ⟨gb,0,none⟩=some (.string x.f0)∧w'.cell? ⟨gb,1,none⟩=some (.int .i64 x.f1)∧w'.cell? ⟨gb,2,none⟩=some (.slice A2 x.f2.length c2)) [] ⟨bz HX2.out 0 rfl,bz HX2.out 1 rfl,bz HX2.out 2 rfl⟩ fun hHeld=>?_
   refine pv 0 7 ?_
   refine pv 3 10 ?_
   refine pv 8 15 ?_
   refine tv 1 8 ?_
   refine tv 4 11 ?_
   refine tv 9 16 ?_
   refine ca_ 2 (fl 15 799) (some 9) Tryz.func128 (by kernel_rfl) rfl #[] rfl rfl (by kernel_rfl) (by decide) (by rfl) rfl (by (try simp only [List.map_toArray,List.map_cons,List.map_nil]);first|done|rfl) ?_
   refine (signs_new _).mono ?_
   rintro e w3 ⟨mb,rfl,hsg,hb⟩
   have HB3:=am (below_step (below_drew HB2.out) hb)
   have HX3:=am (blk_below (blk_drew HX2.out) hb)
   have HSG:=am hsg
   clear hb hsg
   refine ⟨_,rfl,⟨bz HX3.out 0 rfl,bz HX3.out 1 rfl,bz HX3.out 2 rfl⟩,fun hHeld a' ha=>?_⟩
   simp only [nm] at ha
   subst ha
   refine tw 5 10 12 17 (fun K hK=>?_) fun K hK=>?_
   ·skip
    refine look_ (b:=mb) (how:=x.f1) (by rfl) rfl rfl (by rfl) (by rfl) HSG.out HWF.out rfl ?_
    intro w5 hb hsg
    have HB5:=bS HB3 hb
    have HX5:=bB HX3 hb
    clear hb hsg
    refine hK.out _ _ ⟨bz HX5.out 0 rfl,bz HX5.out 1 rfl,bz HX5.out 2 rfl⟩ (fun hHeld=>?_)
    clear hK K
    refine nv 12 ?_
    refine pv 6 13 ?_
    refine pv 7 14 ?_
    refine ov 10 17 fun K hK=>?_
    refine gv #[.slice A2 x.f2.length c2,.string ⟨#[124]⟩] ?_
    refine (HJ.out trivial _ HB5.out).mono ?_
    rintro e w4 ⟨rfl,hb⟩
    have HB4:=bS HB5 hb
    have HX4:=bB HX5 hb
    clear hb
    refine ⟨_,rfl,?_⟩
    refine hK.out _ _ ⟨bz HX4.out 0 rfl,bz HX4.out 1 rfl,bz HX4.out 2 rfl⟩ (fun hHeld=>?_)
    clear hK K
    refine nv 17 ?_
    refine pv 11 18 ?_
    refine pv 12 19 ?_
    refine pv 13 2 ?_
    refine pv 14 3 ?_
    refine done_ (by kernel_rfl) ?_
    go_wp2
    go_ret2
    exact ⟨by rw [HT.out];rfl,HB4.out⟩
   ·skip
    refine gv #[.slice A2 x.f2.length c2,.string ⟨#[124]⟩] ?_
    refine (HJ.out trivial _ HB3.out).mono ?_
    rintro e w5 ⟨rfl,hb⟩
    have HB5:=bS HB3 hb
    have HX5:=bB HX3 hb
    have HSG5:=am (HSG.out.below hb)
    clear hb
    refine ⟨_,rfl,?_⟩
    refine hK.out _ _ ⟨bz HX5.out 0 rfl,bz HX5.out 1 rfl,bz HX5.out 2 rfl⟩ (fun hHeld=>?_)
    clear hK K
    refine nv 17 ?_
    refine ov 5 12 fun K hK=>?_
    refine look_ (b:=mb) (how:=x.f1) (by rfl) rfl rfl (by rfl) (by rfl) HSG5.out HWF.out rfl ?_
    intro w4 hb hsg
    have HB4:=bS HB5 hb
    have HX4:=bB HX5 hb
    clear hb hsg
    refine hK.out _ _ ⟨bz HX4.out 0 rfl,bz HX4.out 1 rfl,bz HX4.out 2 rfl⟩ (fun hHeld=>?_)
    clear hK K
    refine nv 12 ?_
    refine pv 6 13 ?_
    refine pv 7 14 ?_
    refine pv 11 18 ?_
    refine pv 12 19 ?_
    refine pv 13 2 ?_
    refine pv 14 3 ?_
    refine done_ (by kernel_rfl) ?_
    go_wp2
    go_ret2
    exact ⟨by rw [HT.out];rfl,HB4.out⟩
def oddB (c:Int):Bool:=(decide (c<97) || decide (122<c)) && (decide (c<48) || decide (57<c)) && c != 95
theorem odd_any (c:Int) (h0:0≤c) (h1:c<256) (w:World):Calls Tryz.prog 65 #[.int .u8 c] w fun e w'=>e=.returned (.bool (oddB c))∧w'=w:=by
 have hc:c<48∨(48≤c∧c≤57)∨(58≤c∧c≤94)∨c=95∨c=96∨(97≤c∧c≤122)∨123≤c:=by omega
 rcases hc with h|⟨h,h'⟩|⟨h,h'⟩|h|h|⟨h,h'⟩|h
 ·have e:oddB c=true:=by simp [oddB];omega
  rw [e]
  have hne:(c != 95)=true:=by simp;omega
  have da:decide (c<97)=true:=by simp;omega
  have db:decide (122<c)=false:=by simp;omega
  have dc:decide (c<48)=true:=by simp;omega
  have dd:decide (57<c)=false:=by simp;omega
  clear e
  go_in
  go_wp2
  go_ret
  exact ⟨rfl,rfl⟩
 ·have e:oddB c=false:=by simp [oddB];omega
  rw [e]
  have hne:(c != 95)=true:=by simp;omega
  have da:decide (c<97)=true:=by simp;omega
  have db:decide (122<c)=false:=by simp;omega
  have dc:decide (c<48)=false:=by simp;omega
  have dd:decide (57<c)=false:=by simp;omega
  clear e
  go_in
  go_wp2
  go_ret
  exact ⟨rfl,rfl⟩
 ·have e:oddB c=true:=by simp [oddB];omega
  rw [e]
  have hne:(c != 95)=true:=by simp;omega
  have da:decide (c<97)=true:=by simp;omega
  have db:decide (122<c)=false:=by simp;omega
  have dc:decide (c<48)=false:=by simp;omega
  have dd:decide (57<c)=true:=by simp;omega
  clear e
  go_in
  go_wp2
  go_ret
  exact ⟨rfl,rfl⟩
 ·have e:oddB c=false:=by simp [oddB];omega
  rw [e]
  have hne:(c != 95)=false:=by simp;omega
  clear e
  subst h
  go_in
  go_wp2
  go_ret
  exact ⟨rfl,rfl⟩
 ·have e:oddB c=true:=by simp [oddB];omega
  rw [e]
  have hne:(c != 95)=true:=by simp;omega
  clear e
  subst h
  go_in
  go_wp2
  go_ret
  exact ⟨rfl,rfl⟩
 ·have e:oddB c=false:=by simp [oddB];omega
  rw [e]
  have hne:(c != 95)=true:=by simp;omega
  have da:decide (c<97)=false:=by simp;omega
  have db:decide (122<c)=false:=by simp;omega
  have dc:decide (c<48)=false:=by simp;omega
  have dd:decide (57<c)=true:=by simp;omega
  clear e
  go_in
  go_wp2
  go_ret
  exact ⟨rfl,rfl⟩
 ·have e:oddB c=true:=by simp [oddB];omega
  rw [e]
  have hne:(c != 95)=true:=by simp;omega
  have da:decide (c<97)=false:=by simp;omega
  have db:decide (122<c)=true:=by simp;omega
  have dc:decide (c<48)=false:=by simp;omega
  have dd:decide (57<c)=true:=by simp;omega
  clear e
  go_in
  go_wp2
  go_ret
  exact ⟨rfl,rfl⟩
def Found (xs:List Int) (w:World) (e:Ending) (w':World):Prop:=∃ r:Int,e=.returned (.int .i64 r)∧decide (0≤r)=xs.any oddB∧w'=w
theorem hany_take (xs:List Int) (k:Nat) (hk:k<xs.length) (h:(xs.take k).any oddB=false) (h2:oddB (xs.getD k 0)=false):(xs.take (k+1)).any oddB=false:=by
 rw [List.take_succ_eq_append_getElem hk,List.any_append,h]
 rw [List.getD_eq_getElem?_getD,List.getElem?_eq_getElem hk] at h2
 simpa using h2
theorem hany_at (xs:List Int) (k:Nat) (hk:k<xs.length) (h2:oddB (xs.getD k 0)=true):xs.any oddB=true:=by
 rw [List.getD_eq_getElem?_getD,List.getElem?_eq_getElem hk] at h2
 exact List.any_eq_true.2 ⟨_,List.getElem_mem hk,h2⟩
theorem index_any (g n cap:Nat) (xs:List Int) (w:World) (hn:xs.length=n) (hm:n≤9223372036854775807) (hc:∀ j,j<n→w.cell? ⟨g,j,none⟩=some (.int .u8 (xs.getD j 0))) (hb:∀ j,j<n→0≤xs.getD j 0∧xs.getD j 0<256) :
 Calls Tryz.prog 129 #[.slice (some ⟨g,0,none⟩) n cap,.func (.func 65) #[] #[]] w (Found xs w):=by
 have HN:=am hn
 have HC:=am hc
 have HB:=am hb
 clear hn hc hb
 go_in
 go_wp2
 go_loop [8] (fun i=>∃ k:Nat,k≤n∧i=.int .i64 k∧Aside0 ((xs.take k).any oddB=false)) (fun i=>n-(intOf i).toNat)
 case atStart=>exact ⟨0,Nat.zero_le _,rfl,⟨rfl⟩⟩
 case round =>
  obtain ⟨k,hk,rfl,hno⟩:=hrel
  by_cases hlt:k<n
  ·have hcell:=HC.out k hlt
   have hbd:=HB.out k hlt
   obtain ⟨c,hcv⟩:∃ c,xs.getD k 0=c:=⟨_,rfl⟩
   rw [hcv] at hcell hbd
   have HV:=am hcv
   have HBD:=am hbd
   clear hcv hbd
   cases ho:oddB c with
   | true =>
     have HO:=am ho
     have hcall:=fun W=>(odd_any c HBD.out.1 HBD.out.2 W)
     rw [ho] at hcall
     have HCALL:=am hcall
     clear ho hcall
     go_wp2_with (go_at_call 65;refine (HCALL.out _).mono ?_;rintro e w' ⟨rfl,rfl⟩)
     go_ret
     exact ⟨(k:Int),rfl,by rw [hany_at xs k (by have:=HN.out;omega) (by rw [HV.out];exact HO.out)];simp,rfl⟩
   | false =>
     have HO:=am ho
     have hcall:=fun W=>(odd_any c HBD.out.1 HBD.out.2 W)
     rw [ho] at hcall
     have HCALL:=am hcall
     clear ho hcall
     go_wp2_with (go_at_call 65;refine (HCALL.out _).mono ?_;rintro e w' ⟨rfl,rfl⟩)
     go_round
     case rel=>exact ⟨k+1,by omega,by go_num,⟨hany_take xs k (by have:=HN.out;omega) hno.out (by rw [HV.out];exact HO.out)⟩⟩
     case measure=>simp [intOf];omega
  ·go_wp2
   go_ret
   exact ⟨-1,rfl,by have:=hno.out;rw [List.take_of_length_le (by have:=HN.out;omega)] at this;rw [this];decide,rfl⟩
theorem contains_any (g n cap:Nat) (xs:List Int) (w:World) (hn:xs.length=n) (hm:n≤9223372036854775807) (hc:∀ j,j<n→w.cell? ⟨g,j,none⟩=some (.int .u8 (xs.getD j 0))) (hb:∀ j,j<n→0≤xs.getD j 0∧xs.getD j 0<256) :
 Calls Tryz.prog 66 #[.slice (some ⟨g,0,none⟩) n cap,.func (.func 65) #[] #[]] w fun e w'=>e=.returned (.bool (xs.any oddB))∧w'=w:=by
 have HI:=am (index_any g n cap xs w hn hm hc hb)
 clear hn hc hb
 go_in
 go_wp2_with (go_at_call 129;refine HI.out.mono ?_;rintro e w' ⟨r,rfl,hr,rfl⟩;have HR:=am hr;clear hr)
 go_ret
 exact ⟨congrArg (fun b:Bool=>Ending.returned (.bool b)) HR.out,rfl⟩
def rightB (nm:ByteArray) (d f t:Int):Bool :=
 decide (nm.size≠0) && decide (nm.size≤64) && !(bytesOf nm).any oddB && decide (1≤d) && decide (d≤127) && decide (0≤f) && decide (f<1440) && decide (f<t) && decide (t≤1440)
theorem name_call (nm:ByteArray) (w:World) (g cap:Nat) (hg:g=w.heap.size) (hs:nm.size≤64) :
 Calls Tryz.prog 66 #[.slice (some ⟨g,0,none⟩) nm.size cap,.func (.func 65) #[] #[]] (Lib.bytesWorld w 5 nm) fun e w'=>e=.returned (.bool ((bytesOf nm).any oddB))∧w'=Lib.bytesWorld w 5 nm:=by
 subst hg
 have hr:=bytes_reads w 5 nm (by omega)
 refine contains_any w.heap.size nm.size _ (bytesOf nm) _ (bytesOf_length nm) (by omega) (fun j hj=>?_) (fun j hj=>?_)
 ·obtain ⟨_,_,h⟩:=hr
  obtain ⟨ad,e,h2⟩:=h (by omega)
  cases e
  have:=h2 j hj
  rw [add_plain] at this
  exact this
 ·have h1:=bt_range nm (j:Int)
  have h2:=rd_bytesOf nm (j:Int)
  unfold rd at h2
  rw [Int.toNat_natCast] at h2
  rw [h2]
  omega
theorem box_cells (w:World) (nm:ByteArray) (d f t:Int) (ty:TypeId) :
 (Lib.bytesWorld (w.alloc (.cells #[.string nm,.int .i64 d,.int .i64 f,.int .i64 t] ty)) 5 nm).cell? ⟨w.heap.size,1,none⟩=some (.int .i64 d) ∧
 (Lib.bytesWorld (w.alloc (.cells #[.string nm,.int .i64 d,.int .i64 f,.int .i64 t] ty)) 5 nm).cell? ⟨w.heap.size,2,none⟩=some (.int .i64 f) ∧
 (Lib.bytesWorld (w.alloc (.cells #[.string nm,.int .i64 d,.int .i64 f,.int .i64 t] ty)) 5 nm).cell? ⟨w.heap.size,3,none⟩=some (.int .i64 t):=by
 have h:=blk_below (blk_new w (.cells #[.string nm,.int .i64 d,.int .i64 f,.int .i64 t] ty)) (bytes_below (Below.refl _ _) (Nat.le_refl _) 5 nm)
 refine ⟨?_,?_,?_⟩<;>simp [World.cell?,h]
theorem right_0 (nm:ByteArray) (d f t:Int) (w:World) (hz:nm.size=0) :
 Calls Tryz.prog 19 #[.agg #[.string nm,.int .i64 d,.int .i64 f,.int .i64 t]] w fun e w'=>e=.returned (.bool (rightB nm d f t))∧Below w.heap.size w w':=by
 have e:rightB nm d f t=false:=by unfold rightB;simp [hz];try omega
 obtain rfl:nm=ByteArray.empty:=by apply ByteArray.ext;apply Array.ext';exact List.length_eq_zero_iff.1 (by rw [data_length];exact hz)
 have HE:=am e
 clear e hz
 go_in
 go_wp2
 go_ret
 exact ⟨congrArg (fun b:Bool=>Ending.returned (.bool b)) HE.out.symm,(below_alloc (Below.refl _ _) _)⟩
theorem right_1 (nm:ByteArray) (d f t:Int) (w:World) (hz:¬ nm.size=0) (hs:64<nm.size) :
 Calls Tryz.prog 19 #[.agg #[.string nm,.int .i64 d,.int .i64 f,.int .i64 t]] w fun e w'=>e=.returned (.bool (rightB nm d f t))∧Below w.heap.size w w':=by
 have e:rightB nm d f t=false:=by unfold rightB;simp [hz,hs];try omega
 have z0:¬ nm.toList=[]:=fun h=>hz (by rw [← data_length,← ByteArray.toList_eq,h];rfl)
 have z1:(nm.toList == ([]:List UInt8))=false:=beq_eq_false_iff_ne.2 z0
 have z2:(nm.toList != ([]:List UInt8))=true:=bne_iff_ne.2 z0
 have HE:=am e
 clear e hz
 go_in
 go_wp2
 go_ret
 exact ⟨congrArg (fun b:Bool=>Ending.returned (.bool b)) HE.out.symm,(below_alloc (Below.refl _ _) _)⟩
theorem right_2 (nm:ByteArray) (d f t:Int) (w:World) (hz:¬ nm.size=0) (hs:nm.size≤64) (ho:(bytesOf nm).any oddB=true) :
 Calls Tryz.prog 19 #[.agg #[.string nm,.int .i64 d,.int .i64 f,.int .i64 t]] w fun e w'=>e=.returned (.bool (rightB nm d f t))∧Below w.heap.size w w':=by
 have e:rightB nm d f t=false:=by unfold rightB;simp [hz,hs,ho];try omega
 have z0:¬ nm.toList=[]:=fun h=>hz (by rw [← data_length,← ByteArray.toList_eq,h];rfl)
 have z1:(nm.toList == ([]:List UInt8))=false:=beq_eq_false_iff_ne.2 z0
 have z2:(nm.toList != ([]:List UInt8))=true:=bne_iff_ne.2 z0
 have HE:=am e
 have hcv:=fun W=>Lib.run_convert_string_bytes (P:=Tryz.prog) W 9 112 5 nm Tryz.underlying9 Tryz.underlying112 Tryz.underlying5
 have hcall:=fun W g cap hg=>name_call nm W g cap hg hs
 rw [ho] at hcall
 have HCALL:=am hcall
 clear hcall ho
 clear e hz
 go_in
 go_wp2_with (go_at_call 66;refine (HCALL.out _ _ _ (by simp)).mono ?_;rintro e w' ⟨rfl,rfl⟩;have y1:=box_cells w nm d f t 54;obtain ⟨y1,y2,y3⟩:=y1)
 go_ret
 exact ⟨congrArg (fun b:Bool=>Ending.returned (.bool b)) HE.out.symm,(bytes_below (below_alloc (Below.refl _ _) _) (by simp) _ _)⟩
theorem right_3 (nm:ByteArray) (d f t:Int) (w:World) (hz:¬ nm.size=0) (hs:nm.size≤64) (ho:(bytesOf nm).any oddB=false) (hd1:d<1) :
 Calls Tryz.prog 19 #[.agg #[.string nm,.int .i64 d,.int .i64 f,.int .i64 t]] w fun e w'=>e=.returned (.bool (rightB nm d f t))∧Below w.heap.size w w':=by
 have e:rightB nm d f t=false:=by unfold rightB;simp [hz,hs,ho,hd1];try omega
 have z0:¬ nm.toList=[]:=fun h=>hz (by rw [← data_length,← ByteArray.toList_eq,h];rfl)
 have z1:(nm.toList == ([]:List UInt8))=false:=beq_eq_false_iff_ne.2 z0
 have z2:(nm.toList != ([]:List UInt8))=true:=bne_iff_ne.2 z0
 have HE:=am e
 have hcv:=fun W=>Lib.run_convert_string_bytes (P:=Tryz.prog) W 9 112 5 nm Tryz.underlying9 Tryz.underlying112 Tryz.underlying5
 have hcall:=fun W g cap hg=>name_call nm W g cap hg hs
 rw [ho] at hcall
 have HCALL:=am hcall
 clear hcall ho
 clear e hz
 go_in
 go_wp2_with (go_at_call 66;refine (HCALL.out _ _ _ (by simp)).mono ?_;rintro e w' ⟨rfl,rfl⟩;have y1:=box_cells w nm d f t 54;obtain ⟨y1,y2,y3⟩:=y1)
 go_ret
 exact ⟨congrArg (fun b:Bool=>Ending.returned (.bool b)) HE.out.symm,(bytes_below (below_alloc (Below.refl _ _) _) (by simp) _ _)⟩
theorem right_4 (nm:ByteArray) (d f t:Int) (w:World) (hz:¬ nm.size=0) (hs:nm.size≤64) (ho:(bytesOf nm).any oddB=false) (hd1:1≤d) (hd2:127<d) :
 Calls Tryz.prog 19 #[.agg #[.string nm,.int .i64 d,.int .i64 f,.int .i64 t]] w fun e w'=>e=.returned (.bool (rightB nm d f t))∧Below w.heap.size w w':=by
 have e:rightB nm d f t=false:=by unfold rightB;simp [hz,hs,ho,hd1,hd2];try omega
 have z0:¬ nm.toList=[]:=fun h=>hz (by rw [← data_length,← ByteArray.toList_eq,h];rfl)
 have z1:(nm.toList == ([]:List UInt8))=false:=beq_eq_false_iff_ne.2 z0
 have z2:(nm.toList != ([]:List UInt8))=true:=bne_iff_ne.2 z0
 have HE:=am e
 have hcv:=fun W=>Lib.run_convert_string_bytes (P:=Tryz.prog) W 9 112 5 nm Tryz.underlying9 Tryz.underlying112 Tryz.underlying5
 have hcall:=fun W g cap hg=>name_call nm W g cap hg hs
 rw [ho] at hcall
 have HCALL:=am hcall
 clear hcall ho
 clear e hz
 go_in
 go_wp2_with (go_at_call 66;refine (HCALL.out _ _ _ (by simp)).mono ?_;rintro e w' ⟨rfl,rfl⟩;have y1:=box_cells w nm d f t 54;obtain ⟨y1,y2,y3⟩:=y1)
 go_ret
 exact ⟨congrArg (fun b:Bool=>Ending.returned (.bool b)) HE.out.symm,(bytes_below (below_alloc (Below.refl _ _) _) (by simp) _ _)⟩
theorem right_5 (nm:ByteArray) (d f t:Int) (w:World) (hz:¬ nm.size=0) (hs:nm.size≤64) (ho:(bytesOf nm).any oddB=false) (hd1:1≤d) (hd2:d≤127) (hf1:f<0) :
 Calls Tryz.prog 19 #[.agg #[.string nm,.int .i64 d,.int .i64 f,.int .i64 t]] w fun e w'=>e=.returned (.bool (rightB nm d f t))∧Below w.heap.size w w':=by
 have e:rightB nm d f t=false:=by unfold rightB;simp [hz,hs,ho,hd1,hd2,hf1];try omega
 have z0:¬ nm.toList=[]:=fun h=>hz (by rw [← data_length,← ByteArray.toList_eq,h];rfl)
 have z1:(nm.toList == ([]:List UInt8))=false:=beq_eq_false_iff_ne.2 z0
 have z2:(nm.toList != ([]:List UInt8))=true:=bne_iff_ne.2 z0
 have HE:=am e
 have hcv:=fun W=>Lib.run_convert_string_bytes (P:=Tryz.prog) W 9 112 5 nm Tryz.underlying9 Tryz.underlying112 Tryz.underlying5
 have hcall:=fun W g cap hg=>name_call nm W g cap hg hs
 rw [ho] at hcall
 have HCALL:=am hcall
 clear hcall ho
 clear e hz
 go_in
 go_wp2_with (go_at_call 66;refine (HCALL.out _ _ _ (by simp)).mono ?_;rintro e w' ⟨rfl,rfl⟩;have y1:=box_cells w nm d f t 54;obtain ⟨y1,y2,y3⟩:=y1)
 go_ret
 exact ⟨congrArg (fun b:Bool=>Ending.returned (.bool b)) HE.out.symm,(bytes_below (below_alloc (Below.refl _ _) _) (by simp) _ _)⟩
theorem right_6 (nm:ByteArray) (d f t:Int) (w:World) (hz:¬ nm.size=0) (hs:nm.size≤64) (ho:(bytesOf nm).any oddB=false) (hd1:1≤d) (hd2:d≤127) (hf1:0≤f) (hf2:1440≤f) :
 Calls Tryz.prog 19 #[.agg #[.string nm,.int .i64 d,.int .i64 f,.int .i64 t]] w fun e w'=>e=.returned (.bool (rightB nm d f t))∧Below w.heap.size w w':=by
 have e:rightB nm d f t=false:=by unfold rightB;simp [hz,hs,ho,hd1,hd2,hf1,hf2];try omega
 have z0:¬ nm.toList=[]:=fun h=>hz (by rw [← data_length,← ByteArray.toList_eq,h];rfl)
 have z1:(nm.toList == ([]:List UInt8))=false:=beq_eq_false_iff_ne.2 z0
 have z2:(nm.toList != ([]:List UInt8))=true:=bne_iff_ne.2 z0
 have HE:=am e
 have hcv:=fun W=>Lib.run_convert_string_bytes (P:=Tryz.prog) W 9 112 5 nm Tryz.underlying9 Tryz.underlying112 Tryz.underlying5
 have hcall:=fun W g cap hg=>name_call nm W g cap hg hs
 rw [ho] at hcall
 have HCALL:=am hcall
 clear hcall ho
 clear e hz
 go_in
 go_wp2_with (go_at_call 66;refine (HCALL.out _ _ _ (by simp)).mono ?_;rintro e w' ⟨rfl,rfl⟩;have y1:=box_cells w nm d f t 54;obtain ⟨y1,y2,y3⟩:=y1)
 go_ret
 exact ⟨congrArg (fun b:Bool=>Ending.returned (.bool b)) HE.out.symm,(bytes_below (below_alloc (Below.refl _ _) _) (by simp) _ _)⟩
theorem right_7 (nm:ByteArray) (d f t:Int) (w:World) (hz:¬ nm.size=0) (hs:nm.size≤64) (ho:(bytesOf nm).any oddB=false) (hd1:1≤d) (hd2:d≤127) (hf1:0≤f) (hf2:f<1440) (ht1:t≤f) :
 Calls Tryz.prog 19 #[.agg #[.string nm,.int .i64 d,.int .i64 f,.int .i64 t]] w fun e w'=>e=.returned (.bool (rightB nm d f t))∧Below w.heap.size w w':=by
 have e:rightB nm d f t=false:=by unfold rightB;simp [hz,hs,ho,hd1,hd2,hf1,hf2,ht1];try omega
 have z0:¬ nm.toList=[]:=fun h=>hz (by rw [← data_length,← ByteArray.toList_eq,h];rfl)
 have z1:(nm.toList == ([]:List UInt8))=false:=beq_eq_false_iff_ne.2 z0
 have z2:(nm.toList != ([]:List UInt8))=true:=bne_iff_ne.2 z0
 have HE:=am e
 have hcv:=fun W=>Lib.run_convert_string_bytes (P:=Tryz.prog) W 9 112 5 nm Tryz.underlying9 Tryz.underlying112 Tryz.underlying5
 have hcall:=fun W g cap hg=>name_call nm W g cap hg hs
 rw [ho] at hcall
 have HCALL:=am hcall
 clear hcall ho
 clear e hz
 go_in
 go_wp2_with (go_at_call 66;refine (HCALL.out _ _ _ (by simp)).mono ?_;rintro e w' ⟨rfl,rfl⟩;have y1:=box_cells w nm d f t 54;obtain ⟨y1,y2,y3⟩:=y1)
 go_ret
 exact ⟨congrArg (fun b:Bool=>Ending.returned (.bool b)) HE.out.symm,(bytes_below (below_alloc (Below.refl _ _) _) (by simp) _ _)⟩
theorem right_8 (nm:ByteArray) (d f t:Int) (w:World) (hz:¬ nm.size=0) (hs:nm.size≤64) (ho:(bytesOf nm).any oddB=false) (hd1:1≤d) (hd2:d≤127) (hf1:0≤f) (hf2:f<1440) (ht1:f<t) (ht2:1440<t) :
 Calls Tryz.prog 19 #[.agg #[.string nm,.int .i64 d,.int .i64 f,.int .i64 t]] w fun e w'=>e=.returned (.bool (rightB nm d f t))∧Below w.heap.size w w':=by
 have e:rightB nm d f t=false:=by unfold rightB;simp [hz,hs,ho,hd1,hd2,hf1,hf2,ht1,ht2];try omega
 have z0:¬ nm.toList=[]:=fun h=>hz (by rw [← data_length,← ByteArray.toList_eq,h];rfl)
 have z1:(nm.toList == ([]:List UInt8))=false:=beq_eq_false_iff_ne.2 z0
 have z2:(nm.toList != ([]:List UInt8))=true:=bne_iff_ne.2 z0
 have HE:=am e
 have hcv:=fun W=>Lib.run_convert_string_bytes (P:=Tryz.prog) W 9 112 5 nm Tryz.underlying9 Tryz.underlying112 Tryz.underlying5
 have hcall:=fun W g cap hg=>name_call nm W g cap hg hs
 rw [ho] at hcall
 have HCALL:=am hcall
 clear hcall ho
 clear e hz
 have hx:decide (t≤1440)=false:=decide_eq_false (by omega)
 go_in
 go_wp2_with (go_at_call 66;refine (HCALL.out _ _ _ (by simp)).mono ?_;rintro e w' ⟨rfl,rfl⟩;have y1:=box_cells w nm d f t 54;obtain ⟨y1,y2,y3⟩:=y1)
 go_ret
 exact ⟨congrArg (fun b:Bool=>Ending.returned (.bool b)) HE.out.symm,(bytes_below (below_alloc (Below.refl _ _) _) (by simp) _ _)⟩
theorem right_9 (nm:ByteArray) (d f t:Int) (w:World) (hz:¬ nm.size=0) (hs:nm.size≤64) (ho:(bytesOf nm).any oddB=false) (hd1:1≤d) (hd2:d≤127) (hf1:0≤f) (hf2:f<1440) (ht1:f<t) (ht2:t≤1440) :
 Calls Tryz.prog 19 #[.agg #[.string nm,.int .i64 d,.int .i64 f,.int .i64 t]] w fun e w'=>e=.returned (.bool (rightB nm d f t))∧Below w.heap.size w w':=by
 have e:rightB nm d f t=true:=by unfold rightB;simp [hz,hs,ho,hd1,hd2,hf1,hf2,ht1,ht2];try omega
 have z0:¬ nm.toList=[]:=fun h=>hz (by rw [← data_length,← ByteArray.toList_eq,h];rfl)
 have z1:(nm.toList == ([]:List UInt8))=false:=beq_eq_false_iff_ne.2 z0
 have z2:(nm.toList != ([]:List UInt8))=true:=bne_iff_ne.2 z0
 have HE:=am e
 have hcv:=fun W=>Lib.run_convert_string_bytes (P:=Tryz.prog) W 9 112 5 nm Tryz.underlying9 Tryz.underlying112 Tryz.underlying5
 have hcall:=fun W g cap hg=>name_call nm W g cap hg hs
 rw [ho] at hcall
 have HCALL:=am hcall
 clear hcall ho
 clear e hz
 go_in
 go_wp2_with (go_at_call 66;refine (HCALL.out _ _ _ (by simp)).mono ?_;rintro e w' ⟨rfl,rfl⟩;have y1:=box_cells w nm d f t 54;obtain ⟨y1,y2,y3⟩:=y1)
 go_ret
 exact ⟨congrArg (fun b:Bool=>Ending.returned (.bool b)) HE.out.symm,(bytes_below (below_alloc (Below.refl _ _) _) (by simp) _ _)⟩
theorem right_any (nm:ByteArray) (d f t:Int) (w:World) :
 Calls Tryz.prog 19 #[.agg #[.string nm,.int .i64 d,.int .i64 f,.int .i64 t]] w fun e w'=>e=.returned (.bool (rightB nm d f t))∧Below w.heap.size w w':=by
 by_cases hz:nm.size=0
 ·exact right_0 nm d f t w hz
 by_cases hs:64<nm.size
 ·exact right_1 nm d f t w hz hs
 have hs:nm.size≤64:=by omega
 cases ho:(bytesOf nm).any oddB with
 | true=>exact right_2 nm d f t w hz hs ho
 | false =>
   by_cases hd1:d<1
   ·exact right_3 nm d f t w hz hs ho hd1
   have hd1:1≤d:=by omega
   by_cases hd2:127<d
   ·exact right_4 nm d f t w hz hs ho hd1 hd2
   have hd2:d≤127:=by omega
   by_cases hf1:f<0
   ·exact right_5 nm d f t w hz hs ho hd1 hd2 hf1
   have hf1:0≤f:=by omega
   by_cases hf2:1440≤f
   ·exact right_6 nm d f t w hz hs ho hd1 hd2 hf1 hf2
   have hf2:f<1440:=by omega
   by_cases ht1:t≤f
   ·exact right_7 nm d f t w hz hs ho hd1 hd2 hf1 hf2 ht1
   have ht1:f<t:=by omega
   by_cases ht2:1440<t
   ·exact right_8 nm d f t w hz hs ho hd1 hd2 hf1 hf2 ht1 ht2
   have ht2:t≤1440:=by omega
   exact right_9 nm d f t w hz hs ho hd1 hd2 hf1 hf2 ht1 ht2
end Go.Proofs.YthofmfaeccdckaaGreatDoor.P
