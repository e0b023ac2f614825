/- What these functions of the program compute, and plain lemmas on it. Conditions: as each lemma says. -/
import Derived.Test.YthofmfaeccdckaaGreatDoorMTop13
import Derived.Test.YthofmfaeccdckaaGreatDoorMTop11
import Derived.Test.YthofmfaeccdckaaGreatDoorMTop1
import Derived.Laws.IdiomCopy
import Derived.Lib.ConvBytes
import Derived.Laws.BytesArg
import Derived.ArgAppend
import Derived.Laws.AppendOwn
import Derived.Test.YthofmfaeccdckaaGreatDoorMTop7
import Derived.Test.YthofmfaeccdckaaGreatDoorMTop10
import Derived.Test.YthofmfaeccdckaaGreatDoorMTop9
set_option linter.unusedVariables false
set_option linter.unusedSimpArgs false
set_option maxHeartbeats 40000000
set_option maxRecDepth 20000
namespace Go.Proofs.YthofmfaeccdckaaGreatDoor.P
open Go.RowKit Go.Proofs.YthofmfaeccdckaaGreatDoorW.PrintWords Go.Proofs.YthofmfaeccdckaaGreatDoorW.PrintLast Go.Proofs.YthofmfaeccdckaaGreatDoorW.PrintMore
def kC:Cfg:=⟨[],⟨opsB,[],[],0,1,1,[],false,[]⟩,[opsB],[],[]⟩
theorem kC_right:cfgB kC=true:=by rfl
theorem kC_sz:CfgSz kC:=⟨fun _ h=>(by cases h),fun _ h=>(by cases h),(fun _ h=>(by cases h)),(fun _ h=>(by cases h)),fun _ h=>(by cases h)⟩
theorem kC_norm {y:Cfg} (h:NormOf kC y):y=kC:=by
 obtain ⟨ht,hr,_,hv,hm,hi,_,hh,_⟩:=h
 obtain ⟨r,t,v,i,h⟩:=y
 have e1:r=[]:=List.eq_nil_of_length_eq_zero hr
 have e2:i=[]:=List.eq_nil_of_length_eq_zero (Nat.le_zero.1 hi)
 have e3:h=[]:=List.eq_nil_of_length_eq_zero hh
 obtain ⟨a,rfl⟩:∃ a,v=[a]:=List.length_eq_one_iff.1 hv
 have e4:a=opsB:=by simpa [kC] using hm a (by simp)
 subst e1 e2 e3 e4
 show Cfg.mk _ t _ _ _=_
 have ht:t=kC.t:=ht
 rw [ht]
 rfl
def row5:List ByteArray:=[bindB [],bindB [opsB],bindB [],bindB [],bindB row9]
theorem ops_small:bindO [opsB]∧(bindB [opsB]).size≤1*(3+10):=bind_small [opsB] 3 (by decide) (by decide) (fun p h=>by rw [List.mem_singleton.1 h];decide)
theorem row5_small:bindO row5∧(bindB row5).size≤5*(180+10):=by
 refine bind_small row5 180 (by decide) (by decide) ?_
 intro p hp
 have h0:=bindB0
 have h1:=ops_small.2
 have h2:=row9_small.2
 unfold row5 at hp
 simp only [List.mem_cons,List.not_mem_nil,or_false] at hp
 rcases hp with rfl|rfl|rfl|rfl|rfl<;>omega
theorem row5_calls (gl:Nat) (W:World) (hL:Off W gl) (A:Option Addr) (c:Nat) (hr:Kd.C Kd.string W A 5 row5) (hl:5≤c):Calls Tryz.prog 139 #[.pointer (some ⟨gl,0,none⟩),.slice A 5 c] W fun e W'=>e=.returned (.string (bindB row5))∧Below W.heap.size W W':=cbind0 row5 row5_small.1 gl W hL A c hr hl
theorem ops_calls (gl:Nat) (W:World) (hL:Off W gl) (A:Option Addr) (c:Nat) (hr:Kd.C Kd.string W A 1 [opsB]) (hl:1≤c):Calls Tryz.prog 139 #[.pointer (some ⟨gl,0,none⟩),.slice A 1 c] W fun e W'=>e=.returned (.string (bindB [opsB]))∧Below W.heap.size W W':=cbind0 [opsB] ops_small.1 gl W hL A c hr hl
theorem cfgk_known {W:World} {cs:List Value} (h:CfgK W kC cs):∃ B0 d0 A2 c2 A3 c3 A7 c7 A9 c9 B10 d10 B11 d11 B12 d12,cs=[.slice B0 0 d0,.string opsB,.slice A2 0 c2,.slice A3 0 c3,.int .i64 0,.int .i64 1,.int .i64 1,.slice A7 0 c7,.bool false,.slice A9 0 c9,.slice B10 1 d10,.slice B11 0 d11,.slice B12 0 d12]∧1≤d10∧Kd.C Kd.string W B10 1 [opsB]:=by
 obtain ⟨A0,c0,A2,c2,A3,c3,A7,c7,A9,c9,A10,c10,A11,c11,A12,c12,rfl,l0,g0,l2,g2,l3,g3,l7,g7,l9,g9,l10,g10,l11,g11,l12,g12⟩:=h
 exact ⟨A0,c0,A2,c2,A3,c3,A7,c7,A9,c9,A10,c10,A11,c11,A12,c12,rfl,l10,g10⟩
theorem cnormal0 (W:World) (cs:List Value) (h:CfgK W kC cs):Calls Tryz.prog 38 #[.agg cs.toArray] W fun e W'=>Below W.heap.size W W'∧∃ B0 d0 A2 c2 A3 c3 A7 c7 A9 c9 B10 d10 B11 d11 B12 d12,e=.returned (.tuple #[.agg #[.slice B0 0 d0,.string opsB,.slice A2 0 c2,.slice A3 0 c3,.int .i64 0,.int .i64 1,.int .i64 1,.slice A7 0 c7,.bool false,.slice A9 0 c9,.slice B10 1 d10,.slice B11 0 d11,.slice B12 0 d12],.int .i64 0])∧1≤d10∧Kd.C Kd.string W' B10 1 [opsB]:=by
 refine (normal_any kC kC_sz (fun _ h=>(by cases h)) (by decide) (by decide) (by decide) (by decide) W cs h).mono ?_
 rintro e W' ⟨hb,⟨hc,_⟩|⟨_,y,cs',rfl,hn,hk⟩⟩
 ·rw [kC_right] at hc;cases hc
 ·obtain rfl:=kC_norm hn
  obtain ⟨B0,d0,A2,c2,A3,c3,A7,c7,A9,c9,B10,d10,B11,d11,B12,d12,rfl,h1,h2⟩:=cfgk_known hk
  exact ⟨hb,B0,d0,A2,c2,A3,c3,A7,c7,A9,c9,B10,d10,B11,d11,B12,d12,rfl,h1,h2⟩
theorem ctext0 (W:World) (cs:List Value) (h:CfgK W kC cs):Calls Tryz.prog 73 #[.agg cs.toArray] W fun e W'=>e=.returned (.tuple #[.string (bindB row5),.int .i64 0])∧Below W.heap.size W W':=by
 have HN:=am (fun w2 (hb:Below W.heap.size W w2)=>cnormal0 w2 cs (h.below hb))
 obtain ⟨X0,x0,X2,x2,X3,x3,X7,x7,X9,x9,X10,x10,X11,x11,X12,x12,rfl,_,_⟩:=cfgk_known h
 have HE1:=am (fun gl w2 (h:Off w2 gl)=>cbind0 [] bindO0 gl w2 h none 0 (C_nil _ _ _) (Nat.zero_le _))
 have HE2:=am ops_calls
 have HE3:=am croute0
 have HE5:=am row5_calls
 clear h
 unfold row5 at HE5 ⊢
 generalize bindB []=q at *
 generalize bindB [opsB]=qo at *
 generalize bindB row9=qr at *
 generalize bindB [q,qo,q,q,qr]=z at *
 show Calls Tryz.prog 73 #[.agg #[.slice X0 0 x0,.string opsB,.slice X2 0 x2,.slice X3 0 x3,.int .i64 0,.int .i64 1,.int .i64 1,.slice X7 0 x7,.bool false,.slice X9 0 x9,.slice X10 1 x10,.slice X11 0 x11,.slice X12 0 x12]] W _
 go_in
 go_upto_region 4 with (first|((with_reducible refine bv 4 #[.slice none 0 0,.string (⟨#[]⟩:ByteArray),.slice none 0 0,.slice none 0 0,.int .i64 0,.int .i64 0,.int .i64 0,.slice none 0 0,.bool false,.slice none 0 0,.slice none 0 0,.slice none 0 0,.slice none 0 0] 31 ?_);intro gk hgb w2 hbox hb;obtain ⟨z0,z1,z2,z3,z4,z5,z6,z7,z8,z9,z10,z11,z12⟩:=c13 hbox;have f0:=blk_frozen hbox 0;have f1:=blk_frozen hbox 1;have f2:=blk_frozen hbox 2;have f3:=blk_frozen hbox 3;have f4:=blk_frozen hbox 4;have f5:=blk_frozen hbox 5;have f6:=blk_frozen hbox 6;have f7:=blk_frozen hbox 7;have f8:=blk_frozen hbox 8;have f9:=blk_frozen hbox 9;have f10:=blk_frozen hbox 10;have f11:=blk_frozen hbox 11;have f12:=blk_frozen hbox 12;have HX2:=am hbox;have HB2:=am hb;have HG2:=am hgb;clear hb hbox hgb)|(go_at_call 38;refine (HN.out _ HB1.out).mono ?_;rintro e wn ⟨hb,B0,d0,A2,c2,A3,c3,A7,c7,A9,c9,B10,d10,B11,d11,B12,d12,rfl,hd10,hC10⟩;have HBn:=bS HB1 hb;have HC10:=am (And.intro hd10 hC10);clear hb hd10 hC10 t0 t1 t2 t3 t4 t5 t6 t7 t8 t9 t10 t11 t12)|((with_reducible refine bv 1 #[.slice X0 0 x0,.string opsB,.slice X2 0 x2,.slice X3 0 x3,.int .i64 0,.int .i64 1,.int .i64 1,.slice X7 0 x7,.bool false,.slice X9 0 x9,.slice X10 1 x10,.slice X11 0 x11,.slice X12 0 x12] 31 ?_);intro gb hgb w1 hbox hb;obtain ⟨t0,t1,t2,t3,t4,t5,t6,t7,t8,t9,t10,t11,t12⟩:=c13 hbox;have HX1:=am hbox;have HB1:=am hb;have HG1:=am hgb;clear hb hbox hgb))
 obtain ⟨W2,hW2⟩:∃ W2,W2=(((((((((((((w2.setCell ⟨gk,0,none⟩ (.slice B0 0 d0)).setCell ⟨gk,1,none⟩ (.string opsB)).setCell ⟨gk,2,none⟩ (.slice A2 0 c2)).setCell ⟨gk,3,none⟩ (.slice A3 0 c3)).setCell ⟨gk,4,none⟩ (.int .i64 0)).setCell ⟨gk,5,none⟩ (.int .i64 1)).setCell ⟨gk,6,none⟩ (.int .i64 1)).setCell ⟨gk,7,none⟩ (.slice A7 0 c7)).setCell ⟨gk,8,none⟩ (.bool false)).setCell ⟨gk,9,none⟩ (.slice A9 0 c9)).setCell ⟨gk,10,none⟩ (.slice B10 1 d10)).setCell ⟨gk,11,none⟩ (.slice B11 0 d11)).setCell ⟨gk,12,none⟩ (.slice B12 0 d12)):=⟨_,rfl⟩
 rw [← hW2]
 have HX3:Aside0 (W2.heap[gk]?=some (.cells #[.slice B0 0 d0,.string opsB,.slice A2 0 c2,.slice A3 0 c3,.int .i64 0,.int .i64 1,.int .i64 1,.slice A7 0 c7,.bool false,.slice A9 0 c9,.slice B10 1 d10,.slice B11 0 d11,.slice B12 0 d12] 31 (0,0))):=⟨by rw [hW2,(blk_set (blk_set (blk_set (blk_set (blk_set (blk_set (blk_set (blk_set (blk_set (blk_set (blk_set (blk_set (blk_set HX2.out 0 _) 1 _) 2 _) 3 _) 4 _) 5 _) 6 _) 7 _) 8 _) 9 _) 10 _) 11 _) 12 _)];simp only [nm]⟩
 have HB3:Aside0 (Below wn.heap.size wn W2):=⟨by rw [hW2];exact (below_set (below_set (below_set (below_set (below_set (below_set (below_set (below_set (below_set (below_set (below_set (below_set (below_set HB2.out (by have h2:=HG2.out;omega)) (by have h2:=HG2.out;omega)) (by have h2:=HG2.out;omega)) (by have h2:=HG2.out;omega)) (by have h2:=HG2.out;omega)) (by have h2:=HG2.out;omega)) (by have h2:=HG2.out;omega)) (by have h2:=HG2.out;omega)) (by have h2:=HG2.out;omega)) (by have h2:=HG2.out;omega)) (by have h2:=HG2.out;omega)) (by have h2:=HG2.out;omega)) (by have h2:=HG2.out;omega))⟩
 clear hW2 HX2 HB2 HG2 z0 f0 z1 f1 z2 f2 z3 f3 z4 f4 z5 f5 z6 f6 z7 f7 z8 f8 z9 f9 z10 f10 z11 f11 z12 f12
 go_upto_region 5 with ((with_reducible refine bv 6 #[.bool false] 4 ?_);intro gl hgb w4 hbox hb;have y:w4.cell? ⟨gl,0,none⟩=some (.bool false):=bz hbox 0 rfl;have f:=blk_frozen hbox 0;have HX4:=am hbox;have HB4:=am hb;have HG4:=am hgb;clear hb hbox hgb)
 have HLo:Aside0 (Off (w4.setCell ⟨gl,0,none⟩ (.bool false)) gl):=⟨blk_set HX4.out 0 _⟩
 have HXo:Aside0 ((w4.setCell ⟨gl,0,none⟩ (.bool false)).heap[gk]?=some (.cells #[.slice B0 0 d0,.string opsB,.slice A2 0 c2,.slice A3 0 c3,.int .i64 0,.int .i64 1,.int .i64 1,.slice A7 0 c7,.bool false,.slice A9 0 c9,.slice B10 1 d10,.slice B11 0 d11,.slice B12 0 d12] 31 (0,0))):=⟨blk_far (blk_below HX3.out HB4.out) (blk_ne (blk_below HX3.out HB4.out) HX4.out (by decide)) _⟩
 have HBo:Aside0 (Below wn.heap.size wn (w4.setCell ⟨gl,0,none⟩ (.bool false))):=⟨below_set (below_step HB3.out HB4.out) (by have h1:=HB3.out.size;have h2:=HG4.out;omega)⟩
 generalize w4.setCell ⟨gl,0,none⟩ (.bool false)=w5 at *
 have u:w5.cell? ⟨gk,0,none⟩=some (.slice B0 0 d0):=bz HXo.out 0 rfl
 clear HX3 HB3 HX4 HB4 HG4 y f
 go_wp2
 clear u
 go_loopw [7,32] (fun o u wr=>o=.slice none 0 0∧u=.int .i64 0∧Aside0 (Below wn.heap.size wn wr)∧Aside0 (wr.heap[gk]?=some (.cells #[.slice B0 0 d0,.string opsB,.slice A2 0 c2,.slice A3 0 c3,.int .i64 0,.int .i64 1,.int .i64 1,.slice A7 0 c7,.bool false,.slice A9 0 c9,.slice B10 1 d10,.slice B11 0 d11,.slice B12 0 d12] 31 (0,0)))∧Aside0 (Off wr gl)) (fun _ _ _=>0)
 case atStart=>exact ⟨rfl,rfl,HBo,HXo,HLo⟩
 case round =>
  obtain ⟨rfl,rfl,HBo,HXo,HLo⟩:=hrel
  have u:wr.cell? ⟨gk,12,none⟩=some (.slice B12 0 d12):=bz HXo.out 12 rfl
  go_wp2
  clear u
  go_loopw [8,48] (fun o u wr=>o=.slice none 0 0∧u=.int .i64 0∧Aside0 (Below wn.heap.size wn wr)∧Aside0 (wr.heap[gk]?=some (.cells #[.slice B0 0 d0,.string opsB,.slice A2 0 c2,.slice A3 0 c3,.int .i64 0,.int .i64 1,.int .i64 1,.slice A7 0 c7,.bool false,.slice A9 0 c9,.slice B10 1 d10,.slice B11 0 d11,.slice B12 0 d12] 31 (0,0)))∧Aside0 (Off wr gl)) (fun _ _ _=>0)
  case atStart=>exact ⟨rfl,rfl,HBo,HXo,HLo⟩
  case round =>
   obtain ⟨rfl,rfl,HBo,HXo,HLo⟩:=hrel
   have u:wr.cell? ⟨gk,11,none⟩=some (.slice B11 0 d11):=bz HXo.out 11 rfl
   go_wp2
   clear u
   go_loopw [9,67] (fun o u wr=>o=.slice none 0 0∧u=.int .i64 0∧Aside0 (Below wn.heap.size wn wr)∧Aside0 (wr.heap[gk]?=some (.cells #[.slice B0 0 d0,.string opsB,.slice A2 0 c2,.slice A3 0 c3,.int .i64 0,.int .i64 1,.int .i64 1,.slice A7 0 c7,.bool false,.slice A9 0 c9,.slice B10 1 d10,.slice B11 0 d11,.slice B12 0 d12] 31 (0,0)))∧Aside0 (Off wr gl)) (fun _ _ _=>0)
   case atStart=>exact ⟨rfl,rfl,HBo,HXo,HLo⟩
   case round =>
    obtain ⟨rfl,rfl,HBo,HXo,HLo⟩:=hrel
    have HLs:Aside0 (Off wr.drew gl):=⟨blk_drew HLo.out⟩
    have HBs:Aside0 (Below wn.heap.size wn wr.drew):=⟨HBo.out.drew⟩
    have HXs:=am (blk_drew HXo.out)
    have u1:wr.cell? ⟨gk,1,none⟩=some (.string opsB):=bz HXo.out 1 rfl
    have u2:wr.cell? ⟨gk,2,none⟩=some (.slice A2 0 c2):=bz HXo.out 2 rfl
    have u3:wr.cell? ⟨gk,3,none⟩=some (.slice A3 0 c3):=bz HXo.out 3 rfl
    have u4:wr.cell? ⟨gk,4,none⟩=some (.int .i64 0):=bz HXo.out 4 rfl
    have u5:wr.cell? ⟨gk,5,none⟩=some (.int .i64 1):=bz HXo.out 5 rfl
    have u6:wr.cell? ⟨gk,6,none⟩=some (.int .i64 1):=bz HXo.out 6 rfl
    have u7:wr.cell? ⟨gk,7,none⟩=some (.slice A7 0 c7):=bz HXo.out 7 rfl
    have u8:wr.cell? ⟨gk,8,none⟩=some (.bool false):=bz HXo.out 8 rfl
    have u9:wr.cell? ⟨gk,9,none⟩=some (.slice A9 0 c9):=bz HXo.out 9 rfl
    have u10:wr.cell? ⟨gk,10,none⟩=some (.slice B10 1 d10):=bz HXo.out 10 rfl
    go_upto_region 23 with fail
    refine sv 15 (fun w'=>w'.cell? ⟨gk,1,none⟩=some (.string opsB)∧w'.cell? ⟨gk,2,none⟩=some (.slice A2 0 c2)∧w'.cell? ⟨gk,3,none⟩=some (.slice A3 0 c3)∧w'.cell? ⟨gk,4,none⟩=some (.int .i64 0)∧w'.cell? ⟨gk,5,none⟩=some (.int .i64 1)∧w'.cell? ⟨gk,6,none⟩=some (.int .i64 1)∧w'.cell? ⟨gk,7,none⟩=some (.slice A7 0 c7)∧w'.cell? ⟨gk,8,none⟩=some (.bool false)∧w'.cell? ⟨gk,9,none⟩=some (.slice A9 0 c9)∧w'.cell? ⟨gk,10,none⟩=some (.slice B10 1 d10)) [] ⟨u1,u2,u3,u4,u5,u6,u7,u8,u9,u10⟩ fun hHeld=>?_
    refine pv 0 77 ?_
    refine pv 2 79 ?_
    refine pv 5 82 ?_
    refine pv 7 84 ?_
    refine pv 9 86 ?_
    refine tv 3 80 ?_
    refine tv 10 87 ?_
    refine ov 1 78 fun K hK=>?_
    refine gv #[.pointer (some ⟨gl,0,none⟩),.slice none 0 0] ?_
    refine (HE1.out gl _ HLs.out).mono ?_
    rintro e w6 ⟨rfl,hb⟩
    have HL6:=am (HLs.out.below hb)
    have HX6:=bB HXs hb
    have HB6:=bS HBs hb
    clear hb
    refine ⟨_,rfl,?_⟩
    refine hK.out _ _ ⟨bz HX6.out 1 rfl,bz HX6.out 2 rfl,bz HX6.out 3 rfl,bz HX6.out 4 rfl,bz HX6.out 5 rfl,bz HX6.out 6 rfl,bz HX6.out 7 rfl,bz HX6.out 8 rfl,bz HX6.out 9 rfl,bz HX6.out 10 rfl⟩ (fun hHeld=>?_)
    clear hK K
    refine nv 78 ?_
    refine ov 4 81 fun K hK=>?_
    refine gv #[.pointer (some ⟨gl,0,none⟩),.slice B10 1 d10] ?_
    refine (HE2.out gl _ HL6.out _ _ (Kd.C_below HC10.out.2 HB6.out) HC10.out.1).mono ?_
    rintro e w7 ⟨rfl,hb⟩
    have HL7:=am (HL6.out.below hb)
    have HX7:=bB HX6 hb
    have HB7:=bS HB6 hb
    clear hb
    refine ⟨_,rfl,?_⟩
    refine hK.out _ _ ⟨bz HX7.out 1 rfl,bz HX7.out 2 rfl,bz HX7.out 3 rfl,bz HX7.out 4 rfl,bz HX7.out 5 rfl,bz HX7.out 6 rfl,bz HX7.out 7 rfl,bz HX7.out 8 rfl,bz HX7.out 9 rfl,bz HX7.out 10 rfl⟩ (fun hHeld=>?_)
    clear hK K
    refine nv 81 ?_
    refine ov 6 83 fun K hK=>?_
    refine gv #[.pointer (some ⟨gl,0,none⟩),.slice none 0 0] ?_
    refine (HE1.out gl _ HL7.out).mono ?_
    rintro e w8 ⟨rfl,hb⟩
    have HL8:=am (HL7.out.below hb)
    have HX8:=bB HX7 hb
    have HB8:=bS HB7 hb
    clear hb
    refine ⟨_,rfl,?_⟩
    refine hK.out _ _ ⟨bz HX8.out 1 rfl,bz HX8.out 2 rfl,bz HX8.out 3 rfl,bz HX8.out 4 rfl,bz HX8.out 5 rfl,bz HX8.out 6 rfl,bz HX8.out 7 rfl,bz HX8.out 8 rfl,bz HX8.out 9 rfl,bz HX8.out 10 rfl⟩ (fun hHeld=>?_)
    clear hK K
    refine nv 83 ?_
    refine ov 8 85 fun K hK=>?_
    refine gv #[.pointer (some ⟨gl,0,none⟩),.slice none 0 0] ?_
    refine (HE1.out gl _ HL8.out).mono ?_
    rintro e w9 ⟨rfl,hb⟩
    have HL9:=am (HL8.out.below hb)
    have HX9:=bB HX8 hb
    have HB9:=bS HB8 hb
    clear hb
    refine ⟨_,rfl,?_⟩
    refine hK.out _ _ ⟨bz HX9.out 1 rfl,bz HX9.out 2 rfl,bz HX9.out 3 rfl,bz HX9.out 4 rfl,bz HX9.out 5 rfl,bz HX9.out 6 rfl,bz HX9.out 7 rfl,bz HX9.out 8 rfl,bz HX9.out 9 rfl,bz HX9.out 10 rfl⟩ (fun hHeld=>?_)
    clear hK K
    refine nv 85 ?_
    refine ov 11 88 fun K hK=>?_
    refine gv #[.pointer (some ⟨gl,0,none⟩),.agg #[.string opsB,.slice A2 0 c2,.slice A3 0 c3,.int .i64 0,.int .i64 1,.int .i64 1,.slice A7 0 c7,.bool false,.slice A9 0 c9]] ?_
    refine (HE3.out gl _ HL9.out A2 A3 A7 A9 c2 c3 c7 c9).mono ?_
    rintro e w10 ⟨rfl,hb⟩
    have HL10:=am (HL9.out.below hb)
    have HX10:=bB HX9 hb
    have HB10:=bS HB9 hb
    clear hb
    refine ⟨_,rfl,?_⟩
    refine hK.out _ _ ⟨bz HX10.out 1 rfl,bz HX10.out 2 rfl,bz HX10.out 3 rfl,bz HX10.out 4 rfl,bz HX10.out 5 rfl,bz HX10.out 6 rfl,bz HX10.out 7 rfl,bz HX10.out 8 rfl,bz HX10.out 9 rfl,bz HX10.out 10 rfl⟩ (fun hHeld=>?_)
    clear hK K
    refine nv 88 ?_
    refine ov 12 89 fun K hK=>?_
    refine lit_ (cs:=#[.string q,.string qo,.string q,.string q,.string qr]) (t:=9) (n:=5) (by rfl) rfl (by first|(go_simp;done)|(go_simp;rfl)) ?_
    intro gi hgi w11 hx hb
    have HI11:=am hx
    have HL11:=am (HL10.out.below hb)
    have HX11:=bB HX10 hb
    have HB11:=bS HB10 hb
    clear hgi hx hb
    refine hK.out _ _ ⟨bz HX11.out 1 rfl,bz HX11.out 2 rfl,bz HX11.out 3 rfl,bz HX11.out 4 rfl,bz HX11.out 5 rfl,bz HX11.out 6 rfl,bz HX11.out 7 rfl,bz HX11.out 8 rfl,bz HX11.out 9 rfl,bz HX11.out 10 rfl⟩ (fun hHeld=>?_)
    clear hK K
    refine nv 89 ?_
    refine ov 13 90 fun K hK=>?_
    refine gv #[.pointer (some ⟨gl,0,none⟩),.slice (some ⟨gi,0,none⟩) 5 5] ?_
    refine (HE5.out gl _ HL11.out (some ⟨gi,0,none⟩) 5 (C_cellsS (ss:=[q,qo,q,q,qr]) HI11.out rfl (by decide)) (by decide)).mono ?_
    rintro e w12 ⟨rfl,hb⟩
    have HL12:=am (HL11.out.below hb)
    have HX12:=bB HX11 hb
    have HB12:=bS HB11 hb
    clear hb
    refine ⟨_,rfl,?_⟩
    refine hK.out _ _ ⟨bz HX12.out 1 rfl,bz HX12.out 2 rfl,bz HX12.out 3 rfl,bz HX12.out 4 rfl,bz HX12.out 5 rfl,bz HX12.out 6 rfl,bz HX12.out 7 rfl,bz HX12.out 8 rfl,bz HX12.out 9 rfl,bz HX12.out 10 rfl⟩ (fun hHeld=>?_)
    clear hK K
    refine nv 90 ?_
    refine pv 14 20 ?_
    refine done_ (by kernel_rfl) ?_
    have u:=bz HL12.out 0 rfl
    have HZ:w12.cell? ⟨gl,0,none⟩=some (.bool false):=bz HL12.out 0 rfl
    go_wp2
    go_ret2
    exact ⟨rfl,below_step HBn.out HB12.out⟩
def notI (x:Int):Int:=Go.bits .xor .u32 (if IntKind.u32.signed=true then -1 else IntKind.u32.max) x
def oneI (v:Nat→Int) (k x:Int):Int :=
 IntKind.u32.wrap (IntKind.u32.wrap (IntKind.u32.wrap (IntKind.u32.wrap (v 7+Go.bits .xor .u32 (Go.bits .xor .u32 (turnI (v 4) 6) (turnI (v 4) 11)) (turnI (v 4) 25)) +
  Go.bits .xor .u32 (Go.bits .and .u32 (v 4) (v 5)) (Go.bits .and .u32 (notI (v 4)) (v 6)))+k)+x)
def twoI (v:Nat→Int):Int :=
 IntKind.u32.wrap (Go.bits .xor .u32 (Go.bits .xor .u32 (turnI (v 0) 2) (turnI (v 0) 13)) (turnI (v 0) 22) +
  Go.bits .xor .u32 (Go.bits .xor .u32 (Go.bits .and .u32 (v 0) (v 1)) (Go.bits .and .u32 (v 0) (v 2))) (Go.bits .and .u32 (v 1) (v 2)))
def roundI (v:Nat→Int) (k x:Int) (j:Nat):Int :=
 if j=0 then IntKind.u32.wrap (oneI v k x+twoI v) else if j=4 then IntKind.u32.wrap (v 3+oneI v k x) else v (j-1)
def roundsI (v:Nat→Int) (x:Nat→Int):Nat→Nat→Int
 | 0=>v
 | t+1=>roundI (roundsI v x t) (skeysL.getD t 0) (x t)
theorem rowF_below {w w':World} {b:Nat} {t:TypeId} {n:Nat} {f:Nat→Int} (h:rowF w b t n f) (hb:Below w.heap.size w w'):rowF w' b t n f:=World.rowIs.of_block h (hb.block b (World.rowIs.lt h))
theorem row8_alloc (w:World) (t:TypeId) (f:Nat→Int):rowF (w.alloc (.cells #[.int .u32 (f 0),.int .u32 (f 1),.int .u32 (f 2),.int .u32 (f 3),.int .u32 (f 4),.int .u32 (f 5),.int .u32 (f 6),.int .u32 (f 7)] t)) w.heap.size t 8 f :=
 World.rowIs_alloc w #[.int .u32 (f 0),.int .u32 (f 1),.int .u32 (f 2),.int .u32 (f 3),.int .u32 (f 4),.int .u32 (f 5),.int .u32 (f 6),.int .u32 (f 7)] t (fun i=>.int .u32 (f i)) (by
  intro i hi
  match i,hi with
  | 0,_=>rfl|1,_=>rfl|2,_=>rfl|3,_=>rfl|4,_=>rfl|5,_=>rfl|6,_=>rfl|7,_=>rfl)
theorem heap_alloc_size (w:World) (o:Obj):(w.alloc o).heap.size=w.heap.size+1:=by simp
theorem spreadV_at (s:ByteArray) (t:Nat) (h:t<64):(spreadV s)[t]?=some (.int .u32 (spreadF s 48 t)):=by
 unfold spreadV cells32
 simp [h]
theorem row_copy {W:World} {b:Nat} {t:TypeId} {v:Nat→Int} (h:rowF W b t 8 v) :
 rowF (W.setCells b 1 [.int .u32 (v 0),.int .u32 (v 1),.int .u32 (v 2),.int .u32 (v 3),.int .u32 (v 4),.int .u32 (v 5),.int .u32 (v 6)]) b t 8 (fun j=>if j=0 then v 0 else v (j-1)):=by
 simp only [World.setCells]
 refine rowF_congr (rowF_set (rowF_set (rowF_set (rowF_set (rowF_set (rowF_set (rowF_set h 1 _) 2 _) 3 _) 4 _) 5 _) 6 _) 7 _) ?_
 intro i hi
 match i,hi with
 | 0,_=>rfl|1,_=>rfl|2,_=>rfl|3,_=>rfl|4,_=>rfl|5,_=>rfl|6,_=>rfl|7,_=>rfl
theorem row_cells_other {b b':Nat} {t:TypeId} {n:Nat} {f:Nat→Int} (hne:b'≠b):∀ (cs:List Value) (o:Nat) (W:World),rowF W b' t n f→rowF (W.setCells b o cs) b' t n f
 | [],_,_,h=>h
 | u::cs,o,_,h=>row_cells_other hne cs (o+1) _ (World.rowIs.setOther h hne u)
theorem below_cells {B b:Nat} {w:World} (hB:B≤b):∀ (cs:List Value) (o:Nat) (w':World),Below B w w'→Below B w (w'.setCells b o cs)
 | [],_,_,h=>h
 | v::cs,o,_,h=>below_cells hB cs (o+1) _ (h.setCell (p:=⟨b,o,none⟩) hB v)
theorem copy8 {W:World} {b L:Nat} {v:Nat→Int} (ty:TypeId) (h1:rowF W b 230 8 v) (h0:rowF W L 230 8 v) :
 (Builtin.copy_ #[258,258] ty #[.slice (some ⟨b,1,none⟩) 7 7,.slice (some ⟨L,0,none⟩) 7 8]).run Tryz.prog W.drew=.ok (goInt 7) (W.drew.setCells b 1 [.int .u32 (v 0),.int .u32 (v 1),.int .u32 (v 2),.int .u32 (v 3),.int .u32 (v 4),.int .u32 (v 5),.int .u32 (v 6)]):=by
 refine run_copy_cells (P:=Tryz.prog) W.drew 258 258 ty 210 b 1 7 7 ⟨L,0,none⟩ 7 8 [.int .u32 (v 0),.int .u32 (v 1),.int .u32 (v 2),.int .u32 (v 3),.int .u32 (v 4),.int .u32 (v 5),.int .u32 (v 6)] Tryz.underlying258 (by kernel_rfl) rfl ?_ ?_ ?_ ?_
 ·intro j u hj
  rw [Addr.add_mid,Nat.zero_add]
  match j,hj with
  | 0,hj=>simp at hj;subst hj;exact rowF_cell h0 (i:=0) (by decide)
  | 1,hj=>simp at hj;subst hj;exact rowF_cell h0 (i:=1) (by decide)
  | 2,hj=>simp at hj;subst hj;exact rowF_cell h0 (i:=2) (by decide)
  | 3,hj=>simp at hj;subst hj;exact rowF_cell h0 (i:=3) (by decide)
  | 4,hj=>simp at hj;subst hj;exact rowF_cell h0 (i:=4) (by decide)
  | 5,hj=>simp at hj;subst hj;exact rowF_cell h0 (i:=5) (by decide)
  | 6,hj=>simp at hj;subst hj;exact rowF_cell h0 (i:=6) (by decide)
  | j+7,hj=>simp at hj
 ·intro j hj
  have hj':j<7:=hj
  have:=rowF_cell h1 (i:=1+j) (by omega)
  exact (congrArg Option.isSome this).trans rfl
 ·intro j _
  exact rowF_frozen h1 (1+j)
 ·intro u hu
  simp at hu
  rcases hu with rfl|rfl|rfl|rfl|rfl|rfl|rfl<;>rfl
theorem round_step (h Y:Nat→Int) (t:Nat) (v:Nat→Int) (x kk one two:Int) (hv:roundsI h Y t=v) (hx:Y t=x∧skeysL.getD t 0=kk) (ho:oneI v kk x=one∧twoI v=two) (i:Nat) :
 upd (upd (fun j=>if j=0 then v 0 else v (j-1)) 0 ((one+two) % 4294967296)) 4 ((v 3+one) % 4294967296) i=roundsI h Y (t+1) i:=by
 obtain ⟨rfl,rfl⟩:=hx
 obtain ⟨rfl,rfl⟩:=ho
 subst hv
 rw [roundsI]
 unfold roundI upd
 rw [IntKind.wrap_u32,IntKind.wrap_u32]
 by_cases h4:i=4
 ·rw [if_pos h4,if_neg (by omega),if_pos h4]
 ·rw [if_neg h4]
  by_cases h0:i=0
  ·rw [if_pos h0,if_pos h0]
  ·simp only [if_neg h0,if_neg h4]
def addF (h V:Nat→Int) (r:Nat):Nat→Int:=fun j=>if j<r then IntKind.u32.wrap (h j+V j) else h j
theorem addF_step (h V:Nat→Int) (r:Nat) (hr hv:Int) (e1:h r=hr) (e2:V r=hv) (i:Nat):upd (addF h V r) r (IntKind.u32.wrap (hr+hv)) i=addF h V (r+1) i:=by
 subst e1 e2
 unfold upd addF
 by_cases h0:i=r
 ·subst h0;rw [if_pos rfl,if_pos (by omega)]
 ·rw [if_neg h0]
  by_cases h1:i<r
  ·rw [if_pos h1,if_pos (by omega)]
  ·rw [if_neg h1,if_neg (by omega)]
theorem index64 (X:Array Value) (t:Nat) (x:Int) (ht:t<64) (hx:X[t]?=some (.int .u32 x)) (w:World):(Instr.index 255 (.agg X) (.int .i64 (t:Int))).run Tryz.prog w=.ok (.int .u32 x) w:=by
 have hn:(0≤(t:Int)∧(t:Int)<(64:Nat)):=by omega
 simp [Instr.index,run_underlying Tryz.underlying255,asIntOf,hn,go_sem,hx]
 omega
set_option maxRecDepth 100000 in
theorem block_any (h:Nat→Int) (s:ByteArray) (w:World) (hs:64≤s.size) (hs2:s.size≤9223372036854775807) (hK:SKeysIn w) :
 Calls Tryz.prog 201 #[.agg #[.int .u32 (h 0),.int .u32 (h 1),.int .u32 (h 2),.int .u32 (h 3),.int .u32 (h 4),.int .u32 (h 5),.int .u32 (h 6),.int .u32 (h 7)],.string s] w
  fun e w'=>e=.returned (.agg (cells32 ((List.range 8).map fun i=>IntKind.u32.wrap (h i+roundsI h (spreadF s 48) 64 i))))∧Below w.heap.size w w':=by
 have HK:=am hK
 clear hK
 obtain ⟨X,hX⟩:∃ X,spreadV s=X:=⟨_,rfl⟩
 have hsp:=fun w=>spread_any s w hs hs2
 rw [hX] at hsp
 have HX:=am hX
 clear hX
 obtain ⟨Y,hY⟩:∃ Y,spreadF s 48=Y:=⟨_,rfl⟩
 rw [hY]
 have HY:=am hY
 clear hY
 have HSP:=am hsp
 clear hsp
 obtain ⟨R,hR⟩:∃ R,(cells32 ((List.range 8).map fun i=>IntKind.u32.wrap (h i+roundsI h Y 64 i)))=R:=⟨_,rfl⟩
 rw [hR]
 have HR:=am hR
 clear hR
 go_in
 go_upto_region 2 with (fail)
 have q0:rowF (w.alloc (.cells #[.int .u32 (h 0),.int .u32 (h 1),.int .u32 (h 2),.int .u32 (h 3),.int .u32 (h 4),.int .u32 (h 5),.int .u32 (h 6),.int .u32 (h 7)] 230)) w.heap.size 230 8 h:=row8_alloc w _ h
 have q1:=World.rowIs.alloc q0 (.cells #[.int .u32 0,.int .u32 0,.int .u32 0,.int .u32 0,.int .u32 0,.int .u32 0,.int .u32 0,.int .u32 0] 230)
 have q2:=World.rowIs.alloc q1 (.cells #[.int .u32 (h 0),.int .u32 (h 1),.int .u32 (h 2),.int .u32 (h 3),.int .u32 (h 4),.int .u32 (h 5),.int .u32 (h 6),.int .u32 (h 7)] 230)
 have r1:rowF ((w.alloc (.cells #[.int .u32 (h 0),.int .u32 (h 1),.int .u32 (h 2),.int .u32 (h 3),.int .u32 (h 4),.int .u32 (h 5),.int .u32 (h 6),.int .u32 (h 7)] 230)).alloc (.cells #[.int .u32 0,.int .u32 0,.int .u32 0,.int .u32 0,.int .u32 0,.int .u32 0,.int .u32 0,.int .u32 0] 230)) (w.heap.size+1) 230 8 (fun _=>0):=by
  have:=row8_alloc (w.alloc (.cells #[.int .u32 (h 0),.int .u32 (h 1),.int .u32 (h 2),.int .u32 (h 3),.int .u32 (h 4),.int .u32 (h 5),.int .u32 (h 6),.int .u32 (h 7)] 230)) 230 (fun _=>0)
  rwa [heap_alloc_size] at this
 have r2:=World.rowIs.alloc r1 (.cells #[.int .u32 (h 0),.int .u32 (h 1),.int .u32 (h 2),.int .u32 (h 3),.int .u32 (h 4),.int .u32 (h 5),.int .u32 (h 6),.int .u32 (h 7)] 230)
 have s2:=row8_alloc ((w.alloc (.cells #[.int .u32 (h 0),.int .u32 (h 1),.int .u32 (h 2),.int .u32 (h 3),.int .u32 (h 4),.int .u32 (h 5),.int .u32 (h 6),.int .u32 (h 7)] 230)).alloc (.cells #[.int .u32 0,.int .u32 0,.int .u32 0,.int .u32 0,.int .u32 0,.int .u32 0,.int .u32 0,.int .u32 0] 230)) 230 h
 rw [heap_alloc_size,heap_alloc_size] at s2
 have hb:Below w.heap.size w (((w.alloc (.cells #[.int .u32 (h 0),.int .u32 (h 1),.int .u32 (h 2),.int .u32 (h 3),.int .u32 (h 4),.int .u32 (h 5),.int .u32 (h 6),.int .u32 (h 7)] 230)).alloc (.cells #[.int .u32 0,.int .u32 0,.int .u32 0,.int .u32 0,.int .u32 0,.int .u32 0,.int .u32 0,.int .u32 0] 230)).alloc (.cells #[.int .u32 (h 0),.int .u32 (h 1),.int .u32 (h 2),.int .u32 (h 3),.int .u32 (h 4),.int .u32 (h 5),.int .u32 (h 6),.int .u32 (h 7)] 230)) :=
  (((Below.refl _ _).alloc (Nat.le_refl _) _).alloc (by rw [heap_alloc_size];omega) _).alloc (by rw [heap_alloc_size,heap_alloc_size];omega) _
 have g0:rowF _ w.heap.size 230 8 h:=q2
 have g1:rowF _ (w.heap.size+1) 230 8 (fun _=>0):=r2
 clear q0 q1 q2 r1 r2
 generalize ((w.alloc (.cells #[.int .u32 (h 0),.int .u32 (h 1),.int .u32 (h 2),.int .u32 (h 3),.int .u32 (h 4),.int .u32 (h 5),.int .u32 (h 6),.int .u32 (h 7)] 230)).alloc (.cells #[.int .u32 0,.int .u32 0,.int .u32 0,.int .u32 0,.int .u32 0,.int .u32 0,.int .u32 0,.int .u32 0] 230)).alloc (.cells #[.int .u32 (h 0),.int .u32 (h 1),.int .u32 (h 2),.int .u32 (h 3),.int .u32 (h 4),.int .u32 (h 5),.int .u32 (h 6),.int .u32 (h 7)] 230)=w3 at g0 g1 s2 hb ⊢
 have HB:=am hb
 have G0:=am g0
 have G1:=am g1
 have G2:=am s2
 clear g0 g1 s2 hb
 go_wp2_with (go_at_call 238;refine (HSP.out _).mono ?_;rintro e w4 ⟨rfl,hb4⟩;have HB4:=am hb4;clear hb4)
 go_loopw [19] (fun i wr=>∃ t:Nat,t≤64∧i=.int .i64 t∧rowF wr (w.heap.size+1+1) 230 8 (roundsI h Y t)∧rowF wr w.heap.size 230 8 h∧rowF wr (w.heap.size+1) 230 8 (fun _=>0)∧Aside0 (Below w.heap.size w wr)) (fun i _=>64-(intOf i).toNat)
 case atStart=>exact ⟨0,by omega,rfl,rowF_below G2.out HB4.out,rowF_below G0.out HB4.out,rowF_below G1.out HB4.out,⟨below_step HB.out HB4.out⟩⟩
 case round =>
  clear HB G0 G1 G2 HB4
  obtain ⟨t,ht,rfl,hv,hh,hr,hb⟩:=hrel
  by_cases hlt:t<64
  ·obtain ⟨v,hvv⟩:∃ v,roundsI h Y t=v:=⟨_,rfl⟩
   rw [hvv] at hv
   have HV:=am hvv
   clear hvv
   have c0:=rowF_cell hv (i:=0) (by decide)
   have c1:=rowF_cell hv (i:=1) (by decide)
   have c2:=rowF_cell hv (i:=2) (by decide)
   have c3:=rowF_cell hv (i:=3) (by decide)
   have c4:=rowF_cell hv (i:=4) (by decide)
   have c5:=rowF_cell hv (i:=5) (by decide)
   have c6:=rowF_cell hv (i:=6) (by decide)
   have c7:=rowF_cell hv (i:=7) (by decide)
   have b0:(0:Int)≤(t:Int):=by omega
   have b1:(t:Int)<64:=by omega
   have hx:X[t]?=some (.int .u32 (Y t)):=by rw [← HX.out,← HY.out];exact spreadV_at s t hlt
   have hk:wr.cell? ⟨2,t,none⟩=some (.int .u32 (skeysL.getD t 0)):=skeys_step HK.out hb.out t hlt
   obtain ⟨x,hxx⟩:∃ x,Y t=x:=⟨_,rfl⟩
   obtain ⟨kk,hkk⟩:∃ x,skeysL.getD t 0=x:=⟨_,rfl⟩
   rw [hxx] at hx
   rw [hkk] at hk
   have hix:=index64 X t x hlt hx
   clear hx
   have HXK:=am (⟨hxx,hkk⟩:Y t=x∧skeysL.getD t 0=kk)
   clear hxx hkk
   go_wp2
   refine start_ (n:=12) (S:=fun w'=>w'.cell? ⟨w.heap.size+1+1,0,none⟩=some (.int .u32 (v 0))∧w'.cell? ⟨w.heap.size+1+1,1,none⟩=some (.int .u32 (v 1))∧w'.cell? ⟨w.heap.size+1+1,2,none⟩=some (.int .u32 (v 2))∧w'.cell? ⟨w.heap.size+1+1,4,none⟩=some (.int .u32 (v 4))) (ds:=[]) #[false,false,false,false,false,false,false,false,false,false,false,false] (by kernel_rfl) rfl rfl ⟨c0,c1,c2,c4⟩ (fun hHeld=>?_)
   refine pure_ (i:=0) (N:=some 23) (v:=?_) (a':=?_) #[true,false,false,false,false,false,false,false,false,false,false,false] rfl rfl (by kernel_rfl) (fun _ _ _ h=>h) (Or.inl ⟨by rfl,?_⟩) ?_ ?_
   rotate_left
   ·intro w'
    go_simp
    with_reducible rfl
   rotate_left
   ·simp only [nm]
    rfl
   refine pure_ (i:=2) (N:=some 25) (v:=?_) (a':=?_) #[true,false,true,false,false,false,false,false,false,false,false,false] rfl rfl (by kernel_rfl) (fun _ _ _ h=>h) (Or.inl ⟨by rfl,?_⟩) ?_ ?_
   rotate_left
   ·intro w'
    go_simp
    with_reducible rfl
   rotate_left
   ·simp only [nm]
    rfl
   refine pure_ (i:=4) (N:=some 27) (v:=?_) (a':=?_) #[true,false,true,false,true,false,false,false,false,false,false,false] rfl rfl (by kernel_rfl) (fun _ _ _ h=>h) (Or.inl ⟨by rfl,?_⟩) ?_ ?_
   rotate_left
   ·intro w'
    go_simp
    with_reducible rfl
   rotate_left
   ·simp only [nm]
    rfl
   refine pure_ (i:=6) (N:=some 29) (v:=?_) (a':=?_) #[true,false,true,false,true,false,true,false,false,false,false,false] rfl rfl (by kernel_rfl) (fun _ _ _ h=>h) (Or.inl ⟨by rfl,?_⟩) ?_ ?_
   rotate_left
   ·intro w'
    go_simp
    with_reducible rfl
   rotate_left
   ·simp only [nm]
    rfl
   refine take_ (i:=1) (N:=some 24) (v:=?_) (a':=?_) #[true,true,true,false,true,false,true,false,false,false,false,false] rfl rfl (by kernel_rfl) (fun _ _ _ h=>h) (Or.inl ⟨by rfl,?_⟩) hHeld ?_ ?_
   rotate_left
   ·rintro w' ⟨s0,s1,s2,s3⟩
    go_simp
    with_reducible rfl
   rotate_left
   ·simp only [nm]
    rfl
   refine pure_ (i:=8) (N:=some 8) (v:=?_) (a':=?_) #[true,true,true,false,true,false,true,false,true,false,false,false] rfl rfl (by kernel_rfl) (fun _ _ _ h=>h) (Or.inl ⟨by rfl,?_⟩) ?_ ?_
   rotate_left
   ·intro w'
    go_simp
    with_reducible rfl
   rotate_left
   ·simp only [nm]
    rfl
   refine take_ (i:=3) (N:=some 26) (v:=?_) (a':=?_) #[true,true,true,true,true,false,true,false,true,false,false,false] rfl rfl (by kernel_rfl) (fun _ _ _ h=>h) (Or.inl ⟨by rfl,?_⟩) hHeld ?_ ?_
   rotate_left
   ·rintro w' ⟨s0,s1,s2,s3⟩
    go_simp
    with_reducible rfl
   rotate_left
   ·simp only [nm]
    rfl
   refine pure_ (i:=9) (N:=some 9) (v:=?_) (a':=?_) #[true,true,true,true,true,false,true,false,true,true,false,false] rfl rfl (by kernel_rfl) (fun _ _ _ h=>h) (Or.inl ⟨by rfl,?_⟩) ?_ ?_
   rotate_left
   ·intro w'
    go_simp
    with_reducible rfl
   rotate_left
   ·simp only [nm]
    rfl
   refine take_ (i:=5) (N:=some 28) (v:=?_) (a':=?_) #[true,true,true,true,true,true,true,false,true,true,false,false] rfl rfl (by kernel_rfl) (fun _ _ _ h=>h) (Or.inl ⟨by rfl,?_⟩) hHeld ?_ ?_
   rotate_left
   ·rintro w' ⟨s0,s1,s2,s3⟩
    go_simp
    with_reducible rfl
   rotate_left
   ·simp only [nm]
    rfl
   refine pure_ (i:=10) (N:=some 10) (v:=?_) (a':=?_) #[true,true,true,true,true,true,true,false,true,true,true,false] rfl rfl (by kernel_rfl) (fun _ _ _ h=>h) (Or.inl ⟨by rfl,?_⟩) ?_ ?_
   rotate_left
   ·intro w'
    go_simp
    with_reducible rfl
   rotate_left
   ·simp only [nm]
    rfl
   refine take_ (i:=7) (N:=some 30) (v:=?_) (a':=?_) #[true,true,true,true,true,true,true,true,true,true,true,false] rfl rfl (by kernel_rfl) (fun _ _ _ h=>h) (Or.inl ⟨by rfl,?_⟩) hHeld ?_ ?_
   rotate_left
   ·rintro w' ⟨s0,s1,s2,s3⟩
    go_simp
    with_reducible rfl
   rotate_left
   ·simp only [nm]
    rfl
   refine pure_ (i:=11) (N:=some 11) (v:=?_) (a':=?_) #[true,true,true,true,true,true,true,true,true,true,true,true] rfl rfl (by kernel_rfl) (fun _ _ _ h=>h) (Or.inl ⟨by rfl,?_⟩) ?_ ?_
   rotate_left
   ·intro w'
    go_simp
    with_reducible rfl
   rotate_left
   ·simp only [nm]
    rfl
   refine done_ (by kernel_rfl) ?_
   go_wp2
   refine start_ (n:=29) (S:=fun w'=>w'.cell? ⟨w.heap.size+1+1,7,none⟩=some (.int .u32 (v 7))∧w'.cell? ⟨w.heap.size+1+1,5,none⟩=some (.int .u32 (v 5))∧w'.cell? ⟨w.heap.size+1+1,6,none⟩=some (.int .u32 (v 6))∧w'.cell? ⟨2,t,none⟩=some (.int .u32 kk)) (ds:=[]) #[false,false,false,false,false,false,false,false,false,false,false,false,false,false,false,false,false,false,false,false,false,false,false,false,false,false,false,false,false] (by kernel_rfl) rfl rfl ⟨c7,c5,c6,hk⟩ (fun hHeld=>?_)
   refine pure_ (i:=0) (N:=some 31) (v:=?_) (a':=?_) #[true,false,false,false,false,false,false,false,false,false,false,false,false,false,false,false,false,false,false,false,false,false,false,false,false,false,false,false,false] rfl rfl (by kernel_rfl) (fun _ _ _ h=>h) (Or.inl ⟨by rfl,?_⟩) ?_ ?_
   rotate_left
   ·intro w'
    go_simp
    with_reducible rfl
   rotate_left
   ·simp only [nm]
    rfl
   refine pure_ (i:=2) (N:=some 33) (v:=?_) (a':=?_) #[true,false,true,false,false,false,false,false,false,false,false,false,false,false,false,false,false,false,false,false,false,false,false,false,false,false,false,false,false] rfl rfl (by kernel_rfl) (fun _ _ _ h=>h) (Or.inl ⟨by rfl,?_⟩) ?_ ?_
   rotate_left
   ·intro w'
    go_simp
    with_reducible rfl
   rotate_left
   ·simp only [nm]
    rfl
   refine pure_ (i:=4) (N:=some 35) (v:=?_) (a':=?_) #[true,false,true,false,true,false,false,false,false,false,false,false,false,false,false,false,false,false,false,false,false,false,false,false,false,false,false,false,false] rfl rfl (by kernel_rfl) (fun _ _ _ h=>h) (Or.inl ⟨by rfl,?_⟩) ?_ ?_
   rotate_left
   ·intro w'
    go_simp
    with_reducible rfl
   rotate_left
   ·simp only [nm]
    rfl
   refine pure_ (i:=7) (N:=some 38) (v:=?_) (a':=?_) #[true,false,true,false,true,false,false,true,false,false,false,false,false,false,false,false,false,false,false,false,false,false,false,false,false,false,false,false,false] rfl rfl (by kernel_rfl) (fun _ _ _ h=>h) (Or.inl ⟨by rfl,?_⟩) ?_ ?_
   rotate_left
   ·intro w'
    go_simp
    with_reducible rfl
   rotate_left
   ·simp only [nm]
    rfl
   refine pure_ (i:=11) (N:=some 42) (v:=?_) (a':=?_) #[true,false,true,false,true,false,false,true,false,false,false,true,false,false,false,false,false,false,false,false,false,false,false,false,false,false,false,false,false] rfl rfl (by kernel_rfl) (fun _ _ _ h=>h) (Or.inl ⟨by rfl,?_⟩) ?_ ?_
   rotate_left
   ·intro w'
    go_simp
    with_reducible rfl
   rotate_left
   ·simp only [nm]
    rfl
   refine pure_ (i:=12) (N:=some 43) (v:=?_) (a':=?_) #[true,false,true,false,true,false,false,true,false,false,false,true,true,false,false,false,false,false,false,false,false,false,false,false,false,false,false,false,false] rfl rfl (by kernel_rfl) (fun _ _ _ h=>h) (Or.inl ⟨by rfl,?_⟩) ?_ ?_
   rotate_left
   ·intro w'
    go_simp
    with_reducible rfl
   rotate_left
   ·simp only [nm]
    rfl
   refine pure_ (i:=15) (N:=some 46) (v:=?_) (a':=?_) #[true,false,true,false,true,false,false,true,false,false,false,true,true,false,false,true,false,false,false,false,false,false,false,false,false,false,false,false,false] rfl rfl (by kernel_rfl) (fun _ _ _ h=>h) (Or.inl ⟨by rfl,?_⟩) ?_ ?_
   rotate_left
   ·intro w'
    go_simp
    with_reducible rfl
   rotate_left
   ·simp only [nm]
    rfl
   refine pure_ (i:=16) (N:=some 47) (v:=?_) (a':=?_) #[true,false,true,false,true,false,false,true,false,false,false,true,true,false,false,true,true,false,false,false,false,false,false,false,false,false,false,false,false] rfl rfl (by kernel_rfl) (fun _ _ _ h=>h) (Or.inl ⟨by rfl,?_⟩) ?_ ?_
   rotate_left
   ·intro w'
    go_simp
    with_reducible rfl
   rotate_left
   ·simp only [nm]
    rfl
   refine pure_ (i:=17) (N:=some 48) (v:=?_) (a':=?_) #[true,false,true,false,true,false,false,true,false,false,false,true,true,false,false,true,true,true,false,false,false,false,false,false,false,false,false,false,false] rfl rfl (by kernel_rfl) (fun _ _ _ h=>h) (Or.inl ⟨by rfl,?_⟩) ?_ ?_
   rotate_left
   ·intro w'
    go_simp
    with_reducible rfl
   rotate_left
   ·simp only [nm]
    rfl
   refine pure_ (i:=22) (N:=some 53) (v:=?_) (a':=?_) #[true,false,true,false,true,false,false,true,false,false,false,true,true,false,false,true,true,true,false,false,false,false,true,false,false,false,false,false,false] rfl rfl (by kernel_rfl) (fun _ _ _ h=>h) (Or.inl ⟨by rfl,?_⟩) ?_ ?_
   rotate_left
   ·intro w'
    go_simp
    with_reducible rfl
   rotate_left
   ·simp only [nm]
    rfl
   refine pure_ (i:=23) (N:=some 54) (v:=?_) (a':=?_) #[true,false,true,false,true,false,false,true,false,false,false,true,true,false,false,true,true,true,false,false,false,false,true,true,false,false,false,false,false] rfl rfl (by kernel_rfl) (fun _ _ _ h=>h) (Or.inl ⟨by rfl,?_⟩) ?_ ?_
   rotate_left
   ·intro w'
    go_simp
    with_reducible rfl
   rotate_left
   ·simp only [nm]
    rfl
   refine pure_ (i:=26) (N:=some 57) (v:=?_) (a':=?_) #[true,false,true,false,true,false,false,true,false,false,false,true,true,false,false,true,true,true,false,false,false,false,true,true,false,false,true,false,false] rfl rfl (by kernel_rfl) (fun _ _ _ h=>h) (Or.inl ⟨by rfl,?_⟩) ?_ ?_
   rotate_left
   ·intro w'
    go_simp
    with_reducible rfl
   rotate_left
   ·simp only [nm]
    rfl
   refine take_ (i:=1) (N:=some 32) (v:=?_) (a':=?_) #[true,true,true,false,true,false,false,true,false,false,false,true,true,false,false,true,true,true,false,false,false,false,true,true,false,false,true,false,false] rfl rfl (by kernel_rfl) (fun _ _ _ h=>h) (Or.inl ⟨by rfl,?_⟩) hHeld ?_ ?_
   rotate_left
   ·rintro w' ⟨s0,s1,s2,s3⟩
    go_simp
    with_reducible rfl
   rotate_left
   ·simp only [nm]
    rfl
   refine take_ (i:=13) (N:=some 44) (v:=?_) (a':=?_) #[true,true,true,false,true,false,false,true,false,false,false,true,true,true,false,true,true,true,false,false,false,false,true,true,false,false,true,false,false] rfl rfl (by kernel_rfl) (fun _ _ _ h=>h) (Or.inl ⟨by rfl,?_⟩) hHeld ?_ ?_
   rotate_left
   ·rintro w' ⟨s0,s1,s2,s3⟩
    go_simp
    with_reducible rfl
   rotate_left
   ·simp only [nm]
    rfl
   refine pure_ (i:=14) (N:=some 45) (v:=?_) (a':=?_) #[true,true,true,false,true,false,false,true,false,false,false,true,true,true,true,true,true,true,false,false,false,false,true,true,false,false,true,false,false] rfl rfl (by kernel_rfl) (fun _ _ _ h=>h) (Or.inl ⟨by rfl,?_⟩) ?_ ?_
   rotate_left
   ·intro w'
    go_simp
    with_reducible rfl
   rotate_left
   ·simp only [nm]
    rfl
   refine take_ (i:=18) (N:=some 49) (v:=?_) (a':=?_) #[true,true,true,false,true,false,false,true,false,false,false,true,true,true,true,true,true,true,true,false,false,false,true,true,false,false,true,false,false] rfl rfl (by kernel_rfl) (fun _ _ _ h=>h) (Or.inl ⟨by rfl,?_⟩) hHeld ?_ ?_
   rotate_left
   ·rintro w' ⟨s0,s1,s2,s3⟩
    go_simp
    with_reducible rfl
   rotate_left
   ·simp only [nm]
    rfl
   refine pure_ (i:=19) (N:=some 50) (v:=?_) (a':=?_) #[true,true,true,false,true,false,false,true,false,false,false,true,true,true,true,true,true,true,true,true,false,false,true,true,false,false,true,false,false] rfl rfl (by kernel_rfl) (fun _ _ _ h=>h) (Or.inl ⟨by rfl,?_⟩) ?_ ?_
   rotate_left
   ·intro w'
    go_simp
    with_reducible rfl
   rotate_left
   ·simp only [nm]
    rfl
   refine pure_ (i:=20) (N:=some 51) (v:=?_) (a':=?_) #[true,true,true,false,true,false,false,true,false,false,false,true,true,true,true,true,true,true,true,true,true,false,true,true,false,false,true,false,false] rfl rfl (by kernel_rfl) (fun _ _ _ h=>h) (Or.inl ⟨by rfl,?_⟩) ?_ ?_
   rotate_left
   ·intro w'
    go_simp
    with_reducible rfl
   rotate_left
   ·simp only [nm]
    rfl
   refine take_ (i:=24) (N:=some 55) (v:=?_) (a':=?_) #[true,true,true,false,true,false,false,true,false,false,false,true,true,true,true,true,true,true,true,true,true,false,true,true,true,false,true,false,false] rfl rfl (by kernel_rfl) (fun _ _ _ h=>h) (Or.inl ⟨by rfl,?_⟩) hHeld ?_ ?_
   rotate_left
   ·rintro w' ⟨s0,s1,s2,s3⟩
    go_simp
    with_reducible rfl
   rotate_left
   ·simp only [nm]
    rfl
   refine one_ (i:=3) (N:=some 34) #[true,true,true,true,true,false,false,true,false,false,false,true,true,true,true,true,true,true,true,true,true,false,true,true,true,false,true,false,false] rfl rfl (by kernel_rfl) (by decide) (fun K hK=>?_)
   refine gv #[.int .u32 (v 4),.int .i64 6] ?_
   with_reducible refine (tu6 (v 4) _).mono ?_
   rintro e w' ⟨rfl,rfl⟩
   refine ⟨_,rfl,?_⟩
   refine hK.out _ _ hHeld (fun hHeld=>?_)
   clear hK K
   refine nv 34 ?_
   refine one_ (i:=5) (N:=some 36) #[true,true,true,true,true,true,false,true,false,false,false,true,true,true,true,true,true,true,true,true,true,false,true,true,true,false,true,false,false] rfl rfl (by kernel_rfl) (by decide) (fun K hK=>?_)
   refine gv #[.int .u32 (v 4),.int .i64 11] ?_
   with_reducible refine (tu11 (v 4) _).mono ?_
   rintro e w' ⟨rfl,rfl⟩
   refine ⟨_,rfl,?_⟩
   refine hK.out _ _ hHeld (fun hHeld=>?_)
   clear hK K
   refine nv 36 ?_
   refine pure_ (i:=6) (N:=some 37) (v:=?_) (a':=?_) #[true,true,true,true,true,true,true,true,false,false,false,true,true,true,true,true,true,true,true,true,true,false,true,true,true,false,true,false,false] rfl rfl (by kernel_rfl) (fun _ _ _ h=>h) (Or.inl ⟨by rfl,?_⟩) ?_ ?_
   rotate_left
   ·intro w'
    go_simp
    with_reducible rfl
   rotate_left
   ·simp only [nm]
    rfl
   refine one_ (i:=8) (N:=some 39) #[true,true,true,true,true,true,true,true,true,false,false,true,true,true,true,true,true,true,true,true,true,false,true,true,true,false,true,false,false] rfl rfl (by kernel_rfl) (by decide) (fun K hK=>?_)
   refine gv #[.int .u32 (v 4),.int .i64 25] ?_
   with_reducible refine (tu25 (v 4) _).mono ?_
   rintro e w' ⟨rfl,rfl⟩
   refine ⟨_,rfl,?_⟩
   refine hK.out _ _ hHeld (fun hHeld=>?_)
   clear hK K
   refine nv 39 ?_
   refine pure_ (i:=9) (N:=some 40) (v:=?_) (a':=?_) #[true,true,true,true,true,true,true,true,true,true,false,true,true,true,true,true,true,true,true,true,true,false,true,true,true,false,true,false,false] rfl rfl (by kernel_rfl) (fun _ _ _ h=>h) (Or.inl ⟨by rfl,?_⟩) ?_ ?_
   rotate_left
   ·intro w'
    go_simp
    with_reducible rfl
   rotate_left
   ·simp only [nm]
    rfl
   refine pure_ (i:=10) (N:=some 41) (v:=?_) (a':=?_) #[true,true,true,true,true,true,true,true,true,true,true,true,true,true,true,true,true,true,true,true,true,false,true,true,true,false,true,false,false] rfl rfl (by kernel_rfl) (fun _ _ _ h=>h) (Or.inl ⟨by rfl,?_⟩) ?_ ?_
   rotate_left
   ·intro w'
    go_simp
    with_reducible rfl
   rotate_left
   ·simp only [nm]
    rfl
   refine pure_ (i:=21) (N:=some 52) (v:=?_) (a':=?_) #[true,true,true,true,true,true,true,true,true,true,true,true,true,true,true,true,true,true,true,true,true,true,true,true,true,false,true,false,false] rfl rfl (by kernel_rfl) (fun _ _ _ h=>h) (Or.inl ⟨by rfl,?_⟩) ?_ ?_
   rotate_left
   ·intro w'
    go_simp
    with_reducible rfl
   rotate_left
   ·simp only [nm]
    rfl
   refine pure_ (i:=25) (N:=some 56) (v:=?_) (a':=?_) #[true,true,true,true,true,true,true,true,true,true,true,true,true,true,true,true,true,true,true,true,true,true,true,true,true,true,true,false,false] rfl rfl (by kernel_rfl) (fun _ _ _ h=>h) (Or.inl ⟨by rfl,?_⟩) ?_ ?_
   rotate_left
   ·intro w'
    go_simp
    with_reducible rfl
   rotate_left
   ·simp only [nm]
    rfl
   refine pure_ (i:=27) (N:=some 58) (v:=?_) (a':=?_) #[true,true,true,true,true,true,true,true,true,true,true,true,true,true,true,true,true,true,true,true,true,true,true,true,true,true,true,true,false] rfl rfl (by kernel_rfl) (fun _ _ _ h=>h) (Or.inl ⟨by rfl,?_⟩) ?_ ?_
   rotate_left
   ·intro w'
    go_simp
    with_reducible rfl
   rotate_left
   ·simp only [nm]
    rfl
   refine pure_ (i:=28) (N:=some 12) (v:=?_) (a':=?_) #[true,true,true,true,true,true,true,true,true,true,true,true,true,true,true,true,true,true,true,true,true,true,true,true,true,true,true,true,true] rfl rfl (by kernel_rfl) (fun _ _ _ h=>h) (Or.inl ⟨by rfl,?_⟩) ?_ ?_
   rotate_left
   ·intro w'
    go_simp
    with_reducible rfl
   rotate_left
   ·simp only [nm]
    rfl
   refine done_ (by kernel_rfl) ?_
   go_upto_region 9 with (go_at_call 239;(first|with_reducible refine (tu2 (v 0) _).mono ?_|with_reducible refine (tu13 (v 0) _).mono ?_|with_reducible refine (tu22 (v 0) _).mono ?_);rintro e w' ⟨rfl,rfl⟩)
   have hlv:w.heap.size+1+1<wr.heap.size:=World.rowIs.lt hv
   have e0:=row8_alloc wr.drew.drew 230 v
   have e1:=World.rowIs.alloc hv (.cells #[.int .u32 (v 0),.int .u32 (v 1),.int .u32 (v 2),.int .u32 (v 3),.int .u32 (v 4),.int .u32 (v 5),.int .u32 (v 6),.int .u32 (v 7)] 230)
   have e2:=World.rowIs.alloc hh (.cells #[.int .u32 (v 0),.int .u32 (v 1),.int .u32 (v 2),.int .u32 (v 3),.int .u32 (v 4),.int .u32 (v 5),.int .u32 (v 6),.int .u32 (v 7)] 230)
   have e3:=World.rowIs.alloc hr (.cells #[.int .u32 (v 0),.int .u32 (v 1),.int .u32 (v 2),.int .u32 (v 3),.int .u32 (v 4),.int .u32 (v 5),.int .u32 (v 6),.int .u32 (v 7)] 230)
   have e4:=Below.alloc hb.out (by omega) (.cells #[.int .u32 (v 0),.int .u32 (v 1),.int .u32 (v 2),.int .u32 (v 3),.int .u32 (v 4),.int .u32 (v 5),.int .u32 (v 6),.int .u32 (v 7)] 230)
   replace e0:rowF ((wr.alloc (.cells #[.int .u32 (v 0),.int .u32 (v 1),.int .u32 (v 2),.int .u32 (v 3),.int .u32 (v 4),.int .u32 (v 5),.int .u32 (v 6),.int .u32 (v 7)] 230)).drew.drew) wr.heap.size 230 8 v:=e0
   replace e1:rowF ((wr.alloc (.cells #[.int .u32 (v 0),.int .u32 (v 1),.int .u32 (v 2),.int .u32 (v 3),.int .u32 (v 4),.int .u32 (v 5),.int .u32 (v 6),.int .u32 (v 7)] 230)).drew.drew) (w.heap.size+1+1) 230 8 v:=e1
   replace e2:rowF ((wr.alloc (.cells #[.int .u32 (v 0),.int .u32 (v 1),.int .u32 (v 2),.int .u32 (v 3),.int .u32 (v 4),.int .u32 (v 5),.int .u32 (v 6),.int .u32 (v 7)] 230)).drew.drew) w.heap.size 230 8 h:=e2
   replace e3:rowF ((wr.alloc (.cells #[.int .u32 (v 0),.int .u32 (v 1),.int .u32 (v 2),.int .u32 (v 3),.int .u32 (v 4),.int .u32 (v 5),.int .u32 (v 6),.int .u32 (v 7)] 230)).drew.drew) (w.heap.size+1) 230 8 (fun _=>0):=e3
   replace e4:=e4.drew.drew
   generalize hW:(wr.alloc (.cells #[.int .u32 (v 0),.int .u32 (v 1),.int .u32 (v 2),.int .u32 (v 3),.int .u32 (v 4),.int .u32 (v 5),.int .u32 (v 6),.int .u32 (v 7)] 230)).drew.drew=W at e0 e1 e2 e3 e4 ⊢
   clear hW
   generalize wr.heap.size=L at hlv e0 ⊢
   obtain ⟨one,hone⟩:∃ o,oneI v kk x=o:=⟨_,rfl⟩
   obtain ⟨two,htwo⟩:∃ o,twoI v=o:=⟨_,rfl⟩
   have hone':=hone
   have htwo':=htwo
   unfold oneI notI at hone'
   unfold twoI at htwo'
   rw [IntKind.wrap_u32] at htwo'
   rw [hone',htwo']
   have HO:=am (⟨hone,htwo⟩:oneI v kk x=one∧twoI v=two)
   clear hone htwo hone' htwo'
   have hcp:=copy8 3 e1 e0
   have k1:=row_copy (rowF_drew e1)
   have k0:=row_cells_other (b:=w.heap.size+1+1) (b':=L) (by omega) [.int .u32 (v 0),.int .u32 (v 1),.int .u32 (v 2),.int .u32 (v 3),.int .u32 (v 4),.int .u32 (v 5),.int .u32 (v 6)] 1 _ (rowF_drew e0)
   have k2:=row_cells_other (b:=w.heap.size+1+1) (b':=w.heap.size) (by omega) [.int .u32 (v 0),.int .u32 (v 1),.int .u32 (v 2),.int .u32 (v 3),.int .u32 (v 4),.int .u32 (v 5),.int .u32 (v 6)] 1 _ (rowF_drew e2)
   have k3:=row_cells_other (b:=w.heap.size+1+1) (b':=w.heap.size+1) (by omega) [.int .u32 (v 0),.int .u32 (v 1),.int .u32 (v 2),.int .u32 (v 3),.int .u32 (v 4),.int .u32 (v 5),.int .u32 (v 6)] 1 _ (rowF_drew e3)
   have k4:=below_cells (b:=w.heap.size+1+1) (by omega) [.int .u32 (v 0),.int .u32 (v 1),.int .u32 (v 2),.int .u32 (v 3),.int .u32 (v 4),.int .u32 (v 5),.int .u32 (v 6)] 1 _ e4.drew
   clear e0 e1 e2 e3 e4 c0 c1 c2 c3 c4 c5 c6 c7 hk
   refine start_ (n:=3) (S:=fun w'=>True) (ds:=[2]) #[false,false,false] (by kernel_rfl) rfl rfl trivial (fun hHeld=>?_)
   refine pure_ (i:=0) (N:=some 80) (v:=?_) (a':=?_) #[true,false,false] rfl rfl (by kernel_rfl) (fun _ _ _ h=>h) (Or.inl ⟨by rfl,?_⟩) ?_ ?_
   rotate_left
   ·intro w'
    go_simp
    with_reducible rfl
   rotate_left
   ·simp only [nm]
    rfl
   refine pure_ (i:=1) (N:=some 81) (v:=?_) (a':=?_) #[true,true,false] rfl rfl (by kernel_rfl) (fun _ _ _ h=>h) (Or.inl ⟨by rfl,?_⟩) ?_ ?_
   rotate_left
   ·intro w'
    go_simp
    with_reducible rfl
   rotate_left
   ·simp only [nm]
    rfl
   refine last_ (i:=2) (N:=some 82) #[true,true,true] rfl rfl (by kernel_rfl) (by decide) (fun K hK=>?_)
   refine value_ (w1:=?_) (v:=?_) (by rfl) rfl ?_ ?_
   rotate_left 2
   ·go_simp
    constructor
    ·rfl
    ·rfl
   refine hK.out _ _ ?_
   clear hK K
   refine nv 82 ?_
   refine done_ (by kernel_rfl) ?_
   generalize W.drew.setCells (w.heap.size+1+1) 1 [.int .u32 (v 0),.int .u32 (v 1),.int .u32 (v 2),.int .u32 (v 3),.int .u32 (v 4),.int .u32 (v 5),.int .u32 (v 6)]=W2 at k0 k1 k2 k3 k4 ⊢
   have d3:=rowF_cell k0 (i:=3) (by decide)
   have d0:=rowF_cell k1 (i:=0) (by decide)
   have d4:=rowF_cell k1 (i:=4) (by decide)
   have f0:=rowF_frozen k1 0
   have f4:=rowF_frozen k1 4
   go_wp2
   go_roundw
   case rel =>
    have n0:w.heap.size≠w.heap.size+1+1:=by omega
    have n1:w.heap.size+1≠w.heap.size+1+1:=by omega
    exact ⟨t+1,by omega,rfl,rowF_congr (rowF_set (rowF_set k1 0 _) 4 _) (fun i _=>round_step h Y t v x kk one two HV.out HXK.out HO.out i),World.rowIs.setOther (World.rowIs.setOther k2 n0 _) n0 _,World.rowIs.setOther (World.rowIs.setOther k3 n1 _) n1 _,⟨(k4.setCell (p:=⟨w.heap.size+1+1,0,none⟩) (show w.heap.size≤w.heap.size+1+1 by omega) _).setCell (p:=⟨w.heap.size+1+1,4,none⟩) (show w.heap.size≤w.heap.size+1+1 by omega) _⟩⟩
   case measure=>simp [intOf];omega
  ·obtain ⟨V,hV⟩:∃ V,roundsI h Y 64=V:=⟨_,rfl⟩
   have ht64:t=64:=by omega
   rw [ht64,hV] at hv
   have HRV:=am hV
   have HH:=am (rowF_congr (g:=addF h V 0) hh (fun i _=>rfl))
   clear hV ht64 hh
   go_wp2
   go_loopw [93] (fun i wr=>∃ r:Nat,r≤8∧i=.int .i64 r∧rowF wr w.heap.size 230 8 (addF h V r)∧rowF wr (w.heap.size+1+1) 230 8 V∧rowF wr (w.heap.size+1) 230 8 (fun _=>0)∧Aside0 (Below w.heap.size w wr)) (fun i _=>8-(intOf i).toNat)
   case atStart=>exact ⟨0,by omega,rfl,HH.out,hv,hr,hb⟩
   case round =>
    clear HH hv hr hb
    obtain ⟨r,hr8,rfl,hh,hv,hr,hb⟩:=hrel
    by_cases hlt2:r<8
    ·have c1:=rowF_cell hh (i:=r) hlt2
     have c2:=rowF_cell hv (i:=r) hlt2
     have f1:=rowF_frozen hh r
     obtain ⟨hr1,h1⟩:∃ y,addF h V r r=y:=⟨_,rfl⟩
     obtain ⟨hv1,h2⟩:∃ y,V r=y:=⟨_,rfl⟩
     rw [h1] at c1
     rw [h2] at c2
     have h3:h r=hr1:=by rw [← h1];unfold addF;rw [if_neg (by omega)]
     have HE:=am (⟨h3,h2⟩:h r=hr1∧V r=hv1)
     have b0:(0:Int)≤(r:Int):=by omega
     have b1:(r:Int)<8:=by omega
     clear h1 h2 h3
     go_wp2
     refine start_ (n:=9) (S:=fun w'=>w'.cell? ⟨w.heap.size,r,none⟩=some (.int .u32 hr1)∧w'.cell? ⟨w.heap.size+1+1,r,none⟩=some (.int .u32 hv1)) (ds:=[8]) #[false,false,false,false,false,false,false,false,false] (by kernel_rfl) rfl rfl ⟨c1,c2⟩ (fun hHeld=>?_)
     refine pure_ (i:=0) (N:=some 96) (v:=?_) (a':=?_) #[true,false,false,false,false,false,false,false,false] rfl rfl (by kernel_rfl) (fun _ _ _ h=>h) (Or.inl ⟨by rfl,?_⟩) ?_ ?_
     rotate_left
     ·intro w'
      go_simp
      with_reducible rfl
     rotate_left
     ·simp only [nm]
      rfl
     refine pure_ (i:=1) (N:=some 97) (v:=?_) (a':=?_) #[true,true,false,false,false,false,false,false,false] rfl rfl (by kernel_rfl) (fun _ _ _ h=>h) (Or.inl ⟨by rfl,?_⟩) ?_ ?_
     rotate_left
     ·intro w'
      go_simp
      with_reducible rfl
     rotate_left
     ·simp only [nm]
      rfl
     refine pure_ (i:=3) (N:=some 99) (v:=?_) (a':=?_) #[true,true,false,true,false,false,false,false,false] rfl rfl (by kernel_rfl) (fun _ _ _ h=>h) (Or.inl ⟨by rfl,?_⟩) ?_ ?_
     rotate_left
     ·intro w'
      go_simp
      with_reducible rfl
     rotate_left
     ·simp only [nm]
      rfl
     refine pure_ (i:=4) (N:=some 100) (v:=?_) (a':=?_) #[true,true,false,true,true,false,false,false,false] rfl rfl (by kernel_rfl) (fun _ _ _ h=>h) (Or.inl ⟨by rfl,?_⟩) ?_ ?_
     rotate_left
     ·intro w'
      go_simp
      with_reducible rfl
     rotate_left
     ·simp only [nm]
      rfl
     refine take_ (i:=2) (N:=some 98) (v:=?_) (a':=?_) #[true,true,true,true,true,false,false,false,false] rfl rfl (by kernel_rfl) (fun _ _ _ h=>h) (Or.inl ⟨by rfl,?_⟩) hHeld ?_ ?_
     rotate_left
     ·rintro w' ⟨s0,s1⟩
      go_simp
      with_reducible rfl
     rotate_left
     ·simp only [nm]
      rfl
     refine take_ (i:=5) (N:=some 101) (v:=?_) (a':=?_) #[true,true,true,true,true,true,false,false,false] rfl rfl (by kernel_rfl) (fun _ _ _ h=>h) (Or.inl ⟨by rfl,?_⟩) hHeld ?_ ?_
     rotate_left
     ·rintro w' ⟨s0,s1⟩
      go_simp
      with_reducible rfl
     rotate_left
     ·simp only [nm]
      rfl
     refine pure_ (i:=6) (N:=some 102) (v:=?_) (a':=?_) #[true,true,true,true,true,true,true,false,false] rfl rfl (by kernel_rfl) (fun _ _ _ h=>h) (Or.inl ⟨by rfl,?_⟩) ?_ ?_
     rotate_left
     ·intro w'
      go_simp
      with_reducible rfl
     rotate_left
     ·simp only [nm]
      rfl
     refine pure_ (i:=7) (N:=some 103) (v:=?_) (a':=?_) #[true,true,true,true,true,true,true,true,false] rfl rfl (by kernel_rfl) (fun _ _ _ h=>h) (Or.inl ⟨by rfl,?_⟩) ?_ ?_
     rotate_left
     ·intro w'
      go_simp
      with_reducible rfl
     rotate_left
     ·simp only [nm]
      rfl
     refine last_ (i:=8) (N:=none) #[true,true,true,true,true,true,true,true,true] rfl rfl (by kernel_rfl) (by decide) (fun K hK=>?_)
     refine skip_ (w1:=?_) (by rfl) rfl ?_ ?_
     rotate_left
     ·go_simp
      rfl
     refine hK.out _ _ ?_
     clear hK K
     refine norm_ (a':=?_) ?_ ?_
     rotate_left
     ·show Act.put _ (none) _=_
      simp only [nm]
      rfl
     refine done_ (by kernel_rfl) ?_
     go_wp2
     go_roundw
     case rel =>
      exact ⟨r+1,by omega,by go_num,rowF_congr (rowF_drew (rowF_set hh r _)) (fun i _=>addF_step h V r hr1 hv1 HE.out.1 HE.out.2 i),rowF_drew (World.rowIs.setOther hv (by omega:w.heap.size+1+1≠w.heap.size) _),rowF_drew (World.rowIs.setOther hr (by omega:w.heap.size+1≠w.heap.size) _),⟨below_drew (Below.setCell hb.out (p:=⟨w.heap.size,r,none⟩) (Nat.le_refl _) _)⟩⟩
     case measure=>simp [intOf];omega
    ·have hr8':r=8:=by omega
     rw [hr8'] at hh
     clear hr8'
     go_upto_region 17 with (fail)
     obtain ⟨cs,hcs⟩:∃ cs,(List.range 8).map (fun i=>Value.int .u32 (addF h V 8 i))=cs:=⟨_,rfl⟩
     have hlen:cs.length=8:=by rw [← hcs];simp
     have hra:wr.rangeAt w.heap.size 0 cs:=by
      intro j v hv
      have hj:j<8:=by have:=(List.getElem?_eq_some_iff.1 hv).1;omega
      rw [Nat.zero_add,rowF_cell hh hj,← hv,← hcs]
      simp [hj]
     have hth:wr.there (w.heap.size+1) 0 8:=fun j hj=>by
      rw [Nat.zero_add,rowF_cell hr hj,rowF_frozen hr j]
      exact ⟨rfl,rfl⟩
     have hone:cs.toArray.all (·.oneCell')=true:=all_oneCell_toArray (fun v hv=>by
      rw [← hcs] at hv
      obtain ⟨i,_,rfl⟩:=List.mem_map.1 hv
      rfl)
     have hinf:(Tryz.prog.info? 230).map (·.size)=some cs.length:=by rw [hlen];kernel_rfl
     have hinf2:(Tryz.prog.info? 230).map (·.size)=some cs.toArray.size:=by rw [List.size_toArray];exact hinf
     have hB2:Below w.heap.size w (wr.setCells (w.heap.size+1) 0 cs):=below_cells (by omega) cs 0 wr hb.out
     have hra2:(wr.setCells (w.heap.size+1) 0 cs).rangeAt (w.heap.size+1) 0 cs:=World.rangeAt_setCells_same wr (w.heap.size+1) 0 cs (by rw [hlen];exact hth)
     have hR2:cs.toArray=R:=by
      rw [← hcs,← HR.out,← HRV.out]
      simp [cells32,addF]
      intro a h1 h2
      omega
     have HALL:=am (⟨hra,hth,hone,hinf,hinf2,hB2,hra2,hlen,hR2⟩:wr.rangeAt w.heap.size 0 cs∧wr.there (w.heap.size+1) 0 8∧cs.toArray.all (·.oneCell')=true∧(Tryz.prog.info? 230).map (·.size)=some cs.length∧(Tryz.prog.info? 230).map (·.size)=some cs.toArray.size∧Below w.heap.size w (wr.setCells (w.heap.size+1) 0 cs)∧(wr.setCells (w.heap.size+1) 0 cs).rangeAt (w.heap.size+1) 0 cs∧cs.length=8∧cs.toArray=R)
     clear hra hth hone hinf hinf2 hB2 hra2 hlen hcs hh hr hb hv hR2
     go_wp2_with (refine wpList_load_mid rfl 230 (.tmp 2) rfl w.heap.size 0 rfl cs _ HALL.out.1 Tryz.underlying230 rfl HALL.out.2.2.2.1 ?_;simp only [Act.put,List.setIfInBounds_toArray,List.set_cons_zero,List.set_cons_succ];refine wpList_store_mid rfl 230 (.tmp 4) (.tmp 105) rfl (w.heap.size+1) 0 cs.toArray rfl rfl ?hth HALL.out.2.2.2.2.1 HALL.out.2.2.1 ?_)
     case hth=>rw [List.size_toArray,HALL.out.2.2.2.2.2.2.2.1];exact HALL.out.2.1
     refine bodyPost_ret (v:=.agg cs.toArray) (results_cell_mid Tryz.results201 _ _ (w.heap.size+1) cs _ rfl HALL.out.2.2.2.2.2.2.1 Tryz.underlying230 rfl HALL.out.2.2.2.1) rfl ⟨?_,HALL.out.2.2.2.2.2.1⟩
     rw [HALL.out.2.2.2.2.2.2.2.2]
section
structure RowG (w:World) (base:Nat) (v:Value) (xs:List Int):Prop where
 is_:∃ g cap cur fr,v=.slice (some ⟨g,0,none⟩) xs.length cap∧base≤g∧w.heap[g]?=some (.cells cur 5 fr)∧(fr=(0,0)∨cur.size≤fr.1)∧cur.size=cap∧xs.length≤cap∧cap≤maxLen∧cur.toList.take xs.length=nums .u8 xs
theorem RowG.cell {w:World} {base g n cap:Nat} {xs:List Int} (h:RowG w base (.slice (some ⟨g,0,none⟩) n cap) xs) (j:Nat) (hj:j<xs.length) :
 w.cell? ⟨g,j,none⟩=some (.int .u8 (xs.getD j 0)):=by
 obtain ⟨g',cap',cur,fr,hv,_,hb,hm,hc,hl,_,ht⟩:=h.is_
 injection hv with h1 h2 h3
 injection h1 with h1
 injection h1 with h1
 subst h1
 have h4:(cur.toList.take xs.length)[j]?=some (.int .u8 (xs.getD j 0)):=by
  rw [ht]
  simp [nums,List.getD_eq_getElem?_getD,List.getElem?_eq_getElem hj]
 rw [List.getElem?_take_of_lt hj,Array.getElem?_toList] at h4
 simp [World.cell?,hb,h4]
theorem RowG.of_text (W:World) (base:Nat) (s:ByteArray) (hs:s.size≤140737488351232) (hb:base≤W.heap.size) :
 RowG (Lib.bytesWorld W 5 s) base (.slice (some ⟨W.heap.size,0,none⟩) s.size (grownCap W s.size 0 5)) (bytesOf s):=by
 refine ⟨W.heap.size,grownCap W s.size 0 5,Lib.bytesCells W 5 s,((Lib.bytesCells W 5 s).size,(Lib.bytesCells W 5 s).size+1),by rw [bytesOf_length],hb,Lib.bytesWorld_at_new W 5 s,.inr (Nat.le_refl _),?_,?_,?_,?_⟩
 ·have:=grownCap_ge W s.size 0 5
  have hd:=data_length s
  simp [Lib.bytesCells]
  omega
 ·rw [bytesOf_length]
  exact grownCap_ge W s.size 0 5
 ·exact grownCap_le_maxLen W s.size 0 5 (by unfold maxLen;omega)
 ·rw [bytesOf_length]
  have h1:(s.data.toList.map fun b=>Value.int .u8 b.toNat).length=s.size:=by rw [List.length_map,data_length]
  simp only [Lib.bytesCells,Array.toList_append,Array.toList_map]
  rw [← h1,List.take_left]
  simp [nums,bytesOf]
section
variable {ops:Array Oper} {rest:List Oper} {o:Oper} {a:Act} {Q:Exit→Act→World→Prop}
end
end
def padZ (n:Nat):Nat:=(119-n % 64) % 64
set_option maxRecDepth 100000 in
theorem bld_writeByte0 (B b:Nat) (bs:List Value) (c:Int) (w:World) (h:Lib.IsBuilder 137 5 B b bs w) (hlen:bs.length+1≤140737488355328) (hBw:B≤w.heap.size) :
 Calls Tryz.prog 142 #[.pointer (some ⟨b,0,none⟩),.int .u8 c] w fun e w'=>e=.returned .nilIface∧(Lib.BuilderAt 137 5 B b (.pointer (some ⟨b,0,none⟩)) (bs++[.int .u8 c]) w'∧Below B w w'):=by
 obtain ⟨i0,hi,hz0,hz1,hz2⟩:=info_parts infoU8
 go_in
 go_wp2_with (go_at_call 183;refine (bld_check B b bs _ h).mono ?_)
 rintro e w1 ⟨rfl,h1,hb1⟩
 obtain ⟨hB,v,hbk,hown,hne⟩:=h1
 have c0:w1.cell? ⟨b,0,none⟩=some (.pointer (some ⟨b,0,none⟩)):=by rw [Lib.cell_of_heap hbk];rfl
 have c1:w1.cell? ⟨b,1,none⟩=some v:=by rw [Lib.cell_of_heap hbk];rfl
 go_wp2_with (at_builtin;refine wpList_append_own _ rfl _ _ 112 rfl B 5 i0 (.int .u8 0) 1 1 Tryz.underlying112 hi hz0 hz1 hz2 rfl (by decide) _ _ _ rfl (hown.alloc _) ⟨w1.heap.size,0,none⟩ 1 1 [.int .u8 c] rfl rfl ?c1 ?c2 ?c3 ?c4 ?c5 ?_)
 case c1 =>
  intro j u hj
  match j,hj with
  | 0,hj=>simp at hj;subst hj;simp [Addr.add]
 case c2=>intro u hu;simp at hu;subst hu;rfl
 case c3=>unfold maxLen;omega
 case c4=>omega
 case c5=>have:=hb1.size;simp;omega
 intro v' w2 hown' hgrow _
 have hlt:b<w1.heap.size:=by
  rcases Nat.lt_or_ge b w1.heap.size with h'|h'
  ·exact h'
  ·simp [Array.getElem?_eq_none h'] at hbk
 have hb2:w2.heap[b]?=some (.cells #[.pointer (some ⟨b,0,none⟩),v] 137 (0,0)):=by
  rw [hgrow.block b (by simp;omega) (fun e=>hne e.symm),Lib.alloc_old w1 _ b hlt]
  exact hbk
 have d0:w2.cell? ⟨b,0,none⟩=some (.pointer (some ⟨b,0,none⟩)):=by rw [Lib.cell_of_heap hb2];rfl
 have d1:w2.cell? ⟨b,1,none⟩=some v:=by rw [Lib.cell_of_heap hb2];rfl
 have f1:w2.frozen? ⟨b,1,none⟩=false:=Lib.frozen_of_heap hb2 1
 obtain ⟨g,cap,rfl⟩:∃ g cap,v'=.slice (some ⟨g,0,none⟩) (bs.length+1) cap:=by
  rcases hown'.2 with ⟨_,h0⟩|⟨g,cap,cur,hv,_⟩
  ·omega
  ·exact ⟨g,cap,hv⟩
 go_wp2
 go_ret
 refine ⟨rfl,?_,?_⟩
 ·exact Lib.BuilderAt.put (T:=137) (e:=5) hB hb2 (bs':=bs++[.int .u8 c]) (by simpa using hown') (by decide)
 ·exact ((hb1.alloc (by have:=hb1.size;omega) _).grown hgrow (by have:=hb1.size;simp;omega) (fun k hk=>(hown.lt k hk).1)).setCell (p:=⟨b,1,none⟩) hB _
theorem bld_byte (B b:Nat) (l:List UInt8) (c:Int) (hc:0≤c∧c<256) (w:World) (h:Bld B b l w) (hlen:l.length+1≤140737488355328) :
 Calls Tryz.prog 142 #[.pointer (some ⟨b,0,none⟩),.int .u8 c] w fun e w'=>e=.returned .nilIface∧Bld B b (l++[UInt8.ofNat c.toNat]) w'∧Below B w w':=by
 refine (bld_writeByte0 B b _ c w h.is_ (by rw [Lib.byteCells_length];exact hlen) (by have:=h.lt;have:=h.ge;omega)).mono ?_
 rintro e w' ⟨rfl,h1,hb⟩
 refine ⟨rfl,⟨.inr ?_⟩,hb⟩
 rw [byteCells_append]
 have e1:Lib.byteCells [UInt8.ofNat c.toNat]=[.int .u8 c]:=by
  simp [Lib.byteCells]
  omega
 rw [e1]
 exact h1
def headT (s:ByteArray):ByteArray:=s++((⟨#[128]⟩:ByteArray)++⟨(Lib.repeatL (⟨#[0]⟩:ByteArray).data.toList (padZ s.size)).toArray⟩)
def accT (U:ByteArray) (n:Nat):Nat→ByteArray
 | 0=>U
 | j+1=>accT U n j++strOfNums [(n:Int)*8/2 ^ (56-8*j) % 256]
theorem accT_size (U:ByteArray) (n:Nat):∀ j,(accT U n j).size=U.size+j
 | 0=>rfl
 | j+1=>by rw [accT,ByteArray.size_append,accT_size U n j,strOfNums_size];simp;omega
def strLen:Value→Nat
 | .string s=>s.size
 | _=>0
theorem extract_all (P:ByteArray):P.extract (64*0) P.size=P:=by
 apply ByteArray.ext
 simp
def firstF (i:Nat):Int:=firstL.getD i 0
def blocksF (P:ByteArray):Nat→Nat→Int
 | 0=>firstF
 | t+1=>fun i=>IntKind.u32.wrap (blocksF P t i+roundsI (blocksF P t) (spreadF (P.extract (64*t) (64*t+64)) 48) 64 i)
def in4 (x:Int):Nat→List UInt8
 | 0=>[]
 | j+1=>in4 x j++[UInt8.ofNat (x/2 ^ (24-8*j) % 256).toNat]
def outB (v:Nat→Int):Nat→List UInt8
 | 0=>[]
 | r+1=>outB v r++in4 (v r) 4
theorem in4_length (x:Int):∀ j,(in4 x j).length=j
 | 0=>rfl
 | j+1=>by rw [in4,List.length_append,in4_length x j];rfl
theorem outB_length (v:Nat→Int):∀ r,(outB v r).length=4*r
 | 0=>rfl
 | r+1=>by rw [outB,List.length_append,outB_length v r,in4_length];omega
theorem row_eight {W:World} {b:Nat} {t:TypeId} {v:Nat→Int} (h:rowF W b t 8 v) (g:Nat→Int) :
 rowF ((((((((W.setCell ⟨b,0,none⟩ (.int .u32 (g 0))).setCell ⟨b,1,none⟩ (.int .u32 (g 1))).setCell ⟨b,2,none⟩ (.int .u32 (g 2))).setCell ⟨b,3,none⟩ (.int .u32 (g 3))).setCell ⟨b,4,none⟩ (.int .u32 (g 4))).setCell ⟨b,5,none⟩ (.int .u32 (g 5))).setCell ⟨b,6,none⟩ (.int .u32 (g 6))).setCell ⟨b,7,none⟩ (.int .u32 (g 7))) b t 8 g:=by
 refine rowF_congr (rowF_set (rowF_set (rowF_set (rowF_set (rowF_set (rowF_set (rowF_set (rowF_set h 0 _) 1 _) 2 _) 3 _) 4 _) 5 _) 6 _) 7 _) ?_
 intro i hi
 match i,hi with
 | 0,_=>rfl|1,_=>rfl|2,_=>rfl|3,_=>rfl|4,_=>rfl|5,_=>rfl|6,_=>rfl|7,_=>rfl
theorem below_eight {W w:World} {B b:Nat} (hB:B≤b) (h:Below B w W) (g:Nat→Int) :
 Below B w ((((((((W.setCell ⟨b,0,none⟩ (.int .u32 (g 0))).setCell ⟨b,1,none⟩ (.int .u32 (g 1))).setCell ⟨b,2,none⟩ (.int .u32 (g 2))).setCell ⟨b,3,none⟩ (.int .u32 (g 3))).setCell ⟨b,4,none⟩ (.int .u32 (g 4))).setCell ⟨b,5,none⟩ (.int .u32 (g 5))).setCell ⟨b,6,none⟩ (.int .u32 (g 6))).setCell ⟨b,7,none⟩ (.int .u32 (g 7))) :=
 (((((((h.setCell (p:=⟨b,0,none⟩) hB _).setCell (p:=⟨b,1,none⟩) hB _).setCell (p:=⟨b,2,none⟩) hB _).setCell (p:=⟨b,3,none⟩) hB _).setCell (p:=⟨b,4,none⟩) hB _).setCell (p:=⟨b,5,none⟩) hB _).setCell (p:=⟨b,6,none⟩) hB _).setCell (p:=⟨b,7,none⟩) hB _
theorem index8 (v:Nat→Int) (r:Nat) (hr:r<8) (w:World):(Instr.index 230 (.agg #[.int .u32 (v 0),.int .u32 (v 1),.int .u32 (v 2),.int .u32 (v 3),.int .u32 (v 4),.int .u32 (v 5),.int .u32 (v 6),.int .u32 (v 7)]) (.int .i64 (r:Int))).run Tryz.prog w=.ok (.int .u32 (v r)) w:=by
 have hx:(#[.int .u32 (v 0),.int .u32 (v 1),.int .u32 (v 2),.int .u32 (v 3),.int .u32 (v 4),.int .u32 (v 5),.int .u32 (v 6),.int .u32 (v 7)]:Array Value)[r]?=some (.int .u32 (v r)):=by
  match r,hr with
  | 0,_=>rfl|1,_=>rfl|2,_=>rfl|3,_=>rfl|4,_=>rfl|5,_=>rfl|6,_=>rfl|7,_=>rfl
 generalize (#[.int .u32 (v 0),.int .u32 (v 1),.int .u32 (v 2),.int .u32 (v 3),.int .u32 (v 4),.int .u32 (v 5),.int .u32 (v 6),.int .u32 (v 7)]:Array Value)=X at hx ⊢
 have hn:(0≤(r:Int)∧(r:Int)<(8:Nat)):=by omega
 simp [Instr.index,run_underlying Tryz.underlying230,asIntOf,hn,go_sem,hx]
 omega
def sumP (s:ByteArray):ByteArray:=accT (headT s) s.size 8
def sumV (s:ByteArray):ByteArray:=⟨(outB (blocksF (sumP s) ((sumP s).size/64)) 8).toArray⟩
theorem repeat_size (c:Nat):(⟨(Lib.repeatL [0] c).toArray⟩:ByteArray).size=c:=by
 rw [← data_length]
 simp [Lib.repeatL_length]
set_option maxRecDepth 100000 in
theorem sum_any (s:ByteArray) (w:World) (hs:s.size≤70368744177664) (hK:SKeysIn w) :
 Calls Tryz.prog 141 #[.string s] w fun e w'=>e=.returned (.string (sumV s))∧Below w.heap.size w w':=by
 have HK:=am hK
 clear hK
 obtain ⟨c,hc⟩:∃ c,padZ s.size=c:=⟨_,rfl⟩
 obtain ⟨d,hd⟩:∃ d,119-s.size % 64=d:=⟨_,rfl⟩
 have hc2:d % 64=c:=by rw [← hc,← hd];rfl
 have w1:IntKind.u64.wrap (s.size:Int)=(s.size:Int):=by rw [IntKind.wrap_u64];omega
 have w2:IntKind.u64.wrap ((s.size:Int)*8)=(s.size:Int)*8:=by rw [IntKind.wrap_u64];omega
 have w3:IntKind.i64.wrap (119-(s.size:Int) % 64)=(d:Int):=(i64_w _).trans (by unfold wrap64;omega)
 have w4:(d:Int) % 64=(c:Int):=by omega
 have w5:Int.tmod (d:Int) 64=(c:Int):=by rw [Int.tmod_eq_emod_of_nonneg (by omega)];exact w4
 obtain ⟨Z,hZ⟩:∃ Z,(⟨(Lib.repeatL (⟨#[0]⟩:ByteArray).data.toList c).toArray⟩:ByteArray)=Z:=⟨_,rfl⟩
 have hZs:Z.size=c:=by rw [← hZ];exact repeat_size c
 have hrep:=fun w=>Tryz.strings_Repeat (⟨#[0]⟩:ByteArray) c w (by omega) (by show 1*c≤_;omega)
 rw [hZ] at hrep
 have l1:¬ 9223372036854775807<1+Z.size:=by omega
 have l2:¬ 9223372036854775807<s.size+(1+Z.size):=by omega
 have hcv:∀ (W:World) (b:Int),(convert 112 9 (.slice (some ⟨W.heap.size,0,none⟩) 1 1)).run Tryz.prog (W.alloc (.cells #[.int .u8 b] 5))=.ok (.string (strOfNums [b])) (W.alloc (.cells #[.int .u8 b] 5)):=fun W b =>
  run_convert_bytes_arg (P:=Tryz.prog) _ 112 5 Tryz.underlying112 Tryz.underlying5 W.heap.size 0 1 1 [b] rfl (fun i hi=>by
   obtain rfl:i=0:=by omega
   simp) 9 Tryz.underlying9
 have HREP:=am hrep
 have HC:=am (⟨hc,hd,hc2,hZ,hZs⟩:padZ s.size=c∧119-s.size % 64=d∧d % 64=c∧(⟨(Lib.repeatL (⟨#[0]⟩:ByteArray).data.toList c).toArray⟩:ByteArray)=Z∧Z.size=c)
 have HCV:=am hcv
 clear hrep hc hd hc2 hZ hZs hcv
 go_in
 go_wp2_with (go_at_call 161;refine (HREP.out _).mono ?_;rintro e w1 ⟨rfl,hb1⟩)
 obtain ⟨U,hU⟩:∃ U,s++((⟨#[128]⟩:ByteArray)++Z)=U:=⟨_,rfl⟩
 have hUs:U.size=s.size+(1+c):=by rw [← hU,ByteArray.size_append,ByteArray.size_append,HC.out.2.2.2.2];rfl
 rw [hU]
 have HU:=am (⟨hU,hUs⟩:s++((⟨#[128]⟩:ByteArray)++Z)=U∧U.size=s.size+(1+c))
 have HB1:=am hb1
 clear hU hUs hb1 l1 l2
 go_loopw [0,4] (fun v i wr=>∃ j:Nat,j≤8∧i=.int .i64 (56-8*(j:Int))∧v=.string (accT U s.size j)∧Aside0 (Below w.heap.size w wr)) (fun _ i _=>((intOf i)+8).toNat)
 case atStart=>exact ⟨0,by omega,rfl,rfl,HB1⟩
 case round =>
  clear HB1
  obtain ⟨j,hj,rfl,rfl,hb⟩:=hrel
  by_cases hj8:j<8
  ·obtain ⟨p,hp⟩:∃ p:Nat,p=56-8*j:=⟨_,rfl⟩
   have hpi:(56-8*(j:Int))=(p:Int):=by omega
   rw [hpi]
   have hmin:min p 64=p:=by omega
   have g0:(0:Int)≤(p:Int):=by omega
   obtain ⟨q,hq⟩:∃ q:Int,q=(p:Int)-8:=⟨_,rfl⟩
   have hpw:IntKind.i64.wrap ((p:Int)-8)=q:=(i64_w _).trans (by unfold wrap64;omega)
   obtain ⟨T,hT⟩:∃ T,accT U s.size j=T:=⟨_,rfl⟩
   rw [hT]
   have hTs:T.size≤70368744177764:=by rw [← hT,accT_size,HU.out.2];have:=HC.out.2.2.1;omega
   have l3:¬ 9223372036854775807<T.size+1:=by omega
   have hcv:=HCV.out wr
   have HP:=am (⟨hp,hpi,hq,hT⟩:p=56-8*j∧(56-8*(j:Int))=(p:Int)∧q=(p:Int)-8∧accT U s.size j=T)
   clear hp hpi hq hT hTs
   go_wp2
   go_roundw
   case rel =>
    obtain ⟨hp,hpi,hq,hT⟩:=HP.out
    refine ⟨j+1,by omega,?_,?_,⟨hb.out.alloc hb.out.size _⟩⟩
    ·rw [hq,← hpi]
     congr 1
     omega
    ·rw [accT,hT,hp]
   case measure =>
    obtain ⟨hp,hpi,hq,hT⟩:=HP.out
    simp only [intOf]
    omega
  ·have hj8':j=8:=by omega
   rw [hj8']
   obtain ⟨m,hm⟩:∃ m:Int,m=56-8*((8:Nat):Int):=⟨_,rfl⟩
   rw [← hm]
   have hmneg:¬ 0≤m:=by omega
   obtain ⟨P,hP⟩:∃ P,accT U s.size 8=P:=⟨_,rfl⟩
   rw [hP]
   have hPs:P.size=s.size+9+c:=by rw [← hP,accT_size,HU.out.2];omega
   obtain ⟨N,hN⟩:∃ N,P.size=64*N:=⟨P.size/64,by have:=HC.out.2.2.1;have:=HC.out.2.1;omega⟩
   have HPP:=am (⟨hP,hPs,hN⟩:accT U s.size 8=P∧P.size=s.size+9+c∧P.size=64*N)
   obtain ⟨F,hF⟩:∃ F,firstF=F:=⟨_,rfl⟩
   have hfst:∀ w,Calls Tryz.prog 200 #[] w fun e w'=>e=.returned (.agg #[.int .u32 (F 0),.int .u32 (F 1),.int .u32 (F 2),.int .u32 (F 3),.int .u32 (F 4),.int .u32 (F 5),.int .u32 (F 6),.int .u32 (F 7)])∧Below w.heap.size w w':=by
    rw [← hF]
    exact first_any
   have HFST:=am hfst
   have HF:=am hF
   clear hj8' hm hP hPs hN hfst hF hj hj8
   go_wp2_with (go_at_call 200;refine (HFST.out _).mono ?_;rintro e w5 ⟨rfl,hb5⟩;have HB5:=am hb5;clear hb5)
   have hle5:w.heap.size≤w5.heap.size:=by have:=hb.out.size;have:=HB5.out.size;omega
   have k0:=row8_alloc w5 230 F
   have k1:=Below.alloc (below_step hb.out HB5.out) hle5 (.cells #[.int .u32 (F 0),.int .u32 (F 1),.int .u32 (F 2),.int .u32 (F 3),.int .u32 (F 4),.int .u32 (F 5),.int .u32 (F 6),.int .u32 (F 7)] 230)
   generalize w5.alloc (.cells #[.int .u32 (F 0),.int .u32 (F 1),.int .u32 (F 2),.int .u32 (F 3),.int .u32 (F 4),.int .u32 (F 5),.int .u32 (F 6),.int .u32 (F 7)] 230)=W at k0 k1 ⊢
   generalize w5.heap.size=b at hle5 k0 ⊢
   have K0:=am k0
   have K1:=am k1
   clear k0 k1 HB5 hb
   go_loopw [0] (fun v wr=>∃ t:Nat,t≤N∧v=.string (P.extract (64*t) P.size)∧rowF wr b 230 8 (blocksF P t)∧Aside0 (Below w.heap.size w wr)) (fun v _=>strLen v)
   case atStart=>exact ⟨0,by omega,by rw [extract_all],by rw [blocksF,HF.out];exact K0.out,K1⟩
   case round =>
    clear K0 K1
    obtain ⟨t,ht,rfl,hh,hb⟩:=hrel
    obtain ⟨Q,hQ⟩:∃ Q,P.extract (64*t) P.size=Q:=⟨_,rfl⟩
    rw [hQ]
    by_cases hlt:t<N
    ·have hN:=HPP.out.2.2
     have hQs:Q.size=64*(N-t):=by rw [← hQ,ByteArray.size_extract];omega
     have hne:Q.toList.isEmpty=false:=by
      rw [ByteArray.toList_eq]
      have:0<Q.data.toList.length:=by rw [data_length];omega
      cases h:Q.data.toList with
      | nil=>rw [h] at this;simp at this
      | cons=>rfl
     obtain ⟨Q1,hQ1⟩:∃ Q1,Q.extract 0 64=Q1:=⟨_,rfl⟩
     obtain ⟨Q2,hQ2⟩:∃ Q2,Q.extract 64 Q.size=Q2:=⟨_,rfl⟩
     have hq1:Q1=P.extract (64*t) (64*t+64):=by rw [← hQ1,← hQ,ByteArray.extract_extract];congr 1;omega
     have hq2:Q2=P.extract (64*(t+1)) P.size:=by
      have hs2:Q.size=P.size-64*t:=by rw [← hQ,ByteArray.size_extract];omega
      rw [← hQ2,hs2,← hQ,ByteArray.extract_extract]
      congr 1
      omega
     have hs1:Q1.size=64:=by rw [hq1,ByteArray.size_extract];omega
     have hs2:Q2.size<Q.size:=by rw [← hQ2,ByteArray.size_extract];omega
     obtain ⟨v,hvv⟩:∃ v,blocksF P t=v:=⟨_,rfl⟩
     rw [hvv] at hh
     obtain ⟨g,hg⟩:∃ g:Nat→Int,(fun i=>IntKind.u32.wrap (v i+roundsI v (spreadF Q1 48) 64 i))=g:=⟨_,rfl⟩
     have hbk:∀ W,SKeysIn W→Calls Tryz.prog 201 #[.agg #[.int .u32 (v 0),.int .u32 (v 1),.int .u32 (v 2),.int .u32 (v 3),.int .u32 (v 4),.int .u32 (v 5),.int .u32 (v 6),.int .u32 (v 7)],.string Q1] W
      fun e w'=>e=.returned (.agg #[.int .u32 (g 0),.int .u32 (g 1),.int .u32 (g 2),.int .u32 (g 3),.int .u32 (g 4),.int .u32 (g 5),.int .u32 (g 6),.int .u32 (g 7)])∧Below W.heap.size W w':=by
      intro W hW
      have:=block_any v Q1 W (by omega) (by omega) hW
      rw [hg] at this
      exact this
     have HBK:=am hbk
     have HQ:=am (⟨hq1,hq2,hs2,hvv,hg,hlt,hQs⟩:Q1=P.extract (64*t) (64*t+64)∧Q2=P.extract (64*(t+1)) P.size∧Q2.size<Q.size∧blocksF P t=v∧(fun i=>IntKind.u32.wrap (v i+roundsI v (spreadF Q1 48) 64 i))=g∧t<N∧Q.size=64*(N-t))
     have g64:(64:Int)≤(Q.size:Int):=by omega
     have g64n:64≤Q.size:=by omega
     clear hbk hq1 hq2 hs1 hs2 hvv hg hQs hN hQ
     go_wp2
     refine start_ (n:=5) (S:=fun w'=>rowF w' b 230 8 v) (ds:=[4]) #[false,false,false,false,false] (by kernel_rfl) rfl rfl (rowF_drew hh) (fun hHeld=>?_)
     refine pure_ (i:=1) (N:=some 41) (v:=?_) (a':=?_) #[false,true,false,false,false] rfl rfl (by kernel_rfl) (fun _ _ _ h=>h) (Or.inl ⟨by rfl,?_⟩) ?_ ?_
     rotate_left
     ·intro w'
      go_simp
      with_reducible rfl
     rotate_left
     ·simp only [nm]
      rfl
     refine pure_ (i:=2) (N:=some 42) (v:=?_) (a':=?_) #[false,true,true,false,false] rfl rfl (by kernel_rfl) (fun _ _ _ h=>h) (Or.inl ⟨by rfl,?_⟩) ?_ ?_
     rotate_left
     ·intro w'
      go_simp
      with_reducible rfl
     rotate_left
     ·simp only [nm]
      rfl
     refine take_ (i:=0) (N:=some 40) (v:=?_) (a':=?_) #[true,true,true,false,false] rfl rfl (by kernel_rfl) (fun _ _ _ h=>h) (Or.inl ⟨by rfl,?_⟩) hHeld ?_ ?_
     rotate_left
     ·rintro w' hs_
      have s0:=rowF_cell hs_ (i:=0) (by decide)
      have s1:=rowF_cell hs_ (i:=1) (by decide)
      have s2:=rowF_cell hs_ (i:=2) (by decide)
      have s3:=rowF_cell hs_ (i:=3) (by decide)
      have s4:=rowF_cell hs_ (i:=4) (by decide)
      have s5:=rowF_cell hs_ (i:=5) (by decide)
      have s6:=rowF_cell hs_ (i:=6) (by decide)
      have s7:=rowF_cell hs_ (i:=7) (by decide)
      go_simp
      with_reducible rfl
     rotate_left
     ·simp only [nm]
      rfl
     refine one_ (i:=3) (N:=some 43) #[true,true,true,true,false] rfl rfl (by kernel_rfl) (by decide) (fun K hK=>?_)
     refine gv #[.agg #[.int .u32 (v 0),.int .u32 (v 1),.int .u32 (v 2),.int .u32 (v 3),.int .u32 (v 4),.int .u32 (v 5),.int .u32 (v 6),.int .u32 (v 7)],.string Q1] ?_
     with_reducible refine (HBK.out _ (skeys_step HK.out hb.out.drew)).mono ?_
     rintro e w' ⟨rfl,hb6⟩
     refine ⟨_,rfl,?_⟩
     have HB6:=am (below_step hb.out.drew hb6)
     refine hK.out _ _ (rowF_below hHeld hb6) (fun hHeld=>?_)
     clear hK K
     refine nv 43 ?_
     refine last_ (i:=4) (N:=none) #[true,true,true,true,true] rfl rfl (by kernel_rfl) (by decide) (fun K hK=>?_)
     have y0:=rowF_cell hHeld (i:=0) (by decide)
     have y1:=rowF_cell hHeld (i:=1) (by decide)
     have y2:=rowF_cell hHeld (i:=2) (by decide)
     have y3:=rowF_cell hHeld (i:=3) (by decide)
     have y4:=rowF_cell hHeld (i:=4) (by decide)
     have y5:=rowF_cell hHeld (i:=5) (by decide)
     have y6:=rowF_cell hHeld (i:=6) (by decide)
     have y7:=rowF_cell hHeld (i:=7) (by decide)
     have z0:=rowF_frozen hHeld 0
     have z1:=rowF_frozen hHeld 1
     have z2:=rowF_frozen hHeld 2
     have z3:=rowF_frozen hHeld 3
     have z4:=rowF_frozen hHeld 4
     have z5:=rowF_frozen hHeld 5
     have z6:=rowF_frozen hHeld 6
     have z7:=rowF_frozen hHeld 7
     refine skip_ (w1:=?_) (by rfl) rfl ?_ ?_
     rotate_left
     ·go_simp
      rfl
     refine hK.out _ _ ?_
     clear hK K
     refine norm_ (a':=?_) ?_ ?_
     rotate_left
     ·show Act.put _ (none) _=_
      simp only [nm]
      rfl
     refine done_ (by kernel_rfl) ?_
     go_wp2
     go_roundw
     case rel =>
      obtain ⟨hq1,hq2,hs2,hvv,hg,hlt,hQs⟩:=HQ.out
      refine ⟨t+1,by omega,by rw [hq2],?_,⟨below_eight hle5 HB6.out g⟩⟩
      have e1:blocksF P (t+1)=g:=by rw [blocksF,hvv,← hq1];exact hg
      rw [e1]
      exact row_eight hHeld g
     case measure=>exact HQ.out.2.2.1
    ·have htN:t=N:=by omega
     have hem:Q.toList.isEmpty=true:=by
      rw [ByteArray.toList_eq]
      have:Q.data.toList.length=0:=by rw [data_length,← hQ,ByteArray.size_extract];have:=HPP.out.2.2;omega
      rw [List.eq_nil_of_length_eq_zero this]
      rfl
     obtain ⟨v,hvv⟩:∃ v,blocksF P t=v:=⟨_,rfl⟩
     rw [hvv] at hh
     have HV:=am (⟨hvv,htN⟩:blocksF P t=v∧t=N)
     have hr1:=World.rowIs.alloc hh (.cells #[.pointer none,.slice none 0 0] 137)
     have c0:=rowF_cell hr1 (i:=0) (by decide)
     have c1:=rowF_cell hr1 (i:=1) (by decide)
     have c2:=rowF_cell hr1 (i:=2) (by decide)
     have c3:=rowF_cell hr1 (i:=3) (by decide)
     have c4:=rowF_cell hr1 (i:=4) (by decide)
     have c5:=rowF_cell hr1 (i:=5) (by decide)
     have c6:=rowF_cell hr1 (i:=6) (by decide)
     have c7:=rowF_cell hr1 (i:=7) (by decide)
     have HBL:=am (Bld.fresh wr)
     have hleB:w.heap.size≤wr.heap.size:=hb.out.size
     have HB7:=am (hb.out.alloc hleB (.cells #[.pointer none,.slice none 0 0] 137))
     clear hvv htN hr1 hh hb hQ
     go_wp2
     clear c0 c1 c2 c3 c4 c5 c6 c7
     generalize wr.alloc (.cells #[.pointer none,.slice none 0 0] 137)=W8 at HBL HB7 ⊢
     generalize wr.heap.size=bb at HBL hleB ⊢
     go_loopw [45] (fun i wr=>∃ r:Nat,r≤8∧i=.int .i64 r∧Aside0 (Bld bb bb (outB v r) wr)∧Aside0 (Below w.heap.size w wr)) (fun i _=>8-(intOf i).toNat)
     case atStart=>exact ⟨0,by omega,rfl,HBL,HB7⟩
     case round =>
      clear HBL HB7
      obtain ⟨r,hr8,rfl,hB,hb⟩:=hrel
      by_cases hlt2:r<8
      ·have hix:=index8 v r hlt2
       obtain ⟨x,hx⟩:∃ x,v r=x:=⟨_,rfl⟩
       rw [hx] at hix
       have HX:=am hx
       clear hx
       have hd8:decide ((r:Int)<8)=true:=decide_eq_true (by omega)
       go_wp2
       (try rw [hd8])
       go_loopw [9] (fun i wr=>∃ j:Nat,j≤4∧i=.int .i64 (24-8*(j:Int))∧Aside0 (Bld bb bb (outB v r++in4 x j) wr)∧Aside0 (Below w.heap.size w wr)) (fun i _=>((intOf i)+8).toNat)
       case atStart=>exact ⟨0,by omega,rfl,by rw [in4,List.append_nil];exact hB,hb⟩
       case round =>
        clear hB hb
        obtain ⟨j,hj,rfl,hB,hb⟩:=hrel
        by_cases hj4:j<4
        ·obtain ⟨p,hp⟩:∃ p:Nat,p=24-8*j:=⟨_,rfl⟩
         have hpi:(24-8*(j:Int))=(p:Int):=by omega
         rw [hpi]
         have hmin:min p 32=p:=by omega
         have g0:(0:Int)≤(p:Int):=by omega
         obtain ⟨q,hq⟩:∃ q:Int,q=(p:Int)-8:=⟨_,rfl⟩
         have hpw:IntKind.i64.wrap ((p:Int)-8)=q:=(i64_w _).trans (by unfold wrap64;omega)
         have hlen:(outB v r++in4 x j).length+1≤140737488355328:=by rw [List.length_append,outB_length,in4_length];omega
         have HP2:=am (⟨hp,hpi,hq,hlen⟩:p=24-8*j∧(24-8*(j:Int))=(p:Int)∧q=(p:Int)-8∧(outB v r++in4 x j).length+1≤140737488355328)
         clear hp hpi hq hlen
         go_wp2_with (go_at_call 142;refine (bld_byte bb bb (outB v r++in4 x j) (x/2 ^ p % 256) ⟨Int.emod_nonneg _ (by decide),Int.emod_lt_of_pos _ (by decide)⟩ _ hB.out HP2.out.2.2.2).mono ?_;rintro e w9 ⟨rfl,hB9,hb9⟩;have HB9:=am hB9;have HB10:=am (hb.out.trans (hb9.mono hleB));clear hB9 hb9)
         go_roundw
         case rel =>
          obtain ⟨hp,hpi,hq,_⟩:=HP2.out
          refine ⟨j+1,by omega,?_,?_,HB10⟩
          ·rw [hq,← hpi]
           congr 1
           omega
          ·rw [in4,← hp,← List.append_assoc]
           exact HB9
         case measure =>
          obtain ⟨hp,hpi,hq,_⟩:=HP2.out
          simp only [intOf]
          omega
        ·have hj4':j=4:=by omega
         rw [hj4']
         obtain ⟨m2,hm2⟩:∃ m:Int,m=24-8*((4:Nat):Int):=⟨_,rfl⟩
         rw [← hm2]
         have hm2n:¬ 0≤m2:=by omega
         rw [hj4'] at hB
         clear hm2 hj4'
         go_wp2
         go_roundw
         case rel=>exact ⟨r+1,by omega,by go_num,by rw [outB,HX.out];exact hB,hb⟩
         case measure=>simp [intOf];omega
      ·have hr8':r=8:=by omega
       rw [hr8'] at hB
       clear hr8'
       go_wp2_with (go_at_call 96;refine (bld_string bb bb (outB v 8) _ hB.out).mono ?_;rintro e w9 ⟨rfl,hb9⟩;have HB9:=am (hb.out.trans (hb9.mono hleB));clear hb9)
       go_ret
       refine ⟨?_,HB9.out⟩
       have e1:headT s=U:=by unfold headT;rw [HC.out.1,HC.out.2.2.2.1];exact HU.out.1
       have e2:sumP s=P:=by unfold sumP;rw [e1];exact HPP.out.1
       have e3:(sumP s).size/64=N:=by rw [e2];have:=HPP.out.2.2;omega
       have e4:sumV s=(⟨(outB v 8).toArray⟩:ByteArray):=by
        unfold sumV
        rw [e3,e2,← HV.out.2,HV.out.1]
       rw [e4]
       rfl
structure BldC (C b:Nat) (l:List UInt8) (w:World):Prop where
 is_:∃ p v,w.heap[b]?=some (.cells #[p,v] 137 (0,0))∧(p=.pointer none∨p=.pointer (some ⟨b,0,none⟩))∧w.ownsRow C 5 1 v l.length (Lib.byteCells l)∧v.ownBlock≠some b∧b<C
structure But (C b:Nat) (w w':World):Prop where
 os:w'.os=w.os
 tape:w'.tape=w.tape
 output:w'.output=w.output
 size:w.heap.size≤w'.heap.size
 block:∀ k,k<C→k≠b→w'.heap[k]?=w.heap[k]?
theorem But.trans {C b:Nat} {w w' w'':World} (h:But C b w w') (k:But C b w' w''):But C b w w'' :=
 ⟨k.os.trans h.os,k.tape.trans h.tape,k.output.trans h.output,Nat.le_trans h.size k.size,fun i hi hb=>(k.block i hi hb).trans (h.block i hi hb)⟩
theorem But.below {C b B:Nat} {w w':World} (h:But C b w w') (hB:B≤b) (hb:b<C):Below B w w' :=
 ⟨h.os,h.tape,h.output,h.size,fun k hk=>h.block k (by omega) (by omega)⟩
theorem own_to {w:World} {C B:Nat} {v:Value} {n:Nat} {xs:List Value} (h:w.ownsRow C 5 1 v n xs) (hB:B≤C):w.ownsRow B 5 1 v n xs:=by
 obtain ⟨h1,h2|⟨g,cap,cur,e1,e2,e3⟩⟩:=h
 ·exact ⟨h1,.inl h2⟩
 ·exact ⟨h1,.inr ⟨g,cap,cur,e1,by omega,e3⟩⟩
theorem BldC.toBld {C b B:Nat} {l:List UInt8} {w:World} (h:BldC C b l w) (hB:B≤b):Bld B b l w:=by
 obtain ⟨p,v,hb,hp,ho,hne,hbC⟩:=h.is_
 rcases hp with rfl|rfl
 ·exact ⟨.inl ⟨hB,v,hb,by rw [Lib.byteCells_length];exact own_to ho (by omega),hne⟩⟩
 ·exact ⟨.inr ⟨hB,v,hb,by rw [Lib.byteCells_length];exact own_to ho (by omega),hne⟩⟩
theorem BldC.fresh (w w':World) (C:Nat) (hC:w.heap.size<C) (hb:Below (w.heap.size+1) (w.alloc (.cells #[.pointer none,.slice none 0 0] 137)) w'):BldC C w.heap.size [] w' :=
 ⟨_,_,(hb.block _ (by omega)).trans (heap_alloc_new w _),.inl rfl,⟨rfl,.inl ⟨rfl,rfl⟩⟩,(fun h=>by cases h),hC⟩
set_option maxRecDepth 100000 in
theorem bld_byteC (C b:Nat) (l:List UInt8) (c:Int) (hc:0≤c∧c<256) (w:World) (h:BldC C b l w) (hlen:l.length+1≤140737488355328) (hCw:C≤w.heap.size) :
 Calls Tryz.prog 142 #[.pointer (some ⟨b,0,none⟩),.int .u8 c] w fun e w'=>e=.returned .nilIface∧BldC C b (l++[UInt8.ofNat c.toNat]) w'∧But C b w w':=by
 obtain ⟨i0,hi,hz0,hz1,hz2⟩:=info_parts infoU8
 have hchk:Calls Tryz.prog 183 #[.pointer (some ⟨b,0,none⟩)] w fun e w'=>e=.returned (.tuple #[]) ∧
  (∃ v,w'.heap[b]?=some (.cells #[.pointer (some ⟨b,0,none⟩),v] 137 (0,0))∧w'.ownsRow C 5 1 v l.length (Lib.byteCells l)∧v.ownBlock≠some b)∧But C b w w':=by
  obtain ⟨p,v,hb,hp,ho,hne,hbC⟩:=h.is_
  rcases hp with rfl|rfl
  ·have hbd:Lib.BuilderAt 137 5 b b (.pointer none) (Lib.byteCells l) w:=⟨Nat.le_refl b,v,hb,by rw [Lib.byteCells_length];exact own_to ho (by omega),hne⟩
   refine (bld_check_fresh b w hbd.cell0 hbd.shape hbd.frozen0).mono ?_
   rintro e w' ⟨rfl,rfl⟩
   refine ⟨rfl,⟨v,?_,?_,hne⟩,⟨rfl,rfl,rfl,by simp,fun k _ hk=>Below.heap_setCell _ _ _ k hk⟩⟩
   ·simp [World.setCell,Array.getElem?_modify,hb]
   ·exact ownsRow_setCell_below ho (a:=⟨b,0,none⟩) hbC _
  ·have hbd:Lib.BuilderAt 137 5 b b (.pointer (some ⟨b,0,none⟩)) (Lib.byteCells l) w:=⟨Nat.le_refl b,v,hb,by rw [Lib.byteCells_length];exact own_to ho (by omega),hne⟩
   refine (bld_check_used b w hbd.cell0).mono ?_
   rintro e w' ⟨rfl,rfl⟩
   exact ⟨rfl,⟨v,hb,ho,hne⟩,⟨rfl,rfl,rfl,Nat.le_refl _,fun _ _ _=>rfl⟩⟩
 have hbC:b<C:=by obtain ⟨p,v,_,_,_,_,hbC⟩:=h.is_;exact hbC
 go_in
 go_wp2_with (go_at_call 183;refine hchk.mono ?_)
 rintro e w1 ⟨rfl,⟨v,hbk,hown,hne⟩,hb1⟩
 have c0:w1.cell? ⟨b,0,none⟩=some (.pointer (some ⟨b,0,none⟩)):=by rw [Lib.cell_of_heap hbk];rfl
 have c1:w1.cell? ⟨b,1,none⟩=some v:=by rw [Lib.cell_of_heap hbk];rfl
 have hC1:C≤w1.heap.size:=Nat.le_trans hCw hb1.size
 go_wp2_with (at_builtin;refine wpList_append_own _ rfl _ _ 112 rfl C 5 i0 (.int .u8 0) 1 1 Tryz.underlying112 hi hz0 hz1 hz2 rfl (by decide) _ _ _ rfl (hown.alloc _) ⟨w1.heap.size,0,none⟩ 1 1 [.int .u8 c] rfl rfl ?c1 ?c2 ?c3 ?c4 ?c5 ?_)
 case c1 =>
  intro j u hj
  match j,hj with
  | 0,hj=>simp at hj;subst hj;simp [Addr.add]
 case c2=>intro u hu;simp at hu;subst hu;rfl
 case c3=>unfold maxLen;omega
 case c4=>omega
 case c5=>simp;omega
 intro v' w2 hown' hgrow _
 have hb2:w2.heap[b]?=some (.cells #[.pointer (some ⟨b,0,none⟩),v] 137 (0,0)):=by
  rw [hgrow.block b (by simp;omega) (fun e=>hne e.symm),Lib.alloc_old w1 _ b (by omega)]
  exact hbk
 have d0:w2.cell? ⟨b,0,none⟩=some (.pointer (some ⟨b,0,none⟩)):=by rw [Lib.cell_of_heap hb2];rfl
 have d1:w2.cell? ⟨b,1,none⟩=some v:=by rw [Lib.cell_of_heap hb2];rfl
 have f1:w2.frozen? ⟨b,1,none⟩=false:=Lib.frozen_of_heap hb2 1
 have hbase:=own_base hown'
 have hold:∀ k,k<C→k≠b→w2.heap[k]?=w1.heap[k]?:=fun k hk _ =>
  (hgrow.block k (by simp;omega) (fun e=>by have:=own_base hown k e.symm;omega)).trans (Lib.alloc_old w1 _ k (by omega))
 obtain ⟨g,cap,rfl⟩:∃ g cap,v'=.slice (some ⟨g,0,none⟩) (l.length+1) cap:=by
  rcases hown'.2 with ⟨_,h0⟩|⟨g,cap,cur,hv,_⟩
  ·omega
  ·exact ⟨g,cap,hv⟩
 go_wp2
 go_ret
 have hbC2:C≤g:=hbase g rfl
 refine ⟨rfl,⟨_,.slice (some ⟨g,0,none⟩) (l.length+1) cap,?_,.inr rfl,?_,?_,hbC⟩,hb1.trans ⟨hgrow.os,hgrow.tape,hgrow.output,?_,?_⟩⟩
 ·simp [World.setCell,Array.getElem?_modify,hb2]
 ·rw [List.length_append,byteCells_append]
  have e1:Lib.byteCells [UInt8.ofNat c.toNat]=[.int .u8 c]:=by
   simp [Lib.byteCells]
   omega
  rw [e1]
  exact ownsRow_setCell_below hown' (a:=⟨b,1,none⟩) hbC _
 ·intro e
  have:g=b:=by simpa [Value.ownBlock] using e
  omega
 ·have:=hgrow.size
  simp at this ⊢
  omega
 ·intro k hk hkb
  exact (Below.heap_setCell _ _ _ k hkb).trans (hold k hk hkb)
def digitsS:ByteArray:=⟨#[48,49,50,51,52,53,54,55,56,57,97,98,99,100,101,102]⟩
def dig (n:Int):Int:=if n<10 then 48+n else 87+n
def markL (xs:List Int):Nat→List UInt8
 | 0=>[]
 | r+1=>markL xs r++[UInt8.ofNat (dig (xs.getD r 0/16)).toNat]++[UInt8.ofNat (dig (Go.bits .and .u8 (xs.getD r 0) 15)).toNat]
theorem markL_length (xs:List Int):∀ r,(markL xs r).length=2*r
 | 0=>rfl
 | r+1=>by rw [markL,List.length_append,List.length_append,markL_length xs r];simp;omega
theorem index_dig (n:Nat) (hn:n<16) (w:World):(Instr.index 9 (.string digitsS) (.int .u8 (n:Int))).run Tryz.prog w=.ok (.int .u8 (dig (n:Int))) w:=by
 have hx:digitsS[n]?=some (UInt8.ofNat (dig (n:Int)).toNat):=by
  match n,hn with
  | 0,_=>rfl|1,_=>rfl|2,_=>rfl|3,_=>rfl|4,_=>rfl|5,_=>rfl|6,_=>rfl|7,_=>rfl
  | 8,_=>rfl|9,_=>rfl|10,_=>rfl|11,_=>rfl|12,_=>rfl|13,_=>rfl|14,_=>rfl|15,_=>rfl
  | n+16,h=>omega
 have hd:((UInt8.ofNat (dig (n:Int)).toNat).toNat:Int)=dig (n:Int):=by
  rw [UInt8.toNat_ofNat']
  unfold dig
  split<;>omega
 have h0:(0:Int)≤(n:Int):=by omega
 generalize (UInt8.ofNat (dig (n:Int)).toNat)=u at hx hd
 generalize digitsS=S at hx ⊢
 simp [Instr.index,run_underlying Tryz.underlying9,asIntOf,go_sem,hx,hd]
theorem dig_range (n:Int) (h:0≤n∧n<16):0≤dig n∧dig n<256:=by unfold dig;split<;>omega
set_option maxRecDepth 100000 in
theorem and15 (n:Nat) (hn:n<256):Go.bits .and .u8 (n:Int) 15=((n % 16:Nat):Int):=by
 have h:∀ n:Fin 256,Go.bits .and .u8 ((n.1:Nat):Int) 15=((n.1 % 16:Nat):Int):=by decide +kernel
 exact h ⟨n,hn⟩
theorem RowG.but {b g n cap base:Nat} {w w':World} {xs:List Int} (h:RowG w base (.slice (some ⟨g,0,none⟩) n cap) xs) (hg:g≠b) (hb:But (g+1) b w w'):RowG w' base (.slice (some ⟨g,0,none⟩) n cap) xs:=by
 obtain ⟨g',cap',cur,fr,hv,h1,h2,h3⟩:=h.is_
 injection hv with e1 e2 e3
 injection e1 with e1
 injection e1 with e1
 subst e1 e2 e3
 exact ⟨g,cap,cur,fr,rfl,h1,(hb.block g (by omega) hg).trans h2,h3⟩
set_option maxRecDepth 100000 in
theorem mark_any (s:ByteArray) (w:World) (hs:s.size≤70368744177664) (h8:(sumV s).size=32) (hK:SKeysIn w) :
 Calls Tryz.prog 74 #[.string s] w fun e w'=>e=.returned (.string ⟨(markL (bytesOf ((sumV s).extract 0 8)) 8).toArray⟩)∧Below w.heap.size w w':=by
 have HK:=am hK
 clear hK
 obtain ⟨S,hS⟩:∃ S,sumV s=S:=⟨_,rfl⟩
 rw [hS] at h8
 rw [hS]
 obtain ⟨Q,hQ⟩:∃ Q,S.extract 0 8=Q:=⟨_,rfl⟩
 have hQs:Q.size=8:=by rw [← hQ,ByteArray.size_extract];omega
 have hsum:∀ W,SKeysIn W→Calls Tryz.prog 141 #[.string s] W fun e w'=>e=.returned (.string S)∧Below W.heap.size W w':=fun W hW=>by
  have:=sum_any s W hs hW
  rw [hS] at this
  exact this
 obtain ⟨xs,hxs⟩:∃ xs,bytesOf Q=xs:=⟨_,rfl⟩
 have hxl:xs.length=8:=by rw [← hxs,bytesOf_length,hQs]
 have hconv:=fun W=>Lib.run_convert_string_bytes (P:=Tryz.prog) W 9 112 5 Q Tryz.underlying9 Tryz.underlying112 Tryz.underlying5
 rw [hQ,hxs]
 have HS:=am hsum
 have HQ:=am (⟨hQs,hxs,hxl⟩:Q.size=8∧bytesOf Q=xs∧xs.length=8)
 have g8:(8:Int)≤(S.size:Int):=by omega
 have hkA:SKeysIn (w.alloc (.cells #[.pointer none,.slice none 0 0] 137)):=skeys_step HK.out (below_alloc (Below.refl _ _) _)
 have HKA:=am hkA
 clear hS hQs hsum hxs hxl hkA h8
 go_in
 go_wp2_with (go_at_call 141;refine (HS.out _ HKA.out).mono ?_;rintro e w4 ⟨rfl,hb4⟩;have HB4:=am hb4;clear hb4)
 have hle4:w.heap.size≤w4.heap.size:=by have:=HB4.out.size;simp at this;omega
 have hB2:Below w.heap.size w (Lib.bytesWorld w4 5 Q):=bytes_below (((Below.refl w.heap.size w).alloc (Nat.le_refl _) _).trans (HB4.out.mono (by simp))) hle4 _ _
 have hG:=RowG.of_text w4 w.heap.size Q (by have:=HQ.out.1;omega) hle4
 have hs4:w.heap.size+1≤w4.heap.size:=by have:=HB4.out.size;simp at this;omega
 have hBL:=BldC.fresh w (Lib.bytesWorld w4 5 Q) (w4.heap.size+1) (by omega) ((HB4.out.mono (by simp)).trans (bytes_below (Below.refl _ w4) hs4 5 Q))
 have hCs:w4.heap.size+1≤(Lib.bytesWorld w4 5 Q).heap.size:=by rw [Lib.bytesWorld_size];omega
 rw [HQ.out.1,HQ.out.2.1] at hG
 rw [HQ.out.1]
 rw [show ((8:Nat):Int)=(8:Int) from rfl]
 generalize Lib.bytesWorld w4 5 Q=W at hB2 hG hBL hCs ⊢
 generalize grownCap w4 8 0 5=cap at hG ⊢
 generalize w4.heap.size=g at hG hle4 hs4 hBL hCs ⊢
 have HG:=am hG
 have HBL:=am hBL
 have HBW:=am hB2
 clear hB2 hG hBL HB4 hconv
 go_loopw [11] (fun i wr=>∃ r:Nat,r≤8∧i=.int .i64 r∧g+1≤wr.heap.size∧Aside0 (BldC (g+1) w.heap.size (markL xs r) wr)∧Aside0 (RowG wr w.heap.size (.slice (some ⟨g,0,none⟩) 8 cap) xs)∧Aside0 (Below w.heap.size w wr)) (fun i _=>8-(intOf i).toNat)
 case atStart=>exact ⟨0,by omega,rfl,hCs,HBL,HG,HBW⟩
 case round =>
  clear HBL HG HBW hCs
  obtain ⟨r,hr8,rfl,hCs,hB,hG,hb⟩:=hrel
  by_cases hlt:r<8
  ·obtain ⟨n,hn,hn2⟩:∃ n:Nat,xs.getD r 0=(n:Int)∧n<256:=by
    have h1:=bt_range Q (r:Int)
    have h2:xs.getD r 0=bt Q (r:Int):=by
     have:=rd_bytesOf Q (r:Int)
     rw [HQ.out.2.1] at this
     unfold rd at this
     rw [Int.toNat_natCast] at this
     exact this
    exact ⟨(bt Q (r:Int)).toNat,by omega,by omega⟩
   have hc:=hG.out.cell r (by rw [HQ.out.2.2];exact hlt)
   rw [hn] at hc
   have i1:=index_dig (n/16) (by omega)
   have i2:=index_dig (n % 16) (by omega)
   rw [show ((n/16:Nat):Int)=(n:Int)/16 by omega] at i1
   rw [← and15 n hn2] at i2
   have r1:=dig_range ((n:Int)/16) (by omega)
   have r2:=dig_range (Go.bits .and .u8 (n:Int) 15) (by rw [and15 n hn2];omega)
   have b1:(0:Int)≤(n:Int)/16:=by omega
   simp only [digitsS] at i1 i2
   obtain ⟨d1,hd1⟩:∃ d,dig ((n:Int)/16)=d:=⟨_,rfl⟩
   obtain ⟨d2,hd2⟩:∃ d,dig (Go.bits .and .u8 (n:Int) 15)=d:=⟨_,rfl⟩
   rw [hd1] at i1 r1
   rw [hd2] at i2 r2
   have hl:(markL xs r).length+2≤140737488355328:=by rw [markL_length];omega
   have hnext:markL xs (r+1)=markL xs r++[UInt8.ofNat d1.toNat]++[UInt8.ofNat d2.toNat]:=by rw [markL,hn,hd1,hd2]
   have HD:=am (⟨hn,r1,r2,hl,hnext⟩:xs.getD r 0=(n:Int)∧(0≤d1∧d1<256)∧(0≤d2∧d2<256)∧(markL xs r).length+2≤140737488355328∧markL xs (r+1)=markL xs r++[UInt8.ofNat d1.toNat]++[UInt8.ofNat d2.toNat])
   clear hn hn2 r1 r2 hl hnext hd1 hd2
   have hgn:g≠w.heap.size:=by omega
   go_wp2_with (first
    | (go_at_call 142;refine (bld_byteC (g+1) w.heap.size (markL xs r++[UInt8.ofNat d1.toNat]) d2 HD.out.2.2.1 _ HB9.out (by have:=HD.out.2.2.2.1;rw [List.length_append];simp;omega) hC9).mono ?_;rintro e w10 ⟨rfl,hB10,hb10⟩;have HB11:=am hB10;have HG11:=am (HG9.out.but hgn hb10);have HB12:=am (HB10.out.trans (hb10.below (Nat.le_refl _) (by omega)));have hC10:=Nat.le_trans hC9 hb10.size;clear hB10 hb10)
    | (go_at_call 142;refine (bld_byteC (g+1) w.heap.size (markL xs r) d1 HD.out.2.1 _ hB.out (by have:=HD.out.2.2.2.1;omega) hCs).mono ?_;rintro e w9 ⟨rfl,hB9,hb9⟩;have HB9:=am hB9;have HG9:=am (hG.out.but hgn hb9);have HB10:=am (hb.out.trans (hb9.below (Nat.le_refl _) (by omega)));have hC9:=Nat.le_trans hCs hb9.size;clear hB9 hb9))
   go_roundw
   case rel=>exact ⟨r+1,by omega,by go_num,hC10,by rw [HD.out.2.2.2.2];exact HB11,HG11,HB12⟩
   case measure=>simp [intOf];omega
  ·have hr8':r=8:=by omega
   rw [hr8'] at hB
   clear hr8'
   go_wp2_with (go_at_call 96;refine (bld_string w.heap.size w.heap.size (markL xs 8) _ (hB.out.toBld (Nat.le_refl _))).mono ?_;rintro e w9 ⟨rfl,hb9⟩;have HB9:=am (hb.out.trans hb9);clear hb9)
   go_ret
   exact ⟨rfl,HB9.out⟩
theorem sumV_size (s:ByteArray):(sumV s).size=32:=by
 unfold sumV
 rw [← data_length]
 show (outB _ 8).length=32
 rw [outB_length]
def seal_Mark.f (a0:ByteArray):Option ByteArray:=if a0.size≤70368744177664 then some ⟨(markL (bytesOf ((sumV a0).extract 0 8)) 8).toArray⟩ else none
theorem seal_Mark.calls (a0:ByteArray) (r:ByteArray) (w:World) (h:seal_Mark.f a0=some r) (hK:SKeysIn w) :
 Calls Tryz.prog 74 #[.string a0] w fun e w'=>e=.returned (.string r)∧Below w.heap.size w w':=by
 unfold seal_Mark.f at h
 by_cases hs:a0.size≤70368744177664
 ·rw [if_pos hs] at h
  obtain rfl:=Option.some.inj h
  exact mark_any a0 w hs (sumV_size a0) hK
 ·rw [if_neg hs] at h
  cases h
theorem tx_mark:(bindB row5).size≤70368744177664:=Nat.le_trans row5_small.2 (by decide)
theorem mark_sized (s:ByteArray) (h:s.size≤70368744177664) (W:World) (hK:SKeysIn W):Calls Tryz.prog 74 #[.string s] W fun e W'=>(∃ r:ByteArray,e=.returned (.string r)∧r.size=16)∧Below W.heap.size W W':=by
 refine (seal_Mark.calls s _ W (by unfold seal_Mark.f;rw [if_pos h]) hK).mono ?_
 rintro e W' ⟨rfl,hb⟩
 refine ⟨⟨_,rfl,?_⟩,hb⟩
 simp [ByteArray.size,markL_length]
theorem cmark0 (W:World) (cs:List Value) (h:CfgK W kC cs) (hK:SKeysIn W):Calls Tryz.prog 34 #[.agg cs.toArray] W fun e W'=>(∃ r:ByteArray,e=.returned (.tuple #[.string r,.int .i64 0])∧r.size=16)∧Below W.heap.size W W':=by
 have HT:=am (fun w2 (hb:Below W.heap.size W w2)=>ctext0 w2 cs (h.below hb))
 have HM:=am (fun w2 (hb:Below W.heap.size W w2)=>mark_sized _ tx_mark w2 (skeys_step hK hb))
 obtain ⟨X0,x0,X2,x2,X3,x3,X7,x7,X9,x9,X10,x10,X11,x11,X12,x12,rfl,_,_⟩:=cfgk_known h
 clear h hK
 generalize bindB row5=z at *
 show Calls Tryz.prog 34 #[.agg #[.slice X0 0 x0,.string opsB,.slice X2 0 x2,.slice X3 0 x3,.int .i64 0,.int .i64 1,.int .i64 1,.slice X7 0 x7,.bool false,.slice X9 0 x9,.slice X10 1 x10,.slice X11 0 x11,.slice X12 0 x12]] W _
 go_in
 go_wp2_with (first|(go_at_call 74;refine (HM.out _ HB2.out).mono ?_;rintro e w3 ⟨⟨s,rfl,hs⟩,hb⟩;have HS:=am hs;have HB3:=bS HB2 hb;clear hb hs)|(go_at_call 73;refine (HT.out _ HB1.out).mono ?_;rintro e w2 ⟨rfl,hb⟩;have HB2:=bS HB1 hb;clear hb t0 t1 t2 t3 t4 t5 t6 t7 t8 t9 t10 t11 t12)|((with_reducible refine bv 1 #[.slice X0 0 x0,.string opsB,.slice X2 0 x2,.slice X3 0 x3,.int .i64 0,.int .i64 1,.int .i64 1,.slice X7 0 x7,.bool false,.slice X9 0 x9,.slice X10 1 x10,.slice X11 0 x11,.slice X12 0 x12] 31 ?_);intro gb hgb w1 hbox hb;obtain ⟨t0,t1,t2,t3,t4,t5,t6,t7,t8,t9,t10,t11,t12⟩:=c13 hbox;have HX1:=am hbox;have HB1:=am hb;have HG1:=am hgb;clear hb hbox hgb))
 go_ret2
 exact ⟨⟨_,rfl,HS.out⟩,HB3.out⟩
theorem kC_in {w:World} {gl:Nat} (hx:w.heap[gl]?=some (.cells #[.string opsB] 9 (0,0))):CfgK w kC [.slice none 0 0,.string (⟨#[111,112,115]⟩:ByteArray),.slice none 0 0,.slice none 0 0,.int .i64 0,.int .i64 1,.int .i64 1,.slice none 0 0,.bool false,.slice none 0 0,.slice (some ⟨gl,0,none⟩) 1 1,.slice none 0 0,.slice none 0 0]:=⟨none,0,none,0,none,0,none,0,none,0,some ⟨gl,0,none⟩,1,none,0,none,0,rfl,Nat.le_refl _,C_nil _ _ _,Nat.le_refl _,C_nil _ _ _,Nat.le_refl _,C_nil _ _ _,Nat.le_refl _,C_nil _ _ _,Nat.le_refl _,C_nil _ _ _,Nat.le_refl _,C_cellsS (ss:=[opsB]) hx rfl (by decide),Nat.le_refl _,C_nil _ _ _,Nat.le_refl _,C_nil _ _ _⟩
theorem alive_any (W:World) (hK:SKeysIn W):Calls Tryz.prog 6 #[] W fun e W'=>e=.returned (.bool true)∧Below W.heap.size W W':=by
 have HK:=am hK
 clear hK
 go_in
 go_wp2_with (first|(go_at_call 34;refine (cmark0 _ [.slice none 0 0,.string (⟨#[111,112,115]⟩:ByteArray),.slice none 0 0,.slice none 0 0,.int .i64 0,.int .i64 1,.int .i64 1,.slice none 0 0,.bool false,.slice none 0 0,.slice (some ⟨gl,0,none⟩) 1 1,.slice none 0 0,.slice none 0 0] (kC_in (HX1.out)) (skeys_step HK.out HB1.out)).mono ?_;rintro e w3 ⟨⟨s,rfl,hs⟩,hb⟩;have hs:(s.size:Int)=16:=(by omega);have HB3:=bS HB1 hb;clear hb)|((with_reducible refine lv 4 #[.string (⟨#[111,112,115]⟩:ByteArray)] 9 1 ?_);intro gl hgb w1 hbox hb;have HX1:=am hbox;have HB1:=am hb;clear hb hbox hgb))
 go_ret
 exact ⟨rfl,HB3.out⟩
theorem top_law {a p q:Bool} {lp rn ln:Nat} {ea ep en:Int} (hq:decide (0<rn)=q) (hl:lp=(if (decide (0<rn) && !p)=true then 1 else 0)+(if a=true then 0 else 1)) (ha:if a=true then ea=0∨ea=2 else ea=11) (hp:if p=true then ep=0∨ep=2 else ep=11) (hn:if ln=0 then en=0∨en=2 else en=11) :
 ((lp=0∧(ea=0∨ea=2)∧(q=false∨(q=true∧(ep=0∨ep=2))))∨((∃ k,lp=k+1)∧(ea=11∨((ea=0∨ea=2)∧ep=11))))∧((ln=0∧(en=0∨en=2))∨((∃ m,ln=m+1)∧en=11)):=by
 constructor
 ·rw [hq] at hl
  cases q<;>cases a<;>cases p<;>simp_all
 ·by_cases h:ln=0
  ·rw [if_pos h] at hn
   exact .inl ⟨h,hn⟩
  ·rw [if_neg h] at hn
   exact .inr ⟨⟨ln-1,by omega⟩,hn⟩
theorem says_top (x:Cfg) (hsz:CfgSz x) (hod:OddSz x) (W:World) (hK:KeysIn W) (hP:PKeys W) (hM:MKeysIn W) (hS:SKeysIn W) (cs:List Value) (h:CfgK W x cs):Calls Tryz.prog 3 #[.agg cs.toArray] W fun e W'=>e=.returned (.bool true)∧Below W.heap.size W W':=by
 have HBG:=am (fun W2 (hb:Below W.heap.size W W2)=>big_any x W2 cs (h.below hb))
 have hrt:=fun W2 (hb:Below W.heap.size W W2)=>cright_any x hsz W2 cs (h.below hb)
 have HAL:=am (fun W2 (hb:Below W.heap.size W W2)=>alive_any W2 (skeys_step hS hb))
 have hea:=fun W2 (hb:Below W.heap.size W W2)=>amexport_any x hsz W2 (keys_step hK hb) (pkeys_step hP hb) (mkeys_step hM hb) cs (h.below hb)
 have hl1:=fun (hc:cfgB x=true) W2 (hb:Below W.heap.size W W2)=>loss_prom x hsz hc W2 cs (h.below hb)
 have hl2:=fun (hc:cfgB x=true) W2 (hb:Below W.heap.size W W2)=>loss_nag x hsz hod hc W2 cs (h.below hb)
 have hen:=fun (hc:cfgB x=true) W2 (hb:Below W.heap.size W W2)=>nexport_any x hsz hod hc W2 (keys_step hK hb) (pkeys_step hP hb) (mkeys_step hM hb) cs (h.below hb)
 have h_:=h
 obtain ⟨A0,c0,A2,c2,A3,c3,A7,c7,A9,c9,A10,c10,A11,c11,A12,c12,rfl,l0,g0,l2,g2,l3,g3,l7,g7,l9,g9,l10,g10,l11,g11,l12,g12⟩:=h_
 have hep:=fun W2 (hb:Below W.heap.size W W2)=>pexport_any x.r hsz.1 A0 c0 W2 (mkeys_step hM hb) (pkeys_step hP hb) l0 (Kd.C_below g0 hb)
 have hlv:lossN x=(if (decide (0<x.r.length) && !pholdsB x.r)=true then 1 else 0)+(if amB x=true then 0 else 1):=rfl
 generalize cfgB x=r at *
 generalize lossN x=lp at *
 generalize whyN x=ln at *
 generalize amB x=a at *
 generalize pholdsB x.r=p at *
 have HRT:=am hrt
 have HEA:=am hea
 have HEP:=am hep
 have HLV:=am hlv
 clear h hrt hea hep hlv hsz hod hK hP hM hS g0 g2 g3 g7 g9 g10 g11 g12
 show Calls Tryz.prog 3 #[.agg #[.slice A0 x.r.length c0,.string x.t.f0,.slice A2 x.t.f1.length c2,.slice A3 x.t.f2.length c3,.int .i64 x.t.f3,.int .i64 x.t.f4,.int .i64 x.t.f5,.slice A7 x.t.f6.length c7,.bool x.t.f7,.slice A9 x.t.f8.length c9,.slice A10 x.v.length c10,.slice A11 x.i.length c11,.slice A12 x.h.length c12]] W fun e W'=>e=.returned (.bool true)∧Below W.heap.size W W'
 cases r with
 | false =>
   clear hl1 hl2 hen
   go_in
   go_wp2_with (first|(go_at_call 6;refine (HAL.out _ HB3.out).mono ?_;rintro e wz ⟨rfl,hb⟩;have HBz:=bS HB3 hb;clear hb)|(go_at_call 5;refine (HRT.out _ HB2.out).mono ?_;rintro e w3 ⟨rfl,hb⟩;have HB3:=bS HB2 hb;have HX3:=bB HX2 hb;clear hb y0 y1 y2 y3 y4 y5 y6 y7 y8 y9 y10 y11 y12;obtain ⟨y0,y1,y2,y3,y4,y5,y6,y7,y8,y9,y10,y11,y12⟩:=c13 HX3.out)|(go_at_call 4;refine (HBG.out _ HB1.out).mono ?_;rintro e w2 ⟨⟨b,rfl⟩,hb⟩;have HB2:=bS HB1 hb;have HX2:=bB HX1 hb;clear hb y0 y1 y2 y3 y4 y5 y6 y7 y8 y9 y10 y11 y12;obtain ⟨y0,y1,y2,y3,y4,y5,y6,y7,y8,y9,y10,y11,y12⟩:=c13 HX2.out;cases b;rotate_left;focus (go_wp2_with (go_at_call 6;refine (HAL.out _ HB2.out).mono ?_;rintro e wz ⟨rfl,hb⟩;have HBz:=bS HB2 hb;clear hb);go_ret;exact ⟨rfl,HBz.out⟩))|((with_reducible refine bv 1 #[.slice A0 x.r.length c0,.string x.t.f0,.slice A2 x.t.f1.length c2,.slice A3 x.t.f2.length c3,.int .i64 x.t.f3,.int .i64 x.t.f4,.int .i64 x.t.f5,.slice A7 x.t.f6.length c7,.bool x.t.f7,.slice A9 x.t.f8.length c9,.slice A10 x.v.length c10,.slice A11 x.i.length c11,.slice A12 x.h.length c12] 31 ?_);intro gb hgb w1 hbox hb;obtain ⟨y0,y1,y2,y3,y4,y5,y6,y7,y8,y9,y10,y11,y12⟩:=c13 hbox;have HX1:=am hbox;have HB1:=am hb;have HG1:=am hgb;clear hb hbox hgb))
   go_ret
   exact ⟨rfl,HBz.out⟩
 | true =>
   have HL1:=am (hl1 rfl)
   have HL2:=am (hl2 rfl)
   have HEN:=am (hen rfl)
   clear hl1 hl2 hen
   go_in
   go_upto_region 8 with (first|(go_at_call 7;refine (HL2.out _ HB4.out).mono ?_;rintro e w5 ⟨⟨Ln,nc,rfl⟩,hb⟩;have HB5:=bS HB4 hb;have HX5:=bB HX4 hb;clear hb y0 y1 y2 y3 y4 y5 y6 y7 y8 y9 y10 y11 y12;obtain ⟨y0,y1,y2,y3,y4,y5,y6,y7,y8,y9,y10,y11,y12⟩:=c13 HX5.out)|(go_at_call 7;refine (HL1.out _ HB3.out).mono ?_;rintro e w4 ⟨⟨Lp,lc,rfl⟩,hb⟩;have HB4:=bS HB3 hb;have HX4:=bB HX3 hb;clear hb y0 y1 y2 y3 y4 y5 y6 y7 y8 y9 y10 y11 y12;obtain ⟨y0,y1,y2,y3,y4,y5,y6,y7,y8,y9,y10,y11,y12⟩:=c13 HX4.out)|(go_at_call 8;refine (HEA.out _ HB5.out).mono ?_;rintro e w6 ⟨⟨sa,ea,rfl,ha⟩,hb⟩;have HB6:=bS HB5 hb;have HX6:=bB HX5 hb;clear hb y0 y1 y2 y3 y4 y5 y6 y7 y8 y9 y10 y11 y12;obtain ⟨y0,y1,y2,y3,y4,y5,y6,y7,y8,y9,y10,y11,y12⟩:=c13 HX6.out;have HA:=am ha;clear ha)|(go_at_call 9;refine (HEP.out _ HB6.out).mono ?_;rintro e w7 ⟨⟨sp,ep,rfl,hp⟩,hb⟩;have HB7:=bS HB6 hb;have HX7:=bB HX6 hb;clear hb y0 y1 y2 y3 y4 y5 y6 y7 y8 y9 y10 y11 y12;obtain ⟨y0,y1,y2,y3,y4,y5,y6,y7,y8,y9,y10,y11,y12⟩:=c13 HX7.out;have HP:=am hp;clear hp)|(go_at_call 10;refine (HEN.out _ HB7.out).mono ?_;rintro e w8 ⟨⟨sn,en,rfl,hn⟩,hb⟩;have HB8:=bS HB7 hb;have HX8:=bB HX7 hb;clear hb y0 y1 y2 y3 y4 y5 y6 y7 y8 y9 y10 y11 y12;obtain ⟨y0,y1,y2,y3,y4,y5,y6,y7,y8,y9,y10,y11,y12⟩:=c13 HX8.out;have HN:=am hn;clear hn)|(go_at_call 5;refine (HRT.out _ HB2.out).mono ?_;rintro e w3 ⟨rfl,hb⟩;have HB3:=bS HB2 hb;have HX3:=bB HX2 hb;clear hb y0 y1 y2 y3 y4 y5 y6 y7 y8 y9 y10 y11 y12;obtain ⟨y0,y1,y2,y3,y4,y5,y6,y7,y8,y9,y10,y11,y12⟩:=c13 HX3.out)|(go_at_call 4;refine (HBG.out _ HB1.out).mono ?_;rintro e w2 ⟨⟨b,rfl⟩,hb⟩;have HB2:=bS HB1 hb;have HX2:=bB HX1 hb;clear hb y0 y1 y2 y3 y4 y5 y6 y7 y8 y9 y10 y11 y12;obtain ⟨y0,y1,y2,y3,y4,y5,y6,y7,y8,y9,y10,y11,y12⟩:=c13 HX2.out;cases b;rotate_left;focus (go_wp2_with (go_at_call 6;refine (HAL.out _ HB2.out).mono ?_;rintro e wz ⟨rfl,hb⟩;have HBz:=bS HB2 hb;clear hb);go_ret;exact ⟨rfl,HBz.out⟩))|((with_reducible refine bv 1 #[.slice A0 x.r.length c0,.string x.t.f0,.slice A2 x.t.f1.length c2,.slice A3 x.t.f2.length c3,.int .i64 x.t.f3,.int .i64 x.t.f4,.int .i64 x.t.f5,.slice A7 x.t.f6.length c7,.bool x.t.f7,.slice A9 x.t.f8.length c9,.slice A10 x.v.length c10,.slice A11 x.i.length c11,.slice A12 x.h.length c12] 31 ?_);intro gb hgb w1 hbox hb;obtain ⟨y0,y1,y2,y3,y4,y5,y6,y7,y8,y9,y10,y11,y12⟩:=c13 hbox;have HX1:=am hbox;have HB1:=am hb;have HG1:=am hgb;clear hb hbox hgb))
   obtain ⟨q,hq⟩:∃ q,decide (0<x.r.length)=q:=⟨_,rfl⟩
   have hq2:decide ((0:Int)<(x.r.length:Int))=q:=by rw [← hq];simp
   obtain ⟨key,keyn⟩:=top_law hq HLV.out HA.out HP.out HN.out
   clear HL1 HL2 HEN HEA HEP HRT HBG HX1 HX2 HX3 HX4 HX5 HX6 HX7
   clear HLV HA HP HN
   rcases key with ⟨rfl,(rfl|rfl),(rfl|⟨rfl,(rfl|rfl)⟩)⟩|⟨⟨k,rfl⟩,(rfl|⟨(rfl|rfl),rfl⟩)⟩ <;>
   (go_upto_region 14 with (go_at_call 6;refine (HAL.out _ HB8.out).mono ?_;rintro e wz ⟨rfl,hb⟩;have HBz:=bS HB8 hb;have yz:=(blk_cell (blk_below HX8.out hb) 0).trans rfl;clear hb)
    rcases keyn with ⟨rfl,(rfl|rfl)⟩|⟨⟨m,rfl⟩,rfl⟩ <;>
    (go_wp2
     go_ret
     exact ⟨rfl,HBz.out⟩))
end Go.Proofs.YthofmfaeccdckaaGreatDoor.P
