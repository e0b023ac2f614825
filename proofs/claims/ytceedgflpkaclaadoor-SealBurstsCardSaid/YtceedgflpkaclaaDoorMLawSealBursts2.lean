/- What these functions of the program and of the plain reference compute, and plain lemmas on it: PFrameNumber, FrameBind, PSealSection, PSealOpen. Conditions: as each lemma says. -/
import Derived.Test.YtceedgflpkaclaaDoorMLawSealBursts0
import Derived.Test.YtceedgflpkaclaaDoorMLawSealBursts1
/- What one function of the program computes, as a Lean function, and a proof that its call comes to just that. Conditions: none. Written by wip/ownprint.py. -/
namespace Go.Proofs.YtceedgflpkaclaaDoor.P
open Go.RowKit Go.Proofs.YtceedgflpkaclaaDoorW.PrintWords Go.Proofs.YtceedgflpkaclaaDoorW.PrintLast Go.Proofs.YtceedgflpkaclaaDoorW.PrintMore
attribute [local go_sem] max2_int min2_int max_two min_two max_three min_three max_four min_four   -- for this text's walks alone
set_option linter.unusedVariables false
set_option linter.unusedSimpArgs false

mutual
def frame_Number.j0:Nat→Int→Bool→Option (ByteArray×Int)
 | 0,_,_=>none
 | k+1,x0,x10=>if x10=true then (some ((⟨#[]⟩:ByteArray),1)) else (frame_Number.l0 k x0 ([]:List Int))
def frame_Number.l0:Nat→Int→List Int→Option (ByteArray×Int)
 | 0,_,_=>none
 | k+1,x0,x4=>if x0≥128 then (if x4.length<140737488355328 then (frame_Number.l0 k (wrap64 (Int.tdiv x0 128)) (x4++[(wrap64 ((Int.tmod x0 128)+128)) % 256])) else (none)) else (if x4.length<140737488355328 then (some (strOfNums (x4++[(x0) % 256]),0)) else (none))
end
def frame_Number.f (k:Nat) (a0:Int):Option (ByteArray×Int):=if a0<0 then (frame_Number.j0 k a0 true) else (frame_Number.j0 k a0 (decide (a0≥4611686018427387904)))
set_option maxHeartbeats 8000000 in
set_option maxRecDepth 100000 in
theorem frame_Number.calls (k:Nat) (a0:Int) (r1:ByteArray) (r2:Int) (w:World) (h:frame_Number.f k a0=some (r1,r2)) :
  Calls Tryd.prog 61 #[.int .i64 a0] w fun e w'=>e=.returned (.tuple #[.string r1,.int .i64 r2])∧Below w.heap.size w w':=by
 have HB:=Aside0.mk (Below.refl w.heap.size w)
 have H:(if a0<0 then (frame_Number.j0 k a0 true) else (frame_Number.j0 k a0 (decide (a0≥4611686018427387904))))=some (r1,r2):=h
 clear h
 have HC2:=Aside0.mk H
 clear H
 go_enter Tryd.func61,Tryd.ntmps61
 go_upto_region 1 with (fail)
 go_cut [10] (fun v10 wc=>∃ (kq:Nat) (x10_1:Bool),v10=.bool x10_1∧Aside0 (frame_Number.j0 kq a0 x10_1=some (r1,r2))∧Aside0 (kq≤k)∧Aside0 (Below w.heap.size w wc))
 case first =>
  have H:=HC2.out
  clear HC2
  by_cases c3:a0<0
  ·rw [if_pos c3] at H
   have c3b0:decide (a0<0)=true:=decide_eq_true c3
   clear c3
   (first|rw [c3b0]|(simp only [i64_w,i32_w];rw [c3b0])|skip)
   have H':=Aside0.mk H
   clear H
   go_wp2
   go_meet
   case rel=>exact ⟨_,(true),(by first|rfl|(simp;done)|(simp [*];done)),H',⟨by first|omega|exact Nat.le_refl _⟩,⟨by repeat (first|(with_reducible first|exact HB.out|apply below_alloc|apply pw_below_drewN|apply below_drew1)|exact HB.out)⟩⟩
  ·rw [if_neg c3] at H
   have c3b0:decide (a0<0)=false:=decide_eq_false c3
   clear c3
   (first|rw [c3b0]|(simp only [i64_w,i32_w];rw [c3b0])|skip)
   have H':=Aside0.mk H
   clear H
   go_wp2
   go_meet
   case rel=>exact ⟨_,(decide (a0≥4611686018427387904)),(by first|rfl|(simp;done)|(simp [*];done)),H',⟨by first|omega|exact Nat.le_refl _⟩,⟨by repeat (first|(with_reducible first|exact HB.out|apply below_alloc|apply pw_below_drewN|apply below_drew1)|exact HB.out)⟩⟩
 case rest =>
  clear HC2
  try clear p2
  try clear c3
  try clear c3b0
  obtain ⟨kq,x10_1,rfl,HA,HJ1,HB⟩:=hcut
  cases kq with
  | zero=>exact absurd HA.out (by simp [frame_Number.j0])
  | succ kj1 =>
   have H:=HA.out
   clear HA
   simp only [frame_Number.j0] at H
   by_cases c4:x10_1=true
   ·subst c4
    have H1:(some ((⟨#[]⟩:ByteArray),1))=some (r1,r2):=by rw [if_pos rfl] at H;exact H
    clear H
    have H:=H1
    clear H1
    simp only [Option.some.injEq,Prod.mk.injEq] at H
    obtain ⟨rfl,rfl⟩:=H
    go_wp2
    go_ret2
    exact ⟨by first|rfl|(simp [errW_none,errW_some]<;>rfl)|(simp [*,errW_none,errW_some]<;>rfl),by repeat (first|(with_reducible first|exact HB.out|apply below_alloc|apply pw_below_drewN|apply below_drew1)|exact HB.out)⟩
   ·replace c4:=Bool.eq_false_iff.mpr c4
    subst c4
    have H1:(frame_Number.l0 kj1 a0 ([]:List Int))=some (r1,r2):=by rw [if_neg (show ¬ (false=true) by decide)] at H;exact H
    clear H
    have H:=H1
    clear H1
    have H':=Aside0.mk H
    clear H
    go_wp2
    go_loopg [0,4] kj1 (fun kq v0 v4 w'=>∃ (x0_2:Int) (x4_2:List Int),v0=.int .i64 x0_2∧Aside0 (frame_Number.l0 kq x0_2 x4_2=some (r1,r2))∧Aside0 (kq≤kj1)∧Aside0 (Kd.R (Kd.int .u8) 5 w' w.heap.size (fun _=>True) v4 x4_2)∧Aside0 (Below w.heap.size w w'))
    case atStart=>exact ⟨(a0),(([]:List Int)),(by first|rfl|(simp;done)|(simp [*];done)),H',⟨Nat.le_refl _⟩,⟨by first|exact Kd.R_nil _ _ _ _ _|exact Kd.N_nil _ _ _ _ _|exact Kd.V_nil _ _ _ _ _|exact Kd.Q_nil _ _ _ _ _|exact Kd.S_nil _ _ _ _ _⟩,⟨by repeat (first|(with_reducible first|exact HB.out|apply below_alloc|apply pw_below_drewN|apply below_drew1)|exact HB.out)⟩⟩
    case round =>
     clear H'
     try clear p2
     try clear c3
     try clear c3b0
     try clear c4
     try clear p2
     obtain ⟨x0_2,x4_2,rfl,HA,HK2,HO_4,HB⟩:=hrel
     cases gk with
     | zero=>exact absurd HA.out (by simp [frame_Number.l0])
     | succ k2 =>
      have H:=HA.out
      clear HA
      simp only [frame_Number.l0] at H
      by_cases c5:x0_2≥128
      ·rw [if_pos c5] at H
       have c5b0:decide (128≤x0_2)=true:=decide_eq_true c5
       clear c5
       by_cases c6:x4_2.length<140737488355328
       ·rw [if_pos c6] at H
        have LMc6:=Aside0.mk c6
        clear c6
        obtain ⟨y261,hy261⟩:∃ y_:List Int,y_=(x4_2++[(wrap64 ((Int.tmod x0_2 128)+128)) % 256]):=⟨_,rfl⟩
        replace H:(frame_Number.l0 k2 (wrap64 (Int.tdiv x0_2 128)) y261)=some (r1,r2):=by first|(rw [hy261];with_reducible exact H)|(have H2_:=(Option.bind_some _ _).symm.trans H;rw [hy261];with_reducible exact H2_)|(have H2_:=(Option.bind_some _ _).symm.trans H;with_reducible exact H2_)|with_reducible exact H|(rw [hy261];exact H)|exact H
        have Ny261:=Aside0.mk hy261
        clear hy261
        have H':=Aside0.mk H
        clear H
        go_wp2_with (first|((with_reducible refine gate_builtin (b:=.append) (xs:=#[.tmp 15,.tmp 20]) rfl ?_);at_builtin;refine Kd.R_append (Kd.int .u8) (w0:=w) w.heap.size rfl (.tmp 15) (.tmp 20) 31 5 (.int .u8 0) 1 rfl Tryd.underlying31 info5 rfl (by decide) (by omega) u4 x4_2 ((wrap64 ((Int.tmod x0_2 128)+128)) % 256) [.int .u8 ((wrap64 ((Int.tmod x0_2 128)+128)) % 256)] (fun _=>True) (fun _=>False) rfl rfl ?aP (fun _ hk=>hk.elim) ?aF ?aO ?aB ?aS ?aL ?_;(case aP=>exact rfl);(case aB=>exact (by repeat (first|(with_reducible first|exact HB.out|apply below_alloc|apply pw_below_drewN|apply below_drew1)|exact HB.out)));(case aF=>exact (fun _ _=>trivial));(case aO=>exact (by (with_reducible repeat (first|apply Kd.R_alloc|apply Kd.R_drewN|apply Kd.R_drew));exact HO_4.out));(case aS=>exact (below_size (by repeat (first|(with_reducible first|exact HB.out|apply below_alloc|apply pw_below_drewN|apply below_drew1)|exact HB.out))));(case aL=>have:=LMc6.out;omega);intro v262 w7 ho hb hg hat;rw [← Ny261.out] at ho;have n0_:=Aside0.mk (hb);have n1_:=Aside0.mk (ho);clear HB;clear HO_4;have HB:=n0_;have HO263:=n1_;clear n0_ n1_;clear ho hb hg hat))
        go_roundg k2
        case measure=>have:=HJ1.out;have:=HK2.out;omega
        case rel=>exact ⟨(wrap64 (Int.tdiv x0_2 128)),(y261),(by first|rfl|(simp;done)|(simp [*];done)),H',⟨by have:=HJ1.out;have:=HK2.out;omega⟩,⟨by (with_reducible repeat (first|apply Kd.R_alloc|apply Kd.R_drewN|apply Kd.R_drew));exact HO263.out⟩,⟨by repeat (first|(with_reducible first|exact HB.out|apply below_alloc|apply pw_below_drewN|apply below_drew1)|exact HB.out)⟩⟩
       ·rw [if_neg c6] at H
        exact absurd H (by simp)
      ·rw [if_neg c5] at H
       have c5b0:decide (128≤x0_2)=false:=decide_eq_false c5
       clear c5
       by_cases c8:x4_2.length<140737488355328
       ·rw [if_pos c8] at H
        have LMc8:=Aside0.mk c8
        clear c8
        obtain ⟨y264,hy264⟩:∃ y_:List Int,y_=(x4_2++[(x0_2) % 256]):=⟨_,rfl⟩
        replace H:(some (strOfNums y264,0))=some (r1,r2):=by first|(rw [hy264];with_reducible exact H)|(have H2_:=(Option.bind_some _ _).symm.trans H;rw [hy264];with_reducible exact H2_)|(have H2_:=(Option.bind_some _ _).symm.trans H;with_reducible exact H2_)|with_reducible exact H|(rw [hy264];exact H)|exact H
        have Ny264:=Aside0.mk hy264
        clear hy264
        simp only [Option.some.injEq,Prod.mk.injEq] at H
        obtain ⟨rfl,rfl⟩:=H
        go_wp2_with (first|((with_reducible refine gate_builtin (b:=.append) (xs:=#[.tmp 22,.tmp 25]) rfl ?_);at_builtin;refine Kd.R_append (Kd.int .u8) (w0:=w) w.heap.size rfl (.tmp 22) (.tmp 25) 31 5 (.int .u8 0) 1 rfl Tryd.underlying31 info5 rfl (by decide) (by omega) u4 x4_2 ((x0_2) % 256) [.int .u8 ((x0_2) % 256)] (fun _=>True) (fun _=>False) rfl rfl ?aP (fun _ hk=>hk.elim) ?aF ?aO ?aB ?aS ?aL ?_;(case aP=>exact rfl);(case aB=>exact (by repeat (first|(with_reducible first|exact HB.out|apply below_alloc|apply pw_below_drewN|apply below_drew1)|exact HB.out)));(case aF=>exact (fun _ _=>trivial));(case aO=>exact (by (with_reducible repeat (first|apply Kd.R_alloc|apply Kd.R_drewN|apply Kd.R_drew));exact HO_4.out));(case aS=>exact (below_size (by repeat (first|(with_reducible first|exact HB.out|apply below_alloc|apply pw_below_drewN|apply below_drew1)|exact HB.out))));(case aL=>have:=LMc8.out;omega);intro v265 w9 ho hb hg hat;rw [← Ny264.out] at ho;have n0_:=Aside0.mk (hb);have n1_:=Aside0.mk (ho);clear HB;clear HO_4;have HB:=n0_;have HO266:=n1_;clear n0_ n1_;clear ho hb hg hat;have hcv10:=own_string (P:=Tryd.prog) Tryd.underlying31 Tryd.underlying5 Tryd.underlying9 (Kd.own_of_R HO266.out)))
        go_ret2
        exact ⟨by first|rfl|(simp [errW_none,errW_some]<;>rfl)|(simp [*,errW_none,errW_some]<;>rfl),by repeat (first|(with_reducible first|exact HB.out|apply below_alloc|apply pw_below_drewN|apply below_drew1)|exact HB.out)⟩
       ·rw [if_neg c8] at H
        exact absurd H (by simp)
end Go.Proofs.YtceedgflpkaclaaDoor.P

/- frame.Bind comes to the bound texts, as a Lean function. Conditions: none (where the whole would pass 2^47 bytes the Lean function says nothing). -/
namespace Go.Proofs.YtceedgflpkaclaaDoor.P
open Go.RowKit Go.Proofs.YtceedgflpkaclaaDoorW.PrintWords Go.Proofs.YtceedgflpkaclaaDoorW.PrintLast Go.Proofs.YtceedgflpkaclaaDoorW.PrintMore

def bindGo (k:Nat):List ByteArray→List UInt8→Option (ByteArray×Int)
 | [],out=>some (⟨out.toArray⟩,0)
 | p::ps,out=>if p.size>8192 then some (⟨#[]⟩,2) else (frame_Number.f k (p.size:Int)).bind fun n=>if out.length+n.1.size+p.size≤140737488355328 then bindGo k ps (out++n.1.data.toList++p.data.toList) else none
def frame_Bind.f (k:Nat) (l:List ByteArray):Option (ByteArray×Int):=if l.length>512 then some (⟨#[]⟩,2) else bindGo k l []
theorem rdOf_string (l:List ByteArray) (i:Nat) (h:i<l.length):rdOf ByteArray.empty l (i:Int)=l[i]:=by
 simp [rdOf,List.getD,h]
set_option maxHeartbeats 2000000 in
set_option maxRecDepth 100000 in
theorem frame_Bind.calls (k:Nat) (A0:Option Addr) (c0:Nat) (l0:List ByteArray) (r1:ByteArray) (r2:Int) (w:World) (hr0:Kd.C Kd.string w A0 l0.length l0) (_hc0:l0.length≤c0) (h:frame_Bind.f k l0=some (r1,r2)) :
  Calls Tryd.prog 42 #[.slice A0 l0.length c0] w fun e w'=>e=.returned (.tuple #[.string r1,.int .i64 r2])∧Below w.heap.size w w':=by
 have HR:=Aside0.mk hr0
 clear hr0 _hc0
 unfold frame_Bind.f at h
 by_cases hl:l0.length>512
 ·rw [if_pos hl] at h
  simp only [Option.some.injEq,Prod.mk.injEq] at h
  obtain ⟨rfl,rfl⟩:=h
  go_enter Tryd.func42,Tryd.ntmps42
  go_wp2
  go_ret2
  exact ⟨rfl,Below.refl _ _⟩
 ·rw [if_neg hl] at h
  have H:=Aside0.mk h
  clear h
  go_enter Tryd.func42,Tryd.ntmps42
  go_wp2
  go_loopw [14] (fun v wr=>∃ (i:Nat) (out:List UInt8),i≤l0.length∧v=.int .i64 i∧Aside0 (bindGo k (l0.drop i) out=some (r1,r2))∧Aside0 (Bld w.heap.size w.heap.size out wr)∧Aside0 (Below w.heap.size w wr)) (fun v _=>l0.length-(intOf v).toNat)
  case atStart=>exact ⟨0,[],Nat.zero_le _,rfl,H,⟨Bld.fresh w⟩,⟨(Below.refl _ _).alloc (Nat.le_refl _) _⟩⟩
  case round =>
   clear H
   obtain ⟨i,out,hi,rfl,HA,HB,HW⟩:=hrel
   by_cases hlt:i<l0.length
   ·have hd:=HA.out
    rw [List.drop_eq_getElem_cons hlt] at hd
    unfold bindGo at hd
    have hx:=rdOf_string l0 i hlt
    obtain ⟨ad,ead,hcell⟩:=Kd.at_string HR.out i (by omega) (by omega)
    cases ead
    rw [hx,Int.toNat_natCast] at hcell
    have hcw:=pw_cell_below HW.out hcell
    clear hcell hx
    generalize l0[i]=p at *
    by_cases hbig:p.size>8192
    ·rw [if_pos hbig] at hd
     simp only [Option.some.injEq,Prod.mk.injEq] at hd
     obtain ⟨rfl,rfl⟩:=hd
     go_wp2
     go_ret2
     exact ⟨rfl,HW.out⟩
    ·rw [if_neg hbig] at hd
     obtain ⟨n,hn,hd⟩:=Option.bind_eq_some_iff.1 hd
     obtain ⟨n1,n2⟩:=n
     by_cases hroom:out.length+n1.size+p.size≤140737488355328
     ·simp only [if_pos hroom] at hd
      have HD:=Aside0.mk hd
      have HN:=Aside0.mk hn
      clear hd hn
      go_wp2_with (first|(go_at_call 61;refine (frame_Number.calls k _ n1 n2 _ HN.out).mono ?_;rintro e w1 ⟨rfl,hb1⟩)|fail)
      have hb2:=(HB.out).below hb1
      refine (bld_write _ _ _ _ _ hb2 (by omega)).mono ?_
      rintro e w2 ⟨rfl,hb3,hw2⟩
      go_wp2_with fail
      refine (bld_write _ _ _ _ _ hb3 (by rw [List.length_append,data_length];omega)).mono ?_
      rintro e w3 ⟨rfl,hb4,hw3⟩
      go_wp2_with fail
      go_roundw
      case rel=>exact ⟨i+1,_,by omega,by go_num,HD,⟨hb4⟩,⟨((below_then HW.out (by have:=HW.out.size;omega) hb1).trans hw2).trans hw3⟩⟩
      case measure=>simp [intOf];omega
     ·simp only [if_neg hroom] at hd
      cases hd
   ·obtain rfl:i=l0.length:=by omega
    have hd:=HA.out
    rw [List.drop_length] at hd
    unfold bindGo at hd
    simp only [Option.some.injEq,Prod.mk.injEq] at hd
    obtain ⟨rfl,rfl⟩:=hd
    go_wp2_with (first|(go_at_call 34;refine (bld_string _ _ _ _ HB.out).mono ?_;rintro e w1 ⟨rfl,hb1⟩)|fail)
    go_ret2
    exact ⟨rfl,HW.out.trans hb1⟩
end Go.Proofs.YtceedgflpkaclaaDoor.P

/- What one function of the program computes, as a Lean function, and a proof that its call comes to just that. Conditions: none. Written by wip/ownprint.py. -/
namespace Go.Proofs.YtceedgflpkaclaaDoor.P
open Go.RowKit Go.Proofs.YtceedgflpkaclaaDoorW.PrintWords Go.Proofs.YtceedgflpkaclaaDoorW.PrintLast Go.Proofs.YtceedgflpkaclaaDoorW.PrintMore
attribute [local go_sem] max2_int min2_int max_two min_two max_three min_three max_four min_four   -- for this text's walks alone
set_option linter.unusedVariables false
set_option linter.unusedSimpArgs false

def seal_section.j0:Nat→ByteArray→List ByteArray→Bool→Option (ByteArray×Int)
 | 0,_,_,_=>none
 | k+1,x0,x4,x13=>if x13=true then (some ((⟨#[]⟩:ByteArray),6)) else (if 0<(x4.length:Int) then (if ((rdOf ByteArray.empty x4 0).size:Int)>4096 then (some ((⟨#[]⟩:ByteArray),2)) else (if 1<(x4.length:Int) then ((seal_checked.f (rdOf ByteArray.empty x4 0)).bind fun t279=>(if (rdOf ByteArray.empty x4 1).toList=t279.toList then ((frame_Bind.f k x4).bind fun bt280=>(if bt280.2=0 then (if bt280.1.toList=x0.toList then (some (rdOf ByteArray.empty x4 0,0)) else (some ((⟨#[]⟩:ByteArray),6))) else (some ((⟨#[]⟩:ByteArray),6)))) else (some ((⟨#[]⟩:ByteArray),4)))) else (none))) else (none))
def seal_section.f (k:Nat) (a0:ByteArray):Option (ByteArray×Int):=(frame_Loose.f k a0).bind fun bt271=>(if (bt271.1.length:Int)=2 then (if 1<(bt271.1.length:Int) then (seal_section.j0 k a0 bt271.1 (((rdOf ByteArray.empty bt271.1 1).size:Int) != 4)) else (none)) else (seal_section.j0 k a0 bt271.1 true))
def seal_section.T6:Bool×List (List Nat×List Nat):=(true,[([],[]),([0],[0]),([1],[1]),([],[]),([3],[3]),([4],[4]),([5],[5]),([2,6],[2,6]),([7,6],[7])])
def seal_section.B6:List Nat:=[0,1,3,0,8,24,56,127,255]
theorem seal_section.tab6:rtab .any (opsOf Tryd.f41 6)=seal_section.T6:=by kernel_rfl
theorem seal_section.bits6:waitsOk seal_section.T6.2 seal_section.B6=true:=by kernel_rfl
set_option maxHeartbeats 8000000 in
set_option maxRecDepth 100000 in
theorem seal_section.calls (k:Nat) (a0:ByteArray) (r1:ByteArray) (r2:Int) (w:World) (h:seal_section.f k a0=some (r1,r2)) :
  Calls Tryd.prog 41 #[.string a0] w fun e w'=>e=.returned (.tuple #[.string r1,.int .i64 r2])∧Below w.heap.size w w':=by
 have HB:=Aside0.mk (Below.refl w.heap.size w)
 have H:((frame_Loose.f k a0).bind fun bt271=>(if (bt271.1.length:Int)=2 then (if 1<(bt271.1.length:Int) then (seal_section.j0 k a0 bt271.1 (((rdOf ByteArray.empty bt271.1 1).size:Int) != 4)) else (none)) else (seal_section.j0 k a0 bt271.1 true)))=some (r1,r2):=h
 clear h
 replace H:=Option.bind_eq_some_iff.mp H
 obtain ⟨⟨t271,t272⟩,A20,H⟩:=H
 replace H:(if (t271.length:Int)=2 then (if 1<(t271.length:Int) then (seal_section.j0 k a0 t271 (((rdOf ByteArray.empty t271 1).size:Int) != 4)) else (none)) else (seal_section.j0 k a0 t271 true))=some (r1,r2):=H
 have A2:=Aside0.mk A20
 clear A20
 have HC3:=Aside0.mk H
 clear H
 go_enter Tryd.func41,Tryd.ntmps41
 go_upto_region 2 with (first|((with_reducible refine gate_callee (f:=40) rfl ?_);refine goesL_ (some 10) rfl rfl Tryd.func40 (by kernel_rfl) rfl #[.string a0] rfl (by (try simp only [List.map_toArray,List.map_cons,List.map_nil]);first|done|rfl|(simp only [List.length_drop,List.length_take];rfl)) ?_;(with_reducible refine (frame_Loose.calls k a0 t271 t272 _ A2.out).mono ?_);rintro e w4 ⟨v273,rfl,ho0,hb⟩;refine ⟨_,rfl,?_⟩;have n0_:=Aside0.mk (Kd.R_lower ho0 (below_size (by repeat (first|(with_reducible first|exact HB.out|apply below_alloc|apply pw_below_drewN|apply below_drew1)|exact HB.out))));have n1_:=Aside0.mk (below_step (by repeat (first|(with_reducible first|exact HB.out|apply below_alloc|apply pw_below_drewN|apply below_drew1)|exact HB.out)) hb);clear HB;have HO274:=n0_;have HB:=n1_;clear n0_ n1_;(try clear hb);(try clear hb2);(try clear hk);(try clear hi);(try clear ho0)))
 (try simp only [Act.put,List.setIfInBounds_toArray,List.set_cons_zero,List.set_cons_succ])
 go_cut [13] (fun v13 wc=>∃ (kq:Nat) (x13_2:Bool),v13=.bool x13_2∧Aside0 (seal_section.j0 kq a0 t271 x13_2=some (r1,r2))∧Aside0 (kq≤k)∧Aside0 (Kd.R Kd.string 9 wc w.heap.size (fun _=>True) v273 t271)∧Aside0 (Below w.heap.size w wc))
 case first =>
  have H:=HC3.out
  clear HC3
  by_cases c5:(t271.length:Int)=2
  ·rw [if_pos c5] at H
   have c5b0:((t271.length:Int) == 2)=true:=beq_iff_eq.mpr c5
   have c5b1:((t271.length:Int) != 2)=false:=bne_eq_false_iff_eq.mpr c5
   clear c5
   (first|rw [c5b0]|(simp only [i64_w,i32_w];rw [c5b0])|skip)
   by_cases c6:1<(t271.length:Int)
   ·rw [if_pos c6] at H
    have c6b0:decide (1<(t271.length:Int))=true:=decide_eq_true c6
    have c6b1:decide (1<t271.length)=true:=decide_eq_true (by omega)
    clear c6
    have H':=Aside0.mk H
    clear H
    obtain ⟨Ao7,co7,eo7⟩:=Kd.R_slice HO274.out
    subst eo7
    have p275:0≤(1:Int):=(by omega)
    have q275:1<(t271.length:Int):=of_decide_eq_true (by first|(with_reducible assumption)|assumption)
    obtain ⟨ad275,e275,hx275_0⟩:=Kd.at_string (Kd.R_reads' HO274.out).2.2 1 p275 q275
    cases e275
    (try simp only [show (1:Int).toNat=1 from rfl,Nat.reduceMul,Nat.reduceEqDiff,Go.Addr.add,↓reduceIte] at hx275_0)
    have qi275:(1<t271.length)=True:=eq_true (by omega)
    (try rw [show ((1:Int)).toNat=1 from rfl] at hx275_0)
    replace p275:=eq_true p275
    replace q275:=eq_true q275
    go_wp2
    go_meet
    case rel=>exact ⟨_,((((rdOf ByteArray.empty t271 1).size:Int) != 4)),(by first|rfl|(simp;done)|(simp [*];done)),H',⟨by first|omega|exact Nat.le_refl _⟩,⟨by (with_reducible repeat (first|apply Kd.R_alloc|apply Kd.R_drewN|apply Kd.R_drew));exact HO274.out⟩,⟨by repeat (first|(with_reducible first|exact HB.out|apply below_alloc|apply pw_below_drewN|apply below_drew1)|exact HB.out)⟩⟩
   ·rw [if_neg c6] at H
    exact absurd H (by simp)
  ·rw [if_neg c5] at H
   have c5b0:((t271.length:Int) == 2)=false:=beq_eq_false_iff_ne.mpr c5
   have c5b1:((t271.length:Int) != 2)=true:=bne_iff_ne.mpr c5
   (first|rw [c5b0]|(simp only [i64_w,i32_w];rw [c5b0])|skip)
   have H':=Aside0.mk H
   clear H
   obtain ⟨Ao8,co8,eo8⟩:=Kd.R_slice HO274.out
   subst eo8
   go_wp2
   go_meet
   case rel=>exact ⟨_,(true),(by first|rfl|(simp;done)|(simp [*];done)),H',⟨by first|omega|exact Nat.le_refl _⟩,⟨by (with_reducible repeat (first|apply Kd.R_alloc|apply Kd.R_drewN|apply Kd.R_drew));exact HO274.out⟩,⟨by repeat (first|(with_reducible first|exact HB.out|apply below_alloc|apply pw_below_drewN|apply below_drew1)|exact HB.out)⟩⟩
 case rest =>
  clear HC3
  try clear p2
  try clear q2
  try clear hx2
  try clear qi2
  try clear c4
  try clear c5
  try clear c5b0
  try clear c5b1
  try clear c6
  try clear c6b0
  try clear c6b1
  try clear hx275_0
  try clear p275
  try clear q275
  obtain ⟨kq,x13_2,rfl,HA,HJ2,HO_4,HB⟩:=hcut
  cases kq with
  | zero=>exact absurd HA.out (by simp [seal_section.j0])
  | succ kj2 =>
   have H:=HA.out
   clear HA
   simp only [seal_section.j0] at H
   by_cases c9:x13_2=true
   ·subst c9
    have H1:(some ((⟨#[]⟩:ByteArray),6))=some (r1,r2):=by rw [if_pos rfl] at H;exact H
    clear H
    have H:=H1
    clear H1
    simp only [Option.some.injEq,Prod.mk.injEq] at H
    obtain ⟨rfl,rfl⟩:=H
    go_wp2
    go_ret2
    exact ⟨by first|rfl|(simp [errW_none,errW_some]<;>rfl)|(simp [*,errW_none,errW_some]<;>rfl),by repeat (first|(with_reducible first|exact HB.out|apply below_alloc|apply pw_below_drewN|apply below_drew1)|exact HB.out)⟩
   ·replace c9:=Bool.eq_false_iff.mpr c9
    subst c9
    have H1:(if 0<(t271.length:Int) then (if ((rdOf ByteArray.empty t271 0).size:Int)>4096 then (some ((⟨#[]⟩:ByteArray),2)) else (if 1<(t271.length:Int) then ((seal_checked.f (rdOf ByteArray.empty t271 0)).bind fun t279=>(if (rdOf ByteArray.empty t271 1).toList=t279.toList then ((frame_Bind.f kj2 t271).bind fun bt280=>(if bt280.2=0 then (if bt280.1.toList=a0.toList then (some (rdOf ByteArray.empty t271 0,0)) else (some ((⟨#[]⟩:ByteArray),6))) else (some ((⟨#[]⟩:ByteArray),6)))) else (some ((⟨#[]⟩:ByteArray),4)))) else (none))) else (none))=some (r1,r2):=by rw [if_neg (show ¬ (false=true) by decide)] at H;exact H
    clear H
    have H:=H1
    clear H1
    by_cases c10:0<(t271.length:Int)
    ·rw [if_pos c10] at H
     have c10b0:decide (0<(t271.length:Int))=true:=decide_eq_true c10
     have c10b1:decide (0<t271.length)=true:=decide_eq_true (by omega)
     clear c10
     by_cases c11:((rdOf ByteArray.empty t271 0).size:Int)>4096
     ·rw [if_pos c11] at H
      have c11b0:decide (4096<((rdOf ByteArray.empty t271 0).size:Int))=true:=decide_eq_true c11
      have c11b1:decide (4096<(rdOf ByteArray.empty t271 0).size)=true:=decide_eq_true (by omega)
      clear c11
      simp only [Option.some.injEq,Prod.mk.injEq] at H
      obtain ⟨rfl,rfl⟩:=H
      obtain ⟨Ao12,co12,eo12⟩:=Kd.R_slice HO_4.out
      subst eo12
      have p276:0≤(0:Int):=(by omega)
      have q276:0<(t271.length:Int):=of_decide_eq_true (by first|(with_reducible assumption)|assumption)
      obtain ⟨ad276,e276,hx276_0⟩:=Kd.at_string (Kd.R_reads' HO_4.out).2.2 0 p276 q276
      cases e276
      have qi276:(0<t271.length)=True:=eq_true (by omega)
      (try rw [show ((0:Int)).toNat=0 from rfl] at hx276_0)
      (try rw [Addr.add_zero'] at hx276_0)
      replace p276:=eq_true p276
      replace q276:=eq_true q276
      go_wp2
      go_ret2
      exact ⟨by first|rfl|(simp [errW_none,errW_some]<;>rfl)|(simp [*,errW_none,errW_some]<;>rfl),by repeat (first|(with_reducible first|exact HB.out|apply below_alloc|apply pw_below_drewN|apply below_drew1)|exact HB.out)⟩
     ·rw [if_neg c11] at H
      have c11b0:decide (4096<((rdOf ByteArray.empty t271 0).size:Int))=false:=decide_eq_false c11
      have c11b1:decide (4096<(rdOf ByteArray.empty t271 0).size)=false:=decide_eq_false (by omega)
      clear c11
      by_cases c13:1<(t271.length:Int)
      ·rw [if_pos c13] at H
       have c13b0:decide (1<(t271.length:Int))=true:=decide_eq_true c13
       have c13b1:decide (1<t271.length)=true:=decide_eq_true (by omega)
       clear c13
       replace H:=Option.bind_eq_some_iff.mp H
       obtain ⟨t279,A140,H⟩:=H
       replace H:(if (rdOf ByteArray.empty t271 1).toList=t279.toList then ((frame_Bind.f kj2 t271).bind fun bt280=>(if bt280.2=0 then (if bt280.1.toList=a0.toList then (some (rdOf ByteArray.empty t271 0,0)) else (some ((⟨#[]⟩:ByteArray),6))) else (some ((⟨#[]⟩:ByteArray),6)))) else (some ((⟨#[]⟩:ByteArray),4)))=some (r1,r2):=H
       have A14:=Aside0.mk A140
       clear A140
       by_cases c15:(rdOf ByteArray.empty t271 1).toList=t279.toList
       ·rw [if_pos c15] at H
        have c15b0:((rdOf ByteArray.empty t271 1).toList == t279.toList)=true:=beq_iff_eq.mpr c15
        have c15b1:((rdOf ByteArray.empty t271 1).toList != t279.toList)=false:=bne_eq_false_iff_eq.mpr c15
        clear c15
        replace H:=Option.bind_eq_some_iff.mp H
        obtain ⟨⟨t280,t281⟩,A160,H⟩:=H
        replace H:(if t281=0 then (if t280.toList=a0.toList then (some (rdOf ByteArray.empty t271 0,0)) else (some ((⟨#[]⟩:ByteArray),6))) else (some ((⟨#[]⟩:ByteArray),6)))=some (r1,r2):=H
        have A16:=Aside0.mk A160
        clear A160
        by_cases c17:t281=0
        ·rw [if_pos c17] at H
         have c17b0:(t281 == 0)=true:=beq_iff_eq.mpr c17
         have c17b1:(t281 != 0)=false:=bne_eq_false_iff_eq.mpr c17
         clear c17
         by_cases c18:t280.toList=a0.toList
         ·rw [if_pos c18] at H
          have c18b0:(t280.toList == a0.toList)=true:=beq_iff_eq.mpr c18
          have c18b1:(t280.toList != a0.toList)=false:=bne_eq_false_iff_eq.mpr c18
          clear c18
          simp only [Option.some.injEq,Prod.mk.injEq] at H
          obtain ⟨rfl,rfl⟩:=H
          obtain ⟨Ao19,co19,eo19⟩:=Kd.R_slice HO_4.out
          subst eo19
          have p276:0≤(0:Int):=(by omega)
          have q276:0<(t271.length:Int):=of_decide_eq_true (by first|(with_reducible assumption)|assumption)
          obtain ⟨ad276,e276,hx276_0⟩:=Kd.at_string (Kd.R_reads' HO_4.out).2.2 0 p276 q276
          cases e276
          have qi276:(0<t271.length)=True:=eq_true (by omega)
          (try rw [show ((0:Int)).toNat=0 from rfl] at hx276_0)
          (try rw [Addr.add_zero'] at hx276_0)
          replace p276:=eq_true p276
          replace q276:=eq_true q276
          try go_wp2
          have n0_:=Aside0.mk (Kd.R_drew HO_4.out)
          have n1_:=Aside0.mk (below_drew1 HB.out)
          clear HO_4
          clear HB
          have HO_4:=n0_
          have HB:=n1_
          clear n0_ n1_
          have p277:0≤(1:Int):=(by omega)
          have q277:1<(t271.length:Int):=of_decide_eq_true (by first|(with_reducible assumption)|assumption)
          obtain ⟨ad277,e277,hx277_0⟩:=Kd.at_string (Kd.R_reads' HO_4.out).2.2 1 p277 q277
          obtain rfl:ad276=ad277:=(by injection e277)
          (try simp only [show (1:Int).toNat=1 from rfl,Nat.reduceMul,Nat.reduceEqDiff,Go.Addr.add,↓reduceIte] at hx277_0)
          have qi277:(1<t271.length)=True:=eq_true (by omega)
          (try rw [show ((1:Int)).toNat=1 from rfl] at hx277_0)
          replace p277:=eq_true p277
          replace q277:=eq_true q277
          have p278:0≤(0:Int):=(by omega)
          have q278:0<(t271.length:Int):=of_decide_eq_true (by first|(with_reducible assumption)|assumption)
          obtain ⟨ad278,e278,hx278_0⟩:=Kd.at_string (Kd.R_reads' HO_4.out).2.2 0 p278 q278
          obtain rfl:ad276=ad278:=(by injection e278)
          have qi278:(0<t271.length)=True:=eq_true (by omega)
          (try rw [show ((0:Int)).toNat=0 from rfl] at hx278_0)
          (try rw [Addr.add_zero'] at hx278_0)
          replace p278:=eq_true p278
          replace q278:=eq_true q278
          refine start_ (n:=9) (S:=fun w'=>w'.cell? ⟨ad276.block,ad276.off+1,none⟩=some (.string (rdOf ByteArray.empty t271 1))∧w'.cell? ad276=some (.string (rdOf ByteArray.empty t271 0))) (ds:=[]) #[false,false,false,false,false,false,false,false,false] (by kernel_rfl) rfl rfl ⟨hx277_0,hx278_0⟩ (fun hHeld=>?_);refine with_tabW seal_section.tab6 seal_section.bits6 (fun HT_ HW_=>?_)
          generalize wc.drew=w20 at HO_4 HB hx277_0 hx278_0 hHeld ⊢
          refine pure_ (i:=0) (N:=some 31) (v:=?_) (a':=?_) #[true,false,false,false,false,false,false,false,false] rfl rfl (any_of HT_.out (by kernel_rfl)) (fun _ _ _ h=>h) (Or.inl ⟨by rfl,?_⟩) ?_ ?_
          rotate_left
          ·intro w'
           go_simp
           with_reducible rfl
          rotate_left
          ·simp only [Act.put,List.setIfInBounds_toArray,List.set_cons_zero,List.set_cons_succ,i64_w,i32_w]
           rfl
          refine pure_ (i:=1) (N:=some 32) (v:=?_) (a':=?_) #[true,true,false,false,false,false,false,false,false] rfl rfl (any_of HT_.out (by kernel_rfl)) (fun _ _ _ h=>h) (Or.inl ⟨by rfl,?_⟩) ?_ ?_
          rotate_left
          ·intro w'
           go_simp
           with_reducible rfl
          rotate_left
          ·simp only [Act.put,List.setIfInBounds_toArray,List.set_cons_zero,List.set_cons_succ,i64_w,i32_w]
           rfl
          refine pure_ (i:=3) (N:=some 34) (v:=?_) (a':=?_) #[true,true,false,true,false,false,false,false,false] rfl rfl (any_of HT_.out (by kernel_rfl)) (fun _ _ _ h=>h) (Or.inl ⟨by rfl,?_⟩) ?_ ?_
          rotate_left
          ·intro w'
           go_simp
           with_reducible rfl
          rotate_left
          ·simp only [Act.put,List.setIfInBounds_toArray,List.set_cons_zero,List.set_cons_succ,i64_w,i32_w]
           rfl
          refine pure_ (i:=4) (N:=some 35) (v:=?_) (a':=?_) #[true,true,false,true,true,false,false,false,false] rfl rfl (any_of HT_.out (by kernel_rfl)) (fun _ _ _ h=>h) (Or.inl ⟨by rfl,?_⟩) ?_ ?_
          rotate_left
          ·intro w'
           go_simp
           with_reducible rfl
          rotate_left
          ·simp only [Act.put,List.setIfInBounds_toArray,List.set_cons_zero,List.set_cons_succ,i64_w,i32_w]
           rfl
          refine take_ (i:=2) (N:=some 33) (v:=?_) (a':=?_) #[true,true,true,true,true,false,false,false,false] rfl rfl (take_ofW HT_.out HW_.out (by kernel_rfl)) (fun _ _ _ h=>h) (Or.inl ⟨by rfl,?_⟩) hHeld ?_ ?_
          rotate_left
          ·rintro w' ⟨s0,s1⟩
           go_simp
           with_reducible rfl
          rotate_left
          ·simp only [Act.put,List.setIfInBounds_toArray,List.set_cons_zero,List.set_cons_succ,i64_w,i32_w]
           rfl
          refine take_ (i:=5) (N:=some 36) (v:=?_) (a':=?_) #[true,true,true,true,true,true,false,false,false] rfl rfl (take_ofW HT_.out HW_.out (by kernel_rfl)) (fun _ _ _ h=>h) (Or.inl ⟨by rfl,?_⟩) hHeld ?_ ?_
          rotate_left
          ·rintro w' ⟨s0,s1⟩
           go_simp
           with_reducible rfl
          rotate_left
          ·simp only [Act.put,List.setIfInBounds_toArray,List.set_cons_zero,List.set_cons_succ,i64_w,i32_w]
           rfl
          refine one_ (i:=6) (N:=some 37) #[true,true,true,true,true,true,true,false,false] rfl rfl (one_of HT_.out (by kernel_rfl)) (by decide) (fun K hK=>?_)
          refine goes_ Tryd.func43 (by kernel_rfl) rfl #[.string (rdOf ByteArray.empty t271 0)] (by rfl) rfl rfl (by (try simp only [List.map_toArray,List.map_cons,List.map_nil]);first|done|rfl|(simp only [List.length_drop,List.length_take];rfl)) ?_
          with_reducible refine (seal_checked.calls (rdOf ByteArray.empty t271 0) t279 _ A14.out).mono ?_
          rintro e w21 ⟨rfl,hb⟩
          have HS0_:=(hb.cell (World.block_lt_of_cell? _ _ (hHeld.1))).trans (hHeld.1)
          have HS1_:=(hb.cell (World.block_lt_of_cell? _ _ (hHeld.2))).trans (hHeld.2)
          refine ⟨_,rfl,?_⟩
          have n0_:=Aside0.mk (Kd.R_below (by (with_reducible repeat (first|apply Kd.R_alloc|apply Kd.R_drewN|apply Kd.R_drew));exact HO_4.out) hb)
          have n1_:=Aside0.mk (below_step (by repeat (first|(with_reducible first|exact HB.out|apply below_alloc|apply pw_below_drewN|apply below_drew1)|exact HB.out)) hb)
          clear HO_4
          clear HB
          have HO_4:=n0_
          have HB:=n1_
          clear n0_ n1_
          (try clear hb)
          (try clear hb2)
          (try clear hk)
          (try clear hi)
          refine hK.out _ _ ⟨HS0_,HS1_⟩ (fun hHeld=>?_)
          clear hK K
          refine norm_ (a':=?_) ?_ ?_
          rotate_left
          ·show Act.put _ (some 37) _=_
           simp only [Act.put,List.setIfInBounds_toArray,List.set_cons_zero,List.set_cons_succ,i64_w,i32_w]
           rfl
          refine pure_ (i:=7) (N:=some 38) (v:=?_) (a':=?_) #[true,true,true,true,true,true,true,true,false] rfl rfl (any_of HT_.out (by kernel_rfl)) (fun _ _ _ h=>h) (Or.inl ⟨by rfl,?_⟩) ?_ ?_
          rotate_left
          ·intro w'
           go_simp
           with_reducible rfl
          rotate_left
          ·simp only [Act.put,List.setIfInBounds_toArray,List.set_cons_zero,List.set_cons_succ,i64_w,i32_w]
           rfl
          refine pure_ (i:=8) (N:=some 30) (v:=?_) (a':=?_) #[true,true,true,true,true,true,true,true,true] rfl rfl (any_of HT_.out (by kernel_rfl)) (fun _ _ _ h=>h) (Or.inl ⟨by rfl,?_⟩) ?_ ?_
          rotate_left
          ·intro w'
           go_simp
           with_reducible rfl
          rotate_left
          ·simp only [Act.put,List.setIfInBounds_toArray,List.set_cons_zero,List.set_cons_succ,i64_w,i32_w]
           rfl
          refine done_ (done_of HT_.out (by kernel_rfl)) ?_
          try go_wp2_with (first|((with_reducible refine gate_callee (f:=42) rfl ?_);refine goesL_ (some 41) rfl rfl Tryd.func42 (by kernel_rfl) rfl #[.slice (some ad276) t271.length co19] rfl (by (try simp only [List.map_toArray,List.map_cons,List.map_nil]);first|done|rfl|(simp only [List.length_drop,List.length_take];rfl)) ?_;(with_reducible refine (frame_Bind.calls kj2 _ _ t271 t280 t281 _ ?side1 ?side2 A16.out).mono ?_);(case side1=>repeat (first|exact (Kd.R_reads' HO_4.out).2.2|(with_reducible refine Kd.C_alloc ?_ _)|(with_reducible refine Kd.C_drewN ?_ _)|(with_reducible refine Kd.C_drew ?_)));(case side2=>exact (Kd.R_reads' HO_4.out).2.1);rintro e w22 ⟨rfl,hb⟩;refine ⟨_,rfl,?_⟩;have n0_:=Aside0.mk (Kd.R_below (by (with_reducible repeat (first|apply Kd.R_alloc|apply Kd.R_drewN|apply Kd.R_drew));exact HO_4.out) hb);have n1_:=Aside0.mk (below_step (by repeat (first|(with_reducible first|exact HB.out|apply below_alloc|apply pw_below_drewN|apply below_drew1)|exact HB.out)) hb);clear HO_4;clear HB;have HO_4:=n0_;have HB:=n1_;clear n0_ n1_;(try clear hb);(try clear hb2);(try clear hk);(try clear hi);have p282:0≤(0:Int):=(by omega);have q282:0<(t271.length:Int):=of_decide_eq_true (by first|(with_reducible assumption)|assumption);obtain ⟨ad282,e282,hx282_0⟩:=Kd.at_string (Kd.R_reads' HO_4.out).2.2 0 p282 q282;obtain rfl:ad276=ad282:=(by injection e282);have qi282:(0<t271.length)=True:=eq_true (by omega);(try rw [show ((0:Int)).toNat=0 from rfl] at hx282_0);(try rw [Addr.add_zero'] at hx282_0);replace p282:=eq_true p282;replace q282:=eq_true q282))
          go_ret2
          exact ⟨by first|rfl|(simp [errW_none,errW_some]<;>rfl)|(simp [*,errW_none,errW_some]<;>rfl),by repeat (first|(with_reducible first|exact HB.out|apply below_alloc|apply pw_below_drewN|apply below_drew1)|exact HB.out)⟩
         ·rw [if_neg c18] at H
          have c18b0:(t280.toList == a0.toList)=false:=beq_eq_false_iff_ne.mpr c18
          have c18b1:(t280.toList != a0.toList)=true:=bne_iff_ne.mpr c18
          simp only [Option.some.injEq,Prod.mk.injEq] at H
          obtain ⟨rfl,rfl⟩:=H
          obtain ⟨Ao23,co23,eo23⟩:=Kd.R_slice HO_4.out
          subst eo23
          have p276:0≤(0:Int):=(by omega)
          have q276:0<(t271.length:Int):=of_decide_eq_true (by first|(with_reducible assumption)|assumption)
          obtain ⟨ad276,e276,hx276_0⟩:=Kd.at_string (Kd.R_reads' HO_4.out).2.2 0 p276 q276
          cases e276
          have qi276:(0<t271.length)=True:=eq_true (by omega)
          (try rw [show ((0:Int)).toNat=0 from rfl] at hx276_0)
          (try rw [Addr.add_zero'] at hx276_0)
          replace p276:=eq_true p276
          replace q276:=eq_true q276
          try go_wp2
          have n0_:=Aside0.mk (Kd.R_drew HO_4.out)
          have n1_:=Aside0.mk (below_drew1 HB.out)
          clear HO_4
          clear HB
          have HO_4:=n0_
          have HB:=n1_
          clear n0_ n1_
          have p277:0≤(1:Int):=(by omega)
          have q277:1<(t271.length:Int):=of_decide_eq_true (by first|(with_reducible assumption)|assumption)
          obtain ⟨ad277,e277,hx277_0⟩:=Kd.at_string (Kd.R_reads' HO_4.out).2.2 1 p277 q277
          obtain rfl:ad276=ad277:=(by injection e277)
          (try simp only [show (1:Int).toNat=1 from rfl,Nat.reduceMul,Nat.reduceEqDiff,Go.Addr.add,↓reduceIte] at hx277_0)
          have qi277:(1<t271.length)=True:=eq_true (by omega)
          (try rw [show ((1:Int)).toNat=1 from rfl] at hx277_0)
          replace p277:=eq_true p277
          replace q277:=eq_true q277
          have p278:0≤(0:Int):=(by omega)
          have q278:0<(t271.length:Int):=of_decide_eq_true (by first|(with_reducible assumption)|assumption)
          obtain ⟨ad278,e278,hx278_0⟩:=Kd.at_string (Kd.R_reads' HO_4.out).2.2 0 p278 q278
          obtain rfl:ad276=ad278:=(by injection e278)
          have qi278:(0<t271.length)=True:=eq_true (by omega)
          (try rw [show ((0:Int)).toNat=0 from rfl] at hx278_0)
          (try rw [Addr.add_zero'] at hx278_0)
          replace p278:=eq_true p278
          replace q278:=eq_true q278
          refine start_ (n:=9) (S:=fun w'=>w'.cell? ⟨ad276.block,ad276.off+1,none⟩=some (.string (rdOf ByteArray.empty t271 1))∧w'.cell? ad276=some (.string (rdOf ByteArray.empty t271 0))) (ds:=[]) #[false,false,false,false,false,false,false,false,false] (by kernel_rfl) rfl rfl ⟨hx277_0,hx278_0⟩ (fun hHeld=>?_);refine with_tabW seal_section.tab6 seal_section.bits6 (fun HT_ HW_=>?_)
          generalize wc.drew=w24 at HO_4 HB hx277_0 hx278_0 hHeld ⊢
          refine pure_ (i:=0) (N:=some 31) (v:=?_) (a':=?_) #[true,false,false,false,false,false,false,false,false] rfl rfl (any_of HT_.out (by kernel_rfl)) (fun _ _ _ h=>h) (Or.inl ⟨by rfl,?_⟩) ?_ ?_
          rotate_left
          ·intro w'
           go_simp
           with_reducible rfl
          rotate_left
          ·simp only [Act.put,List.setIfInBounds_toArray,List.set_cons_zero,List.set_cons_succ,i64_w,i32_w]
           rfl
          refine pure_ (i:=1) (N:=some 32) (v:=?_) (a':=?_) #[true,true,false,false,false,false,false,false,false] rfl rfl (any_of HT_.out (by kernel_rfl)) (fun _ _ _ h=>h) (Or.inl ⟨by rfl,?_⟩) ?_ ?_
          rotate_left
          ·intro w'
           go_simp
           with_reducible rfl
          rotate_left
          ·simp only [Act.put,List.setIfInBounds_toArray,List.set_cons_zero,List.set_cons_succ,i64_w,i32_w]
           rfl
          refine pure_ (i:=3) (N:=some 34) (v:=?_) (a':=?_) #[true,true,false,true,false,false,false,false,false] rfl rfl (any_of HT_.out (by kernel_rfl)) (fun _ _ _ h=>h) (Or.inl ⟨by rfl,?_⟩) ?_ ?_
          rotate_left
          ·intro w'
           go_simp
           with_reducible rfl
          rotate_left
          ·simp only [Act.put,List.setIfInBounds_toArray,List.set_cons_zero,List.set_cons_succ,i64_w,i32_w]
           rfl
          refine pure_ (i:=4) (N:=some 35) (v:=?_) (a':=?_) #[true,true,false,true,true,false,false,false,false] rfl rfl (any_of HT_.out (by kernel_rfl)) (fun _ _ _ h=>h) (Or.inl ⟨by rfl,?_⟩) ?_ ?_
          rotate_left
          ·intro w'
           go_simp
           with_reducible rfl
          rotate_left
          ·simp only [Act.put,List.setIfInBounds_toArray,List.set_cons_zero,List.set_cons_succ,i64_w,i32_w]
           rfl
          refine take_ (i:=2) (N:=some 33) (v:=?_) (a':=?_) #[true,true,true,true,true,false,false,false,false] rfl rfl (take_ofW HT_.out HW_.out (by kernel_rfl)) (fun _ _ _ h=>h) (Or.inl ⟨by rfl,?_⟩) hHeld ?_ ?_
          rotate_left
          ·rintro w' ⟨s0,s1⟩
           go_simp
           with_reducible rfl
          rotate_left
          ·simp only [Act.put,List.setIfInBounds_toArray,List.set_cons_zero,List.set_cons_succ,i64_w,i32_w]
           rfl
          refine take_ (i:=5) (N:=some 36) (v:=?_) (a':=?_) #[true,true,true,true,true,true,false,false,false] rfl rfl (take_ofW HT_.out HW_.out (by kernel_rfl)) (fun _ _ _ h=>h) (Or.inl ⟨by rfl,?_⟩) hHeld ?_ ?_
          rotate_left
          ·rintro w' ⟨s0,s1⟩
           go_simp
           with_reducible rfl
          rotate_left
          ·simp only [Act.put,List.setIfInBounds_toArray,List.set_cons_zero,List.set_cons_succ,i64_w,i32_w]
           rfl
          refine one_ (i:=6) (N:=some 37) #[true,true,true,true,true,true,true,false,false] rfl rfl (one_of HT_.out (by kernel_rfl)) (by decide) (fun K hK=>?_)
          refine goes_ Tryd.func43 (by kernel_rfl) rfl #[.string (rdOf ByteArray.empty t271 0)] (by rfl) rfl rfl (by (try simp only [List.map_toArray,List.map_cons,List.map_nil]);first|done|rfl|(simp only [List.length_drop,List.length_take];rfl)) ?_
          with_reducible refine (seal_checked.calls (rdOf ByteArray.empty t271 0) t279 _ A14.out).mono ?_
          rintro e w25 ⟨rfl,hb⟩
          have HS0_:=(hb.cell (World.block_lt_of_cell? _ _ (hHeld.1))).trans (hHeld.1)
          have HS1_:=(hb.cell (World.block_lt_of_cell? _ _ (hHeld.2))).trans (hHeld.2)
          refine ⟨_,rfl,?_⟩
          have n0_:=Aside0.mk (Kd.R_below (by (with_reducible repeat (first|apply Kd.R_alloc|apply Kd.R_drewN|apply Kd.R_drew));exact HO_4.out) hb)
          have n1_:=Aside0.mk (below_step (by repeat (first|(with_reducible first|exact HB.out|apply below_alloc|apply pw_below_drewN|apply below_drew1)|exact HB.out)) hb)
          clear HO_4
          clear HB
          have HO_4:=n0_
          have HB:=n1_
          clear n0_ n1_
          (try clear hb)
          (try clear hb2)
          (try clear hk)
          (try clear hi)
          refine hK.out _ _ ⟨HS0_,HS1_⟩ (fun hHeld=>?_)
          clear hK K
          refine norm_ (a':=?_) ?_ ?_
          rotate_left
          ·show Act.put _ (some 37) _=_
           simp only [Act.put,List.setIfInBounds_toArray,List.set_cons_zero,List.set_cons_succ,i64_w,i32_w]
           rfl
          refine pure_ (i:=7) (N:=some 38) (v:=?_) (a':=?_) #[true,true,true,true,true,true,true,true,false] rfl rfl (any_of HT_.out (by kernel_rfl)) (fun _ _ _ h=>h) (Or.inl ⟨by rfl,?_⟩) ?_ ?_
          rotate_left
          ·intro w'
           go_simp
           with_reducible rfl
          rotate_left
          ·simp only [Act.put,List.setIfInBounds_toArray,List.set_cons_zero,List.set_cons_succ,i64_w,i32_w]
           rfl
          refine pure_ (i:=8) (N:=some 30) (v:=?_) (a':=?_) #[true,true,true,true,true,true,true,true,true] rfl rfl (any_of HT_.out (by kernel_rfl)) (fun _ _ _ h=>h) (Or.inl ⟨by rfl,?_⟩) ?_ ?_
          rotate_left
          ·intro w'
           go_simp
           with_reducible rfl
          rotate_left
          ·simp only [Act.put,List.setIfInBounds_toArray,List.set_cons_zero,List.set_cons_succ,i64_w,i32_w]
           rfl
          refine done_ (done_of HT_.out (by kernel_rfl)) ?_
          try go_wp2_with (first|((with_reducible refine gate_callee (f:=42) rfl ?_);refine goesL_ (some 41) rfl rfl Tryd.func42 (by kernel_rfl) rfl #[.slice (some ad276) t271.length co23] rfl (by (try simp only [List.map_toArray,List.map_cons,List.map_nil]);first|done|rfl|(simp only [List.length_drop,List.length_take];rfl)) ?_;(with_reducible refine (frame_Bind.calls kj2 _ _ t271 t280 t281 _ ?side1 ?side2 A16.out).mono ?_);(case side1=>repeat (first|exact (Kd.R_reads' HO_4.out).2.2|(with_reducible refine Kd.C_alloc ?_ _)|(with_reducible refine Kd.C_drewN ?_ _)|(with_reducible refine Kd.C_drew ?_)));(case side2=>exact (Kd.R_reads' HO_4.out).2.1);rintro e w26 ⟨rfl,hb⟩;refine ⟨_,rfl,?_⟩;have n0_:=Aside0.mk (Kd.R_below (by (with_reducible repeat (first|apply Kd.R_alloc|apply Kd.R_drewN|apply Kd.R_drew));exact HO_4.out) hb);have n1_:=Aside0.mk (below_step (by repeat (first|(with_reducible first|exact HB.out|apply below_alloc|apply pw_below_drewN|apply below_drew1)|exact HB.out)) hb);clear HO_4;clear HB;have HO_4:=n0_;have HB:=n1_;clear n0_ n1_;(try clear hb);(try clear hb2);(try clear hk);(try clear hi)))
          go_ret2
          exact ⟨by first|rfl|(simp [errW_none,errW_some]<;>rfl)|(simp [*,errW_none,errW_some]<;>rfl),by repeat (first|(with_reducible first|exact HB.out|apply below_alloc|apply pw_below_drewN|apply below_drew1)|exact HB.out)⟩
        ·rw [if_neg c17] at H
         have c17b0:(t281 == 0)=false:=beq_eq_false_iff_ne.mpr c17
         have c17b1:(t281 != 0)=true:=bne_iff_ne.mpr c17
         simp only [Option.some.injEq,Prod.mk.injEq] at H
         obtain ⟨rfl,rfl⟩:=H
         obtain ⟨Ao27,co27,eo27⟩:=Kd.R_slice HO_4.out
         subst eo27
         have p276:0≤(0:Int):=(by omega)
         have q276:0<(t271.length:Int):=of_decide_eq_true (by first|(with_reducible assumption)|assumption)
         obtain ⟨ad276,e276,hx276_0⟩:=Kd.at_string (Kd.R_reads' HO_4.out).2.2 0 p276 q276
         cases e276
         have qi276:(0<t271.length)=True:=eq_true (by omega)
         (try rw [show ((0:Int)).toNat=0 from rfl] at hx276_0)
         (try rw [Addr.add_zero'] at hx276_0)
         replace p276:=eq_true p276
         replace q276:=eq_true q276
         try go_wp2
         have n0_:=Aside0.mk (Kd.R_drew HO_4.out)
         have n1_:=Aside0.mk (below_drew1 HB.out)
         clear HO_4
         clear HB
         have HO_4:=n0_
         have HB:=n1_
         clear n0_ n1_
         have p277:0≤(1:Int):=(by omega)
         have q277:1<(t271.length:Int):=of_decide_eq_true (by first|(with_reducible assumption)|assumption)
         obtain ⟨ad277,e277,hx277_0⟩:=Kd.at_string (Kd.R_reads' HO_4.out).2.2 1 p277 q277
         obtain rfl:ad276=ad277:=(by injection e277)
         (try simp only [show (1:Int).toNat=1 from rfl,Nat.reduceMul,Nat.reduceEqDiff,Go.Addr.add,↓reduceIte] at hx277_0)
         have qi277:(1<t271.length)=True:=eq_true (by omega)
         (try rw [show ((1:Int)).toNat=1 from rfl] at hx277_0)
         replace p277:=eq_true p277
         replace q277:=eq_true q277
         have p278:0≤(0:Int):=(by omega)
         have q278:0<(t271.length:Int):=of_decide_eq_true (by first|(with_reducible assumption)|assumption)
         obtain ⟨ad278,e278,hx278_0⟩:=Kd.at_string (Kd.R_reads' HO_4.out).2.2 0 p278 q278
         obtain rfl:ad276=ad278:=(by injection e278)
         have qi278:(0<t271.length)=True:=eq_true (by omega)
         (try rw [show ((0:Int)).toNat=0 from rfl] at hx278_0)
         (try rw [Addr.add_zero'] at hx278_0)
         replace p278:=eq_true p278
         replace q278:=eq_true q278
         refine start_ (n:=9) (S:=fun w'=>w'.cell? ⟨ad276.block,ad276.off+1,none⟩=some (.string (rdOf ByteArray.empty t271 1))∧w'.cell? ad276=some (.string (rdOf ByteArray.empty t271 0))) (ds:=[]) #[false,false,false,false,false,false,false,false,false] (by kernel_rfl) rfl rfl ⟨hx277_0,hx278_0⟩ (fun hHeld=>?_);refine with_tabW seal_section.tab6 seal_section.bits6 (fun HT_ HW_=>?_)
         generalize wc.drew=w28 at HO_4 HB hx277_0 hx278_0 hHeld ⊢
         refine pure_ (i:=0) (N:=some 31) (v:=?_) (a':=?_) #[true,false,false,false,false,false,false,false,false] rfl rfl (any_of HT_.out (by kernel_rfl)) (fun _ _ _ h=>h) (Or.inl ⟨by rfl,?_⟩) ?_ ?_
         rotate_left
         ·intro w'
          go_simp
          with_reducible rfl
         rotate_left
         ·simp only [Act.put,List.setIfInBounds_toArray,List.set_cons_zero,List.set_cons_succ,i64_w,i32_w]
          rfl
         refine pure_ (i:=1) (N:=some 32) (v:=?_) (a':=?_) #[true,true,false,false,false,false,false,false,false] rfl rfl (any_of HT_.out (by kernel_rfl)) (fun _ _ _ h=>h) (Or.inl ⟨by rfl,?_⟩) ?_ ?_
         rotate_left
         ·intro w'
          go_simp
          with_reducible rfl
         rotate_left
         ·simp only [Act.put,List.setIfInBounds_toArray,List.set_cons_zero,List.set_cons_succ,i64_w,i32_w]
          rfl
         refine pure_ (i:=3) (N:=some 34) (v:=?_) (a':=?_) #[true,true,false,true,false,false,false,false,false] rfl rfl (any_of HT_.out (by kernel_rfl)) (fun _ _ _ h=>h) (Or.inl ⟨by rfl,?_⟩) ?_ ?_
         rotate_left
         ·intro w'
          go_simp
          with_reducible rfl
         rotate_left
         ·simp only [Act.put,List.setIfInBounds_toArray,List.set_cons_zero,List.set_cons_succ,i64_w,i32_w]
          rfl
         refine pure_ (i:=4) (N:=some 35) (v:=?_) (a':=?_) #[true,true,false,true,true,false,false,false,false] rfl rfl (any_of HT_.out (by kernel_rfl)) (fun _ _ _ h=>h) (Or.inl ⟨by rfl,?_⟩) ?_ ?_
         rotate_left
         ·intro w'
          go_simp
          with_reducible rfl
         rotate_left
         ·simp only [Act.put,List.setIfInBounds_toArray,List.set_cons_zero,List.set_cons_succ,i64_w,i32_w]
          rfl
         refine take_ (i:=2) (N:=some 33) (v:=?_) (a':=?_) #[true,true,true,true,true,false,false,false,false] rfl rfl (take_ofW HT_.out HW_.out (by kernel_rfl)) (fun _ _ _ h=>h) (Or.inl ⟨by rfl,?_⟩) hHeld ?_ ?_
         rotate_left
         ·rintro w' ⟨s0,s1⟩
          go_simp
          with_reducible rfl
         rotate_left
         ·simp only [Act.put,List.setIfInBounds_toArray,List.set_cons_zero,List.set_cons_succ,i64_w,i32_w]
          rfl
         refine take_ (i:=5) (N:=some 36) (v:=?_) (a':=?_) #[true,true,true,true,true,true,false,false,false] rfl rfl (take_ofW HT_.out HW_.out (by kernel_rfl)) (fun _ _ _ h=>h) (Or.inl ⟨by rfl,?_⟩) hHeld ?_ ?_
         rotate_left
         ·rintro w' ⟨s0,s1⟩
          go_simp
          with_reducible rfl
         rotate_left
         ·simp only [Act.put,List.setIfInBounds_toArray,List.set_cons_zero,List.set_cons_succ,i64_w,i32_w]
          rfl
         refine one_ (i:=6) (N:=some 37) #[true,true,true,true,true,true,true,false,false] rfl rfl (one_of HT_.out (by kernel_rfl)) (by decide) (fun K hK=>?_)
         refine goes_ Tryd.func43 (by kernel_rfl) rfl #[.string (rdOf ByteArray.empty t271 0)] (by rfl) rfl rfl (by (try simp only [List.map_toArray,List.map_cons,List.map_nil]);first|done|rfl|(simp only [List.length_drop,List.length_take];rfl)) ?_
         with_reducible refine (seal_checked.calls (rdOf ByteArray.empty t271 0) t279 _ A14.out).mono ?_
         rintro e w29 ⟨rfl,hb⟩
         have HS0_:=(hb.cell (World.block_lt_of_cell? _ _ (hHeld.1))).trans (hHeld.1)
         have HS1_:=(hb.cell (World.block_lt_of_cell? _ _ (hHeld.2))).trans (hHeld.2)
         refine ⟨_,rfl,?_⟩
         have n0_:=Aside0.mk (Kd.R_below (by (with_reducible repeat (first|apply Kd.R_alloc|apply Kd.R_drewN|apply Kd.R_drew));exact HO_4.out) hb)
         have n1_:=Aside0.mk (below_step (by repeat (first|(with_reducible first|exact HB.out|apply below_alloc|apply pw_below_drewN|apply below_drew1)|exact HB.out)) hb)
         clear HO_4
         clear HB
         have HO_4:=n0_
         have HB:=n1_
         clear n0_ n1_
         (try clear hb)
         (try clear hb2)
         (try clear hk)
         (try clear hi)
         refine hK.out _ _ ⟨HS0_,HS1_⟩ (fun hHeld=>?_)
         clear hK K
         refine norm_ (a':=?_) ?_ ?_
         rotate_left
         ·show Act.put _ (some 37) _=_
          simp only [Act.put,List.setIfInBounds_toArray,List.set_cons_zero,List.set_cons_succ,i64_w,i32_w]
          rfl
         refine pure_ (i:=7) (N:=some 38) (v:=?_) (a':=?_) #[true,true,true,true,true,true,true,true,false] rfl rfl (any_of HT_.out (by kernel_rfl)) (fun _ _ _ h=>h) (Or.inl ⟨by rfl,?_⟩) ?_ ?_
         rotate_left
         ·intro w'
          go_simp
          with_reducible rfl
         rotate_left
         ·simp only [Act.put,List.setIfInBounds_toArray,List.set_cons_zero,List.set_cons_succ,i64_w,i32_w]
          rfl
         refine pure_ (i:=8) (N:=some 30) (v:=?_) (a':=?_) #[true,true,true,true,true,true,true,true,true] rfl rfl (any_of HT_.out (by kernel_rfl)) (fun _ _ _ h=>h) (Or.inl ⟨by rfl,?_⟩) ?_ ?_
         rotate_left
         ·intro w'
          go_simp
          with_reducible rfl
         rotate_left
         ·simp only [Act.put,List.setIfInBounds_toArray,List.set_cons_zero,List.set_cons_succ,i64_w,i32_w]
          rfl
         refine done_ (done_of HT_.out (by kernel_rfl)) ?_
         try go_wp2_with (first|((with_reducible refine gate_callee (f:=42) rfl ?_);refine goesL_ (some 41) rfl rfl Tryd.func42 (by kernel_rfl) rfl #[.slice (some ad276) t271.length co27] rfl (by (try simp only [List.map_toArray,List.map_cons,List.map_nil]);first|done|rfl|(simp only [List.length_drop,List.length_take];rfl)) ?_;(with_reducible refine (frame_Bind.calls kj2 _ _ t271 t280 t281 _ ?side1 ?side2 A16.out).mono ?_);(case side1=>repeat (first|exact (Kd.R_reads' HO_4.out).2.2|(with_reducible refine Kd.C_alloc ?_ _)|(with_reducible refine Kd.C_drewN ?_ _)|(with_reducible refine Kd.C_drew ?_)));(case side2=>exact (Kd.R_reads' HO_4.out).2.1);rintro e w30 ⟨rfl,hb⟩;refine ⟨_,rfl,?_⟩;have n0_:=Aside0.mk (Kd.R_below (by (with_reducible repeat (first|apply Kd.R_alloc|apply Kd.R_drewN|apply Kd.R_drew));exact HO_4.out) hb);have n1_:=Aside0.mk (below_step (by repeat (first|(with_reducible first|exact HB.out|apply below_alloc|apply pw_below_drewN|apply below_drew1)|exact HB.out)) hb);clear HO_4;clear HB;have HO_4:=n0_;have HB:=n1_;clear n0_ n1_;(try clear hb);(try clear hb2);(try clear hk);(try clear hi)))
         go_ret2
         exact ⟨by first|rfl|(simp [errW_none,errW_some]<;>rfl)|(simp [*,errW_none,errW_some]<;>rfl),by repeat (first|(with_reducible first|exact HB.out|apply below_alloc|apply pw_below_drewN|apply below_drew1)|exact HB.out)⟩
       ·rw [if_neg c15] at H
        have c15b0:((rdOf ByteArray.empty t271 1).toList == t279.toList)=false:=beq_eq_false_iff_ne.mpr c15
        have c15b1:((rdOf ByteArray.empty t271 1).toList != t279.toList)=true:=bne_iff_ne.mpr c15
        simp only [Option.some.injEq,Prod.mk.injEq] at H
        obtain ⟨rfl,rfl⟩:=H
        obtain ⟨Ao31,co31,eo31⟩:=Kd.R_slice HO_4.out
        subst eo31
        have p276:0≤(0:Int):=(by omega)
        have q276:0<(t271.length:Int):=of_decide_eq_true (by first|(with_reducible assumption)|assumption)
        obtain ⟨ad276,e276,hx276_0⟩:=Kd.at_string (Kd.R_reads' HO_4.out).2.2 0 p276 q276
        cases e276
        have qi276:(0<t271.length)=True:=eq_true (by omega)
        (try rw [show ((0:Int)).toNat=0 from rfl] at hx276_0)
        (try rw [Addr.add_zero'] at hx276_0)
        replace p276:=eq_true p276
        replace q276:=eq_true q276
        try go_wp2
        have n0_:=Aside0.mk (Kd.R_drew HO_4.out)
        have n1_:=Aside0.mk (below_drew1 HB.out)
        clear HO_4
        clear HB
        have HO_4:=n0_
        have HB:=n1_
        clear n0_ n1_
        have p277:0≤(1:Int):=(by omega)
        have q277:1<(t271.length:Int):=of_decide_eq_true (by first|(with_reducible assumption)|assumption)
        obtain ⟨ad277,e277,hx277_0⟩:=Kd.at_string (Kd.R_reads' HO_4.out).2.2 1 p277 q277
        obtain rfl:ad276=ad277:=(by injection e277)
        (try simp only [show (1:Int).toNat=1 from rfl,Nat.reduceMul,Nat.reduceEqDiff,Go.Addr.add,↓reduceIte] at hx277_0)
        have qi277:(1<t271.length)=True:=eq_true (by omega)
        (try rw [show ((1:Int)).toNat=1 from rfl] at hx277_0)
        replace p277:=eq_true p277
        replace q277:=eq_true q277
        have p278:0≤(0:Int):=(by omega)
        have q278:0<(t271.length:Int):=of_decide_eq_true (by first|(with_reducible assumption)|assumption)
        obtain ⟨ad278,e278,hx278_0⟩:=Kd.at_string (Kd.R_reads' HO_4.out).2.2 0 p278 q278
        obtain rfl:ad276=ad278:=(by injection e278)
        have qi278:(0<t271.length)=True:=eq_true (by omega)
        (try rw [show ((0:Int)).toNat=0 from rfl] at hx278_0)
        (try rw [Addr.add_zero'] at hx278_0)
        replace p278:=eq_true p278
        replace q278:=eq_true q278
        refine start_ (n:=9) (S:=fun w'=>w'.cell? ⟨ad276.block,ad276.off+1,none⟩=some (.string (rdOf ByteArray.empty t271 1))∧w'.cell? ad276=some (.string (rdOf ByteArray.empty t271 0))) (ds:=[]) #[false,false,false,false,false,false,false,false,false] (by kernel_rfl) rfl rfl ⟨hx277_0,hx278_0⟩ (fun hHeld=>?_);refine with_tabW seal_section.tab6 seal_section.bits6 (fun HT_ HW_=>?_)
        generalize wc.drew=w32 at HO_4 HB hx277_0 hx278_0 hHeld ⊢
        refine pure_ (i:=0) (N:=some 31) (v:=?_) (a':=?_) #[true,false,false,false,false,false,false,false,false] rfl rfl (any_of HT_.out (by kernel_rfl)) (fun _ _ _ h=>h) (Or.inl ⟨by rfl,?_⟩) ?_ ?_
        rotate_left
        ·intro w'
         go_simp
         with_reducible rfl
        rotate_left
        ·simp only [Act.put,List.setIfInBounds_toArray,List.set_cons_zero,List.set_cons_succ,i64_w,i32_w]
         rfl
        refine pure_ (i:=1) (N:=some 32) (v:=?_) (a':=?_) #[true,true,false,false,false,false,false,false,false] rfl rfl (any_of HT_.out (by kernel_rfl)) (fun _ _ _ h=>h) (Or.inl ⟨by rfl,?_⟩) ?_ ?_
        rotate_left
        ·intro w'
         go_simp
         with_reducible rfl
        rotate_left
        ·simp only [Act.put,List.setIfInBounds_toArray,List.set_cons_zero,List.set_cons_succ,i64_w,i32_w]
         rfl
        refine pure_ (i:=3) (N:=some 34) (v:=?_) (a':=?_) #[true,true,false,true,false,false,false,false,false] rfl rfl (any_of HT_.out (by kernel_rfl)) (fun _ _ _ h=>h) (Or.inl ⟨by rfl,?_⟩) ?_ ?_
        rotate_left
        ·intro w'
         go_simp
         with_reducible rfl
        rotate_left
        ·simp only [Act.put,List.setIfInBounds_toArray,List.set_cons_zero,List.set_cons_succ,i64_w,i32_w]
         rfl
        refine pure_ (i:=4) (N:=some 35) (v:=?_) (a':=?_) #[true,true,false,true,true,false,false,false,false] rfl rfl (any_of HT_.out (by kernel_rfl)) (fun _ _ _ h=>h) (Or.inl ⟨by rfl,?_⟩) ?_ ?_
        rotate_left
        ·intro w'
         go_simp
         with_reducible rfl
        rotate_left
        ·simp only [Act.put,List.setIfInBounds_toArray,List.set_cons_zero,List.set_cons_succ,i64_w,i32_w]
         rfl
        refine take_ (i:=2) (N:=some 33) (v:=?_) (a':=?_) #[true,true,true,true,true,false,false,false,false] rfl rfl (take_ofW HT_.out HW_.out (by kernel_rfl)) (fun _ _ _ h=>h) (Or.inl ⟨by rfl,?_⟩) hHeld ?_ ?_
        rotate_left
        ·rintro w' ⟨s0,s1⟩
         go_simp
         with_reducible rfl
        rotate_left
        ·simp only [Act.put,List.setIfInBounds_toArray,List.set_cons_zero,List.set_cons_succ,i64_w,i32_w]
         rfl
        refine take_ (i:=5) (N:=some 36) (v:=?_) (a':=?_) #[true,true,true,true,true,true,false,false,false] rfl rfl (take_ofW HT_.out HW_.out (by kernel_rfl)) (fun _ _ _ h=>h) (Or.inl ⟨by rfl,?_⟩) hHeld ?_ ?_
        rotate_left
        ·rintro w' ⟨s0,s1⟩
         go_simp
         with_reducible rfl
        rotate_left
        ·simp only [Act.put,List.setIfInBounds_toArray,List.set_cons_zero,List.set_cons_succ,i64_w,i32_w]
         rfl
        refine one_ (i:=6) (N:=some 37) #[true,true,true,true,true,true,true,false,false] rfl rfl (one_of HT_.out (by kernel_rfl)) (by decide) (fun K hK=>?_)
        refine goes_ Tryd.func43 (by kernel_rfl) rfl #[.string (rdOf ByteArray.empty t271 0)] (by rfl) rfl rfl (by (try simp only [List.map_toArray,List.map_cons,List.map_nil]);first|done|rfl|(simp only [List.length_drop,List.length_take];rfl)) ?_
        with_reducible refine (seal_checked.calls (rdOf ByteArray.empty t271 0) t279 _ A14.out).mono ?_
        rintro e w33 ⟨rfl,hb⟩
        have HS0_:=(hb.cell (World.block_lt_of_cell? _ _ (hHeld.1))).trans (hHeld.1)
        have HS1_:=(hb.cell (World.block_lt_of_cell? _ _ (hHeld.2))).trans (hHeld.2)
        refine ⟨_,rfl,?_⟩
        have n0_:=Aside0.mk (Kd.R_below (by (with_reducible repeat (first|apply Kd.R_alloc|apply Kd.R_drewN|apply Kd.R_drew));exact HO_4.out) hb)
        have n1_:=Aside0.mk (below_step (by repeat (first|(with_reducible first|exact HB.out|apply below_alloc|apply pw_below_drewN|apply below_drew1)|exact HB.out)) hb)
        clear HO_4
        clear HB
        have HO_4:=n0_
        have HB:=n1_
        clear n0_ n1_
        (try clear hb)
        (try clear hb2)
        (try clear hk)
        (try clear hi)
        refine hK.out _ _ ⟨HS0_,HS1_⟩ (fun hHeld=>?_)
        clear hK K
        refine norm_ (a':=?_) ?_ ?_
        rotate_left
        ·show Act.put _ (some 37) _=_
         simp only [Act.put,List.setIfInBounds_toArray,List.set_cons_zero,List.set_cons_succ,i64_w,i32_w]
         rfl
        refine pure_ (i:=7) (N:=some 38) (v:=?_) (a':=?_) #[true,true,true,true,true,true,true,true,false] rfl rfl (any_of HT_.out (by kernel_rfl)) (fun _ _ _ h=>h) (Or.inl ⟨by rfl,?_⟩) ?_ ?_
        rotate_left
        ·intro w'
         go_simp
         with_reducible rfl
        rotate_left
        ·simp only [Act.put,List.setIfInBounds_toArray,List.set_cons_zero,List.set_cons_succ,i64_w,i32_w]
         rfl
        refine pure_ (i:=8) (N:=some 30) (v:=?_) (a':=?_) #[true,true,true,true,true,true,true,true,true] rfl rfl (any_of HT_.out (by kernel_rfl)) (fun _ _ _ h=>h) (Or.inl ⟨by rfl,?_⟩) ?_ ?_
        rotate_left
        ·intro w'
         go_simp
         with_reducible rfl
        rotate_left
        ·simp only [Act.put,List.setIfInBounds_toArray,List.set_cons_zero,List.set_cons_succ,i64_w,i32_w]
         rfl
        refine done_ (done_of HT_.out (by kernel_rfl)) ?_
        try go_wp2
        go_ret2
        exact ⟨by first|rfl|(simp [errW_none,errW_some]<;>rfl)|(simp [*,errW_none,errW_some]<;>rfl),by repeat (first|(with_reducible first|exact HB.out|apply below_alloc|apply pw_below_drewN|apply below_drew1)|exact HB.out)⟩
      ·rw [if_neg c13] at H
       exact absurd H (by simp)
    ·rw [if_neg c10] at H
     exact absurd H (by simp)
end Go.Proofs.YtceedgflpkaclaaDoor.P

/- What one function of the program computes, as a Lean function, and a proof that its call comes to just that. Conditions: none. Written by wip/ownprint.py. -/
namespace Go.Proofs.YtceedgflpkaclaaDoor.P
open Go.RowKit Go.Proofs.YtceedgflpkaclaaDoorW.PrintWords Go.Proofs.YtceedgflpkaclaaDoorW.PrintLast Go.Proofs.YtceedgflpkaclaaDoorW.PrintMore
attribute [local go_sem] max2_int min2_int max_two min_two max_three min_three max_four min_four   -- for this text's walks alone
set_option linter.unusedVariables false
set_option linter.unusedSimpArgs false

def seal_Open.l0:Nat→List ByteArray→List ByteArray→Int→Int→Option (List ByteArray×Int)
 | 0,_,_,_,_=>none
 | k+1,x7,x46,x47,x48=>if x48<x47 then (if 0≤x48 then (if x48<(x46.length:Int) then ((seal_section.f k (rdOf ByteArray.empty x46 x48)).bind fun bt290=>(if bt290.2=0 then (if x7.length<8796093022208 then (seal_Open.l0 k (x7++[bt290.1]) x46 x47 (wrap64 (x48+1))) else (none)) else (some (([]:List ByteArray),bt290.2)))) else (none)) else (none)) else (some (x7,0))
def seal_Open.f (k:Nat) (a0:ByteArray):Option (List ByteArray×Int):=if (wrap64 ((a0.size:Int)-32))<4 then (some (([]:List ByteArray),3)) else ((strings_HasPrefix.f a0 (⟨#[115,101,97,108]⟩:ByteArray)).bind fun t283=>(if t283=true then (if 0≤(wrap64 ((a0.size:Int)-32)) then (if (wrap64 ((a0.size:Int)-32))≤(a0.size:Int) then ((seal_Sum.f (a0.extract 0 ((wrap64 ((a0.size:Int)-32)):Int).toNat)).bind fun t284=>(if t284.toList=(a0.extract ((wrap64 ((a0.size:Int)-32)):Int).toNat a0.size).toList then (if 4≤(wrap64 ((a0.size:Int)-32)) then ((frame_Loose.f k (a0.extract 4 ((wrap64 ((a0.size:Int)-32)):Int).toNat)).bind fun bt285=>(if bt285.2=0 then (if (bt285.1.length:Int)>64 then (some (([]:List ByteArray),2)) else (seal_Open.l0 k ([]:List ByteArray) bt285.1 (bt285.1.length:Int) 0)) else (some (([]:List ByteArray),bt285.2)))) else (none)) else (some (([]:List ByteArray),5)))) else (none)) else (none)) else (some (([]:List ByteArray),6))))
def seal_Open.T6:Bool×List (List Nat×List Nat):=(true,[([],[]),([],[]),([0,1],[0,1]),([2],[2]),([],[]),([],[]),([4,5],[4,5]),([3,6],[3,6]),([7,3],[7])])
def seal_Open.B6:List Nat:=[0,0,3,7,0,0,48,127,255]
theorem seal_Open.tab6:rtab .any (opsOf Tryd.f20 6)=seal_Open.T6:=by kernel_rfl
theorem seal_Open.bits6:waitsOk seal_Open.T6.2 seal_Open.B6=true:=by kernel_rfl
set_option maxHeartbeats 8000000 in
set_option maxRecDepth 100000 in
theorem seal_Open.calls (k:Nat) (a0:ByteArray) (r1:List ByteArray) (r2:Int) (w:World) (h:seal_Open.f k a0=some (r1,r2)) (hK:KeysIn w) :
  Calls Tryd.prog 20 #[.string a0] w fun e w'=>∃ v0_:Value,e=.returned (.tuple #[v0_,.int .i64 r2])∧Kd.R Kd.string 9 w' w.heap.size (fun _=>True) v0_ r1∧Below w.heap.size w w':=by
 have HB:=Aside0.mk (Below.refl w.heap.size w)
 have HK:=Aside0.mk hK
 clear hK
 have H:(if (wrap64 ((a0.size:Int)-32))<4 then (some (([]:List ByteArray),3)) else ((strings_HasPrefix.f a0 (⟨#[115,101,97,108]⟩:ByteArray)).bind fun t283=>(if t283=true then (if 0≤(wrap64 ((a0.size:Int)-32)) then (if (wrap64 ((a0.size:Int)-32))≤(a0.size:Int) then ((seal_Sum.f (a0.extract 0 ((wrap64 ((a0.size:Int)-32)):Int).toNat)).bind fun t284=>(if t284.toList=(a0.extract ((wrap64 ((a0.size:Int)-32)):Int).toNat a0.size).toList then (if 4≤(wrap64 ((a0.size:Int)-32)) then ((frame_Loose.f k (a0.extract 4 ((wrap64 ((a0.size:Int)-32)):Int).toNat)).bind fun bt285=>(if bt285.2=0 then (if (bt285.1.length:Int)>64 then (some (([]:List ByteArray),2)) else (seal_Open.l0 k ([]:List ByteArray) bt285.1 (bt285.1.length:Int) 0)) else (some (([]:List ByteArray),bt285.2)))) else (none)) else (some (([]:List ByteArray),5)))) else (none)) else (none)) else (some (([]:List ByteArray),6)))))=some (r1,r2):=h
 clear h
 by_cases c2:(wrap64 ((a0.size:Int)-32))<4
 ·rw [if_pos c2] at H
  have c2b0:decide ((wrap64 ((a0.size:Int)-32))<4)=true:=decide_eq_true c2
  clear c2
  simp only [Option.some.injEq,Prod.mk.injEq] at H
  obtain ⟨rfl,rfl⟩:=H
  go_enter Tryd.func20,Tryd.ntmps20
  go_wp2
  go_ret2
  exact ⟨_,by first|rfl|(simp [errW_none,errW_some]<;>rfl)|(simp [*,errW_none,errW_some]<;>rfl),by first|exact Kd.R_nil _ _ _ _ _|exact Kd.N_nil _ _ _ _ _|exact Kd.V_nil _ _ _ _ _|exact Kd.Q_nil _ _ _ _ _|exact Kd.S_nil _ _ _ _ _,by repeat (first|(with_reducible first|exact HB.out|apply below_alloc|apply pw_below_drewN|apply below_drew1)|exact HB.out)⟩
 ·rw [if_neg c2] at H
  have c2b0:decide ((wrap64 ((a0.size:Int)-32))<4)=false:=decide_eq_false c2
  clear c2
  replace H:=Option.bind_eq_some_iff.mp H
  obtain ⟨t283,A30,H⟩:=H
  replace H:(if t283=true then (if 0≤(wrap64 ((a0.size:Int)-32)) then (if (wrap64 ((a0.size:Int)-32))≤(a0.size:Int) then ((seal_Sum.f (a0.extract 0 ((wrap64 ((a0.size:Int)-32)):Int).toNat)).bind fun t284=>(if t284.toList=(a0.extract ((wrap64 ((a0.size:Int)-32)):Int).toNat a0.size).toList then (if 4≤(wrap64 ((a0.size:Int)-32)) then ((frame_Loose.f k (a0.extract 4 ((wrap64 ((a0.size:Int)-32)):Int).toNat)).bind fun bt285=>(if bt285.2=0 then (if (bt285.1.length:Int)>64 then (some (([]:List ByteArray),2)) else (seal_Open.l0 k ([]:List ByteArray) bt285.1 (bt285.1.length:Int) 0)) else (some (([]:List ByteArray),bt285.2)))) else (none)) else (some (([]:List ByteArray),5)))) else (none)) else (none)) else (some (([]:List ByteArray),6)))=some (r1,r2):=H
  have A3:=Aside0.mk A30
  clear A30
  by_cases c4:t283=true
  ·subst c4
   have H1:(if 0≤(wrap64 ((a0.size:Int)-32)) then (if (wrap64 ((a0.size:Int)-32))≤(a0.size:Int) then ((seal_Sum.f (a0.extract 0 ((wrap64 ((a0.size:Int)-32)):Int).toNat)).bind fun t284=>(if t284.toList=(a0.extract ((wrap64 ((a0.size:Int)-32)):Int).toNat a0.size).toList then (if 4≤(wrap64 ((a0.size:Int)-32)) then ((frame_Loose.f k (a0.extract 4 ((wrap64 ((a0.size:Int)-32)):Int).toNat)).bind fun bt285=>(if bt285.2=0 then (if (bt285.1.length:Int)>64 then (some (([]:List ByteArray),2)) else (seal_Open.l0 k ([]:List ByteArray) bt285.1 (bt285.1.length:Int) 0)) else (some (([]:List ByteArray),bt285.2)))) else (none)) else (some (([]:List ByteArray),5)))) else (none)) else (none))=some (r1,r2):=by rw [if_pos rfl] at H;exact H
   clear H
   have H:=H1
   clear H1
   obtain ⟨ji5,hji5⟩:∃ j_:Int,(wrap64 ((a0.size:Int)-32))=j_:=⟨_,rfl⟩
   replace H:(if 0≤(ji5) then (if (ji5)≤(a0.size:Int) then ((seal_Sum.f (a0.extract 0 ((ji5):Int).toNat)).bind fun t284=>(if t284.toList=(a0.extract ((ji5):Int).toNat a0.size).toList then (if 4≤(ji5) then ((frame_Loose.f k (a0.extract 4 ((ji5):Int).toNat)).bind fun bt285=>(if bt285.2=0 then (if (bt285.1.length:Int)>64 then (some (([]:List ByteArray),2)) else (seal_Open.l0 k ([]:List ByteArray) bt285.1 (bt285.1.length:Int) 0)) else (some (([]:List ByteArray),bt285.2)))) else (none)) else (some (([]:List ByteArray),5)))) else (none)) else (none))=some (r1,r2):=by first|(rw [hji5] at H;exact H)|(simp only [hji5] at H ⊢;exact H)
   (try rw [hji5] at c2b0)
   (try rw [hji5] at A3)
   have hji5w:(IntKind.i64.wrap ((a0.size:Int)-32))=ji5:=(i64_w _).trans hji5
   by_cases c6:0≤(ji5)
   ·rw [if_pos c6] at H
    have c6b0:=eq_true c6
    have c6b1:decide (0≤(ji5))=true:=decide_eq_true c6
    clear c6
    by_cases c7:(ji5)≤(a0.size:Int)
    ·rw [if_pos c7] at H
     have c7b0:=eq_true c7
     have c7b1:decide ((ji5)≤(a0.size:Int))=true:=decide_eq_true c7
     clear c7
     replace H:=Option.bind_eq_some_iff.mp H
     obtain ⟨t284,A80,H⟩:=H
     replace H:(if t284.toList=(a0.extract ((ji5):Int).toNat a0.size).toList then (if 4≤(ji5) then ((frame_Loose.f k (a0.extract 4 ((ji5):Int).toNat)).bind fun bt285=>(if bt285.2=0 then (if (bt285.1.length:Int)>64 then (some (([]:List ByteArray),2)) else (seal_Open.l0 k ([]:List ByteArray) bt285.1 (bt285.1.length:Int) 0)) else (some (([]:List ByteArray),bt285.2)))) else (none)) else (some (([]:List ByteArray),5)))=some (r1,r2):=H
     have A8:=Aside0.mk A80
     clear A80
     have c9b0:=eq_true (of_decide_eq_true (by first|(with_reducible assumption)|assumption):0≤(ji5))
     have c10b0:=eq_true (of_decide_eq_true (by first|(with_reducible assumption)|assumption):(ji5)≤(a0.size:Int))
     by_cases c11:t284.toList=(a0.extract ((ji5):Int).toNat a0.size).toList
     ·rw [if_pos c11] at H
      have c11b0:(t284.toList == (a0.extract ((ji5):Int).toNat a0.size).toList)=true:=beq_iff_eq.mpr c11
      have c11b1:(t284.toList != (a0.extract ((ji5):Int).toNat a0.size).toList)=false:=bne_eq_false_iff_eq.mpr c11
      clear c11
      by_cases c12:4≤(ji5)
      ·rw [if_pos c12] at H
       have c12b0:=eq_true c12
       have c12b1:decide (4≤(ji5))=true:=decide_eq_true c12
       clear c12
       have c13b0:=eq_true (of_decide_eq_true (by first|(with_reducible assumption)|assumption):(ji5)≤(a0.size:Int))
       replace H:=Option.bind_eq_some_iff.mp H
       obtain ⟨⟨t285,t286⟩,A140,H⟩:=H
       replace H:(if t286=0 then (if (t285.length:Int)>64 then (some (([]:List ByteArray),2)) else (seal_Open.l0 k ([]:List ByteArray) t285 (t285.length:Int) 0)) else (some (([]:List ByteArray),t286)))=some (r1,r2):=H
       have A14:=Aside0.mk A140
       clear A140
       by_cases c15:t286=0
       ·rw [if_pos c15] at H
        have c15b0:(t286 == 0)=true:=beq_iff_eq.mpr c15
        have c15b1:(t286 != 0)=false:=bne_eq_false_iff_eq.mpr c15
        clear c15
        by_cases c16:(t285.length:Int)>64
        ·rw [if_pos c16] at H
         have c16b0:decide (64<(t285.length:Int))=true:=decide_eq_true c16
         have c16b1:decide (64<t285.length)=true:=decide_eq_true (by omega)
         clear c16
         simp only [Option.some.injEq,Prod.mk.injEq] at H
         obtain ⟨rfl,rfl⟩:=H
         go_enter Tryd.func20,Tryd.ntmps20
         try go_wp2_with (first|((with_reducible refine gate_callee (f:=28) rfl ?_);refine goesL_ (some 20) rfl rfl Tryd.func28 (by kernel_rfl) rfl #[.string a0,.string (⟨#[115,101,97,108]⟩:ByteArray)] rfl (by (try simp only [List.map_toArray,List.map_cons,List.map_nil]);first|done|rfl|(simp only [List.length_drop,List.length_take];rfl)) ?_;(with_reducible refine (strings_HasPrefix.calls a0 (⟨#[115,101,97,108]⟩:ByteArray) true _ A3.out).mono ?_);rintro e w' ⟨rfl,⟨nd,rfl⟩⟩;refine ⟨_,rfl,?_⟩))
         (try (generalize hq_:World.drewN w _=wq_;have nq_:=Aside0.mk (show Below w.heap.size w wq_ by rw [← hq_];exact pw_below_drewN HB.out _);clear HB hq_;have HB:=nq_;clear nq_))
         have n0_:=Aside0.mk (below_drew1 HB.out)
         clear HB
         have HB:=n0_
         clear n0_
         refine start_ (n:=9) (S:=fun w'=>True) (ds:=[]) #[false,false,false,false,false,false,false,false,false] (by kernel_rfl) rfl rfl trivial (fun hHeld=>?_);refine with_tabW seal_Open.tab6 seal_Open.bits6 (fun HT_ HW_=>?_)
         (first|generalize wq_.drew=w17 at HB hHeld ⊢|generalize w.drew=w17 at HB hHeld ⊢)
         refine pure_ (i:=0) (N:=some 23) (v:=?_) (a':=?_) #[true,false,false,false,false,false,false,false,false] rfl rfl (any_of HT_.out (by kernel_rfl)) (fun _ _ _ h=>h) (Or.inl ⟨by rfl,?_⟩) ?_ ?_
         rotate_left
         ·intro w'
          go_simp
          with_reducible rfl
         rotate_left
         ·simp only [Act.put,List.setIfInBounds_toArray,List.set_cons_zero,List.set_cons_succ,i64_w,i32_w]
          rfl
         refine pure_ (i:=1) (N:=some 24) (v:=?_) (a':=?_) #[true,true,false,false,false,false,false,false,false] rfl rfl (any_of HT_.out (by kernel_rfl)) (fun _ _ _ h=>h) (Or.inl ⟨by rfl,?_⟩) ?_ ?_
         rotate_left
         ·intro w'
          go_simp
          with_reducible rfl
         rotate_left
         ·simp only [Act.put,List.setIfInBounds_toArray,List.set_cons_zero,List.set_cons_succ,i64_w,i32_w]
          rfl
         refine pure_ (i:=2) (N:=some 25) (v:=?_) (a':=?_) #[true,true,true,false,false,false,false,false,false] rfl rfl (any_of HT_.out (by kernel_rfl)) (fun _ _ _ h=>h) (Or.inl ⟨by rfl,?_⟩) ?_ ?_
         rotate_left
         ·intro w'
          go_simp
          with_reducible rfl
         rotate_left
         ·simp only [Act.put,List.setIfInBounds_toArray,List.set_cons_zero,List.set_cons_succ,i64_w,i32_w]
          rfl
         refine pure_ (i:=4) (N:=some 27) (v:=?_) (a':=?_) #[true,true,true,false,true,false,false,false,false] rfl rfl (any_of HT_.out (by kernel_rfl)) (fun _ _ _ h=>h) (Or.inl ⟨by rfl,?_⟩) ?_ ?_
         rotate_left
         ·intro w'
          go_simp
          with_reducible rfl
         rotate_left
         ·simp only [Act.put,List.setIfInBounds_toArray,List.set_cons_zero,List.set_cons_succ,i64_w,i32_w]
          rfl
         refine pure_ (i:=5) (N:=some 28) (v:=?_) (a':=?_) #[true,true,true,false,true,true,false,false,false] rfl rfl (any_of HT_.out (by kernel_rfl)) (fun _ _ _ h=>h) (Or.inl ⟨by rfl,?_⟩) ?_ ?_
         rotate_left
         ·intro w'
          go_simp
          with_reducible rfl
         rotate_left
         ·simp only [Act.put,List.setIfInBounds_toArray,List.set_cons_zero,List.set_cons_succ,i64_w,i32_w]
          rfl
         refine pure_ (i:=6) (N:=some 29) (v:=?_) (a':=?_) #[true,true,true,false,true,true,true,false,false] rfl rfl (any_of HT_.out (by kernel_rfl)) (fun _ _ _ h=>h) (Or.inl ⟨by rfl,?_⟩) ?_ ?_
         rotate_left
         ·intro w'
          go_simp
          with_reducible rfl
         rotate_left
         ·simp only [Act.put,List.setIfInBounds_toArray,List.set_cons_zero,List.set_cons_succ,i64_w,i32_w]
          rfl
         refine one_ (i:=3) (N:=some 26) #[true,true,true,true,true,true,true,false,false] rfl rfl (one_of HT_.out (by kernel_rfl)) (by decide) (fun K hK=>?_)
         refine goes_ Tryd.func10 (by kernel_rfl) rfl #[.string (a0.extract 0 ((ji5):Int).toNat)] (by rfl) rfl rfl (by (try simp only [List.map_toArray,List.map_cons,List.map_nil]);first|done|(simp only [hji5];rfl)|rfl|(simp only [List.length_drop,List.length_take];rfl)) ?_
         with_reducible refine (seal_Sum.calls (a0.extract 0 ((ji5):Int).toNat) t284 _ A8.out ?keys_).mono ?_
         (case keys_=>exact (keys_step HK.out (by repeat (first|(with_reducible first|exact HB.out|apply below_alloc|apply pw_below_drewN|apply below_drew1)|exact HB.out))))
         rintro e w18 ⟨rfl,hb⟩
         refine ⟨_,rfl,?_⟩
         have n0_:=Aside0.mk (below_step (by repeat (first|(with_reducible first|exact HB.out|apply below_alloc|apply pw_below_drewN|apply below_drew1)|exact HB.out)) hb)
         clear HB
         have HB:=n0_
         clear n0_
         (try clear hb)
         (try clear hb2)
         (try clear hk)
         (try clear hi)
         refine hK.out _ _ trivial (fun hHeld=>?_)
         clear hK K
         refine norm_ (a':=?_) ?_ ?_
         rotate_left
         ·show Act.put _ (some 26) _=_
          simp only [Act.put,List.setIfInBounds_toArray,List.set_cons_zero,List.set_cons_succ,i64_w,i32_w]
          rfl
         refine pure_ (i:=7) (N:=some 30) (v:=?_) (a':=?_) #[true,true,true,true,true,true,true,true,false] rfl rfl (any_of HT_.out (by kernel_rfl)) (fun _ _ _ h=>h) (Or.inl ⟨by rfl,?_⟩) ?_ ?_
         rotate_left
         ·intro w'
          go_simp
          with_reducible rfl
         rotate_left
         ·simp only [Act.put,List.setIfInBounds_toArray,List.set_cons_zero,List.set_cons_succ,i64_w,i32_w]
          rfl
         refine pure_ (i:=8) (N:=some 22) (v:=?_) (a':=?_) #[true,true,true,true,true,true,true,true,true] rfl rfl (any_of HT_.out (by kernel_rfl)) (fun _ _ _ h=>h) (Or.inl ⟨by rfl,?_⟩) ?_ ?_
         rotate_left
         ·intro w'
          go_simp
          with_reducible rfl
         rotate_left
         ·simp only [Act.put,List.setIfInBounds_toArray,List.set_cons_zero,List.set_cons_succ,i64_w,i32_w]
          rfl
         refine done_ (done_of HT_.out (by kernel_rfl)) ?_
         try go_wp2_with (first|((with_reducible refine gate_callee (f:=40) rfl ?_);refine goesL_ (some 35) rfl rfl Tryd.func40 (by kernel_rfl) rfl #[.string (a0.extract 4 ((ji5):Int).toNat)] rfl (by (try simp only [List.map_toArray,List.map_cons,List.map_nil]);first|done|(simp only [hji5];rfl)|rfl|(simp only [List.length_drop,List.length_take];rfl)) ?_;(with_reducible refine (frame_Loose.calls k (a0.extract 4 ((ji5):Int).toNat) t285 t286 _ A14.out).mono ?_);rintro e w19 ⟨v287,rfl,ho0,hb⟩;refine ⟨_,rfl,?_⟩;have n0_:=Aside0.mk (Kd.R_lower ho0 (below_size (by repeat (first|(with_reducible first|exact HB.out|apply below_alloc|apply pw_below_drewN|apply below_drew1)|exact HB.out))));have n1_:=Aside0.mk (below_step (by repeat (first|(with_reducible first|exact HB.out|apply below_alloc|apply pw_below_drewN|apply below_drew1)|exact HB.out)) hb);clear HB;have HO288:=n0_;have HB:=n1_;clear n0_ n1_;(try clear hb);(try clear hb2);(try clear hk);(try clear hi);(try clear ho0);obtain ⟨Ao20,co20,eo20⟩:=Kd.R_slice HO288.out;subst eo20))
         go_ret2
         exact ⟨_,by first|rfl|(simp [errW_none,errW_some]<;>rfl)|(simp only [← hji5];first|rfl|(simp [errW_none,errW_some]<;>rfl))|(simp [*,errW_none,errW_some]<;>rfl),by first|exact Kd.R_nil _ _ _ _ _|exact Kd.N_nil _ _ _ _ _|exact Kd.V_nil _ _ _ _ _|exact Kd.Q_nil _ _ _ _ _|exact Kd.S_nil _ _ _ _ _,by repeat (first|(with_reducible first|exact HB.out|apply below_alloc|apply pw_below_drewN|apply below_drew1)|exact HB.out)⟩
        ·rw [if_neg c16] at H
         have c16b0:decide (64<(t285.length:Int))=false:=decide_eq_false c16
         have c16b1:decide (64<t285.length)=false:=decide_eq_false (by omega)
         clear c16
         have H':=Aside0.mk H
         clear H
         go_enter Tryd.func20,Tryd.ntmps20
         try go_wp2_with (first|((with_reducible refine gate_callee (f:=28) rfl ?_);refine goesL_ (some 20) rfl rfl Tryd.func28 (by kernel_rfl) rfl #[.string a0,.string (⟨#[115,101,97,108]⟩:ByteArray)] rfl (by (try simp only [List.map_toArray,List.map_cons,List.map_nil]);first|done|rfl|(simp only [List.length_drop,List.length_take];rfl)) ?_;(with_reducible refine (strings_HasPrefix.calls a0 (⟨#[115,101,97,108]⟩:ByteArray) true _ A3.out).mono ?_);rintro e w' ⟨rfl,⟨nd,rfl⟩⟩;refine ⟨_,rfl,?_⟩))
         (try (generalize hq_:World.drewN w _=wq_;have nq_:=Aside0.mk (show Below w.heap.size w wq_ by rw [← hq_];exact pw_below_drewN HB.out _);clear HB hq_;have HB:=nq_;clear nq_))
         have n0_:=Aside0.mk (below_drew1 HB.out)
         clear HB
         have HB:=n0_
         clear n0_
         refine start_ (n:=9) (S:=fun w'=>True) (ds:=[]) #[false,false,false,false,false,false,false,false,false] (by kernel_rfl) rfl rfl trivial (fun hHeld=>?_);refine with_tabW seal_Open.tab6 seal_Open.bits6 (fun HT_ HW_=>?_)
         (first|generalize wq_.drew=w21 at HB hHeld ⊢|generalize w.drew=w21 at HB hHeld ⊢)
         refine pure_ (i:=0) (N:=some 23) (v:=?_) (a':=?_) #[true,false,false,false,false,false,false,false,false] rfl rfl (any_of HT_.out (by kernel_rfl)) (fun _ _ _ h=>h) (Or.inl ⟨by rfl,?_⟩) ?_ ?_
         rotate_left
         ·intro w'
          go_simp
          with_reducible rfl
         rotate_left
         ·simp only [Act.put,List.setIfInBounds_toArray,List.set_cons_zero,List.set_cons_succ,i64_w,i32_w]
          rfl
         refine pure_ (i:=1) (N:=some 24) (v:=?_) (a':=?_) #[true,true,false,false,false,false,false,false,false] rfl rfl (any_of HT_.out (by kernel_rfl)) (fun _ _ _ h=>h) (Or.inl ⟨by rfl,?_⟩) ?_ ?_
         rotate_left
         ·intro w'
          go_simp
          with_reducible rfl
         rotate_left
         ·simp only [Act.put,List.setIfInBounds_toArray,List.set_cons_zero,List.set_cons_succ,i64_w,i32_w]
          rfl
         refine pure_ (i:=2) (N:=some 25) (v:=?_) (a':=?_) #[true,true,true,false,false,false,false,false,false] rfl rfl (any_of HT_.out (by kernel_rfl)) (fun _ _ _ h=>h) (Or.inl ⟨by rfl,?_⟩) ?_ ?_
         rotate_left
         ·intro w'
          go_simp
          with_reducible rfl
         rotate_left
         ·simp only [Act.put,List.setIfInBounds_toArray,List.set_cons_zero,List.set_cons_succ,i64_w,i32_w]
          rfl
         refine pure_ (i:=4) (N:=some 27) (v:=?_) (a':=?_) #[true,true,true,false,true,false,false,false,false] rfl rfl (any_of HT_.out (by kernel_rfl)) (fun _ _ _ h=>h) (Or.inl ⟨by rfl,?_⟩) ?_ ?_
         rotate_left
         ·intro w'
          go_simp
          with_reducible rfl
         rotate_left
         ·simp only [Act.put,List.setIfInBounds_toArray,List.set_cons_zero,List.set_cons_succ,i64_w,i32_w]
          rfl
         refine pure_ (i:=5) (N:=some 28) (v:=?_) (a':=?_) #[true,true,true,false,true,true,false,false,false] rfl rfl (any_of HT_.out (by kernel_rfl)) (fun _ _ _ h=>h) (Or.inl ⟨by rfl,?_⟩) ?_ ?_
         rotate_left
         ·intro w'
          go_simp
          with_reducible rfl
         rotate_left
         ·simp only [Act.put,List.setIfInBounds_toArray,List.set_cons_zero,List.set_cons_succ,i64_w,i32_w]
          rfl
         refine pure_ (i:=6) (N:=some 29) (v:=?_) (a':=?_) #[true,true,true,false,true,true,true,false,false] rfl rfl (any_of HT_.out (by kernel_rfl)) (fun _ _ _ h=>h) (Or.inl ⟨by rfl,?_⟩) ?_ ?_
         rotate_left
         ·intro w'
          go_simp
          with_reducible rfl
         rotate_left
         ·simp only [Act.put,List.setIfInBounds_toArray,List.set_cons_zero,List.set_cons_succ,i64_w,i32_w]
          rfl
         refine one_ (i:=3) (N:=some 26) #[true,true,true,true,true,true,true,false,false] rfl rfl (one_of HT_.out (by kernel_rfl)) (by decide) (fun K hK=>?_)
         refine goes_ Tryd.func10 (by kernel_rfl) rfl #[.string (a0.extract 0 ((ji5):Int).toNat)] (by rfl) rfl rfl (by (try simp only [List.map_toArray,List.map_cons,List.map_nil]);first|done|(simp only [hji5];rfl)|rfl|(simp only [List.length_drop,List.length_take];rfl)) ?_
         with_reducible refine (seal_Sum.calls (a0.extract 0 ((ji5):Int).toNat) t284 _ A8.out ?keys_).mono ?_
         (case keys_=>exact (keys_step HK.out (by repeat (first|(with_reducible first|exact HB.out|apply below_alloc|apply pw_below_drewN|apply below_drew1)|exact HB.out))))
         rintro e w22 ⟨rfl,hb⟩
         refine ⟨_,rfl,?_⟩
         have n0_:=Aside0.mk (below_step (by repeat (first|(with_reducible first|exact HB.out|apply below_alloc|apply pw_below_drewN|apply below_drew1)|exact HB.out)) hb)
         clear HB
         have HB:=n0_
         clear n0_
         (try clear hb)
         (try clear hb2)
         (try clear hk)
         (try clear hi)
         refine hK.out _ _ trivial (fun hHeld=>?_)
         clear hK K
         refine norm_ (a':=?_) ?_ ?_
         rotate_left
         ·show Act.put _ (some 26) _=_
          simp only [Act.put,List.setIfInBounds_toArray,List.set_cons_zero,List.set_cons_succ,i64_w,i32_w]
          rfl
         refine pure_ (i:=7) (N:=some 30) (v:=?_) (a':=?_) #[true,true,true,true,true,true,true,true,false] rfl rfl (any_of HT_.out (by kernel_rfl)) (fun _ _ _ h=>h) (Or.inl ⟨by rfl,?_⟩) ?_ ?_
         rotate_left
         ·intro w'
          go_simp
          with_reducible rfl
         rotate_left
         ·simp only [Act.put,List.setIfInBounds_toArray,List.set_cons_zero,List.set_cons_succ,i64_w,i32_w]
          rfl
         refine pure_ (i:=8) (N:=some 22) (v:=?_) (a':=?_) #[true,true,true,true,true,true,true,true,true] rfl rfl (any_of HT_.out (by kernel_rfl)) (fun _ _ _ h=>h) (Or.inl ⟨by rfl,?_⟩) ?_ ?_
         rotate_left
         ·intro w'
          go_simp
          with_reducible rfl
         rotate_left
         ·simp only [Act.put,List.setIfInBounds_toArray,List.set_cons_zero,List.set_cons_succ,i64_w,i32_w]
          rfl
         refine done_ (done_of HT_.out (by kernel_rfl)) ?_
         try go_wp2_with (first|((with_reducible refine gate_callee (f:=40) rfl ?_);refine goesL_ (some 35) rfl rfl Tryd.func40 (by kernel_rfl) rfl #[.string (a0.extract 4 ((ji5):Int).toNat)] rfl (by (try simp only [List.map_toArray,List.map_cons,List.map_nil]);first|done|(simp only [hji5];rfl)|rfl|(simp only [List.length_drop,List.length_take];rfl)) ?_;(with_reducible refine (frame_Loose.calls k (a0.extract 4 ((ji5):Int).toNat) t285 t286 _ A14.out).mono ?_);rintro e w23 ⟨v287,rfl,ho0,hb⟩;refine ⟨_,rfl,?_⟩;have n0_:=Aside0.mk (Kd.R_lower ho0 (below_size (by repeat (first|(with_reducible first|exact HB.out|apply below_alloc|apply pw_below_drewN|apply below_drew1)|exact HB.out))));have n1_:=Aside0.mk (below_step (by repeat (first|(with_reducible first|exact HB.out|apply below_alloc|apply pw_below_drewN|apply below_drew1)|exact HB.out)) hb);clear HB;have HO288:=n0_;have HB:=n1_;clear n0_ n1_;(try clear hb);(try clear hb2);(try clear hk);(try clear hi);(try clear ho0);obtain ⟨Ao24,co24,eo24⟩:=Kd.R_slice HO288.out;subst eo24))
         go_loopg [7,48] k (fun kq v7 v48 w'=>∃ (x7_1:List ByteArray) (x48_1:Int),v48=.int .i64 x48_1∧Aside0 (seal_Open.l0 kq x7_1 t285 (t285.length:Int) x48_1=some (r1,r2))∧Aside0 (kq≤k)∧Aside0 (Kd.R Kd.string 9 w' w.heap.size (fun k_=>some k_≠((.slice Ao24 t285.length co24):Value).ownBlock) v7 x7_1)∧Aside0 (Kd.R Kd.string 9 w' w.heap.size (fun k_=>some k_≠(v7:Value).ownBlock) (.slice Ao24 t285.length co24) t285)∧Aside0 (Below w.heap.size w w'))
         case atStart=>exact ⟨(([]:List ByteArray)),(0),(by first|rfl|(simp;done)|(simp [*];done)),H',⟨Nat.le_refl _⟩,⟨by first|exact Kd.R_nil _ _ _ _ _|exact Kd.N_nil _ _ _ _ _|exact Kd.V_nil _ _ _ _ _|exact Kd.Q_nil _ _ _ _ _|exact Kd.S_nil _ _ _ _ _⟩,⟨by (with_reducible repeat (first|apply Kd.R_alloc|apply Kd.R_drewN|apply Kd.R_drew));exact Kd.R_mono HO288.out (fun _ hk=>(by simp [Value.ownBlock]))⟩,⟨by repeat (first|(with_reducible first|exact HB.out|apply below_alloc|apply pw_below_drewN|apply below_drew1)|exact HB.out)⟩⟩
         case round =>
          clear H'
          try clear c1
          try clear c2
          try clear c2b0
          try clear p2
          try clear c4
          try clear c6
          try clear c6b0
          try clear c6b1
          try clear p6
          try clear c7
          try clear c7b0
          try clear c7b1
          try clear c9
          try clear c9b0
          try clear c10
          try clear c10b0
          try clear c11
          try clear c11b0
          try clear c11b1
          try clear c12
          try clear c12b0
          try clear c12b1
          try clear c13
          try clear c13b0
          try clear c15
          try clear c15b0
          try clear c15b1
          try clear c16
          try clear c16b0
          try clear c16b1
          try clear c20
          obtain ⟨x7_1,x48_1,rfl,HA,HK1,HO_7,HO_46,HB⟩:=hrel
          cases gk with
          | zero=>exact absurd HA.out (by simp [seal_Open.l0])
          | succ k1 =>
           have H:=HA.out
           clear HA
           simp only [seal_Open.l0] at H
           by_cases c25:x48_1<(t285.length:Int)
           ·rw [if_pos c25] at H
            have c25b0:decide (x48_1<(t285.length:Int))=true:=decide_eq_true c25
            clear c25
            by_cases c26:0≤x48_1
            ·rw [if_pos c26] at H
             have c26b0:decide (0≤x48_1)=true:=decide_eq_true c26
             clear c26
             by_cases c27:x48_1<(t285.length:Int)
             ·rw [if_pos c27] at H
              have c27b0:decide (x48_1<(t285.length:Int))=true:=decide_eq_true c27
              clear c27
              replace H:=Option.bind_eq_some_iff.mp H
              obtain ⟨⟨t290,t291⟩,A280,H⟩:=H
              replace H:(if t291=0 then (if x7_1.length<8796093022208 then (seal_Open.l0 k1 (x7_1++[t290]) t285 (t285.length:Int) (wrap64 (x48_1+1))) else (none)) else (some (([]:List ByteArray),t291)))=some (r1,r2):=H
              have A28:=Aside0.mk A280
              clear A280
              by_cases c29:t291=0
              ·rw [if_pos c29] at H
               have c29b0:(t291 == 0)=true:=beq_iff_eq.mpr c29
               have c29b1:(t291 != 0)=false:=bne_eq_false_iff_eq.mpr c29
               clear c29
               by_cases c30:x7_1.length<8796093022208
               ·rw [if_pos c30] at H
                have LMc30:=Aside0.mk c30
                clear c30
                obtain ⟨y292,hy292⟩:∃ y_:List ByteArray,y_=(x7_1++[t290]):=⟨_,rfl⟩
                replace H:(seal_Open.l0 k1 y292 t285 (t285.length:Int) (wrap64 (x48_1+1)))=some (r1,r2):=by first|(rw [hy292];with_reducible exact H)|(have H2_:=(Option.bind_some _ _).symm.trans H;rw [hy292];with_reducible exact H2_)|(have H2_:=(Option.bind_some _ _).symm.trans H;with_reducible exact H2_)|with_reducible exact H|(rw [hy292];exact H)|exact H
                have Ny292:=Aside0.mk hy292
                clear hy292
                have H':=Aside0.mk H
                clear H
                have p289:0≤(x48_1:Int):=of_decide_eq_true (by first|(with_reducible assumption)|assumption)
                have q289:x48_1<(t285.length:Int):=of_decide_eq_true (by first|(with_reducible assumption)|assumption)
                obtain ⟨ad289,e289,hx289_0⟩:=Kd.at_string (Kd.R_reads' HO_46.out).2.2 x48_1 p289 q289
                cases e289
                replace p289:=eq_true p289
                replace q289:=eq_true q289
                go_wp2_with (first|((with_reducible refine gate_callee (f:=41) rfl ?_);refine goesL_ (some 54) rfl rfl Tryd.func41 (by kernel_rfl) rfl #[.string (rdOf ByteArray.empty t285 x48_1)] rfl (by (try simp only [List.map_toArray,List.map_cons,List.map_nil]);first|done|rfl|(simp only [List.length_drop,List.length_take];rfl)) ?_;(with_reducible refine (seal_section.calls k1 (rdOf ByteArray.empty t285 x48_1) t290 t291 _ A28.out).mono ?_);rintro e w31 ⟨rfl,hb⟩;refine ⟨_,rfl,?_⟩;have n0_:=Aside0.mk (Kd.R_below (by (with_reducible repeat (first|apply Kd.R_alloc|apply Kd.R_drewN|apply Kd.R_drew));exact HO_7.out) hb);have n1_:=Aside0.mk (Kd.R_below (by (with_reducible repeat (first|apply Kd.R_alloc|apply Kd.R_drewN|apply Kd.R_drew));exact HO_46.out) hb);have n2_:=Aside0.mk (below_step (by repeat (first|(with_reducible first|exact HB.out|apply below_alloc|apply pw_below_drewN|apply below_drew1)|exact HB.out)) hb);clear HO_7;clear HO_46;clear HB;have HO_7:=n0_;have HO_46:=n1_;have HB:=n2_;clear n0_ n1_ n2_;(try clear hb);(try clear hb2);(try clear hk);(try clear hi))|((with_reducible refine gate_builtin (b:=.append) (xs:=#[.tmp 60,.tmp 62]) rfl ?_);at_builtin;refine Kd.R_append Kd.string (w0:=w) w.heap.size rfl (.tmp 60) (.tmp 62) 29 9 (.string ⟨#[]⟩) 16 rfl Tryd.underlying29 info9 rfl (by decide) (by omega) u7 x7_1 t290 [.string t290] (fun k_=>some k_≠(.slice (some ad289) t285.length co24:Value).ownBlock) (fun _=>False) rfl rfl ?aP (fun _ hk=>hk.elim) ?aF ?aO ?aB ?aS ?aL ?_;(case aP=>exact rfl);(case aB=>exact (by repeat (first|(with_reducible first|exact HB.out|apply below_alloc|apply pw_below_drewN|apply below_drew1)|exact HB.out)));(case aF=>exact (fun k_ hk=>Kd.fresh' (Kd.R_lt (by (with_reducible repeat (first|apply Kd.R_alloc|apply Kd.R_drewN|apply Kd.R_drew));exact HO_46.out)) k_ hk));(case aO=>exact (by (with_reducible repeat (first|apply Kd.R_alloc|apply Kd.R_drewN|apply Kd.R_drew));exact HO_7.out));(case aS=>exact (below_size (by repeat (first|(with_reducible first|exact HB.out|apply below_alloc|apply pw_below_drewN|apply below_drew1)|exact HB.out))));(case aL=>have:=LMc30.out;omega);intro v293 w32 ho hb hg hat;rw [← Ny292.out] at ho;have n0_:=Aside0.mk (Kd.R_after (ok:=(fun _=>True)) (by (with_reducible repeat (first|apply Kd.R_alloc|apply Kd.R_drewN|apply Kd.R_drew));exact Kd.R_mono HO_46.out (fun _ hk=>⟨trivial,hk⟩)) hg hat);have n1_:=Aside0.mk (hb);have n2_:=Aside0.mk (ho);clear HO_46;clear HB;clear HO_7;have HO_46:=n0_;have HB:=n1_;have HO294:=n2_;clear n0_ n1_ n2_;clear ho hb hg hat))
                go_roundg k1
                case measure=>have:=HK1.out;omega
                case rel=>exact ⟨(y292),(wrap64 (x48_1+1)),(by first|rfl|(simp;done)|(simp [*];done)),H',⟨by have:=HK1.out;omega⟩,⟨by (with_reducible repeat (first|apply Kd.R_alloc|apply Kd.R_drewN|apply Kd.R_drew));exact HO294.out⟩,⟨by (with_reducible repeat (first|apply Kd.R_alloc|apply Kd.R_drewN|apply Kd.R_drew));exact Kd.R_mono HO_46.out (fun _ hk=>hk.2)⟩,⟨by repeat (first|(with_reducible first|exact HB.out|apply below_alloc|apply pw_below_drewN|apply below_drew1)|exact HB.out)⟩⟩
               ·rw [if_neg c30] at H
                exact absurd H (by simp)
              ·rw [if_neg c29] at H
               have c29b0:(t291 == 0)=false:=beq_eq_false_iff_ne.mpr c29
               have c29b1:(t291 != 0)=true:=bne_iff_ne.mpr c29
               simp only [Option.some.injEq,Prod.mk.injEq] at H
               obtain ⟨rfl,rfl⟩:=H
               have p289:0≤(x48_1:Int):=of_decide_eq_true (by first|(with_reducible assumption)|assumption)
               have q289:x48_1<(t285.length:Int):=of_decide_eq_true (by first|(with_reducible assumption)|assumption)
               obtain ⟨ad289,e289,hx289_0⟩:=Kd.at_string (Kd.R_reads' HO_46.out).2.2 x48_1 p289 q289
               cases e289
               replace p289:=eq_true p289
               replace q289:=eq_true q289
               go_wp2_with (first|((with_reducible refine gate_callee (f:=41) rfl ?_);refine goesL_ (some 54) rfl rfl Tryd.func41 (by kernel_rfl) rfl #[.string (rdOf ByteArray.empty t285 x48_1)] rfl (by (try simp only [List.map_toArray,List.map_cons,List.map_nil]);first|done|rfl|(simp only [List.length_drop,List.length_take];rfl)) ?_;(with_reducible refine (seal_section.calls k1 (rdOf ByteArray.empty t285 x48_1) t290 t291 _ A28.out).mono ?_);rintro e w33 ⟨rfl,hb⟩;refine ⟨_,rfl,?_⟩;have n0_:=Aside0.mk (Kd.R_below (by (with_reducible repeat (first|apply Kd.R_alloc|apply Kd.R_drewN|apply Kd.R_drew));exact HO_7.out) hb);have n1_:=Aside0.mk (Kd.R_below (by (with_reducible repeat (first|apply Kd.R_alloc|apply Kd.R_drewN|apply Kd.R_drew));exact HO_46.out) hb);have n2_:=Aside0.mk (below_step (by repeat (first|(with_reducible first|exact HB.out|apply below_alloc|apply pw_below_drewN|apply below_drew1)|exact HB.out)) hb);clear HO_7;clear HO_46;clear HB;have HO_7:=n0_;have HO_46:=n1_;have HB:=n2_;clear n0_ n1_ n2_;(try clear hb);(try clear hb2);(try clear hk);(try clear hi)))
               go_ret2
               exact ⟨_,by first|rfl|(simp [errW_none,errW_some]<;>rfl)|(simp only [← hji5];first|rfl|(simp [errW_none,errW_some]<;>rfl))|(simp [*,errW_none,errW_some]<;>rfl),by first|exact Kd.R_nil _ _ _ _ _|exact Kd.N_nil _ _ _ _ _|exact Kd.V_nil _ _ _ _ _|exact Kd.Q_nil _ _ _ _ _|exact Kd.S_nil _ _ _ _ _,by repeat (first|(with_reducible first|exact HB.out|apply below_alloc|apply pw_below_drewN|apply below_drew1)|exact HB.out)⟩
             ·rw [if_neg c27] at H
              exact absurd H (by simp)
            ·rw [if_neg c26] at H
             exact absurd H (by simp)
           ·rw [if_neg c25] at H
            have c25b0:decide (x48_1<(t285.length:Int))=false:=decide_eq_false c25
            clear c25
            simp only [Option.some.injEq,Prod.mk.injEq] at H
            obtain ⟨rfl,rfl⟩:=H
            go_wp2
            go_ret2
            exact ⟨_,by first|rfl|(simp [errW_none,errW_some]<;>rfl)|(simp only [← hji5];first|rfl|(simp [errW_none,errW_some]<;>rfl))|(simp [*,errW_none,errW_some]<;>rfl),by (with_reducible repeat (first|apply Kd.R_alloc|apply Kd.R_drewN|apply Kd.R_drew));exact Kd.R_mono HO_7.out (fun _ hk=>trivial),by repeat (first|(with_reducible first|exact HB.out|apply below_alloc|apply pw_below_drewN|apply below_drew1)|exact HB.out)⟩
       ·rw [if_neg c15] at H
        have c15b0:(t286 == 0)=false:=beq_eq_false_iff_ne.mpr c15
        have c15b1:(t286 != 0)=true:=bne_iff_ne.mpr c15
        simp only [Option.some.injEq,Prod.mk.injEq] at H
        obtain ⟨rfl,rfl⟩:=H
        go_enter Tryd.func20,Tryd.ntmps20
        try go_wp2_with (first|((with_reducible refine gate_callee (f:=28) rfl ?_);refine goesL_ (some 20) rfl rfl Tryd.func28 (by kernel_rfl) rfl #[.string a0,.string (⟨#[115,101,97,108]⟩:ByteArray)] rfl (by (try simp only [List.map_toArray,List.map_cons,List.map_nil]);first|done|rfl|(simp only [List.length_drop,List.length_take];rfl)) ?_;(with_reducible refine (strings_HasPrefix.calls a0 (⟨#[115,101,97,108]⟩:ByteArray) true _ A3.out).mono ?_);rintro e w' ⟨rfl,⟨nd,rfl⟩⟩;refine ⟨_,rfl,?_⟩))
        (try (generalize hq_:World.drewN w _=wq_;have nq_:=Aside0.mk (show Below w.heap.size w wq_ by rw [← hq_];exact pw_below_drewN HB.out _);clear HB hq_;have HB:=nq_;clear nq_))
        have n0_:=Aside0.mk (below_drew1 HB.out)
        clear HB
        have HB:=n0_
        clear n0_
        refine start_ (n:=9) (S:=fun w'=>True) (ds:=[]) #[false,false,false,false,false,false,false,false,false] (by kernel_rfl) rfl rfl trivial (fun hHeld=>?_);refine with_tabW seal_Open.tab6 seal_Open.bits6 (fun HT_ HW_=>?_)
        (first|generalize wq_.drew=w34 at HB hHeld ⊢|generalize w.drew=w34 at HB hHeld ⊢)
        refine pure_ (i:=0) (N:=some 23) (v:=?_) (a':=?_) #[true,false,false,false,false,false,false,false,false] rfl rfl (any_of HT_.out (by kernel_rfl)) (fun _ _ _ h=>h) (Or.inl ⟨by rfl,?_⟩) ?_ ?_
        rotate_left
        ·intro w'
         go_simp
         with_reducible rfl
        rotate_left
        ·simp only [Act.put,List.setIfInBounds_toArray,List.set_cons_zero,List.set_cons_succ,i64_w,i32_w]
         rfl
        refine pure_ (i:=1) (N:=some 24) (v:=?_) (a':=?_) #[true,true,false,false,false,false,false,false,false] rfl rfl (any_of HT_.out (by kernel_rfl)) (fun _ _ _ h=>h) (Or.inl ⟨by rfl,?_⟩) ?_ ?_
        rotate_left
        ·intro w'
         go_simp
         with_reducible rfl
        rotate_left
        ·simp only [Act.put,List.setIfInBounds_toArray,List.set_cons_zero,List.set_cons_succ,i64_w,i32_w]
         rfl
        refine pure_ (i:=2) (N:=some 25) (v:=?_) (a':=?_) #[true,true,true,false,false,false,false,false,false] rfl rfl (any_of HT_.out (by kernel_rfl)) (fun _ _ _ h=>h) (Or.inl ⟨by rfl,?_⟩) ?_ ?_
        rotate_left
        ·intro w'
         go_simp
         with_reducible rfl
        rotate_left
        ·simp only [Act.put,List.setIfInBounds_toArray,List.set_cons_zero,List.set_cons_succ,i64_w,i32_w]
         rfl
        refine pure_ (i:=4) (N:=some 27) (v:=?_) (a':=?_) #[true,true,true,false,true,false,false,false,false] rfl rfl (any_of HT_.out (by kernel_rfl)) (fun _ _ _ h=>h) (Or.inl ⟨by rfl,?_⟩) ?_ ?_
        rotate_left
        ·intro w'
         go_simp
         with_reducible rfl
        rotate_left
        ·simp only [Act.put,List.setIfInBounds_toArray,List.set_cons_zero,List.set_cons_succ,i64_w,i32_w]
         rfl
        refine pure_ (i:=5) (N:=some 28) (v:=?_) (a':=?_) #[true,true,true,false,true,true,false,false,false] rfl rfl (any_of HT_.out (by kernel_rfl)) (fun _ _ _ h=>h) (Or.inl ⟨by rfl,?_⟩) ?_ ?_
        rotate_left
        ·intro w'
         go_simp
         with_reducible rfl
        rotate_left
        ·simp only [Act.put,List.setIfInBounds_toArray,List.set_cons_zero,List.set_cons_succ,i64_w,i32_w]
         rfl
        refine pure_ (i:=6) (N:=some 29) (v:=?_) (a':=?_) #[true,true,true,false,true,true,true,false,false] rfl rfl (any_of HT_.out (by kernel_rfl)) (fun _ _ _ h=>h) (Or.inl ⟨by rfl,?_⟩) ?_ ?_
        rotate_left
        ·intro w'
         go_simp
         with_reducible rfl
        rotate_left
        ·simp only [Act.put,List.setIfInBounds_toArray,List.set_cons_zero,List.set_cons_succ,i64_w,i32_w]
         rfl
        refine one_ (i:=3) (N:=some 26) #[true,true,true,true,true,true,true,false,false] rfl rfl (one_of HT_.out (by kernel_rfl)) (by decide) (fun K hK=>?_)
        refine goes_ Tryd.func10 (by kernel_rfl) rfl #[.string (a0.extract 0 ((ji5):Int).toNat)] (by rfl) rfl rfl (by (try simp only [List.map_toArray,List.map_cons,List.map_nil]);first|done|(simp only [hji5];rfl)|rfl|(simp only [List.length_drop,List.length_take];rfl)) ?_
        with_reducible refine (seal_Sum.calls (a0.extract 0 ((ji5):Int).toNat) t284 _ A8.out ?keys_).mono ?_
        (case keys_=>exact (keys_step HK.out (by repeat (first|(with_reducible first|exact HB.out|apply below_alloc|apply pw_below_drewN|apply below_drew1)|exact HB.out))))
        rintro e w35 ⟨rfl,hb⟩
        refine ⟨_,rfl,?_⟩
        have n0_:=Aside0.mk (below_step (by repeat (first|(with_reducible first|exact HB.out|apply below_alloc|apply pw_below_drewN|apply below_drew1)|exact HB.out)) hb)
        clear HB
        have HB:=n0_
        clear n0_
        (try clear hb)
        (try clear hb2)
        (try clear hk)
        (try clear hi)
        refine hK.out _ _ trivial (fun hHeld=>?_)
        clear hK K
        refine norm_ (a':=?_) ?_ ?_
        rotate_left
        ·show Act.put _ (some 26) _=_
         simp only [Act.put,List.setIfInBounds_toArray,List.set_cons_zero,List.set_cons_succ,i64_w,i32_w]
         rfl
        refine pure_ (i:=7) (N:=some 30) (v:=?_) (a':=?_) #[true,true,true,true,true,true,true,true,false] rfl rfl (any_of HT_.out (by kernel_rfl)) (fun _ _ _ h=>h) (Or.inl ⟨by rfl,?_⟩) ?_ ?_
        rotate_left
        ·intro w'
         go_simp
         with_reducible rfl
        rotate_left
        ·simp only [Act.put,List.setIfInBounds_toArray,List.set_cons_zero,List.set_cons_succ,i64_w,i32_w]
         rfl
        refine pure_ (i:=8) (N:=some 22) (v:=?_) (a':=?_) #[true,true,true,true,true,true,true,true,true] rfl rfl (any_of HT_.out (by kernel_rfl)) (fun _ _ _ h=>h) (Or.inl ⟨by rfl,?_⟩) ?_ ?_
        rotate_left
        ·intro w'
         go_simp
         with_reducible rfl
        rotate_left
        ·simp only [Act.put,List.setIfInBounds_toArray,List.set_cons_zero,List.set_cons_succ,i64_w,i32_w]
         rfl
        refine done_ (done_of HT_.out (by kernel_rfl)) ?_
        try go_wp2_with (first|((with_reducible refine gate_callee (f:=40) rfl ?_);refine goesL_ (some 35) rfl rfl Tryd.func40 (by kernel_rfl) rfl #[.string (a0.extract 4 ((ji5):Int).toNat)] rfl (by (try simp only [List.map_toArray,List.map_cons,List.map_nil]);first|done|(simp only [hji5];rfl)|rfl|(simp only [List.length_drop,List.length_take];rfl)) ?_;(with_reducible refine (frame_Loose.calls k (a0.extract 4 ((ji5):Int).toNat) t285 t286 _ A14.out).mono ?_);rintro e w36 ⟨v287,rfl,ho0,hb⟩;refine ⟨_,rfl,?_⟩;have n0_:=Aside0.mk (Kd.R_lower ho0 (below_size (by repeat (first|(with_reducible first|exact HB.out|apply below_alloc|apply pw_below_drewN|apply below_drew1)|exact HB.out))));have n1_:=Aside0.mk (below_step (by repeat (first|(with_reducible first|exact HB.out|apply below_alloc|apply pw_below_drewN|apply below_drew1)|exact HB.out)) hb);clear HB;have HO288:=n0_;have HB:=n1_;clear n0_ n1_;(try clear hb);(try clear hb2);(try clear hk);(try clear hi);(try clear ho0)))
        go_ret2
        exact ⟨_,by first|rfl|(simp [errW_none,errW_some]<;>rfl)|(simp only [← hji5];first|rfl|(simp [errW_none,errW_some]<;>rfl))|(simp [*,errW_none,errW_some]<;>rfl),by first|exact Kd.R_nil _ _ _ _ _|exact Kd.N_nil _ _ _ _ _|exact Kd.V_nil _ _ _ _ _|exact Kd.Q_nil _ _ _ _ _|exact Kd.S_nil _ _ _ _ _,by repeat (first|(with_reducible first|exact HB.out|apply below_alloc|apply pw_below_drewN|apply below_drew1)|exact HB.out)⟩
      ·rw [if_neg c12] at H
       exact absurd H (by simp)
     ·rw [if_neg c11] at H
      have c11b0:(t284.toList == (a0.extract ((ji5):Int).toNat a0.size).toList)=false:=beq_eq_false_iff_ne.mpr c11
      have c11b1:(t284.toList != (a0.extract ((ji5):Int).toNat a0.size).toList)=true:=bne_iff_ne.mpr c11
      simp only [Option.some.injEq,Prod.mk.injEq] at H
      obtain ⟨rfl,rfl⟩:=H
      go_enter Tryd.func20,Tryd.ntmps20
      try go_wp2_with (first|((with_reducible refine gate_callee (f:=28) rfl ?_);refine goesL_ (some 20) rfl rfl Tryd.func28 (by kernel_rfl) rfl #[.string a0,.string (⟨#[115,101,97,108]⟩:ByteArray)] rfl (by (try simp only [List.map_toArray,List.map_cons,List.map_nil]);first|done|rfl|(simp only [List.length_drop,List.length_take];rfl)) ?_;(with_reducible refine (strings_HasPrefix.calls a0 (⟨#[115,101,97,108]⟩:ByteArray) true _ A3.out).mono ?_);rintro e w' ⟨rfl,⟨nd,rfl⟩⟩;refine ⟨_,rfl,?_⟩))
      (try (generalize hq_:World.drewN w _=wq_;have nq_:=Aside0.mk (show Below w.heap.size w wq_ by rw [← hq_];exact pw_below_drewN HB.out _);clear HB hq_;have HB:=nq_;clear nq_))
      have n0_:=Aside0.mk (below_drew1 HB.out)
      clear HB
      have HB:=n0_
      clear n0_
      refine start_ (n:=9) (S:=fun w'=>True) (ds:=[]) #[false,false,false,false,false,false,false,false,false] (by kernel_rfl) rfl rfl trivial (fun hHeld=>?_);refine with_tabW seal_Open.tab6 seal_Open.bits6 (fun HT_ HW_=>?_)
      (first|generalize wq_.drew=w37 at HB hHeld ⊢|generalize w.drew=w37 at HB hHeld ⊢)
      refine pure_ (i:=0) (N:=some 23) (v:=?_) (a':=?_) #[true,false,false,false,false,false,false,false,false] rfl rfl (any_of HT_.out (by kernel_rfl)) (fun _ _ _ h=>h) (Or.inl ⟨by rfl,?_⟩) ?_ ?_
      rotate_left
      ·intro w'
       go_simp
       with_reducible rfl
      rotate_left
      ·simp only [Act.put,List.setIfInBounds_toArray,List.set_cons_zero,List.set_cons_succ,i64_w,i32_w]
       rfl
      refine pure_ (i:=1) (N:=some 24) (v:=?_) (a':=?_) #[true,true,false,false,false,false,false,false,false] rfl rfl (any_of HT_.out (by kernel_rfl)) (fun _ _ _ h=>h) (Or.inl ⟨by rfl,?_⟩) ?_ ?_
      rotate_left
      ·intro w'
       go_simp
       with_reducible rfl
      rotate_left
      ·simp only [Act.put,List.setIfInBounds_toArray,List.set_cons_zero,List.set_cons_succ,i64_w,i32_w]
       rfl
      refine pure_ (i:=2) (N:=some 25) (v:=?_) (a':=?_) #[true,true,true,false,false,false,false,false,false] rfl rfl (any_of HT_.out (by kernel_rfl)) (fun _ _ _ h=>h) (Or.inl ⟨by rfl,?_⟩) ?_ ?_
      rotate_left
      ·intro w'
       go_simp
       with_reducible rfl
      rotate_left
      ·simp only [Act.put,List.setIfInBounds_toArray,List.set_cons_zero,List.set_cons_succ,i64_w,i32_w]
       rfl
      refine pure_ (i:=4) (N:=some 27) (v:=?_) (a':=?_) #[true,true,true,false,true,false,false,false,false] rfl rfl (any_of HT_.out (by kernel_rfl)) (fun _ _ _ h=>h) (Or.inl ⟨by rfl,?_⟩) ?_ ?_
      rotate_left
      ·intro w'
       go_simp
       with_reducible rfl
      rotate_left
      ·simp only [Act.put,List.setIfInBounds_toArray,List.set_cons_zero,List.set_cons_succ,i64_w,i32_w]
       rfl
      refine pure_ (i:=5) (N:=some 28) (v:=?_) (a':=?_) #[true,true,true,false,true,true,false,false,false] rfl rfl (any_of HT_.out (by kernel_rfl)) (fun _ _ _ h=>h) (Or.inl ⟨by rfl,?_⟩) ?_ ?_
      rotate_left
      ·intro w'
       go_simp
       with_reducible rfl
      rotate_left
      ·simp only [Act.put,List.setIfInBounds_toArray,List.set_cons_zero,List.set_cons_succ,i64_w,i32_w]
       rfl
      refine pure_ (i:=6) (N:=some 29) (v:=?_) (a':=?_) #[true,true,true,false,true,true,true,false,false] rfl rfl (any_of HT_.out (by kernel_rfl)) (fun _ _ _ h=>h) (Or.inl ⟨by rfl,?_⟩) ?_ ?_
      rotate_left
      ·intro w'
       go_simp
       with_reducible rfl
      rotate_left
      ·simp only [Act.put,List.setIfInBounds_toArray,List.set_cons_zero,List.set_cons_succ,i64_w,i32_w]
       rfl
      refine one_ (i:=3) (N:=some 26) #[true,true,true,true,true,true,true,false,false] rfl rfl (one_of HT_.out (by kernel_rfl)) (by decide) (fun K hK=>?_)
      refine goes_ Tryd.func10 (by kernel_rfl) rfl #[.string (a0.extract 0 ((ji5):Int).toNat)] (by rfl) rfl rfl (by (try simp only [List.map_toArray,List.map_cons,List.map_nil]);first|done|(simp only [hji5];rfl)|rfl|(simp only [List.length_drop,List.length_take];rfl)) ?_
      with_reducible refine (seal_Sum.calls (a0.extract 0 ((ji5):Int).toNat) t284 _ A8.out ?keys_).mono ?_
      (case keys_=>exact (keys_step HK.out (by repeat (first|(with_reducible first|exact HB.out|apply below_alloc|apply pw_below_drewN|apply below_drew1)|exact HB.out))))
      rintro e w38 ⟨rfl,hb⟩
      refine ⟨_,rfl,?_⟩
      have n0_:=Aside0.mk (below_step (by repeat (first|(with_reducible first|exact HB.out|apply below_alloc|apply pw_below_drewN|apply below_drew1)|exact HB.out)) hb)
      clear HB
      have HB:=n0_
      clear n0_
      (try clear hb)
      (try clear hb2)
      (try clear hk)
      (try clear hi)
      refine hK.out _ _ trivial (fun hHeld=>?_)
      clear hK K
      refine norm_ (a':=?_) ?_ ?_
      rotate_left
      ·show Act.put _ (some 26) _=_
       simp only [Act.put,List.setIfInBounds_toArray,List.set_cons_zero,List.set_cons_succ,i64_w,i32_w]
       rfl
      refine pure_ (i:=7) (N:=some 30) (v:=?_) (a':=?_) #[true,true,true,true,true,true,true,true,false] rfl rfl (any_of HT_.out (by kernel_rfl)) (fun _ _ _ h=>h) (Or.inl ⟨by rfl,?_⟩) ?_ ?_
      rotate_left
      ·intro w'
       go_simp
       with_reducible rfl
      rotate_left
      ·simp only [Act.put,List.setIfInBounds_toArray,List.set_cons_zero,List.set_cons_succ,i64_w,i32_w]
       rfl
      refine pure_ (i:=8) (N:=some 22) (v:=?_) (a':=?_) #[true,true,true,true,true,true,true,true,true] rfl rfl (any_of HT_.out (by kernel_rfl)) (fun _ _ _ h=>h) (Or.inl ⟨by rfl,?_⟩) ?_ ?_
      rotate_left
      ·intro w'
       go_simp
       with_reducible rfl
      rotate_left
      ·simp only [Act.put,List.setIfInBounds_toArray,List.set_cons_zero,List.set_cons_succ,i64_w,i32_w]
       rfl
      refine done_ (done_of HT_.out (by kernel_rfl)) ?_
      try go_wp2
      go_ret2
      exact ⟨_,by first|rfl|(simp [errW_none,errW_some]<;>rfl)|(simp only [← hji5];first|rfl|(simp [errW_none,errW_some]<;>rfl))|(simp [*,errW_none,errW_some]<;>rfl),by first|exact Kd.R_nil _ _ _ _ _|exact Kd.N_nil _ _ _ _ _|exact Kd.V_nil _ _ _ _ _|exact Kd.Q_nil _ _ _ _ _|exact Kd.S_nil _ _ _ _ _,by repeat (first|(with_reducible first|exact HB.out|apply below_alloc|apply pw_below_drewN|apply below_drew1)|exact HB.out)⟩
    ·rw [if_neg c7] at H
     exact absurd H (by simp)
   ·rw [if_neg c6] at H
    exact absurd H (by simp)
  ·replace c4:=Bool.eq_false_iff.mpr c4
   subst c4
   have H1:(some (([]:List ByteArray),6))=some (r1,r2):=by rw [if_neg (show ¬ (false=true) by decide)] at H;exact H
   clear H
   have H:=H1
   clear H1
   simp only [Option.some.injEq,Prod.mk.injEq] at H
   obtain ⟨rfl,rfl⟩:=H
   go_enter Tryd.func20,Tryd.ntmps20
   go_wp2_with (first|((with_reducible refine gate_callee (f:=28) rfl ?_);refine goesL_ (some 20) rfl rfl Tryd.func28 (by kernel_rfl) rfl #[.string a0,.string (⟨#[115,101,97,108]⟩:ByteArray)] rfl (by (try simp only [List.map_toArray,List.map_cons,List.map_nil]);first|done|rfl|(simp only [List.length_drop,List.length_take];rfl)) ?_;(with_reducible refine (strings_HasPrefix.calls a0 (⟨#[115,101,97,108]⟩:ByteArray) false _ A3.out).mono ?_);rintro e w' ⟨rfl,⟨nd,rfl⟩⟩;refine ⟨_,rfl,?_⟩))
   go_ret2
   exact ⟨_,by first|rfl|(simp [errW_none,errW_some]<;>rfl)|(simp [*,errW_none,errW_some]<;>rfl),by first|exact Kd.R_nil _ _ _ _ _|exact Kd.N_nil _ _ _ _ _|exact Kd.V_nil _ _ _ _ _|exact Kd.Q_nil _ _ _ _ _|exact Kd.S_nil _ _ _ _ _,by repeat (first|(with_reducible first|exact HB.out|apply below_alloc|apply pw_below_drewN|apply below_drew1)|exact HB.out)⟩
end Go.Proofs.YtceedgflpkaclaaDoor.P
