/- The row: whatever the input: true; the input reads as it did. Conditions: the listed variables. Written by wip/top/mk_toplaw.py. -/
import Derived.Test.YthofmfaeccdckaaGreatDoorRows
import Derived.Test.YthofmfaeccdckaaGreatDoorMTop14
import Derived.Test.YthofmfaeccdckaaGreatDoorTie
import Derived.Test.YthofmfaeccdckaaGreatDoorCards
import Derived.LaidMore
import Derived.Stop.Joined
import Derived.SevenTiedAt
import Derived.WalkKit
import Derived.ProofKit
import Derived.OpenShut
import Derived.ShutString
import Derived.ChangeOld
import Derived.Below
import Derived.SizedLaws
import Derived.Lib.SmallJoins
namespace Go.Proofs.YthofmfaeccdckaaGreatDoor.topSays
open Go.ChangeShapes Go.WideShapes Go.ChangeAt Go.RowKit
open Go.ChangeMaps (open_string shut_string)
set_option linter.unusedVariables false
theorem own:ownKnob Tryz.prog.godebug=none:=by kernel_rfl
theorem laidOut:laidOutB Tryz.prog=true:=by kernel_rfl
theorem params:Tryz.f3.params.toList=[31]:=by kernel_rfl
theorem paramsA:Tryz.f3.params=#[31]:=by kernel_rfl
set_option maxRecDepth 100000 in
theorem lifted (os:Os) (started:os.Started) (H:Type) (enc:TypeId×Value→H) :
 ReturnsInHanded {} Tryz.checked os 3 .any (fun w args=>(Rows.topSaysSpec.pre enc Tryz.prog Tryz.f3 [] false w args∧laidMetH Tryz.prog laidSeat w)∧sizedMet enc Tryz.prog Tryz.f3 (OpenSpec.ofChange Rows.topSaysSpec) false w args)
  (Rows.topSaysSpec.post enc Tryz.prog Tryz.f3 false true false false):=by
 refine handed_and_shaped (C:=Tryz.checked) (X:=fun w _=>laidMetH Tryz.prog laidSeat w) (fun _ _ _ hh h=>h.of_heap hh) own started (by kernel_rfl) Tryz.func3
  (ChangeSpec.witness_shaped (enc:=enc) (C:=Tryz.checked) (os:=os) (X:=fun w _=>laidMetH Tryz.prog laidSeat w) false (World.laidAll Tryz.prog os laidSeat) #[.agg #[.slice none 0 0,.string ByteArray.empty,.slice none 0 0,.slice none 0 0,.int .i64 0,.int .i64 0,.int .i64 0,.slice none 0 0,.bool false,.slice none 0 0,.slice none 0 0,.slice none 0 0,.slice none 0 0]] 8 (World.laidAll_os _ _ _) (laid_shaped os _) (by kernel_rfl) (by kernel_rfl) (by kernel_rfl) (laid_met os _)) ?_
 intro W base args ds gs before hval0 hW hcnd hsz0 hL hS _
 have hM:=P.MKeysIn.of_shaped hS
 have hval:∀ (j:Nat) t v,Tryz.f3.params[j]?=some t→args[j]?=some v→Value.okWide Tryz.prog W .any base t v:=hval0
 have hW':=hW
 obtain ⟨p,q,hA0,hV,rfl,hfz,hnd⟩:=hW
 have hA:DataW.TrodAll enc Tryz.prog W 0 (fun _=>true) true Tryz.f3.params.toList args.toList ds p:=hA0
 rw [params] at hA
 rw [paramsA] at hval
 obtain ⟨v0,vs0,d0,ds0,p0,q0,hargs,rfl,rfl,h0,r0⟩:=trodAll_cons hA
 obtain ⟨rfl,rfl,rfl⟩:=trodAll_nil r0
 obtain rfl:args=#[v0]:=by cases args;simp_all
 obtain ⟨rfl,rfl⟩:=trodVars_none hV
 have k0:=h0
 have lt0:∀ x∈p0,x.block<W.heap.size:=by obtain ⟨m,hm⟩:=k0;exact DataW.trod_lt m _ _ _ hm
 obtain ⟨x,cs,rfl,hx,hz,ho⟩:=P.opened_cfg (hval 0 31 v0 rfl rfl) h0
 clear hA0 hval0 hsz0
 refine (P.says_top x hz ho W (keysIn_of_laid hL) (pkeysIn_of_laid hL) hM (skeysIn_of_laid hL) cs hx).mono fun e W' ⟨he,bel⟩=>?_
 subst he
 exact ⟨_,rfl,_,_,_,[],_,[],hW',trodAll_mk1 (shut_bool Tryz.underlying4 _),(trodAll_cons_mk (Below.trod laidOut (by kernel_rfl) (of_decide_eq_true (by kernel_rfl)) k0 bel lt0) trodAll_mk0),rfl,bel.frame _,fun h=>by cases h⟩
theorem over:Rows.topSaysRow.holds Tryz.pinned (OpenSpec.ofChange Rows.topSaysSpec) :=
 OpenClaim.holds_of_wide 3 Tryz.f3 rfl rfl rfl rfl rfl rfl rfl ⟨rfl,rfl,rfl,rfl,rfl⟩ rfl rfl rfl rfl rfl (by kernel_rfl) Tryz.func3 (by kernel_rfl)
  (of_decide_eq_true (by kernel_rfl)) (by unfold Func.isWrapper;first|(rw [if_pos (by decide +kernel)];kernel_rfl)|(rw [if_neg (by decide +kernel)];exact ⟨rfl,rfl⟩))
  (fun os started H enc _=>lifted os started H enc)
theorem proved:Rows.TopSaysCardSaid :=
 Claim7.holds_tied_plain_at .later [] [.data, .data, .data, .data, .widerDeep, .data, .pinned] true (true, "1ae5aa29f7b47f230e2e1403ea14520e6de284a579ede4046e05d96f55be1f22") false
  over (fun _ h=>by cases h) (by kernel_rfl) (fun _ h=>by cases h) topSays_row_tie rfl ⟨rfl,rfl⟩ (by kernel_rfl) rfl
  (fun f fn hf hfn=>by
   obtain rfl : f = 3 := Option.some.inj ((show Tryz.prog.funcNamed "transhipment/transhipmenttop.TopSays" = some 3 by kernel_rfl).symm.trans hf) |>.symm
   obtain rfl:fn=Tryz.f3:=(Option.some.inj (Tryz.func3.symm.trans hfn)).symm
   exact ⟨by kernel_rfl,fun j t ht=>by
    rw [paramsA] at ht
    have hall:(Tryz.f3.params.toList.all fun u=>!Tryz.prog.wantsStandIn u)=true:=by kernel_rfl
    rw [params] at hall
    have hm:=Array.mem_of_getElem? ht
    exact (show Tryz.prog.wantsStandIn t=false by simpa using List.all_eq_true.1 hall t (by simpa using hm))⟩)
  (by kernel_rfl)
#print axioms proved
end Go.Proofs.YthofmfaeccdckaaGreatDoor.topSays
namespace Go.Proofs.YthofmfaeccdckaaGreatDoor
/-- The row, under a short name, for the claim. -/
theorem topSays_holds:Rows.TopSaysCardSaid:=topSays.proved
end Go.Proofs.YthofmfaeccdckaaGreatDoor
