/- What one function of the program computes, as a Lean function, and a proof that its call comes to just that. Conditions: none. Written by wip/ownprint.py. -/
import Derived.Test.YtmngigklmgoibaaP0
import Derived.Test.YtmngigklmgoibaaPlaw01Alive
import Derived.Test.YtmngigklmgoibaaPlaw01Few
import Derived.Test.YtmngigklmgoibaaPFrameLoose
import Derived.Test.YtmngigklmgoibaaPref01Loose
import Derived.Test.YtmngigklmgoibaaPref01Same
import Derived.Test.YtmngigklmgoibaaPref01May
import Derived.Test.YtmngigklmgoibaaPref01Bind
import Derived.Test.YtmngigklmgoibaaFrameBind
namespace Go.Proofs.Ytmngigklmgoibaa.P
open Go.RowKit Go.Proofs.YtmngigklmgoibaaW.PrintWords Go.Proofs.YtmngigklmgoibaaW.PrintLast Go.Proofs.YtmngigklmgoibaaW.PrintMore
attribute [local go_sem] max2_int min2_int max_two min_two max_three min_three max_four min_four   -- for this text's walks alone
set_option linter.unusedVariables false
set_option linter.unusedSimpArgs false

/-! ### transhipmentlaw01_FrameBinds: function 8 -/
def transhipmentlaw01_FrameBinds.j0 : Nat → List ByteArray → ByteArray → Int → Bool → Option (Bool)
  | 0, _, _, _, _ => none
  | k + 1, x0, x5, x6, x45 => if x45 = true then (some false) else ((transhipmentref01_May.f k x0).bind fun t177 => (if t177 = true then (if x6 = 0 then ((transhipmentref01_Bind.f k x0).bind fun t178 => (some (x5.toList == t178.toList))) else (some false)) else (if x6 = 2 then (some (x5.toList == ([] : List UInt8))) else (some false))))
def transhipmentlaw01_FrameBinds.f (k : Nat) (l0 : List ByteArray) (a1 : ByteArray) : Option (Bool) := (transhipmentlaw01_few.f k l0).bind fun t162 => (if 0 ≤ (mn (a1.size : Int) 20000) then (if (mn (a1.size : Int) 20000) ≤ (a1.size : Int) then ((frame_Bind.f k t162).bind fun bt165 => ((frame_Loose.f k (a1.extract 0 ((mn (a1.size : Int) 20000) : Int).toNat)).bind fun bt167 => ((transhipmentref01_Loose.f k (a1.extract 0 ((mn (a1.size : Int) 20000) : Int).toNat)).bind fun bt171 => (if bt167.2 = bt171.2 then ((transhipmentref01_Same.f k bt167.1 bt171.1).bind fun t175 => (if t175 = true then ((transhipmentlaw01_alive.f k).bind fun t176 => (transhipmentlaw01_FrameBinds.j0 k t162 bt165.1 bt165.2 (!t176))) else (transhipmentlaw01_FrameBinds.j0 k t162 bt165.1 bt165.2 true))) else (transhipmentlaw01_FrameBinds.j0 k t162 bt165.1 bt165.2 true))))) else (none)) else (none))
theorem transhipmentlaw01_FrameBinds.mono_l : ∀ k, (∀ y0 y1 y2 y3, LeO (transhipmentlaw01_FrameBinds.j0 k y0 y1 y2 y3) (transhipmentlaw01_FrameBinds.j0 (k + 1) y0 y1 y2 y3))
  | 0 => fun _ _ _ _ r h => by simp [transhipmentlaw01_FrameBinds.j0] at h
  | k + 1 => by
    have ih0 := transhipmentlaw01_FrameBinds.mono_l k
    · intro y0 y1 y2 y3
      unfold transhipmentlaw01_FrameBinds.j0
      repeat' first
      | (with_reducible exact ih0 _ _ _ _)
      | (with_reducible exact frame_Bind.mono _ _)
      | (with_reducible exact frame_Loose.mono _ _)
      | (with_reducible exact transhipmentlaw01_alive.mono _)
      | (with_reducible exact transhipmentlaw01_few.mono _ _)
      | (with_reducible exact transhipmentref01_Bind.mono _ _)
      | (with_reducible exact transhipmentref01_Loose.mono _ _)
      | (with_reducible exact transhipmentref01_May.mono _ _)
      | (with_reducible exact transhipmentref01_Same.mono _ _ _)
      | (with_reducible exact LeO.refl _)
      | (with_reducible exact LeO.none _)
      | (with_reducible refine LeO.ite ?_ ?_)
      | (with_reducible refine LeO.bind ?_ (fun _ => ?_))
      | exact ih0 _ _ _ _
      | exact frame_Bind.mono _ _
      | exact frame_Loose.mono _ _
      | exact transhipmentlaw01_alive.mono _
      | exact transhipmentlaw01_few.mono _ _
      | exact transhipmentref01_Bind.mono _ _
      | exact transhipmentref01_Loose.mono _ _
      | exact transhipmentref01_May.mono _ _
      | exact transhipmentref01_Same.mono _ _ _
      | exact LeO.none _
      | refine LeO.ite ?_ ?_
      | refine LeO.bind ?_ (fun _ => ?_)
theorem transhipmentlaw01_FrameBinds.mono : ∀ a0 a1 k, LeO (transhipmentlaw01_FrameBinds.f k a0 a1) (transhipmentlaw01_FrameBinds.f (k + 1) a0 a1) := by
  intro a0 a1 k
  have ih0 := transhipmentlaw01_FrameBinds.mono_l k
  unfold transhipmentlaw01_FrameBinds.f
  repeat' first
      | (with_reducible exact ih0 _ _ _ _)
      | (with_reducible exact frame_Bind.mono _ _)
      | (with_reducible exact frame_Loose.mono _ _)
      | (with_reducible exact transhipmentlaw01_alive.mono _)
      | (with_reducible exact transhipmentlaw01_few.mono _ _)
      | (with_reducible exact transhipmentref01_Bind.mono _ _)
      | (with_reducible exact transhipmentref01_Loose.mono _ _)
      | (with_reducible exact transhipmentref01_May.mono _ _)
      | (with_reducible exact transhipmentref01_Same.mono _ _ _)
      | (with_reducible exact LeO.refl _)
      | (with_reducible exact LeO.none _)
      | (with_reducible refine LeO.ite ?_ ?_)
      | (with_reducible refine LeO.bind ?_ (fun _ => ?_))
      | exact ih0 _ _ _ _
      | exact frame_Bind.mono _ _
      | exact frame_Loose.mono _ _
      | exact transhipmentlaw01_alive.mono _
      | exact transhipmentlaw01_few.mono _ _
      | exact transhipmentref01_Bind.mono _ _
      | exact transhipmentref01_Loose.mono _ _
      | exact transhipmentref01_May.mono _ _
      | exact transhipmentref01_Same.mono _ _ _
      | exact LeO.none _
      | refine LeO.ite ?_ ?_
      | refine LeO.bind ?_ (fun _ => ?_)
def transhipmentlaw01_FrameBinds.T1 : Bool × List (List Nat × List Nat) := (true, [([], []), ([0], [0]), ([], []), ([], []), ([3], [3]), ([4], [4]), ([2, 5], [2, 5]), ([1, 1, 0, 1], [0, 1]), ([6, 7, 0, 1, 2, 3, 4, 5, 6, 7], [2, 3, 6])])
def transhipmentlaw01_FrameBinds.B1 : List Nat := [0, 1, 0, 0, 8, 24, 60, 3, 255]
theorem transhipmentlaw01_FrameBinds.tab1 : rtab .any (opsOf Try.f8 1) = transhipmentlaw01_FrameBinds.T1 := by kernel_rfl
theorem transhipmentlaw01_FrameBinds.bits1 : waitsOk transhipmentlaw01_FrameBinds.T1.2 transhipmentlaw01_FrameBinds.B1 = true := by kernel_rfl
set_option maxHeartbeats 8000000 in
set_option maxRecDepth 100000 in
theorem transhipmentlaw01_FrameBinds.calls (k : Nat) (A0 : Option Addr) (c0 : Nat) (l0 : List ByteArray) (a1 : ByteArray) (r : Bool) (w : World) (hr0 : Kd.C Kd.string w A0 l0.length l0) (hc0 : l0.length ≤ c0) (h : transhipmentlaw01_FrameBinds.f k l0 a1 = some r) :
    Calls Try.prog 8 #[.slice A0 l0.length c0, .string a1] w fun e w' => e = .returned (.bool r) ∧ Below w.heap.size w w' := by
  have HR0 := Aside0.mk hr0
  have HC0 := Aside0.mk hc0
  clear hr0 hc0
  have HB := Aside0.mk (Below.refl w.heap.size w)
  have H : ((transhipmentlaw01_few.f k l0).bind fun t162 => (if 0 ≤ (mn (a1.size : Int) 20000) then (if (mn (a1.size : Int) 20000) ≤ (a1.size : Int) then ((frame_Bind.f k t162).bind fun bt165 => ((frame_Loose.f k (a1.extract 0 ((mn (a1.size : Int) 20000) : Int).toNat)).bind fun bt167 => ((transhipmentref01_Loose.f k (a1.extract 0 ((mn (a1.size : Int) 20000) : Int).toNat)).bind fun bt171 => (if bt167.2 = bt171.2 then ((transhipmentref01_Same.f k bt167.1 bt171.1).bind fun t175 => (if t175 = true then ((transhipmentlaw01_alive.f k).bind fun t176 => (transhipmentlaw01_FrameBinds.j0 k t162 bt165.1 bt165.2 (!t176))) else (transhipmentlaw01_FrameBinds.j0 k t162 bt165.1 bt165.2 true))) else (transhipmentlaw01_FrameBinds.j0 k t162 bt165.1 bt165.2 true))))) else (none)) else (none))) = some r := h
  clear h
  replace H := Option.bind_eq_some_iff.mp H
  obtain ⟨t162, A30, H⟩ := H
  replace H : (if 0 ≤ (mn (a1.size : Int) 20000) then (if (mn (a1.size : Int) 20000) ≤ (a1.size : Int) then ((frame_Bind.f k t162).bind fun bt165 => ((frame_Loose.f k (a1.extract 0 ((mn (a1.size : Int) 20000) : Int).toNat)).bind fun bt167 => ((transhipmentref01_Loose.f k (a1.extract 0 ((mn (a1.size : Int) 20000) : Int).toNat)).bind fun bt171 => (if bt167.2 = bt171.2 then ((transhipmentref01_Same.f k bt167.1 bt171.1).bind fun t175 => (if t175 = true then ((transhipmentlaw01_alive.f k).bind fun t176 => (transhipmentlaw01_FrameBinds.j0 k t162 bt165.1 bt165.2 (!t176))) else (transhipmentlaw01_FrameBinds.j0 k t162 bt165.1 bt165.2 true))) else (transhipmentlaw01_FrameBinds.j0 k t162 bt165.1 bt165.2 true))))) else (none)) else (none)) = some r := H
  have A3 := Aside0.mk A30
  clear A30
  obtain ⟨ji4, hji4⟩ : ∃ j_ : Int, (mn (a1.size : Int) 20000) = j_ := ⟨_, rfl⟩
  replace H : (if 0 ≤ (ji4) then (if (ji4) ≤ (a1.size : Int) then ((frame_Bind.f k t162).bind fun bt165 => ((frame_Loose.f k (a1.extract 0 ((ji4) : Int).toNat)).bind fun bt167 => ((transhipmentref01_Loose.f k (a1.extract 0 ((ji4) : Int).toNat)).bind fun bt171 => (if bt167.2 = bt171.2 then ((transhipmentref01_Same.f k bt167.1 bt171.1).bind fun t175 => (if t175 = true then ((transhipmentlaw01_alive.f k).bind fun t176 => (transhipmentlaw01_FrameBinds.j0 k t162 bt165.1 bt165.2 (!t176))) else (transhipmentlaw01_FrameBinds.j0 k t162 bt165.1 bt165.2 true))) else (transhipmentlaw01_FrameBinds.j0 k t162 bt165.1 bt165.2 true))))) else (none)) else (none)) = some r := by first | (rw [hji4] at H; exact H) | (simp only [hji4] at H ⊢; exact H)
  (try rw [hji4] at A3)
  (try (have hji4h : ji4 ≤ 20000 := by (rw [← hji4]; unfold mn; (repeat' split) <;> omega)))
  (try (have hji4g : ji4 ≤ 64 := by omega))
  (try (have hji4l : 0 ≤ ji4 := by (rw [← hji4]; unfold mn; (repeat' split) <;> omega)))
  (try (have hji4m : 0 ≤ ji4 := by omega))
  have hji4_ : (if 20000 < (a1.size : Int) then 20000 else (a1.size : Int)) = ji4 := hji4
  by_cases c5 : 0 ≤ (ji4)
  · rw [if_pos c5] at H
    have c5b0 := eq_true c5
    have c5b1 : decide (0 ≤ (ji4)) = true := decide_eq_true c5
    clear c5
    by_cases c6 : (ji4) ≤ (a1.size : Int)
    · rw [if_pos c6] at H
      have c6b0 := eq_true c6
      have c6b1 : decide ((ji4) ≤ (a1.size : Int)) = true := decide_eq_true c6
      clear c6
      replace H := Option.bind_eq_some_iff.mp H
      obtain ⟨⟨t165, t166⟩, A70, H⟩ := H
      replace H : ((frame_Loose.f k (a1.extract 0 ((ji4) : Int).toNat)).bind fun bt167 => ((transhipmentref01_Loose.f k (a1.extract 0 ((ji4) : Int).toNat)).bind fun bt171 => (if bt167.2 = bt171.2 then ((transhipmentref01_Same.f k bt167.1 bt171.1).bind fun t175 => (if t175 = true then ((transhipmentlaw01_alive.f k).bind fun t176 => (transhipmentlaw01_FrameBinds.j0 k t162 t165 t166 (!t176))) else (transhipmentlaw01_FrameBinds.j0 k t162 t165 t166 true))) else (transhipmentlaw01_FrameBinds.j0 k t162 t165 t166 true)))) = some r := H
      have A7 := Aside0.mk A70
      clear A70
      replace H := Option.bind_eq_some_iff.mp H
      obtain ⟨⟨t167, t168⟩, A80, H⟩ := H
      replace H : ((transhipmentref01_Loose.f k (a1.extract 0 ((ji4) : Int).toNat)).bind fun bt171 => (if t168 = bt171.2 then ((transhipmentref01_Same.f k t167 bt171.1).bind fun t175 => (if t175 = true then ((transhipmentlaw01_alive.f k).bind fun t176 => (transhipmentlaw01_FrameBinds.j0 k t162 t165 t166 (!t176))) else (transhipmentlaw01_FrameBinds.j0 k t162 t165 t166 true))) else (transhipmentlaw01_FrameBinds.j0 k t162 t165 t166 true))) = some r := H
      have A8 := Aside0.mk A80
      clear A80
      replace H := Option.bind_eq_some_iff.mp H
      obtain ⟨⟨t171, t172⟩, A90, H⟩ := H
      replace H : (if t168 = t172 then ((transhipmentref01_Same.f k t167 t171).bind fun t175 => (if t175 = true then ((transhipmentlaw01_alive.f k).bind fun t176 => (transhipmentlaw01_FrameBinds.j0 k t162 t165 t166 (!t176))) else (transhipmentlaw01_FrameBinds.j0 k t162 t165 t166 true))) else (transhipmentlaw01_FrameBinds.j0 k t162 t165 t166 true)) = some r := H
      have A9 := Aside0.mk A90
      clear A90
      have HC10 := Aside0.mk H
      clear H
      go_enter Try.func8, Try.ntmps8
      try go_wp2
      have n0_ := Aside0.mk (below_drew1 HB.out)
      clear HB
      have HB := n0_
      clear n0_
      refine start_ (n := 9) (S := fun w' => True) (ds := []) #[false, false, false, false, false, false, false, false, false] (by kernel_rfl) rfl rfl trivial (fun hHeld => ?_); refine with_tabW transhipmentlaw01_FrameBinds.tab1 transhipmentlaw01_FrameBinds.bits1 (fun HT_ HW_ => ?_)
      generalize w.drew = w11 at HB hHeld ⊢
      refine pure_ (i := 0) (N := some 11) (v := ?_) (a' := ?_) #[true, false, false, false, false, false, false, false, false] rfl rfl (any_of HT_.out (by kernel_rfl)) (fun _ _ _ h => h) (Or.inl ⟨by rfl, ?_⟩) ?_ ?_
      rotate_left
      · intro w'
        go_simp
        with_reducible rfl
      rotate_left
      · simp only [Act.put, List.setIfInBounds_toArray, List.set_cons_zero, List.set_cons_succ, i64_w, i32_w]
        rfl
      refine pure_ (i := 2) (N := some 13) (v := ?_) (a' := ?_) #[true, false, true, false, false, false, false, false, false] rfl rfl (any_of HT_.out (by kernel_rfl)) (fun _ _ _ h => h) (Or.inl ⟨by rfl, ?_⟩) ?_ ?_
      rotate_left
      · intro w'
        go_simp
        with_reducible rfl
      rotate_left
      · simp only [Act.put, List.setIfInBounds_toArray, List.set_cons_zero, List.set_cons_succ, i64_w, i32_w]
        rfl
      refine pure_ (i := 3) (N := some 14) (v := ?_) (a' := ?_) #[true, false, true, true, false, false, false, false, false] rfl rfl (any_of HT_.out (by kernel_rfl)) (fun _ _ _ h => h) (Or.inl ⟨by rfl, ?_⟩) ?_ ?_
      rotate_left
      · intro w'
        go_simp
        with_reducible rfl
      rotate_left
      · simp only [Act.put, List.setIfInBounds_toArray, List.set_cons_zero, List.set_cons_succ, i64_w, i32_w]
        rfl
      refine pure_ (i := 4) (N := some 15) (v := ?_) (a' := ?_) #[true, false, true, true, true, false, false, false, false] rfl rfl (any_of HT_.out (by kernel_rfl)) (fun _ _ _ h => h) (Or.inl ⟨by rfl, ?_⟩) ?_ ?_
      rotate_left
      · intro w'
        go_simp
        with_reducible rfl
      rotate_left
      · simp only [Act.put, List.setIfInBounds_toArray, List.set_cons_zero, List.set_cons_succ, i64_w, i32_w]
        rfl
      refine pure_ (i := 5) (N := some 16) (v := ?_) (a' := ?_) #[true, false, true, true, true, true, false, false, false] rfl rfl (any_of HT_.out (by kernel_rfl)) (fun _ _ _ h => h) (Or.inl ⟨by rfl, ?_⟩) ?_ ?_
      rotate_left
      · intro w'
        go_simp
        with_reducible rfl
      rotate_left
      · simp only [Act.put, List.setIfInBounds_toArray, List.set_cons_zero, List.set_cons_succ, i64_w, i32_w]
        rfl
      refine pure_ (i := 6) (N := some 17) (v := ?_) (a' := ?_) #[true, false, true, true, true, true, true, false, false] rfl rfl (any_of HT_.out (by kernel_rfl)) (fun _ _ _ h => h) (Or.inl ⟨by rfl, ?_⟩) ?_ ?_
      rotate_left
      · intro w'
        go_simp
        with_reducible rfl
      rotate_left
      · simp only [Act.put, List.setIfInBounds_toArray, List.set_cons_zero, List.set_cons_succ, i64_w, i32_w]
        rfl
      refine one_ (i := 1) (N := some 12) #[true, true, true, true, true, true, true, false, false] rfl rfl (one_of HT_.out (by kernel_rfl)) (by decide) (fun K hK => ?_)
      refine goes_ Try.func18 (by kernel_rfl) rfl #[.slice A0 l0.length c0] (by rfl) rfl rfl (by (try simp only [List.map_toArray, List.map_cons, List.map_nil]); first | done | rfl | (simp only [List.length_drop, List.length_take]; rfl)) ?_
      with_reducible refine (transhipmentlaw01_few.calls k _ _ l0 t162 _ ?side1 ?side2 A3.out).mono ?_
      (case side1 => repeat (first | exact (Kd.C_below HR0.out HB.out) | (with_reducible refine Kd.C_alloc ?_ _) | (with_reducible refine Kd.C_drewN ?_ _) | (with_reducible refine Kd.C_drew ?_)))
      (case side2 => exact HC0.out)
      rintro e w12 ⟨v163, rfl, ho0, hb⟩
      refine ⟨_, rfl, ?_⟩
      have n0_ := Aside0.mk (Kd.R_lower ho0 (below_size (by repeat (first | (with_reducible first | exact HB.out | apply below_alloc | apply pw_below_drewN | apply below_drew1) | exact HB.out))))
      have n1_ := Aside0.mk (below_step (by repeat (first | (with_reducible first | exact HB.out | apply below_alloc | apply pw_below_drewN | apply below_drew1) | exact HB.out)) hb)
      clear HB
      have HO164 := n0_
      have HB := n1_
      clear n0_ n1_
      (try clear hb)
      (try clear hb2)
      (try clear hk)
      (try clear hi)
      (try clear ho0)
      refine hK.out _ _ trivial (fun hHeld => ?_)
      clear hK K
      refine norm_ (a' := ?_) ?_ ?_
      rotate_left
      · show Act.put _ (some 12) _ = _
        simp only [Act.put, List.setIfInBounds_toArray, List.set_cons_zero, List.set_cons_succ, i64_w, i32_w]
        rfl
      refine pure_ (i := 7) (N := some 0) (v := ?_) (a' := ?_) #[true, true, true, true, true, true, true, true, false] rfl rfl (any_of HT_.out (by kernel_rfl)) (fun _ _ _ h => h) (Or.inl ⟨by rfl, ?_⟩) ?_ ?_
      rotate_left
      · intro w'
        go_simp
        with_reducible rfl
      rotate_left
      · simp only [Act.put, List.setIfInBounds_toArray, List.set_cons_zero, List.set_cons_succ, i64_w, i32_w]
        rfl
      refine pure_ (i := 8) (N := some 1) (v := ?_) (a' := ?_) #[true, true, true, true, true, true, true, true, true] rfl rfl (any_of HT_.out (by kernel_rfl)) (fun _ _ _ h => h) (Or.inl ⟨by rfl, ?_⟩) ?_ ?_
      rotate_left
      · intro w'
        go_simp
        with_reducible rfl
      rotate_left
      · simp only [Act.put, List.setIfInBounds_toArray, List.set_cons_zero, List.set_cons_succ, i64_w, i32_w]
        rfl
      refine done_ (done_of HT_.out (by kernel_rfl)) ?_
      obtain ⟨Ao13, co13, eo13⟩ := Kd.R_slice HO164.out
      subst eo13
      go_upto_region 5 with (first | ((with_reducible refine gate_callee (f := 19) rfl ?_); refine goesL_ (some 20) rfl rfl Try.func19 (by kernel_rfl) rfl #[.slice Ao13 t162.length co13] rfl (by (try simp only [List.map_toArray, List.map_cons, List.map_nil]); first | done | rfl | (simp only [List.length_drop, List.length_take]; rfl)) ?_; (with_reducible refine (frame_Bind.calls k _ _ t162 t165 t166 _ ?side1 ?side2 A7.out).mono ?_); (case side1 => repeat (first | exact (Kd.R_reads' HO164.out).2.2 | (with_reducible refine Kd.C_alloc ?_ _) | (with_reducible refine Kd.C_drewN ?_ _) | (with_reducible refine Kd.C_drew ?_))); (case side2 => exact (Kd.R_reads' HO164.out).2.1); rintro e w14 ⟨rfl, hb⟩; refine ⟨_, rfl, ?_⟩; have n0_ := Aside0.mk (Kd.R_below (by (with_reducible repeat (first | apply Kd.R_alloc | apply Kd.R_drewN | apply Kd.R_drew)); exact HO164.out) hb); have n1_ := Aside0.mk (below_step (by repeat (first | (with_reducible first | exact HB.out | apply below_alloc | apply pw_below_drewN | apply below_drew1) | exact HB.out)) hb); clear HO164; clear HB; have HO164 := n0_; have HB := n1_; clear n0_ n1_; (try clear hb); (try clear hb2); (try clear hk); (try clear hi)) | ((with_reducible refine gate_callee (f := 20) rfl ?_); refine goesL_ (some 25) rfl rfl Try.func20 (by kernel_rfl) rfl #[.string (a1.extract 0 ((ji4) : Int).toNat)] rfl (by (try simp only [List.map_toArray, List.map_cons, List.map_nil]); first | done | (simp only [hji4]; rfl) | rfl | (simp only [List.length_drop, List.length_take]; rfl)) ?_; (with_reducible refine (frame_Loose.calls k (a1.extract 0 ((ji4) : Int).toNat) t167 t168 _ A8.out).mono ?_); rintro e w15 ⟨v169, rfl, ho0, hb⟩; refine ⟨_, rfl, ?_⟩; have n0_ := Aside0.mk (Kd.R_elder' (by (with_reducible repeat (first | apply Kd.R_alloc | apply Kd.R_drewN | apply Kd.R_drew)); exact HO164.out) (Kd.R_base ho0) hb); have n1_ := Aside0.mk (Kd.R_lower (Kd.R_new' ho0 (Kd.R_lt (by (with_reducible repeat (first | apply Kd.R_alloc | apply Kd.R_drewN | apply Kd.R_drew)); exact HO164.out))) (below_size (by repeat (first | (with_reducible first | exact HB.out | apply below_alloc | apply pw_below_drewN | apply below_drew1) | exact HB.out)))); have n2_ := Aside0.mk (below_step (by repeat (first | (with_reducible first | exact HB.out | apply below_alloc | apply pw_below_drewN | apply below_drew1) | exact HB.out)) hb); clear HO164; clear HB; have HO164 := n0_; have HO170 := n1_; have HB := n2_; clear n0_ n1_ n2_; (try clear hb); (try clear hb2); (try clear hk); (try clear hi); (try clear ho0)) | ((with_reducible refine gate_callee (f := 21) rfl ?_); refine goesL_ (some 30) rfl rfl Try.func21 (by kernel_rfl) rfl #[.string (a1.extract 0 ((ji4) : Int).toNat)] rfl (by (try simp only [List.map_toArray, List.map_cons, List.map_nil]); first | done | (simp only [hji4]; rfl) | rfl | (simp only [List.length_drop, List.length_take]; rfl)) ?_; (with_reducible refine (transhipmentref01_Loose.calls k (a1.extract 0 ((ji4) : Int).toNat) t171 t172 _ A9.out).mono ?_); rintro e w16 ⟨v173, rfl, ho0, hb⟩; refine ⟨_, rfl, ?_⟩; have n0_ := Aside0.mk (Kd.R_elder' (by (with_reducible repeat (first | apply Kd.R_alloc | apply Kd.R_drewN | apply Kd.R_drew)); exact HO164.out) (Kd.R_base ho0) hb); have n1_ := Aside0.mk (Kd.R_elder' (by (with_reducible repeat (first | apply Kd.R_alloc | apply Kd.R_drewN | apply Kd.R_drew)); exact HO170.out) (Kd.R_base ho0) hb); have n2_ := Aside0.mk (Kd.R_lower (Kd.R_new' (Kd.R_new' ho0 (Kd.R_lt (by (with_reducible repeat (first | apply Kd.R_alloc | apply Kd.R_drewN | apply Kd.R_drew)); exact HO164.out))) (Kd.R_lt (by (with_reducible repeat (first | apply Kd.R_alloc | apply Kd.R_drewN | apply Kd.R_drew)); exact HO170.out))) (below_size (by repeat (first | (with_reducible first | exact HB.out | apply below_alloc | apply pw_below_drewN | apply below_drew1) | exact HB.out)))); have n3_ := Aside0.mk (below_step (by repeat (first | (with_reducible first | exact HB.out | apply below_alloc | apply pw_below_drewN | apply below_drew1) | exact HB.out)) hb); clear HO164; clear HO170; clear HB; have HO164 := n0_; have HO170 := n1_; have HO174 := n2_; have HB := n3_; clear n0_ n1_ n2_ n3_; (try clear hb); (try clear hb2); (try clear hk); (try clear hi); (try clear ho0)))
      (try simp only [Act.put, List.setIfInBounds_toArray, List.set_cons_zero, List.set_cons_succ])
      go_cut [45] (fun v45 wc => ∃ (kq : Nat) (x45_9 : Bool), v45 = .bool x45_9 ∧ Aside0 (transhipmentlaw01_FrameBinds.j0 kq t162 t165 t166 x45_9 = some r) ∧ Aside0 (kq ≤ k) ∧ Aside0 (Kd.R Kd.string 9 wc w.heap.size (fun _ => True) (.slice Ao13 t162.length co13) t162) ∧ Aside0 (Below w.heap.size w wc))
      case first =>
        have H := HC10.out
        clear HC10
        by_cases c17 : t168 = t172
        · rw [if_pos c17] at H
          have c17b0 : (t168 == t172) = true := beq_iff_eq.mpr c17
          have c17b1 : (t168 != t172) = false := bne_eq_false_iff_eq.mpr c17
          clear c17
          (first | rw [c17b0] | (simp only [i64_w, i32_w]; rw [c17b0]) | skip)
          replace H := Option.bind_eq_some_iff.mp H
          obtain ⟨t175, A180, H⟩ := H
          replace H : (if t175 = true then ((transhipmentlaw01_alive.f k).bind fun t176 => (transhipmentlaw01_FrameBinds.j0 k t162 t165 t166 (!t176))) else (transhipmentlaw01_FrameBinds.j0 k t162 t165 t166 true)) = some r := H
          have A18 := Aside0.mk A180
          clear A180
          by_cases c19 : t175 = true
          · subst c19
            have H1 : ((transhipmentlaw01_alive.f k).bind fun t176 => (transhipmentlaw01_FrameBinds.j0 k t162 t165 t166 (!t176))) = some r := by rw [if_pos rfl] at H; exact H
            clear H
            have H := H1
            clear H1
            replace H := Option.bind_eq_some_iff.mp H
            obtain ⟨t176, A200, H⟩ := H
            replace H : (transhipmentlaw01_FrameBinds.j0 k t162 t165 t166 (!t176)) = some r := H
            have A20 := Aside0.mk A200
            clear A200
            have H' := Aside0.mk H
            clear H
            obtain ⟨Ao21, co21, eo21⟩ := Kd.R_slice HO170.out
            subst eo21
            obtain ⟨Ao22, co22, eo22⟩ := Kd.R_slice HO174.out
            subst eo22
            go_wp2_with (first | (go_at_call 22; (with_reducible refine (transhipmentref01_Same.calls k _ _ t167 _ _ t171 true _ ?side1 ?side2 ?side3 ?side4 A18.out).mono ?_); (case side1 => repeat (first | exact (Kd.R_reads' HO170.out).2.2 | (with_reducible refine Kd.C_alloc ?_ _) | (with_reducible refine Kd.C_drewN ?_ _) | (with_reducible refine Kd.C_drew ?_))); (case side2 => exact (Kd.R_reads' HO170.out).2.1); (case side3 => repeat (first | exact (Kd.R_reads' HO174.out).2.2 | (with_reducible refine Kd.C_alloc ?_ _) | (with_reducible refine Kd.C_drewN ?_ _) | (with_reducible refine Kd.C_drew ?_))); (case side4 => exact (Kd.R_reads' HO174.out).2.1); rintro e w' ⟨rfl, ⟨nd, rfl⟩⟩) | (go_at_call 12; (with_reducible refine (transhipmentlaw01_alive.calls k  t176 _ A20.out).mono ?_); rintro e w23 ⟨rfl, hb⟩; have n0_ := Aside0.mk (Kd.R_below (by (with_reducible repeat (first | apply Kd.R_alloc | apply Kd.R_drewN | apply Kd.R_drew)); exact HO164.out) hb); have n1_ := Aside0.mk (Kd.R_below (by (with_reducible repeat (first | apply Kd.R_alloc | apply Kd.R_drewN | apply Kd.R_drew)); exact HO170.out) hb); have n2_ := Aside0.mk (Kd.R_below (by (with_reducible repeat (first | apply Kd.R_alloc | apply Kd.R_drewN | apply Kd.R_drew)); exact HO174.out) hb); have n3_ := Aside0.mk (below_step (by repeat (first | (with_reducible first | exact HB.out | apply below_alloc | apply pw_below_drewN | apply below_drew1) | exact HB.out)) hb); clear HO164; clear HO170; clear HO174; clear HB; have HO164 := n0_; have HO170 := n1_; have HO174 := n2_; have HB := n3_; clear n0_ n1_ n2_ n3_; (try clear hb); (try clear hb2); (try clear hk); (try clear hi)))
            go_meet
            case rel => exact ⟨_, (!t176), (by first | rfl | (simp; done) | (simp [*]; done)), H', ⟨by first | omega | exact Nat.le_refl _⟩, ⟨by (with_reducible repeat (first | apply Kd.R_alloc | apply Kd.R_drewN | apply Kd.R_drew)); exact Kd.R_mono HO164.out (fun _ hk => trivial)⟩, ⟨by repeat (first | (with_reducible first | exact HB.out | apply below_alloc | apply pw_below_drewN | apply below_drew1) | exact HB.out)⟩⟩
          · replace c19 := Bool.eq_false_iff.mpr c19
            subst c19
            have H1 : (transhipmentlaw01_FrameBinds.j0 k t162 t165 t166 true) = some r := by rw [if_neg (show ¬ (false = true) by decide)] at H; exact H
            clear H
            have H := H1
            clear H1
            have H' := Aside0.mk H
            clear H
            obtain ⟨Ao24, co24, eo24⟩ := Kd.R_slice HO170.out
            subst eo24
            obtain ⟨Ao25, co25, eo25⟩ := Kd.R_slice HO174.out
            subst eo25
            go_wp2_with (first | (go_at_call 22; (with_reducible refine (transhipmentref01_Same.calls k _ _ t167 _ _ t171 false _ ?side1 ?side2 ?side3 ?side4 A18.out).mono ?_); (case side1 => repeat (first | exact (Kd.R_reads' HO170.out).2.2 | (with_reducible refine Kd.C_alloc ?_ _) | (with_reducible refine Kd.C_drewN ?_ _) | (with_reducible refine Kd.C_drew ?_))); (case side2 => exact (Kd.R_reads' HO170.out).2.1); (case side3 => repeat (first | exact (Kd.R_reads' HO174.out).2.2 | (with_reducible refine Kd.C_alloc ?_ _) | (with_reducible refine Kd.C_drewN ?_ _) | (with_reducible refine Kd.C_drew ?_))); (case side4 => exact (Kd.R_reads' HO174.out).2.1); rintro e w' ⟨rfl, ⟨nd, rfl⟩⟩))
            go_meet
            case rel => exact ⟨_, (true), (by first | rfl | (simp; done) | (simp [*]; done)), H', ⟨by first | omega | exact Nat.le_refl _⟩, ⟨by (with_reducible repeat (first | apply Kd.R_alloc | apply Kd.R_drewN | apply Kd.R_drew)); exact Kd.R_mono HO164.out (fun _ hk => trivial)⟩, ⟨by repeat (first | (with_reducible first | exact HB.out | apply below_alloc | apply pw_below_drewN | apply below_drew1) | exact HB.out)⟩⟩
        · rw [if_neg c17] at H
          have c17b0 : (t168 == t172) = false := beq_eq_false_iff_ne.mpr c17
          have c17b1 : (t168 != t172) = true := bne_iff_ne.mpr c17
          (first | rw [c17b0] | (simp only [i64_w, i32_w]; rw [c17b0]) | skip)
          have H' := Aside0.mk H
          clear H
          go_wp2
          go_meet
          case rel => exact ⟨_, (true), (by first | rfl | (simp; done) | (simp [*]; done)), H', ⟨by first | omega | exact Nat.le_refl _⟩, ⟨by (with_reducible repeat (first | apply Kd.R_alloc | apply Kd.R_drewN | apply Kd.R_drew)); exact Kd.R_mono HO164.out (fun _ hk => trivial)⟩, ⟨by repeat (first | (with_reducible first | exact HB.out | apply below_alloc | apply pw_below_drewN | apply below_drew1) | exact HB.out)⟩⟩
      case rest =>
        clear HC10
        try clear c1
        try clear c2
        try clear p2
        try clear c5
        try clear c5b0
        try clear c5b1
        try clear c6
        try clear c6b0
        try clear c6b1
        try clear c8
        try clear c17
        try clear c17b0
        try clear c17b1
        try clear c18
        try clear c19
        try clear c20
        try clear c21
        obtain ⟨kq, x45_9, rfl, HA, HJ9, HO_0, HB⟩ := hcut
        cases kq with
        | zero => exact absurd HA.out (by simp [transhipmentlaw01_FrameBinds.j0])
        | succ kj9 =>
          have H := HA.out
          clear HA
          simp only [transhipmentlaw01_FrameBinds.j0] at H
          by_cases c26 : x45_9 = true
          · subst c26
            have H1 : (some false) = some r := by rw [if_pos rfl] at H; exact H
            clear H
            have H := H1
            clear H1
            obtain rfl := Option.some.inj H
            go_wp2
            go_ret
            exact ⟨by first | rfl | (simp [errW_none, errW_some] <;> rfl) | (simp only [← hji4]; first | rfl | (simp [errW_none, errW_some] <;> rfl)) | (simp [*, errW_none, errW_some] <;> rfl), by repeat (first | (with_reducible first | exact HB.out | apply below_alloc | apply pw_below_drewN | apply below_drew1) | exact HB.out)⟩
          · replace c26 := Bool.eq_false_iff.mpr c26
            subst c26
            have H1 : ((transhipmentref01_May.f kj9 t162).bind fun t177 => (if t177 = true then (if t166 = 0 then ((transhipmentref01_Bind.f kj9 t162).bind fun t178 => (some (t165.toList == t178.toList))) else (some false)) else (if t166 = 2 then (some (t165.toList == ([] : List UInt8))) else (some false)))) = some r := by rw [if_neg (show ¬ (false = true) by decide)] at H; exact H
            clear H
            have H := H1
            clear H1
            replace H := Option.bind_eq_some_iff.mp H
            obtain ⟨t177, A270, H⟩ := H
            replace H : (if t177 = true then (if t166 = 0 then ((transhipmentref01_Bind.f kj9 t162).bind fun t178 => (some (t165.toList == t178.toList))) else (some false)) else (if t166 = 2 then (some (t165.toList == ([] : List UInt8))) else (some false))) = some r := H
            have A27 := Aside0.mk A270
            clear A270
            by_cases c28 : t177 = true
            · subst c28
              have H1 : (if t166 = 0 then ((transhipmentref01_Bind.f kj9 t162).bind fun t178 => (some (t165.toList == t178.toList))) else (some false)) = some r := by rw [if_pos rfl] at H; exact H
              clear H
              have H := H1
              clear H1
              by_cases c29 : t166 = 0
              · rw [if_pos c29] at H
                have c29b0 : (t166 == 0) = true := beq_iff_eq.mpr c29
                have c29b1 : (t166 != 0) = false := bne_eq_false_iff_eq.mpr c29
                clear c29
                replace H := Option.bind_eq_some_iff.mp H
                obtain ⟨t178, A300, H⟩ := H
                replace H : (some (t165.toList == t178.toList)) = some r := H
                have A30 := Aside0.mk A300
                clear A300
                obtain rfl := Option.some.inj H
                go_wp2_with (first | ((with_reducible refine gate_callee (f := 23) rfl ?_); refine goesL_ (some 47) rfl rfl Try.func23 (by kernel_rfl) rfl #[.slice Ao13 t162.length co13] rfl (by (try simp only [List.map_toArray, List.map_cons, List.map_nil]); first | done | rfl | (simp only [List.length_drop, List.length_take]; rfl)) ?_; (with_reducible refine (transhipmentref01_May.calls kj9 _ _ t162 true _ ?side1 ?side2 A27.out).mono ?_); (case side1 => repeat (first | exact (Kd.R_reads' HO_0.out).2.2 | (with_reducible refine Kd.C_alloc ?_ _) | (with_reducible refine Kd.C_drewN ?_ _) | (with_reducible refine Kd.C_drew ?_))); (case side2 => exact (Kd.R_reads' HO_0.out).2.1); rintro e w' ⟨rfl, ⟨nd, rfl⟩⟩; refine ⟨_, rfl, ?_⟩) | (go_at_call 24; (with_reducible refine (transhipmentref01_Bind.calls kj9 _ _ t162 t178 _ ?side1 ?side2 A30.out).mono ?_); (case side1 => repeat (first | exact (Kd.R_reads' HO_0.out).2.2 | (with_reducible refine Kd.C_alloc ?_ _) | (with_reducible refine Kd.C_drewN ?_ _) | (with_reducible refine Kd.C_drew ?_))); (case side2 => exact (Kd.R_reads' HO_0.out).2.1); rintro e w31 ⟨rfl, hb⟩; have n0_ := Aside0.mk (Kd.R_below (by (with_reducible repeat (first | apply Kd.R_alloc | apply Kd.R_drewN | apply Kd.R_drew)); exact HO_0.out) hb); have n1_ := Aside0.mk (below_step (by repeat (first | (with_reducible first | exact HB.out | apply below_alloc | apply pw_below_drewN | apply below_drew1) | exact HB.out)) hb); clear HO_0; clear HB; have HO_0 := n0_; have HB := n1_; clear n0_ n1_; (try clear hb); (try clear hb2); (try clear hk); (try clear hi)))
                go_ret
                exact ⟨by first | rfl | (simp [errW_none, errW_some] <;> rfl) | (simp only [← hji4]; first | rfl | (simp [errW_none, errW_some] <;> rfl)) | (simp [*, errW_none, errW_some] <;> rfl), by repeat (first | (with_reducible first | exact HB.out | apply below_alloc | apply pw_below_drewN | apply below_drew1) | exact HB.out)⟩
              · rw [if_neg c29] at H
                have c29b0 : (t166 == 0) = false := beq_eq_false_iff_ne.mpr c29
                have c29b1 : (t166 != 0) = true := bne_iff_ne.mpr c29
                obtain rfl := Option.some.inj H
                go_wp2_with (first | ((with_reducible refine gate_callee (f := 23) rfl ?_); refine goesL_ (some 47) rfl rfl Try.func23 (by kernel_rfl) rfl #[.slice Ao13 t162.length co13] rfl (by (try simp only [List.map_toArray, List.map_cons, List.map_nil]); first | done | rfl | (simp only [List.length_drop, List.length_take]; rfl)) ?_; (with_reducible refine (transhipmentref01_May.calls kj9 _ _ t162 true _ ?side1 ?side2 A27.out).mono ?_); (case side1 => repeat (first | exact (Kd.R_reads' HO_0.out).2.2 | (with_reducible refine Kd.C_alloc ?_ _) | (with_reducible refine Kd.C_drewN ?_ _) | (with_reducible refine Kd.C_drew ?_))); (case side2 => exact (Kd.R_reads' HO_0.out).2.1); rintro e w' ⟨rfl, ⟨nd, rfl⟩⟩; refine ⟨_, rfl, ?_⟩))
                go_ret
                exact ⟨by first | rfl | (simp [errW_none, errW_some] <;> rfl) | (simp only [← hji4]; first | rfl | (simp [errW_none, errW_some] <;> rfl)) | (simp [*, errW_none, errW_some] <;> rfl), by repeat (first | (with_reducible first | exact HB.out | apply below_alloc | apply pw_below_drewN | apply below_drew1) | exact HB.out)⟩
            · replace c28 := Bool.eq_false_iff.mpr c28
              subst c28
              have H1 : (if t166 = 2 then (some (t165.toList == ([] : List UInt8))) else (some false)) = some r := by rw [if_neg (show ¬ (false = true) by decide)] at H; exact H
              clear H
              have H := H1
              clear H1
              by_cases c32 : t166 = 2
              · rw [if_pos c32] at H
                have c32b0 : (t166 == 2) = true := beq_iff_eq.mpr c32
                have c32b1 : (t166 != 2) = false := bne_eq_false_iff_eq.mpr c32
                clear c32
                obtain rfl := Option.some.inj H
                go_wp2_with (first | ((with_reducible refine gate_callee (f := 23) rfl ?_); refine goesL_ (some 47) rfl rfl Try.func23 (by kernel_rfl) rfl #[.slice Ao13 t162.length co13] rfl (by (try simp only [List.map_toArray, List.map_cons, List.map_nil]); first | done | rfl | (simp only [List.length_drop, List.length_take]; rfl)) ?_; (with_reducible refine (transhipmentref01_May.calls kj9 _ _ t162 false _ ?side1 ?side2 A27.out).mono ?_); (case side1 => repeat (first | exact (Kd.R_reads' HO_0.out).2.2 | (with_reducible refine Kd.C_alloc ?_ _) | (with_reducible refine Kd.C_drewN ?_ _) | (with_reducible refine Kd.C_drew ?_))); (case side2 => exact (Kd.R_reads' HO_0.out).2.1); rintro e w' ⟨rfl, ⟨nd, rfl⟩⟩; refine ⟨_, rfl, ?_⟩))
                go_ret
                exact ⟨by first | rfl | (simp [errW_none, errW_some] <;> rfl) | (simp only [← hji4]; first | rfl | (simp [errW_none, errW_some] <;> rfl)) | (simp [*, errW_none, errW_some] <;> rfl), by repeat (first | (with_reducible first | exact HB.out | apply below_alloc | apply pw_below_drewN | apply below_drew1) | exact HB.out)⟩
              · rw [if_neg c32] at H
                have c32b0 : (t166 == 2) = false := beq_eq_false_iff_ne.mpr c32
                have c32b1 : (t166 != 2) = true := bne_iff_ne.mpr c32
                obtain rfl := Option.some.inj H
                go_wp2_with (first | ((with_reducible refine gate_callee (f := 23) rfl ?_); refine goesL_ (some 47) rfl rfl Try.func23 (by kernel_rfl) rfl #[.slice Ao13 t162.length co13] rfl (by (try simp only [List.map_toArray, List.map_cons, List.map_nil]); first | done | rfl | (simp only [List.length_drop, List.length_take]; rfl)) ?_; (with_reducible refine (transhipmentref01_May.calls kj9 _ _ t162 false _ ?side1 ?side2 A27.out).mono ?_); (case side1 => repeat (first | exact (Kd.R_reads' HO_0.out).2.2 | (with_reducible refine Kd.C_alloc ?_ _) | (with_reducible refine Kd.C_drewN ?_ _) | (with_reducible refine Kd.C_drew ?_))); (case side2 => exact (Kd.R_reads' HO_0.out).2.1); rintro e w' ⟨rfl, ⟨nd, rfl⟩⟩; refine ⟨_, rfl, ?_⟩))
                go_ret
                exact ⟨by first | rfl | (simp [errW_none, errW_some] <;> rfl) | (simp only [← hji4]; first | rfl | (simp [errW_none, errW_some] <;> rfl)) | (simp [*, errW_none, errW_some] <;> rfl), by repeat (first | (with_reducible first | exact HB.out | apply below_alloc | apply pw_below_drewN | apply below_drew1) | exact HB.out)⟩
    · rw [if_neg c6] at H
      exact absurd H (by simp)
  · rw [if_neg c5] at H
    exact absurd H (by simp)

/-- THE ONE PURE STATEMENT of transhipmentlaw01_FrameBinds: yours. -/
def transhipmentlaw01_FrameBinds.Pure : Prop := ∀ (l0 : List ByteArray) (a1 : ByteArray), (l0.length ≤ maxLen ∧ ∀ yl0 ∈ l0, yl0.size ≤ maxLen) → a1.size ≤ 140737488351232 → ∃ k, transhipmentlaw01_FrameBinds.f k l0 a1 = some true
theorem transhipmentlaw01_FrameBinds.walk (P : transhipmentlaw01_FrameBinds.Pure) (a0 : Option Addr) (len0 cap0 : Nat) (z0 : List ByteArray) (a1 : ByteArray) (w : World) (w0 : len0 = z0.length ∧ Kd.C Kd.string w a0 z0.length z0 ∧ z0.length ≤ cap0 ∧ (z0.length ≤ maxLen ∧ ∀ yz0 ∈ z0, yz0.size ≤ maxLen)) (w1 : a1.size ≤ 140737488351232) :
    Calls Try.prog 8 #[.slice a0 len0 cap0, .string a1] w fun e w' => e = .returned (.bool true) ∧ Below w.heap.size w w' := by
  obtain ⟨rfl, hr0, hc0, hm0⟩ := w0
  obtain ⟨k, h⟩ := P z0 a1 hm0 w1
  refine (transhipmentlaw01_FrameBinds.calls k _ _ z0 a1 true w hr0 hc0 h).mono ?_
  rintro e w' ⟨rfl, hd⟩
  exact ⟨rfl, hd⟩

end Go.Proofs.Ytmngigklmgoibaa.P
