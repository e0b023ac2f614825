/- What one function of the program computes, as a Lean function, and a proof that its call comes to just that. Conditions: none. Written by wip/ownprint.py. -/
import Derived.Test.YtmngigklmgoibaaP0
import Derived.Test.YtmngigklmgoibaaPref01On
import Derived.Test.YtmngigklmgoibaaPlaw01Alive
import Derived.Test.YtmngigklmgoibaaPref01Crc
import Derived.Test.YtmngigklmgoibaaBytesRow
import Derived.Test.YtmngigklmgoibaaFrameCrc
namespace Go.Proofs.Ytmngigklmgoibaa.P
open Go.RowKit Go.Proofs.YtmngigklmgoibaaW.PrintWords Go.Proofs.YtmngigklmgoibaaW.PrintLast Go.Proofs.YtmngigklmgoibaaW.PrintMore
attribute [local go_sem] max2_int min2_int max_two min_two max_three min_three max_four min_four   -- for this text's walks alone
set_option linter.unusedVariables false
set_option linter.unusedSimpArgs false

/-! ### transhipmentlaw01_FrameChecks: function 3 -/
def transhipmentlaw01_FrameChecks.l0 : Nat → ByteArray → Int → List Int → Int → Int → Option (Bool)
  | 0, _, _, _, _, _ => none
  | k + 1, x0, x5, x34, x35, x36 => if x36 < x35 then (if 0 ≤ x36 then (if x36 < (x34.length : Int) then ((transhipmentref01_On.f k x5 (rd x34 x36)).bind fun t116 => (transhipmentlaw01_FrameChecks.l0 k x0 t116 x34 x35 (wrap64 (x36 + 1)))) else (none)) else (none)) else ((transhipmentlaw01_alive.f k).bind fun t117 => (if t117 = true then ((frame_Crc.f x0).bind fun t118 => ((transhipmentref01_Crc.f k x0).bind fun t119 => (if t118 = t119 then ((frame_Crc.f x0).bind fun t120 => (some (t120 == ((4294967295 - x5) % 4294967296)))) else (some false)))) else (some false)))
def transhipmentlaw01_FrameChecks.f (k : Nat) (a0 : ByteArray) (a1 : Int) : Option (Bool) := if 0 ≤ (mn (a0.size : Int) 400) then (if (mn (a0.size : Int) 400) ≤ (a0.size : Int) then (if (wrap64 (((a0.extract 0 ((mn (a0.size : Int) 400) : Int).toNat).size : Int) + 1)) = 0 then (none) else (if 0 ≤ (Int.tmod (wrap64 ((wrap64 ((Int.tmod a1 (wrap64 (((a0.extract 0 ((mn (a0.size : Int) 400) : Int).toNat).size : Int) + 1))) + ((a0.extract 0 ((mn (a0.size : Int) 400) : Int).toNat).size : Int))) + 1)) (wrap64 (((a0.extract 0 ((mn (a0.size : Int) 400) : Int).toNat).size : Int) + 1))) then (if (Int.tmod (wrap64 ((wrap64 ((Int.tmod a1 (wrap64 (((a0.extract 0 ((mn (a0.size : Int) 400) : Int).toNat).size : Int) + 1))) + ((a0.extract 0 ((mn (a0.size : Int) 400) : Int).toNat).size : Int))) + 1)) (wrap64 (((a0.extract 0 ((mn (a0.size : Int) 400) : Int).toNat).size : Int) + 1))) ≤ ((a0.extract 0 ((mn (a0.size : Int) 400) : Int).toNat).size : Int) then ((frame_Crc.f ((a0.extract 0 ((mn (a0.size : Int) 400) : Int).toNat).extract 0 ((Int.tmod (wrap64 ((wrap64 ((Int.tmod a1 (wrap64 (((a0.extract 0 ((mn (a0.size : Int) 400) : Int).toNat).size : Int) + 1))) + ((a0.extract 0 ((mn (a0.size : Int) 400) : Int).toNat).size : Int))) + 1)) (wrap64 (((a0.extract 0 ((mn (a0.size : Int) 400) : Int).toNat).size : Int) + 1))) : Int).toNat)).bind fun t111 => (if ((a0.extract 0 ((mn (a0.size : Int) 400) : Int).toNat).extract ((Int.tmod (wrap64 ((wrap64 ((Int.tmod a1 (wrap64 (((a0.extract 0 ((mn (a0.size : Int) 400) : Int).toNat).size : Int) + 1))) + ((a0.extract 0 ((mn (a0.size : Int) 400) : Int).toNat).size : Int))) + 1)) (wrap64 (((a0.extract 0 ((mn (a0.size : Int) 400) : Int).toNat).size : Int) + 1))) : Int).toNat (a0.extract 0 ((mn (a0.size : Int) 400) : Int).toNat).size).size ≤ 9223372036854775807 then ((some (bytesOf ((a0.extract 0 ((mn (a0.size : Int) 400) : Int).toNat).extract ((Int.tmod (wrap64 ((wrap64 ((Int.tmod a1 (wrap64 (((a0.extract 0 ((mn (a0.size : Int) 400) : Int).toNat).size : Int) + 1))) + ((a0.extract 0 ((mn (a0.size : Int) 400) : Int).toNat).size : Int))) + 1)) (wrap64 (((a0.extract 0 ((mn (a0.size : Int) 400) : Int).toNat).size : Int) + 1))) : Int).toNat (a0.extract 0 ((mn (a0.size : Int) 400) : Int).toNat).size) : List Int)).bind fun y112 => (transhipmentlaw01_FrameChecks.l0 k (a0.extract 0 ((mn (a0.size : Int) 400) : Int).toNat) ((4294967295 - t111) % 4294967296) y112 (y112.length : Int) 0)) else (none))) else (none)) else (none))) else (none)) else (none)
theorem transhipmentlaw01_FrameChecks.mono_l : ∀ k, (∀ y0 y1 y2 y3 y4, LeO (transhipmentlaw01_FrameChecks.l0 k y0 y1 y2 y3 y4) (transhipmentlaw01_FrameChecks.l0 (k + 1) y0 y1 y2 y3 y4))
  | 0 => fun _ _ _ _ _ r h => by simp [transhipmentlaw01_FrameChecks.l0] at h
  | k + 1 => by
    have ih0 := transhipmentlaw01_FrameChecks.mono_l k
    · intro y0 y1 y2 y3 y4
      unfold transhipmentlaw01_FrameChecks.l0
      repeat' first
      | (with_reducible exact ih0 _ _ _ _ _)
      | (with_reducible exact transhipmentlaw01_alive.mono _)
      | (with_reducible exact transhipmentref01_Crc.mono _ _)
      | (with_reducible exact transhipmentref01_On.mono _ _ _)
      | (with_reducible exact LeO.refl _)
      | (with_reducible exact LeO.none _)
      | (with_reducible refine LeO.ite ?_ ?_)
      | (with_reducible refine LeO.bind ?_ (fun _ => ?_))
      | exact ih0 _ _ _ _ _
      | exact transhipmentlaw01_alive.mono _
      | exact transhipmentref01_Crc.mono _ _
      | exact transhipmentref01_On.mono _ _ _
      | exact LeO.none _
      | refine LeO.ite ?_ ?_
      | refine LeO.bind ?_ (fun _ => ?_)
theorem transhipmentlaw01_FrameChecks.mono : ∀ a0 a1 k, LeO (transhipmentlaw01_FrameChecks.f k a0 a1) (transhipmentlaw01_FrameChecks.f (k + 1) a0 a1) := by
  intro a0 a1 k
  have ih0 := transhipmentlaw01_FrameChecks.mono_l k
  unfold transhipmentlaw01_FrameChecks.f
  repeat' first
      | (with_reducible exact ih0 _ _ _ _ _)
      | (with_reducible exact transhipmentlaw01_alive.mono _)
      | (with_reducible exact transhipmentref01_Crc.mono _ _)
      | (with_reducible exact transhipmentref01_On.mono _ _ _)
      | (with_reducible exact LeO.refl _)
      | (with_reducible exact LeO.none _)
      | (with_reducible refine LeO.ite ?_ ?_)
      | (with_reducible refine LeO.bind ?_ (fun _ => ?_))
      | exact ih0 _ _ _ _ _
      | exact transhipmentlaw01_alive.mono _
      | exact transhipmentref01_Crc.mono _ _
      | exact transhipmentref01_On.mono _ _ _
      | exact LeO.none _
      | refine LeO.ite ?_ ?_
      | refine LeO.bind ?_ (fun _ => ?_)
set_option maxHeartbeats 8000000 in
set_option maxRecDepth 100000 in
theorem transhipmentlaw01_FrameChecks.calls (k : Nat) (a0 : ByteArray) (a1 : Int) (r : Bool) (w : World) (h : transhipmentlaw01_FrameChecks.f k a0 a1 = some r) :
    Calls Try.prog 3 #[.string a0, .int .i64 a1] w fun e w' => e = .returned (.bool r) ∧ Below w.heap.size w w' := by
  have HB := Aside0.mk (Below.refl w.heap.size w)
  have H : (if 0 ≤ (mn (a0.size : Int) 400) then (if (mn (a0.size : Int) 400) ≤ (a0.size : Int) then (if (wrap64 (((a0.extract 0 ((mn (a0.size : Int) 400) : Int).toNat).size : Int) + 1)) = 0 then (none) else (if 0 ≤ (Int.tmod (wrap64 ((wrap64 ((Int.tmod a1 (wrap64 (((a0.extract 0 ((mn (a0.size : Int) 400) : Int).toNat).size : Int) + 1))) + ((a0.extract 0 ((mn (a0.size : Int) 400) : Int).toNat).size : Int))) + 1)) (wrap64 (((a0.extract 0 ((mn (a0.size : Int) 400) : Int).toNat).size : Int) + 1))) then (if (Int.tmod (wrap64 ((wrap64 ((Int.tmod a1 (wrap64 (((a0.extract 0 ((mn (a0.size : Int) 400) : Int).toNat).size : Int) + 1))) + ((a0.extract 0 ((mn (a0.size : Int) 400) : Int).toNat).size : Int))) + 1)) (wrap64 (((a0.extract 0 ((mn (a0.size : Int) 400) : Int).toNat).size : Int) + 1))) ≤ ((a0.extract 0 ((mn (a0.size : Int) 400) : Int).toNat).size : Int) then ((frame_Crc.f ((a0.extract 0 ((mn (a0.size : Int) 400) : Int).toNat).extract 0 ((Int.tmod (wrap64 ((wrap64 ((Int.tmod a1 (wrap64 (((a0.extract 0 ((mn (a0.size : Int) 400) : Int).toNat).size : Int) + 1))) + ((a0.extract 0 ((mn (a0.size : Int) 400) : Int).toNat).size : Int))) + 1)) (wrap64 (((a0.extract 0 ((mn (a0.size : Int) 400) : Int).toNat).size : Int) + 1))) : Int).toNat)).bind fun t111 => (if ((a0.extract 0 ((mn (a0.size : Int) 400) : Int).toNat).extract ((Int.tmod (wrap64 ((wrap64 ((Int.tmod a1 (wrap64 (((a0.extract 0 ((mn (a0.size : Int) 400) : Int).toNat).size : Int) + 1))) + ((a0.extract 0 ((mn (a0.size : Int) 400) : Int).toNat).size : Int))) + 1)) (wrap64 (((a0.extract 0 ((mn (a0.size : Int) 400) : Int).toNat).size : Int) + 1))) : Int).toNat (a0.extract 0 ((mn (a0.size : Int) 400) : Int).toNat).size).size ≤ 9223372036854775807 then ((some (bytesOf ((a0.extract 0 ((mn (a0.size : Int) 400) : Int).toNat).extract ((Int.tmod (wrap64 ((wrap64 ((Int.tmod a1 (wrap64 (((a0.extract 0 ((mn (a0.size : Int) 400) : Int).toNat).size : Int) + 1))) + ((a0.extract 0 ((mn (a0.size : Int) 400) : Int).toNat).size : Int))) + 1)) (wrap64 (((a0.extract 0 ((mn (a0.size : Int) 400) : Int).toNat).size : Int) + 1))) : Int).toNat (a0.extract 0 ((mn (a0.size : Int) 400) : Int).toNat).size) : List Int)).bind fun y112 => (transhipmentlaw01_FrameChecks.l0 k (a0.extract 0 ((mn (a0.size : Int) 400) : Int).toNat) ((4294967295 - t111) % 4294967296) y112 (y112.length : Int) 0)) else (none))) else (none)) else (none))) else (none)) else (none)) = some r := h
  clear h
  obtain ⟨ji3, hji3⟩ : ∃ j_ : Int, (mn (a0.size : Int) 400) = j_ := ⟨_, rfl⟩
  replace H : (if 0 ≤ (ji3) then (if (ji3) ≤ (a0.size : Int) then (if (wrap64 (((a0.extract 0 ((ji3) : Int).toNat).size : Int) + 1)) = 0 then (none) else (if 0 ≤ (Int.tmod (wrap64 ((wrap64 ((Int.tmod a1 (wrap64 (((a0.extract 0 ((ji3) : Int).toNat).size : Int) + 1))) + ((a0.extract 0 ((ji3) : Int).toNat).size : Int))) + 1)) (wrap64 (((a0.extract 0 ((ji3) : Int).toNat).size : Int) + 1))) then (if (Int.tmod (wrap64 ((wrap64 ((Int.tmod a1 (wrap64 (((a0.extract 0 ((ji3) : Int).toNat).size : Int) + 1))) + ((a0.extract 0 ((ji3) : Int).toNat).size : Int))) + 1)) (wrap64 (((a0.extract 0 ((ji3) : Int).toNat).size : Int) + 1))) ≤ ((a0.extract 0 ((ji3) : Int).toNat).size : Int) then ((frame_Crc.f ((a0.extract 0 ((ji3) : Int).toNat).extract 0 ((Int.tmod (wrap64 ((wrap64 ((Int.tmod a1 (wrap64 (((a0.extract 0 ((ji3) : Int).toNat).size : Int) + 1))) + ((a0.extract 0 ((ji3) : Int).toNat).size : Int))) + 1)) (wrap64 (((a0.extract 0 ((ji3) : Int).toNat).size : Int) + 1))) : Int).toNat)).bind fun t111 => (if ((a0.extract 0 ((ji3) : Int).toNat).extract ((Int.tmod (wrap64 ((wrap64 ((Int.tmod a1 (wrap64 (((a0.extract 0 ((ji3) : Int).toNat).size : Int) + 1))) + ((a0.extract 0 ((ji3) : Int).toNat).size : Int))) + 1)) (wrap64 (((a0.extract 0 ((ji3) : Int).toNat).size : Int) + 1))) : Int).toNat (a0.extract 0 ((ji3) : Int).toNat).size).size ≤ 9223372036854775807 then ((some (bytesOf ((a0.extract 0 ((ji3) : Int).toNat).extract ((Int.tmod (wrap64 ((wrap64 ((Int.tmod a1 (wrap64 (((a0.extract 0 ((ji3) : Int).toNat).size : Int) + 1))) + ((a0.extract 0 ((ji3) : Int).toNat).size : Int))) + 1)) (wrap64 (((a0.extract 0 ((ji3) : Int).toNat).size : Int) + 1))) : Int).toNat (a0.extract 0 ((ji3) : Int).toNat).size) : List Int)).bind fun y112 => (transhipmentlaw01_FrameChecks.l0 k (a0.extract 0 ((ji3) : Int).toNat) ((4294967295 - t111) % 4294967296) y112 (y112.length : Int) 0)) else (none))) else (none)) else (none))) else (none)) else (none)) = some r := by first | (rw [hji3] at H; exact H) | (simp only [hji3] at H ⊢; exact H)
  (try (have hji3h : ji3 ≤ 400 := by (rw [← hji3]; unfold mn; (repeat' split) <;> omega)))
  (try (have hji3g : ji3 ≤ 64 := by omega))
  (try (have hji3l : 0 ≤ ji3 := by (rw [← hji3]; unfold mn; (repeat' split) <;> omega)))
  (try (have hji3m : 0 ≤ ji3 := by omega))
  have hji3_ : (if 400 < (a0.size : Int) then 400 else (a0.size : Int)) = ji3 := hji3
  by_cases c4 : 0 ≤ (ji3)
  · rw [if_pos c4] at H
    have c4b0 := eq_true c4
    have c4b1 : decide (0 ≤ (ji3)) = true := decide_eq_true c4
    clear c4
    by_cases c5 : (ji3) ≤ (a0.size : Int)
    · rw [if_pos c5] at H
      have c5b0 := eq_true c5
      have c5b1 : decide ((ji3) ≤ (a0.size : Int)) = true := decide_eq_true c5
      clear c5
      obtain ⟨ji6, hji6⟩ : ∃ j_ : ByteArray, (a0.extract 0 ((ji3) : Int).toNat) = j_ := ⟨_, rfl⟩
      replace H : (if (wrap64 (((ji6).size : Int) + 1)) = 0 then (none) else (if 0 ≤ (Int.tmod (wrap64 ((wrap64 ((Int.tmod a1 (wrap64 (((ji6).size : Int) + 1))) + ((ji6).size : Int))) + 1)) (wrap64 (((ji6).size : Int) + 1))) then (if (Int.tmod (wrap64 ((wrap64 ((Int.tmod a1 (wrap64 (((ji6).size : Int) + 1))) + ((ji6).size : Int))) + 1)) (wrap64 (((ji6).size : Int) + 1))) ≤ ((ji6).size : Int) then ((frame_Crc.f ((ji6).extract 0 ((Int.tmod (wrap64 ((wrap64 ((Int.tmod a1 (wrap64 (((ji6).size : Int) + 1))) + ((ji6).size : Int))) + 1)) (wrap64 (((ji6).size : Int) + 1))) : Int).toNat)).bind fun t111 => (if ((ji6).extract ((Int.tmod (wrap64 ((wrap64 ((Int.tmod a1 (wrap64 (((ji6).size : Int) + 1))) + ((ji6).size : Int))) + 1)) (wrap64 (((ji6).size : Int) + 1))) : Int).toNat (ji6).size).size ≤ 9223372036854775807 then ((some (bytesOf ((ji6).extract ((Int.tmod (wrap64 ((wrap64 ((Int.tmod a1 (wrap64 (((ji6).size : Int) + 1))) + ((ji6).size : Int))) + 1)) (wrap64 (((ji6).size : Int) + 1))) : Int).toNat (ji6).size) : List Int)).bind fun y112 => (transhipmentlaw01_FrameChecks.l0 k ji6 ((4294967295 - t111) % 4294967296) y112 (y112.length : Int) 0)) else (none))) else (none)) else (none))) = some r := by first | (rw [hji6] at H; exact H) | (simp only [hji6] at H ⊢; exact H)
      by_cases c7 : (wrap64 (((ji6).size : Int) + 1)) = 0
      · rw [if_pos c7] at H
        exact absurd H (by simp)
      · rw [if_neg c7] at H
        have c7b0 : ((wrap64 (((ji6).size : Int) + 1)) == 0) = false := beq_eq_false_iff_ne.mpr c7
        have c7b1 : ((wrap64 (((ji6).size : Int) + 1)) != 0) = true := bne_iff_ne.mpr c7
        obtain ⟨ji8, hji8⟩ : ∃ j_ : Int, (Int.tmod (wrap64 ((wrap64 ((Int.tmod a1 (wrap64 (((ji6).size : Int) + 1))) + ((ji6).size : Int))) + 1)) (wrap64 (((ji6).size : Int) + 1))) = j_ := ⟨_, rfl⟩
        replace H : (if 0 ≤ (ji8) then (if (ji8) ≤ ((ji6).size : Int) then ((frame_Crc.f ((ji6).extract 0 ((ji8) : Int).toNat)).bind fun t111 => (if ((ji6).extract ((ji8) : Int).toNat (ji6).size).size ≤ 9223372036854775807 then ((some (bytesOf ((ji6).extract ((ji8) : Int).toNat (ji6).size) : List Int)).bind fun y112 => (transhipmentlaw01_FrameChecks.l0 k ji6 ((4294967295 - t111) % 4294967296) y112 (y112.length : Int) 0)) else (none))) else (none)) else (none)) = some r := by first | (rw [hji8] at H; exact H) | (simp only [hji8] at H ⊢; exact H)
        by_cases c9 : 0 ≤ (ji8)
        · rw [if_pos c9] at H
          have c9b0 := eq_true c9
          have c9b1 : decide (0 ≤ (ji8)) = true := decide_eq_true c9
          clear c9
          by_cases c10 : (ji8) ≤ ((ji6).size : Int)
          · rw [if_pos c10] at H
            have c10b0 := eq_true c10
            have c10b1 : decide ((ji8) ≤ ((ji6).size : Int)) = true := decide_eq_true c10
            clear c10
            obtain ⟨ji11, hji11⟩ : ∃ j_ : ByteArray, ((ji6).extract 0 ((ji8) : Int).toNat) = j_ := ⟨_, rfl⟩
            replace H : ((frame_Crc.f (ji11)).bind fun t111 => (if ((ji6).extract ((ji8) : Int).toNat (ji6).size).size ≤ 9223372036854775807 then ((some (bytesOf ((ji6).extract ((ji8) : Int).toNat (ji6).size) : List Int)).bind fun y112 => (transhipmentlaw01_FrameChecks.l0 k ji6 ((4294967295 - t111) % 4294967296) y112 (y112.length : Int) 0)) else (none))) = some r := by first | (rw [hji11] at H; exact H) | (simp only [hji11] at H ⊢; exact H)
            replace H := Option.bind_eq_some_iff.mp H
            obtain ⟨t111, A120, H⟩ := H
            replace H : (if ((ji6).extract ((ji8) : Int).toNat (ji6).size).size ≤ 9223372036854775807 then ((some (bytesOf ((ji6).extract ((ji8) : Int).toNat (ji6).size) : List Int)).bind fun y112 => (transhipmentlaw01_FrameChecks.l0 k ji6 ((4294967295 - t111) % 4294967296) y112 (y112.length : Int) 0)) else (none)) = some r := H
            have A12 := Aside0.mk A120
            clear A120
            have c13b0 := eq_true (of_decide_eq_true (by first | (with_reducible assumption) | assumption) : 0 ≤ (ji8))
            have c14b0 := eq_true (of_decide_eq_true (by first | (with_reducible assumption) | assumption) : (ji8) ≤ ((ji6).size : Int))
            obtain ⟨ji15, hji15⟩ : ∃ j_ : ByteArray, ((ji6).extract ((ji8) : Int).toNat (ji6).size) = j_ := ⟨_, rfl⟩
            replace H : (if (ji15).size ≤ 9223372036854775807 then ((some (bytesOf (ji15) : List Int)).bind fun y112 => (transhipmentlaw01_FrameChecks.l0 k ji6 ((4294967295 - t111) % 4294967296) y112 (y112.length : Int) 0)) else (none)) = some r := by first | (rw [hji15] at H; exact H) | (simp only [hji15] at H ⊢; exact H)
            (try rw [hji15] at A12)
            by_cases c16 : (ji15).size ≤ 9223372036854775807
            · rw [if_pos c16] at H
              have c16b0 := eq_true c16
              have c16b1 : decide ((ji15).size ≤ 9223372036854775807) = true := decide_eq_true c16
              try have c16b2 : (9223372036854775807 < (ji15).size) = False := eq_false (Nat.not_lt.2 c16)
              clear c16
              obtain ⟨y112, hy112⟩ : ∃ y_ : List Int, y_ = (bytesOf (ji15)) := ⟨_, rfl⟩
              replace H : (transhipmentlaw01_FrameChecks.l0 k ji6 ((4294967295 - t111) % 4294967296) y112 (y112.length : Int) 0) = some r := by first | (rw [hy112]; with_reducible exact H) | (have H2_ := (Option.bind_some _ _).symm.trans H; rw [hy112]; with_reducible exact H2_) | (have H2_ := (Option.bind_some _ _).symm.trans H; with_reducible exact H2_) | with_reducible exact H | (rw [hy112]; exact H) | exact H
              have Ny112 := Aside0.mk hy112
              clear hy112
              have H' := Aside0.mk H
              clear H
              go_enter Try.func3, Try.ntmps3
              go_wp2_with (first | ((with_reducible refine gate_callee (f := 10) rfl ?_); refine goesL_ (some 29) rfl rfl Try.func10 (by kernel_rfl) rfl #[.string ji11] rfl (by (try simp only [List.map_toArray, List.map_cons, List.map_nil]); first | done | (simp only [hji11]; rfl) | rfl | (simp only [List.length_drop, List.length_take]; rfl)) ?_; (with_reducible refine (frame_Crc.calls ji11 t111 _ A12.out).mono ?_); rintro e w17 ⟨rfl, hb⟩; refine ⟨_, rfl, ?_⟩; have n0_ := Aside0.mk (below_step (by repeat (first | (with_reducible first | exact HB.out | apply below_alloc | apply pw_below_drewN | apply below_drew1) | exact HB.out)) hb); clear HB; have HB := n0_; clear n0_; (try clear hb); (try clear hb2); (try clear hk); (try clear hi)) | ((with_reducible refine gate_dst (N := 34) rfl ?_); refine Kd.R_bytes _ 5 rfl (N := 34) rfl (s := ji15) (ok := fun _ => True) (okp := fun _ => True) rfl rfl Try.underlying9 Try.underlying24 Try.underlying5 (of_decide_eq_true (by first | (with_reducible assumption) | assumption)) trivial trivial (Below.refl _ _) (Nat.le_refl _) ?_; intro v113 w18 ho19 hb; (first | rw [← Ny112.out] at ho19 | (simp only [Int.reduceToNat] at ho19; rw [← Ny112.out] at ho19)); have n0_ := Aside0.mk (Kd.R_lower ho19 (below_size (by repeat (first | (with_reducible first | exact HB.out | apply below_alloc | apply pw_below_drewN | apply below_drew1) | exact HB.out)))); have n1_ := Aside0.mk (below_step (by repeat (first | (with_reducible first | exact HB.out | apply below_alloc | apply pw_below_drewN | apply below_drew1) | exact HB.out)) hb); clear HB; have HO114 := n0_; have HB := n1_; clear n0_ n1_; clear hb ho19; obtain ⟨Ao20, co20, eo20⟩ := Kd.R_slice HO114.out; subst eo20))
              go_loopg [5, 36] k (fun kq v5 v36 w' => ∃ (x5_1 : Int) (x36_1 : Int), v5 = .int .u32 x5_1 ∧ v36 = .int .i64 x36_1 ∧ Aside0 (transhipmentlaw01_FrameChecks.l0 kq ji6 x5_1 y112 (y112.length : Int) x36_1 = some r) ∧ Aside0 (kq ≤ k) ∧ Aside0 (Kd.R (Kd.int .u8) 5 w' w.heap.size (fun _ => True) (.slice Ao20 y112.length co20) y112) ∧ Aside0 (Below w.heap.size w w'))
              case atStart => exact ⟨((4294967295 - t111) % 4294967296), (0), (by first | rfl | (simp; done) | (simp [*]; done)), (by first | rfl | (simp; done) | (simp [*]; done)), H', ⟨Nat.le_refl _⟩, ⟨by (with_reducible repeat (first | apply Kd.R_alloc | apply Kd.R_drewN | apply Kd.R_drew)); exact HO114.out⟩, ⟨by repeat (first | (with_reducible first | exact HB.out | apply below_alloc | apply pw_below_drewN | apply below_drew1) | exact HB.out)⟩⟩
              case round =>
                clear H'
                try clear c1
                try clear p2
                try clear c3
                try clear c4
                try clear c4b0
                try clear c4b1
                try clear c5
                try clear c5b0
                try clear c5b1
                try clear p6
                try clear c7
                try clear c7b0
                try clear c7b1
                try clear c9
                try clear c9b0
                try clear c9b1
                try clear c10
                try clear c10b0
                try clear c10b1
                try clear c13
                try clear c13b0
                try clear c14
                try clear c14b0
                try clear c16
                try clear c16b0
                try clear c16b1
                try clear c16b2
                obtain ⟨x5_1, x36_1, rfl, rfl, HA, HK1, HO_34, HB⟩ := hrel
                cases gk with
                | zero => exact absurd HA.out (by simp [transhipmentlaw01_FrameChecks.l0])
                | succ k1 =>
                  have H := HA.out
                  clear HA
                  simp only [transhipmentlaw01_FrameChecks.l0] at H
                  by_cases c21 : x36_1 < (y112.length : Int)
                  · rw [if_pos c21] at H
                    have c21b0 : decide (x36_1 < (y112.length : Int)) = true := decide_eq_true c21
                    clear c21
                    by_cases c22 : 0 ≤ x36_1
                    · rw [if_pos c22] at H
                      have c22b0 : decide (0 ≤ x36_1) = true := decide_eq_true c22
                      clear c22
                      by_cases c23 : x36_1 < (y112.length : Int)
                      · rw [if_pos c23] at H
                        have c23b0 : decide (x36_1 < (y112.length : Int)) = true := decide_eq_true c23
                        clear c23
                        replace H := Option.bind_eq_some_iff.mp H
                        obtain ⟨t116, A240, H⟩ := H
                        replace H : (transhipmentlaw01_FrameChecks.l0 k1 ji6 t116 y112 (y112.length : Int) (wrap64 (x36_1 + 1))) = some r := H
                        have A24 := Aside0.mk A240
                        clear A240
                        have H' := Aside0.mk H
                        clear H
                        have p115 : 0 ≤ (x36_1 : Int) := of_decide_eq_true (by first | (with_reducible assumption) | assumption)
                        have q115 : x36_1 < (y112.length : Int) := of_decide_eq_true (by first | (with_reducible assumption) | assumption)
                        obtain ⟨ad115, e115, hx115_0⟩ := Kd.at_int (Kd.R_reads' HO_34.out).2.2 x36_1 p115 q115
                        cases e115
                        replace p115 := eq_true p115
                        replace q115 := eq_true q115
                        go_wp2_with (first | ((with_reducible refine gate_callee (f := 11) rfl ?_); refine goesL_ (some 42) rfl rfl Try.func11 (by kernel_rfl) rfl #[.int .u32 x5_1, .int .u8 (rd y112 x36_1)] rfl (by (try simp only [List.map_toArray, List.map_cons, List.map_nil]); first | done | rfl | (simp only [List.length_drop, List.length_take]; rfl)) ?_; (with_reducible refine (transhipmentref01_On.calls k1 x5_1 (rd y112 x36_1) t116 _ A24.out).mono ?_); rintro e w' ⟨rfl, ⟨nd, rfl⟩⟩; refine ⟨_, rfl, ?_⟩))
                        go_roundg k1
                        case measure => have := HK1.out; omega
                        case rel => exact ⟨(t116), (wrap64 (x36_1 + 1)), (by first | rfl | (simp; done) | (simp [*]; done)), (by first | rfl | (simp; done) | (simp [*]; done)), H', ⟨by have := HK1.out; omega⟩, ⟨by (with_reducible repeat (first | apply Kd.R_alloc | apply Kd.R_drewN | apply Kd.R_drew)); exact HO_34.out⟩, ⟨by repeat (first | (with_reducible first | exact HB.out | apply below_alloc | apply pw_below_drewN | apply below_drew1) | exact HB.out)⟩⟩
                      · rw [if_neg c23] at H
                        exact absurd H (by simp)
                    · rw [if_neg c22] at H
                      exact absurd H (by simp)
                  · rw [if_neg c21] at H
                    have c21b0 : decide (x36_1 < (y112.length : Int)) = false := decide_eq_false c21
                    clear c21
                    replace H := Option.bind_eq_some_iff.mp H
                    obtain ⟨t117, A250, H⟩ := H
                    replace H : (if t117 = true then ((frame_Crc.f ji6).bind fun t118 => ((transhipmentref01_Crc.f k1 ji6).bind fun t119 => (if t118 = t119 then ((frame_Crc.f ji6).bind fun t120 => (some (t120 == ((4294967295 - x5_1) % 4294967296)))) else (some false)))) else (some false)) = some r := H
                    have A25 := Aside0.mk A250
                    clear A250
                    by_cases c26 : t117 = true
                    · subst c26
                      have H1 : ((frame_Crc.f ji6).bind fun t118 => ((transhipmentref01_Crc.f k1 ji6).bind fun t119 => (if t118 = t119 then ((frame_Crc.f ji6).bind fun t120 => (some (t120 == ((4294967295 - x5_1) % 4294967296)))) else (some false)))) = some r := by rw [if_pos rfl] at H; exact H
                      clear H
                      have H := H1
                      clear H1
                      replace H := Option.bind_eq_some_iff.mp H
                      obtain ⟨t118, A270, H⟩ := H
                      replace H : ((transhipmentref01_Crc.f k1 ji6).bind fun t119 => (if t118 = t119 then ((frame_Crc.f ji6).bind fun t120 => (some (t120 == ((4294967295 - x5_1) % 4294967296)))) else (some false))) = some r := H
                      have A27 := Aside0.mk A270
                      clear A270
                      replace H := Option.bind_eq_some_iff.mp H
                      obtain ⟨t119, A280, H⟩ := H
                      replace H : (if t118 = t119 then ((frame_Crc.f ji6).bind fun t120 => (some (t120 == ((4294967295 - x5_1) % 4294967296)))) else (some false)) = some r := H
                      have A28 := Aside0.mk A280
                      clear A280
                      by_cases c29 : t118 = t119
                      · rw [if_pos c29] at H
                        have c29b0 : (t118 == t119) = true := beq_iff_eq.mpr c29
                        have c29b1 : (t118 != t119) = false := bne_eq_false_iff_eq.mpr c29
                        clear c29
                        replace H := Option.bind_eq_some_iff.mp H
                        obtain ⟨t120, A300, H⟩ := H
                        replace H : (some (t120 == ((4294967295 - x5_1) % 4294967296))) = some r := H
                        have DA30 : t120 = t118 := Option.some.inj (A300.symm.trans A27.out)
                        have A30 := Aside0.mk A300
                        clear A300
                        obtain rfl := Option.some.inj H
                        go_wp2_with (first | ((with_reducible refine gate_callee (f := 12) rfl ?_); refine goesL_ (some 44) rfl rfl Try.func12 (by kernel_rfl) rfl #[] rfl (by (try simp only [List.map_toArray, List.map_cons, List.map_nil]); first | done | rfl | (simp only [List.length_drop, List.length_take]; rfl)) ?_; (with_reducible refine (transhipmentlaw01_alive.calls k1  true _ A25.out).mono ?_); rintro e w31 ⟨rfl, hb⟩; refine ⟨_, rfl, ?_⟩; have n0_ := Aside0.mk (Kd.R_below (by (with_reducible repeat (first | apply Kd.R_alloc | apply Kd.R_drewN | apply Kd.R_drew)); exact HO_34.out) hb); have n1_ := Aside0.mk (below_step (by repeat (first | (with_reducible first | exact HB.out | apply below_alloc | apply pw_below_drewN | apply below_drew1) | exact HB.out)) hb); clear HO_34; clear HB; have HO_34 := n0_; have HB := n1_; clear n0_ n1_; (try clear hb); (try clear hb2); (try clear hk); (try clear hi)) | (go_at_call 10; (with_reducible refine (frame_Crc.calls ji6 t118 _ A27.out).mono ?_); rintro e w32 ⟨rfl, hb⟩; have n0_ := Aside0.mk (Kd.R_below (by (with_reducible repeat (first | apply Kd.R_alloc | apply Kd.R_drewN | apply Kd.R_drew)); exact HO_34.out) hb); have n1_ := Aside0.mk (below_step (by repeat (first | (with_reducible first | exact HB.out | apply below_alloc | apply pw_below_drewN | apply below_drew1) | exact HB.out)) hb); clear HO_34; clear HB; have HO_34 := n0_; have HB := n1_; clear n0_ n1_; (try clear hb); (try clear hb2); (try clear hk); (try clear hi)) | (go_at_call 13; (with_reducible refine (transhipmentref01_Crc.calls k1 ji6 t119 _ A28.out).mono ?_); rintro e w' ⟨rfl, ⟨nd, rfl⟩⟩) | (go_at_call 10; (with_reducible refine (frame_Crc.calls ji6 t120 _ A30.out).mono ?_); rintro e w33 ⟨rfl, hb⟩; have n0_ := Aside0.mk (Kd.R_below (by (with_reducible repeat (first | apply Kd.R_alloc | apply Kd.R_drewN | apply Kd.R_drew)); exact HO_34.out) hb); have n1_ := Aside0.mk (below_step (by repeat (first | (with_reducible first | exact HB.out | apply below_alloc | apply pw_below_drewN | apply below_drew1) | exact HB.out)) hb); clear HO_34; clear HB; have HO_34 := n0_; have HB := n1_; clear n0_ n1_; (try clear hb); (try clear hb2); (try clear hk); (try clear hi)))
                        go_ret
                        exact ⟨by first | rfl | (simp [errW_none, errW_some] <;> rfl) | (simp only [← hji3, ← hji6, ← hji8, ← hji11, ← hji15]; first | rfl | (simp [errW_none, errW_some] <;> rfl)) | (simp [*, errW_none, errW_some] <;> rfl), by repeat (first | (with_reducible first | exact HB.out | apply below_alloc | apply pw_below_drewN | apply below_drew1) | exact HB.out)⟩
                      · rw [if_neg c29] at H
                        have c29b0 : (t118 == t119) = false := beq_eq_false_iff_ne.mpr c29
                        have c29b1 : (t118 != t119) = true := bne_iff_ne.mpr c29
                        obtain rfl := Option.some.inj H
                        go_wp2_with (first | ((with_reducible refine gate_callee (f := 12) rfl ?_); refine goesL_ (some 44) rfl rfl Try.func12 (by kernel_rfl) rfl #[] rfl (by (try simp only [List.map_toArray, List.map_cons, List.map_nil]); first | done | rfl | (simp only [List.length_drop, List.length_take]; rfl)) ?_; (with_reducible refine (transhipmentlaw01_alive.calls k1  true _ A25.out).mono ?_); rintro e w34 ⟨rfl, hb⟩; refine ⟨_, rfl, ?_⟩; have n0_ := Aside0.mk (Kd.R_below (by (with_reducible repeat (first | apply Kd.R_alloc | apply Kd.R_drewN | apply Kd.R_drew)); exact HO_34.out) hb); have n1_ := Aside0.mk (below_step (by repeat (first | (with_reducible first | exact HB.out | apply below_alloc | apply pw_below_drewN | apply below_drew1) | exact HB.out)) hb); clear HO_34; clear HB; have HO_34 := n0_; have HB := n1_; clear n0_ n1_; (try clear hb); (try clear hb2); (try clear hk); (try clear hi)) | (go_at_call 10; (with_reducible refine (frame_Crc.calls ji6 t118 _ A27.out).mono ?_); rintro e w35 ⟨rfl, hb⟩; have n0_ := Aside0.mk (Kd.R_below (by (with_reducible repeat (first | apply Kd.R_alloc | apply Kd.R_drewN | apply Kd.R_drew)); exact HO_34.out) hb); have n1_ := Aside0.mk (below_step (by repeat (first | (with_reducible first | exact HB.out | apply below_alloc | apply pw_below_drewN | apply below_drew1) | exact HB.out)) hb); clear HO_34; clear HB; have HO_34 := n0_; have HB := n1_; clear n0_ n1_; (try clear hb); (try clear hb2); (try clear hk); (try clear hi)) | (go_at_call 13; (with_reducible refine (transhipmentref01_Crc.calls k1 ji6 t119 _ A28.out).mono ?_); rintro e w' ⟨rfl, ⟨nd, rfl⟩⟩))
                        go_ret
                        exact ⟨by first | rfl | (simp [errW_none, errW_some] <;> rfl) | (simp only [← hji3, ← hji6, ← hji8, ← hji11, ← hji15]; first | rfl | (simp [errW_none, errW_some] <;> rfl)) | (simp [*, errW_none, errW_some] <;> rfl), by repeat (first | (with_reducible first | exact HB.out | apply below_alloc | apply pw_below_drewN | apply below_drew1) | exact HB.out)⟩
                    · replace c26 := Bool.eq_false_iff.mpr c26
                      subst c26
                      have H1 : (some false) = some r := by rw [if_neg (show ¬ (false = true) by decide)] at H; exact H
                      clear H
                      have H := H1
                      clear H1
                      obtain rfl := Option.some.inj H
                      go_wp2_with (first | ((with_reducible refine gate_callee (f := 12) rfl ?_); refine goesL_ (some 44) rfl rfl Try.func12 (by kernel_rfl) rfl #[] rfl (by (try simp only [List.map_toArray, List.map_cons, List.map_nil]); first | done | rfl | (simp only [List.length_drop, List.length_take]; rfl)) ?_; (with_reducible refine (transhipmentlaw01_alive.calls k1  false _ A25.out).mono ?_); rintro e w36 ⟨rfl, hb⟩; refine ⟨_, rfl, ?_⟩; have n0_ := Aside0.mk (Kd.R_below (by (with_reducible repeat (first | apply Kd.R_alloc | apply Kd.R_drewN | apply Kd.R_drew)); exact HO_34.out) hb); have n1_ := Aside0.mk (below_step (by repeat (first | (with_reducible first | exact HB.out | apply below_alloc | apply pw_below_drewN | apply below_drew1) | exact HB.out)) hb); clear HO_34; clear HB; have HO_34 := n0_; have HB := n1_; clear n0_ n1_; (try clear hb); (try clear hb2); (try clear hk); (try clear hi)))
                      go_ret
                      exact ⟨by first | rfl | (simp [errW_none, errW_some] <;> rfl) | (simp only [← hji3, ← hji6, ← hji8, ← hji11, ← hji15]; first | rfl | (simp [errW_none, errW_some] <;> rfl)) | (simp [*, errW_none, errW_some] <;> rfl), by repeat (first | (with_reducible first | exact HB.out | apply below_alloc | apply pw_below_drewN | apply below_drew1) | exact HB.out)⟩
            · rw [if_neg c16] at H
              exact absurd H (by simp)
          · rw [if_neg c10] at H
            exact absurd H (by simp)
        · rw [if_neg c9] at H
          exact absurd H (by simp)
    · rw [if_neg c5] at H
      exact absurd H (by simp)
  · rw [if_neg c4] at H
    exact absurd H (by simp)

/-- THE ONE PURE STATEMENT of transhipmentlaw01_FrameChecks: yours. -/
def transhipmentlaw01_FrameChecks.Pure : Prop := ∀ (a0 : ByteArray) (a1 : Int), a0.size ≤ 140737488351232 → (Lit.int .i64 a1).wf = true → ∃ k, transhipmentlaw01_FrameChecks.f k a0 a1 = some true
theorem transhipmentlaw01_FrameChecks.walk (P : transhipmentlaw01_FrameChecks.Pure) (a0 : ByteArray) (a1 : Int) (w : World) (w0 : a0.size ≤ 140737488351232) (w1 : (Lit.int .i64 a1).wf = true) :
    Calls Try.prog 3 #[.string a0, .int .i64 a1] w fun e w' => e = .returned (.bool true) ∧ Below w.heap.size w w' := by
  obtain ⟨k, h⟩ := P a0 a1 w0 w1
  refine (transhipmentlaw01_FrameChecks.calls k a0 a1 true w h).mono ?_
  rintro e w' ⟨rfl, hd⟩
  exact ⟨rfl, hd⟩

end Go.Proofs.Ytmngigklmgoibaa.P
