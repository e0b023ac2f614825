/- What these functions of the program and of the plain reference compute, and plain lemmas on it: PFrameRead, PFrameLoose, FrameCrc, PSealChecked, PFrameNumber, FrameBind. Conditions: as each lemma says. -/
import Derived.Test.YtceedgflpkaclaaDoorMLawSealCut0
import Derived.OneCell
import Derived.RegionTactic
import Derived.ChangeAlike
import Derived.Test.YtceedgflpkaclaaDoorMLawSealCut1
/- What one function of the program computes, as a Lean function, and a proof that its call comes to just that. Conditions: none. Written by wip/ownprint.py. -/
namespace Go.Proofs.YtceedgflpkaclaaDoor.P
open Go.RowKit Go.Proofs.YtceedgflpkaclaaDoorW.PrintWords Go.Proofs.YtceedgflpkaclaaDoorW.PrintLast Go.Proofs.YtceedgflpkaclaaDoorW.PrintMore
attribute [local go_sem] max2_int min2_int max_two min_two max_three min_three max_four min_four   -- for this text's walks alone
set_option linter.unusedVariables false
set_option linter.unusedSimpArgs false

/-! ### frame_Read: function 60 -/
def frame_Read.l0 : Nat → ByteArray → Int → Int → Int → Option (Int × Int × Int)
  | 0, _, _, _, _ => none
  | k + 1, x0, x5, x10, x11 => if x11 < x10 then (if 0 ≤ x11 then (if x11 < (x0.size : Int) then (if 0 ≤ (wrap64 (7 * x11)) then (if (wrap64 (bt x0 x11)) ≥ 128 then (frame_Read.l0 k x0 (Go.bits .or .i64 x5 (shl .i64 (Int.tmod (wrap64 (bt x0 x11)) 128) (wrap64 (7 * x11)))) x10 (wrap64 (x11 + 1))) else (if (wrap64 (bt x0 x11)) = 0 then (if x11 > 0 then (some (0, 0, 6)) else (some (Go.bits .or .i64 x5 (shl .i64 (Int.tmod (wrap64 (bt x0 x11)) 128) (wrap64 (7 * x11))), wrap64 (x11 + 1), 0))) else (some (Go.bits .or .i64 x5 (shl .i64 (Int.tmod (wrap64 (bt x0 x11)) 128) (wrap64 (7 * x11))), wrap64 (x11 + 1), 0)))) else (none)) else (none)) else (none)) else (if (x0.size : Int) ≥ 9 then (some (0, 0, 2)) else (some (0, 0, 3)))
def frame_Read.f (k : Nat) (a0 : ByteArray) : Option (Int × Int × Int) := frame_Read.l0 k a0 0 (mn (a0.size : Int) 9) 0
theorem frame_Read.mono_l : ∀ k, (∀ y0 y1 y2 y3, LeO (frame_Read.l0 k y0 y1 y2 y3) (frame_Read.l0 (k + 1) y0 y1 y2 y3))
  | 0 => fun _ _ _ _ r h => by simp [frame_Read.l0] at h
  | k + 1 => by
    have ih0 := frame_Read.mono_l k
    · intro y0 y1 y2 y3
      unfold frame_Read.l0
      repeat' first
      | (with_reducible exact ih0 _ _ _ _)
      | (with_reducible exact LeO.refl _)
      | (with_reducible exact LeO.none _)
      | (with_reducible refine LeO.ite ?_ ?_)
      | (with_reducible refine LeO.bind ?_ (fun _ => ?_))
      | exact ih0 _ _ _ _
      | exact LeO.none _
      | refine LeO.ite ?_ ?_
      | refine LeO.bind ?_ (fun _ => ?_)
theorem frame_Read.mono : ∀ a0 k, LeO (frame_Read.f k a0) (frame_Read.f (k + 1) a0) := by
  intro a0 k
  have ih0 := frame_Read.mono_l k
  unfold frame_Read.f
  repeat' first
      | (with_reducible exact ih0 _ _ _ _)
      | (with_reducible exact LeO.refl _)
      | (with_reducible exact LeO.none _)
      | (with_reducible refine LeO.ite ?_ ?_)
      | (with_reducible refine LeO.bind ?_ (fun _ => ?_))
      | exact ih0 _ _ _ _
      | exact LeO.none _
      | refine LeO.ite ?_ ?_
      | refine LeO.bind ?_ (fun _ => ?_)
set_option maxHeartbeats 8000000 in
set_option maxRecDepth 100000 in
theorem frame_Read.calls (k : Nat) (a0 : ByteArray) (r1 : Int) (r2 : Int) (r3 : Int) (w : World) (h : frame_Read.f k a0 = some (r1, r2, r3)) :
    Calls Tryd.prog 60 #[.string a0] w fun e w' => e = .returned (.tuple #[.int .i64 r1, .int .i64 r2, .int .i64 r3]) ∧ Below w.heap.size w w' := by
  have HB := Aside0.mk (Below.refl w.heap.size w)
  have H : (frame_Read.l0 k a0 0 (mn (a0.size : Int) 9) 0) = some (r1, r2, r3) := h
  clear h
  obtain ⟨ji2, hji2⟩ : ∃ j_ : Int, (mn (a0.size : Int) 9) = j_ := ⟨_, rfl⟩
  replace H : (frame_Read.l0 k a0 0 ji2 0) = some (r1, r2, r3) := by first | (rw [hji2] at H; exact H) | (simp only [hji2] at H ⊢; exact H)
  (try (have hji2h : ji2 ≤ 9 := by (rw [← hji2]; unfold mn; (repeat' split) <;> omega)))
  (try (have hji2g : ji2 ≤ 64 := by omega))
  (try (have hji2l : 0 ≤ ji2 := by (rw [← hji2]; unfold mn; (repeat' split) <;> omega)))
  (try (have hji2m : 0 ≤ ji2 := by omega))
  have hji2_ : (if 9 < (a0.size : Int) then 9 else (a0.size : Int)) = ji2 := hji2
  have H' := Aside0.mk H
  clear H
  go_enter Tryd.func60, Tryd.ntmps60
  go_wp2
  go_loopg [5, 11] k (fun kq v5 v11 w' => ∃ (x5_1 : Int) (x11_1 : Int), v5 = .int .i64 x5_1 ∧ v11 = .int .i64 x11_1 ∧ Aside0 (frame_Read.l0 kq a0 x5_1 ji2 x11_1 = some (r1, r2, r3)) ∧ Aside0 (kq ≤ k) ∧ Aside0 (Below w.heap.size w w'))
  case atStart => exact ⟨(0), (0), (by first | rfl | (simp; done) | (simp [*]; done)), (by first | rfl | (simp; done) | (simp [*]; done)), H', ⟨Nat.le_refl _⟩, ⟨by repeat (first | (with_reducible first | exact HB.out | apply below_alloc | apply pw_below_drewN | apply below_drew1) | exact HB.out)⟩⟩
  case round =>
    clear H'
    try clear p2
    obtain ⟨x5_1, x11_1, rfl, rfl, HA, HK1, HB⟩ := hrel
    cases gk with
    | zero => exact absurd HA.out (by simp [frame_Read.l0])
    | succ k1 =>
      have H := HA.out
      clear HA
      simp only [frame_Read.l0] at H
      by_cases c3 : x11_1 < ji2
      · rw [if_pos c3] at H
        have c3b0 : decide (x11_1 < ji2) = true := decide_eq_true c3
        clear c3
        by_cases c4 : 0 ≤ x11_1
        · rw [if_pos c4] at H
          have c4b0 : decide (0 ≤ x11_1) = true := decide_eq_true c4
          clear c4
          by_cases c5 : x11_1 < (a0.size : Int)
          · rw [if_pos c5] at H
            have c5b0 : decide (x11_1 < (a0.size : Int)) = true := decide_eq_true c5
            clear c5
            obtain ⟨ji7, hji7⟩ : ∃ j_ : Int, (wrap64 (7 * x11_1)) = j_ := ⟨_, rfl⟩
            replace H : (if 0 ≤ (ji7) then (if (wrap64 (bt a0 x11_1)) ≥ 128 then (frame_Read.l0 k1 a0 (Go.bits .or .i64 x5_1 (shl .i64 (Int.tmod (wrap64 (bt a0 x11_1)) 128) (ji7))) ji2 (wrap64 (x11_1 + 1))) else (if (wrap64 (bt a0 x11_1)) = 0 then (if x11_1 > 0 then (some (0, 0, 6)) else (some (Go.bits .or .i64 x5_1 (shl .i64 (Int.tmod (wrap64 (bt a0 x11_1)) 128) (ji7)), wrap64 (x11_1 + 1), 0))) else (some (Go.bits .or .i64 x5_1 (shl .i64 (Int.tmod (wrap64 (bt a0 x11_1)) 128) (ji7)), wrap64 (x11_1 + 1), 0)))) else (none)) = some (r1, r2, r3) := by first | (rw [hji7] at H; exact H) | (simp only [hji7] at H ⊢; exact H)
            have hji7w : (IntKind.i64.wrap (7 * x11_1)) = ji7 := (i64_w _).trans hji7
            by_cases c8 : 0 ≤ (ji7)
            · rw [if_pos c8] at H
              have c8b0 := eq_true c8
              have c8b1 : decide (0 ≤ (ji7)) = true := decide_eq_true c8
              clear c8
              obtain ⟨ji9, hji9⟩ : ∃ j_ : Int, (shl .i64 (Int.tmod (wrap64 (bt a0 x11_1)) 128) (ji7)) = j_ := ⟨_, rfl⟩
              replace H : (if (wrap64 (bt a0 x11_1)) ≥ 128 then (frame_Read.l0 k1 a0 (Go.bits .or .i64 x5_1 (ji9)) ji2 (wrap64 (x11_1 + 1))) else (if (wrap64 (bt a0 x11_1)) = 0 then (if x11_1 > 0 then (some (0, 0, 6)) else (some (Go.bits .or .i64 x5_1 (ji9), wrap64 (x11_1 + 1), 0))) else (some (Go.bits .or .i64 x5_1 (ji9), wrap64 (x11_1 + 1), 0)))) = some (r1, r2, r3) := by first | (rw [hji9] at H; exact H) | (simp only [hji9] at H ⊢; exact H)
              have hji9_ : (IntKind.i64.wrap ((Int.tmod (wrap64 (bt a0 x11_1)) 128) * 2 ^ min (ji7).toNat 64)) = ji9 := hji9
              have hji9z : (ji7) ≤ 64 → (IntKind.i64.wrap ((Int.tmod (wrap64 (bt a0 x11_1)) 128) * 2 ^ (ji7).toNat)) = ji9 := shl_small hji9
              have hji9y : (wrap64 ((Int.tmod (wrap64 (bt a0 x11_1)) 128) * 2 ^ min (ji7).toNat 64)) = ji9 := (i64_w _).symm.trans hji9_
              have hji9x : (ji7) ≤ 64 → (wrap64 ((Int.tmod (wrap64 (bt a0 x11_1)) 128) * 2 ^ (ji7).toNat)) = ji9 := fun h_ => (i64_w _).symm.trans (hji9z h_)
              by_cases c10 : (wrap64 (bt a0 x11_1)) ≥ 128
              · rw [if_pos c10] at H
                have c10b0 : decide (128 ≤ (wrap64 (bt a0 x11_1))) = true := decide_eq_true c10
                clear c10
                have H' := Aside0.mk H
                clear H
                have p6 : 0 ≤ (x11_1 : Int) := of_decide_eq_true (by first | (with_reducible assumption) | assumption)
                have q6 : x11_1 < (a0.size : Int) := of_decide_eq_true (by first | (with_reducible assumption) | assumption)
                have hx6 := bt_at a0 x11_1
                replace p6 := eq_true p6
                replace q6 := eq_true q6
                go_wp2
                go_roundg k1
                case measure => have := HK1.out; omega
                case rel => exact ⟨(Go.bits .or .i64 x5_1 (ji9)), (wrap64 (x11_1 + 1)), (by first | rfl | (simp; done) | (simp only [← hji9] <;> (first | rfl | simp)) | (simp [*]; done)), (by first | rfl | (simp; done) | (simp [*]; done)), H', ⟨by have := HK1.out; omega⟩, ⟨by repeat (first | (with_reducible first | exact HB.out | apply below_alloc | apply pw_below_drewN | apply below_drew1) | exact HB.out)⟩⟩
              · rw [if_neg c10] at H
                have c10b0 : decide (128 ≤ (wrap64 (bt a0 x11_1))) = false := decide_eq_false c10
                clear c10
                by_cases c11 : (wrap64 (bt a0 x11_1)) = 0
                · rw [if_pos c11] at H
                  have c11b0 : ((wrap64 (bt a0 x11_1)) == 0) = true := beq_iff_eq.mpr c11
                  have c11b1 : ((wrap64 (bt a0 x11_1)) != 0) = false := bne_eq_false_iff_eq.mpr c11
                  clear c11
                  by_cases c12 : x11_1 > 0
                  · rw [if_pos c12] at H
                    have c12b0 : decide (0 < x11_1) = true := decide_eq_true c12
                    clear c12
                    simp only [Option.some.injEq, Prod.mk.injEq] at H
                    obtain ⟨rfl, rfl, rfl⟩ := H
                    have p6 : 0 ≤ (x11_1 : Int) := of_decide_eq_true (by first | (with_reducible assumption) | assumption)
                    have q6 : x11_1 < (a0.size : Int) := of_decide_eq_true (by first | (with_reducible assumption) | assumption)
                    have hx6 := bt_at a0 x11_1
                    replace p6 := eq_true p6
                    replace q6 := eq_true q6
                    go_wp2
                    go_ret3
                    exact ⟨by first | rfl | (simp [errW_none, errW_some] <;> rfl) | (simp only [← hji2, ← hji7, ← hji9]; first | rfl | (simp [errW_none, errW_some] <;> rfl)) | (simp [*, errW_none, errW_some] <;> rfl), by repeat (first | (with_reducible first | exact HB.out | apply below_alloc | apply pw_below_drewN | apply below_drew1) | exact HB.out)⟩
                  · rw [if_neg c12] at H
                    have c12b0 : decide (0 < x11_1) = false := decide_eq_false c12
                    clear c12
                    simp only [Option.some.injEq, Prod.mk.injEq] at H
                    obtain ⟨rfl, rfl, rfl⟩ := H
                    have p6 : 0 ≤ (x11_1 : Int) := of_decide_eq_true (by first | (with_reducible assumption) | assumption)
                    have q6 : x11_1 < (a0.size : Int) := of_decide_eq_true (by first | (with_reducible assumption) | assumption)
                    have hx6 := bt_at a0 x11_1
                    replace p6 := eq_true p6
                    replace q6 := eq_true q6
                    go_wp2
                    go_ret3
                    exact ⟨by first | rfl | (simp [errW_none, errW_some] <;> rfl) | (simp only [← hji2, ← hji7, ← hji9]; first | rfl | (simp [errW_none, errW_some] <;> rfl)) | (simp [*, errW_none, errW_some] <;> rfl), by repeat (first | (with_reducible first | exact HB.out | apply below_alloc | apply pw_below_drewN | apply below_drew1) | exact HB.out)⟩
                · rw [if_neg c11] at H
                  have c11b0 : ((wrap64 (bt a0 x11_1)) == 0) = false := beq_eq_false_iff_ne.mpr c11
                  have c11b1 : ((wrap64 (bt a0 x11_1)) != 0) = true := bne_iff_ne.mpr c11
                  simp only [Option.some.injEq, Prod.mk.injEq] at H
                  obtain ⟨rfl, rfl, rfl⟩ := H
                  have p6 : 0 ≤ (x11_1 : Int) := of_decide_eq_true (by first | (with_reducible assumption) | assumption)
                  have q6 : x11_1 < (a0.size : Int) := of_decide_eq_true (by first | (with_reducible assumption) | assumption)
                  have hx6 := bt_at a0 x11_1
                  replace p6 := eq_true p6
                  replace q6 := eq_true q6
                  go_wp2
                  go_ret3
                  exact ⟨by first | rfl | (simp [errW_none, errW_some] <;> rfl) | (simp only [← hji2, ← hji7, ← hji9]; first | rfl | (simp [errW_none, errW_some] <;> rfl)) | (simp [*, errW_none, errW_some] <;> rfl), by repeat (first | (with_reducible first | exact HB.out | apply below_alloc | apply pw_below_drewN | apply below_drew1) | exact HB.out)⟩
            · rw [if_neg c8] at H
              exact absurd H (by simp)
          · rw [if_neg c5] at H
            exact absurd H (by simp)
        · rw [if_neg c4] at H
          exact absurd H (by simp)
      · rw [if_neg c3] at H
        have c3b0 : decide (x11_1 < ji2) = false := decide_eq_false c3
        clear c3
        by_cases c13 : (a0.size : Int) ≥ 9
        · rw [if_pos c13] at H
          have c13b0 : decide (9 ≤ (a0.size : Int)) = true := decide_eq_true c13
          have c13b1 : decide (9 ≤ a0.size) = true := decide_eq_true (by omega)
          clear c13
          simp only [Option.some.injEq, Prod.mk.injEq] at H
          obtain ⟨rfl, rfl, rfl⟩ := H
          go_wp2
          go_ret3
          exact ⟨by first | rfl | (simp [errW_none, errW_some] <;> rfl) | (simp only [← hji2]; first | rfl | (simp [errW_none, errW_some] <;> rfl)) | (simp [*, errW_none, errW_some] <;> rfl), by repeat (first | (with_reducible first | exact HB.out | apply below_alloc | apply pw_below_drewN | apply below_drew1) | exact HB.out)⟩
        · rw [if_neg c13] at H
          have c13b0 : decide (9 ≤ (a0.size : Int)) = false := decide_eq_false c13
          have c13b1 : decide (9 ≤ a0.size) = false := decide_eq_false (by omega)
          clear c13
          simp only [Option.some.injEq, Prod.mk.injEq] at H
          obtain ⟨rfl, rfl, rfl⟩ := H
          go_wp2
          go_ret3
          exact ⟨by first | rfl | (simp [errW_none, errW_some] <;> rfl) | (simp only [← hji2]; first | rfl | (simp [errW_none, errW_some] <;> rfl)) | (simp [*, errW_none, errW_some] <;> rfl), by repeat (first | (with_reducible first | exact HB.out | apply below_alloc | apply pw_below_drewN | apply below_drew1) | exact HB.out)⟩

end Go.Proofs.YtceedgflpkaclaaDoor.P

/- What one function of the program computes, as a Lean function, and a proof that its call comes to just that. Conditions: none. Written by wip/ownprint.py. -/
namespace Go.Proofs.YtceedgflpkaclaaDoor.P
open Go.RowKit Go.Proofs.YtceedgflpkaclaaDoorW.PrintWords Go.Proofs.YtceedgflpkaclaaDoorW.PrintLast Go.Proofs.YtceedgflpkaclaaDoorW.PrintMore
attribute [local go_sem] max2_int min2_int max_two min_two max_three min_three max_four min_four   -- for this text's walks alone
set_option linter.unusedVariables false
set_option linter.unusedSimpArgs false

/-! ### frame_Loose: function 40 -/
mutual
def frame_Loose.l0 : Nat → ByteArray → List ByteArray → Option (List ByteArray × Int)
  | 0, _, _ => none
  | k + 1, x0, x4 => if x0.toList = ([] : List UInt8) then (some (x4, 0)) else ((frame_Read.f k x0).bind fun bt255 => (if bt255.2.2 = 0 then (if bt255.1 > 8192 then (frame_Loose.j1 k x0 x4 bt255.1 bt255.2.1 true) else (frame_Loose.j1 k x0 x4 bt255.1 bt255.2.1 ((x4.length : Int) == 512))) else (some (([] : List ByteArray), bt255.2.2))))
def frame_Loose.j1 : Nat → ByteArray → List ByteArray → Int → Int → Bool → Option (List ByteArray × Int)
  | 0, _, _, _, _, _ => none
  | k + 1, x0, x4, x5, x6, x20 => if x20 = true then (some (([] : List ByteArray), 2)) else (if x5 > (wrap64 ((x0.size : Int) - x6)) then (some (([] : List ByteArray), 3)) else (if 0 ≤ x6 then (if x6 ≤ (wrap64 (x6 + x5)) then (if (wrap64 (x6 + x5)) ≤ (x0.size : Int) then (if x4.length < 8796093022208 then (if 0 ≤ (wrap64 (x6 + x5)) then (frame_Loose.l0 k (x0.extract ((wrap64 (x6 + x5)) : Int).toNat x0.size) (x4 ++ [x0.extract (x6 : Int).toNat ((wrap64 (x6 + x5)) : Int).toNat])) else (none)) else (none)) else (none)) else (none)) else (none)))
end
def frame_Loose.f (k : Nat) (a0 : ByteArray) : Option (List ByteArray × Int) := frame_Loose.l0 k a0 ([] : List ByteArray)
theorem frame_Loose.mono_l : ∀ k, (∀ y0 y1, LeO (frame_Loose.l0 k y0 y1) (frame_Loose.l0 (k + 1) y0 y1)) ∧ (∀ y0 y1 y2 y3 y4, LeO (frame_Loose.j1 k y0 y1 y2 y3 y4) (frame_Loose.j1 (k + 1) y0 y1 y2 y3 y4))
  | 0 => ⟨fun _ _ r h => by simp [frame_Loose.l0] at h, fun _ _ _ _ _ r h => by simp [frame_Loose.j1] at h⟩
  | k + 1 => by
    obtain ⟨ih0, ih1⟩ := frame_Loose.mono_l k
    refine ⟨?_, ?_⟩
    · intro y0 y1
      unfold frame_Loose.l0
      repeat' first
      | (with_reducible exact ih0 _ _)
      | (with_reducible exact ih1 _ _ _ _ _)
      | (with_reducible exact frame_Read.mono _ _)
      | (with_reducible exact LeO.refl _)
      | (with_reducible exact LeO.none _)
      | (with_reducible refine LeO.ite ?_ ?_)
      | (with_reducible refine LeO.bind ?_ (fun _ => ?_))
      | exact ih0 _ _
      | exact ih1 _ _ _ _ _
      | exact frame_Read.mono _ _
      | exact LeO.none _
      | refine LeO.ite ?_ ?_
      | refine LeO.bind ?_ (fun _ => ?_)
    · intro y0 y1 y2 y3 y4
      unfold frame_Loose.j1
      repeat' first
      | (with_reducible exact ih0 _ _)
      | (with_reducible exact ih1 _ _ _ _ _)
      | (with_reducible exact frame_Read.mono _ _)
      | (with_reducible exact LeO.refl _)
      | (with_reducible exact LeO.none _)
      | (with_reducible refine LeO.ite ?_ ?_)
      | (with_reducible refine LeO.bind ?_ (fun _ => ?_))
      | exact ih0 _ _
      | exact ih1 _ _ _ _ _
      | exact frame_Read.mono _ _
      | exact LeO.none _
      | refine LeO.ite ?_ ?_
      | refine LeO.bind ?_ (fun _ => ?_)
theorem frame_Loose.mono : ∀ a0 k, LeO (frame_Loose.f k a0) (frame_Loose.f (k + 1) a0) := by
  intro a0 k
  obtain ⟨ih0, ih1⟩ := frame_Loose.mono_l k
  unfold frame_Loose.f
  repeat' first
      | (with_reducible exact ih0 _ _)
      | (with_reducible exact ih1 _ _ _ _ _)
      | (with_reducible exact frame_Read.mono _ _)
      | (with_reducible exact LeO.refl _)
      | (with_reducible exact LeO.none _)
      | (with_reducible refine LeO.ite ?_ ?_)
      | (with_reducible refine LeO.bind ?_ (fun _ => ?_))
      | exact ih0 _ _
      | exact ih1 _ _ _ _ _
      | exact frame_Read.mono _ _
      | exact LeO.none _
      | refine LeO.ite ?_ ?_
      | refine LeO.bind ?_ (fun _ => ?_)
def frame_Loose.T10 : Bool × List (List Nat × List Nat) := (true, [([], []), ([], []), ([], []), ([], []), ([], []), ([3, 4], [3, 4]), ([1, 2, 5], [1, 2, 5]), ([6], [6]), ([0, 7], [0, 7]), ([], []), ([], []), ([], []), ([10, 11], [10, 11]), ([9, 12], [9, 12]), ([8, 8, 0, 1, 2, 3, 4, 5, 6, 7, 8], [0, 8]), ([13, 14, 0, 1, 2, 3, 4, 5, 6, 7, 8, 9, 10, 11, 12, 13, 14], [1, 9, 13])])
def frame_Loose.B10 : List Nat := [0, 0, 0, 0, 0, 24, 62, 126, 255, 0, 0, 0, 3072, 7680, 511, 32767]
theorem frame_Loose.tab10 : rtab .any (opsOf Tryd.f40 10) = frame_Loose.T10 := by kernel_rfl
theorem frame_Loose.bits10 : waitsOk frame_Loose.T10.2 frame_Loose.B10 = true := by kernel_rfl
set_option maxHeartbeats 8000000 in
set_option maxRecDepth 100000 in
theorem frame_Loose.calls (k : Nat) (a0 : ByteArray) (r1 : List ByteArray) (r2 : Int) (w : World) (h : frame_Loose.f k a0 = some (r1, r2)) :
    Calls Tryd.prog 40 #[.string a0] w fun e w' => ∃ v0_ : Value, e = .returned (.tuple #[v0_, .int .i64 r2]) ∧ Kd.R Kd.string 9 w' w.heap.size (fun _ => True) v0_ r1 ∧ Below w.heap.size w w' := by
  have HB := Aside0.mk (Below.refl w.heap.size w)
  have H : (frame_Loose.l0 k a0 ([] : List ByteArray)) = some (r1, r2) := h
  clear h
  have H' := Aside0.mk H
  clear H
  go_enter Tryd.func40, Tryd.ntmps40
  go_wp2
  go_loopg [0, 4] k (fun kq v0 v4 w' => ∃ (x0_1 : ByteArray) (x4_1 : List ByteArray), v0 = .string x0_1 ∧ Aside0 (frame_Loose.l0 kq x0_1 x4_1 = some (r1, r2)) ∧ Aside0 (kq ≤ k) ∧ Aside0 (Kd.R Kd.string 9 w' w.heap.size (fun _ => True) v4 x4_1) ∧ Aside0 (Below w.heap.size w w'))
  case atStart => exact ⟨(a0), (([] : List ByteArray)), (by first | rfl | (simp; done) | (simp [*]; done)), H', ⟨Nat.le_refl _⟩, ⟨by first | exact Kd.R_nil _ _ _ _ _ | exact Kd.N_nil _ _ _ _ _ | exact Kd.V_nil _ _ _ _ _ | exact Kd.Q_nil _ _ _ _ _ | exact Kd.S_nil _ _ _ _ _⟩, ⟨by repeat (first | (with_reducible first | exact HB.out | apply below_alloc | apply pw_below_drewN | apply below_drew1) | exact HB.out)⟩⟩
  case round =>
    clear H'
    obtain ⟨x0_1, x4_1, rfl, HA, HK1, HO_4, HB⟩ := hrel
    cases gk with
    | zero => exact absurd HA.out (by simp [frame_Loose.l0])
    | succ k1 =>
      have H := HA.out
      clear HA
      simp only [frame_Loose.l0] at H
      by_cases c2 : x0_1.toList = ([] : List UInt8)
      · rw [if_pos c2] at H
        have c2b0 : (x0_1.toList == ([] : List UInt8)) = true := beq_iff_eq.mpr c2
        have c2b1 : (x0_1.toList != ([] : List UInt8)) = false := bne_eq_false_iff_eq.mpr c2
        clear c2
        simp only [Option.some.injEq, Prod.mk.injEq] at H
        obtain ⟨rfl, rfl⟩ := H
        go_wp2
        go_ret2
        exact ⟨_, by first | rfl | (simp [errW_none, errW_some] <;> rfl) | (simp [*, errW_none, errW_some] <;> rfl), by (with_reducible repeat (first | apply Kd.R_alloc | apply Kd.R_drewN | apply Kd.R_drew)); exact HO_4.out, by repeat (first | (with_reducible first | exact HB.out | apply below_alloc | apply pw_below_drewN | apply below_drew1) | exact HB.out)⟩
      · rw [if_neg c2] at H
        have c2b0 : (x0_1.toList == ([] : List UInt8)) = false := beq_eq_false_iff_ne.mpr c2
        have c2b1 : (x0_1.toList != ([] : List UInt8)) = true := bne_iff_ne.mpr c2
        replace H := Option.bind_eq_some_iff.mp H
        obtain ⟨⟨t255, t256, t257⟩, A30, H⟩ := H
        replace H : (if t257 = 0 then (if t255 > 8192 then (frame_Loose.j1 k1 x0_1 x4_1 t255 t256 true) else (frame_Loose.j1 k1 x0_1 x4_1 t255 t256 ((x4_1.length : Int) == 512))) else (some (([] : List ByteArray), t257))) = some (r1, r2) := H
        have A3 := Aside0.mk A30
        clear A30
        by_cases c4 : t257 = 0
        · rw [if_pos c4] at H
          have c4b0 : (t257 == 0) = true := beq_iff_eq.mpr c4
          have c4b1 : (t257 != 0) = false := bne_eq_false_iff_eq.mpr c4
          clear c4
          have HC5 := Aside0.mk H
          clear H
          go_upto_region 6 with (first | ((with_reducible refine gate_callee (f := 60) rfl ?_); refine goesL_ (some 12) rfl rfl Tryd.func60 (by kernel_rfl) rfl #[.string x0_1] rfl (by (try simp only [List.map_toArray, List.map_cons, List.map_nil]); first | done | rfl | (simp only [List.length_drop, List.length_take]; rfl)) ?_; (with_reducible refine (frame_Read.calls k1 x0_1 t255 t256 t257 _ A3.out).mono ?_); rintro e w6 ⟨rfl, hb⟩; refine ⟨_, rfl, ?_⟩; have n0_ := Aside0.mk (Kd.R_below (by (with_reducible repeat (first | apply Kd.R_alloc | apply Kd.R_drewN | apply Kd.R_drew)); exact HO_4.out) hb); have n1_ := Aside0.mk (below_step (by repeat (first | (with_reducible first | exact HB.out | apply below_alloc | apply pw_below_drewN | apply below_drew1) | exact HB.out)) hb); clear HO_4; clear HB; have HO_4 := n0_; have HB := n1_; clear n0_ n1_; (try clear hb); (try clear hb2); (try clear hk); (try clear hi)))
          (try simp only [Act.put, List.setIfInBounds_toArray, List.set_cons_zero, List.set_cons_succ])
          go_cut [20] (fun v20 wc => ∃ (kq : Nat) (x20_4 : Bool), v20 = .bool x20_4 ∧ Aside0 (frame_Loose.j1 kq x0_1 x4_1 t255 t256 x20_4 = some (r1, r2)) ∧ Aside0 (kq ≤ k1) ∧ Aside0 (Kd.R Kd.string 9 wc w.heap.size (fun _ => True) u4 x4_1) ∧ Aside0 (Below w.heap.size w wc))
          case first =>
            have H := HC5.out
            clear HC5
            by_cases c7 : t255 > 8192
            · rw [if_pos c7] at H
              have c7b0 : decide (8192 < t255) = true := decide_eq_true c7
              clear c7
              (first | rw [c7b0] | (simp only [i64_w, i32_w]; rw [c7b0]) | skip)
              have H' := Aside0.mk H
              clear H
              go_wp2
              go_meet
              case rel => exact ⟨_, (true), (by first | rfl | (simp; done) | (simp [*]; done)), H', ⟨by have := HK1.out; first | omega | exact Nat.le_refl _⟩, ⟨by (with_reducible repeat (first | apply Kd.R_alloc | apply Kd.R_drewN | apply Kd.R_drew)); exact HO_4.out⟩, ⟨by repeat (first | (with_reducible first | exact HB.out | apply below_alloc | apply pw_below_drewN | apply below_drew1) | exact HB.out)⟩⟩
            · rw [if_neg c7] at H
              have c7b0 : decide (8192 < t255) = false := decide_eq_false c7
              clear c7
              (first | rw [c7b0] | (simp only [i64_w, i32_w]; rw [c7b0]) | skip)
              have H' := Aside0.mk H
              clear H
              obtain ⟨Ao8, co8, eo8⟩ := Kd.R_slice HO_4.out
              subst eo8
              go_wp2
              go_meet
              case rel => exact ⟨_, (((x4_1.length : Int) == 512)), (by first | rfl | (simp; done) | (simp [*]; done)), H', ⟨by have := HK1.out; first | omega | exact Nat.le_refl _⟩, ⟨by (with_reducible repeat (first | apply Kd.R_alloc | apply Kd.R_drewN | apply Kd.R_drew)); exact HO_4.out⟩, ⟨by repeat (first | (with_reducible first | exact HB.out | apply below_alloc | apply pw_below_drewN | apply below_drew1) | exact HB.out)⟩⟩
          case rest =>
            clear HC5
            try clear c2
            try clear c2b0
            try clear c2b1
            try clear p2
            try clear c4
            try clear c4b0
            try clear c4b1
            try clear c6
            try clear c7
            try clear c7b0
            obtain ⟨kq, x20_4, rfl, HA, HJ4, HO_4, HB⟩ := hcut
            cases kq with
            | zero => exact absurd HA.out (by simp [frame_Loose.j1])
            | succ kj4 =>
              have H := HA.out
              clear HA
              simp only [frame_Loose.j1] at H
              by_cases c9 : x20_4 = true
              · subst c9
                have H1 : (some (([] : List ByteArray), 2)) = some (r1, r2) := by rw [if_pos rfl] at H; exact H
                clear H
                have H := H1
                clear H1
                simp only [Option.some.injEq, Prod.mk.injEq] at H
                obtain ⟨rfl, rfl⟩ := H
                go_wp2
                go_ret2
                exact ⟨_, by first | rfl | (simp [errW_none, errW_some] <;> rfl) | (simp [*, errW_none, errW_some] <;> rfl), by first | exact Kd.R_nil _ _ _ _ _ | exact Kd.N_nil _ _ _ _ _ | exact Kd.V_nil _ _ _ _ _ | exact Kd.Q_nil _ _ _ _ _ | exact Kd.S_nil _ _ _ _ _, by repeat (first | (with_reducible first | exact HB.out | apply below_alloc | apply pw_below_drewN | apply below_drew1) | exact HB.out)⟩
              · replace c9 := Bool.eq_false_iff.mpr c9
                subst c9
                have H1 : (if t255 > (wrap64 ((x0_1.size : Int) - t256)) then (some (([] : List ByteArray), 3)) else (if 0 ≤ t256 then (if t256 ≤ (wrap64 (t256 + t255)) then (if (wrap64 (t256 + t255)) ≤ (x0_1.size : Int) then (if x4_1.length < 8796093022208 then (if 0 ≤ (wrap64 (t256 + t255)) then (frame_Loose.l0 kj4 (x0_1.extract ((wrap64 (t256 + t255)) : Int).toNat x0_1.size) (x4_1 ++ [x0_1.extract (t256 : Int).toNat ((wrap64 (t256 + t255)) : Int).toNat])) else (none)) else (none)) else (none)) else (none)) else (none))) = some (r1, r2) := by rw [if_neg (show ¬ (false = true) by decide)] at H; exact H
                clear H
                have H := H1
                clear H1
                by_cases c10 : t255 > (wrap64 ((x0_1.size : Int) - t256))
                · rw [if_pos c10] at H
                  have c10b0 : decide ((wrap64 ((x0_1.size : Int) - t256)) < t255) = true := decide_eq_true c10
                  clear c10
                  simp only [Option.some.injEq, Prod.mk.injEq] at H
                  obtain ⟨rfl, rfl⟩ := H
                  go_wp2
                  go_ret2
                  exact ⟨_, by first | rfl | (simp [errW_none, errW_some] <;> rfl) | (simp [*, errW_none, errW_some] <;> rfl), by first | exact Kd.R_nil _ _ _ _ _ | exact Kd.N_nil _ _ _ _ _ | exact Kd.V_nil _ _ _ _ _ | exact Kd.Q_nil _ _ _ _ _ | exact Kd.S_nil _ _ _ _ _, by repeat (first | (with_reducible first | exact HB.out | apply below_alloc | apply pw_below_drewN | apply below_drew1) | exact HB.out)⟩
                · rw [if_neg c10] at H
                  have c10b0 : decide ((wrap64 ((x0_1.size : Int) - t256)) < t255) = false := decide_eq_false c10
                  clear c10
                  by_cases c11 : 0 ≤ t256
                  · rw [if_pos c11] at H
                    have c11b0 := eq_true c11
                    have c11b1 : decide (0 ≤ t256) = true := decide_eq_true c11
                    clear c11
                    by_cases c12 : t256 ≤ (wrap64 (t256 + t255))
                    · rw [if_pos c12] at H
                      have c12b0 := eq_true c12
                      have c12b1 : decide (t256 ≤ (wrap64 (t256 + t255))) = true := decide_eq_true c12
                      by_cases c13 : (wrap64 (t256 + t255)) ≤ (x0_1.size : Int)
                      · rw [if_pos c13] at H
                        have c13b0 := eq_true c13
                        have c13b1 : decide ((wrap64 (t256 + t255)) ≤ (x0_1.size : Int)) = true := decide_eq_true c13
                        by_cases c14 : x4_1.length < 8796093022208
                        · rw [if_pos c14] at H
                          have LMc14 := Aside0.mk c14
                          clear c14
                          obtain ⟨y258, hy258⟩ : ∃ y_ : List ByteArray, y_ = (x4_1 ++ [x0_1.extract (t256 : Int).toNat ((wrap64 (t256 + t255)) : Int).toNat]) := ⟨_, rfl⟩
                          replace H : (if 0 ≤ (wrap64 (t256 + t255)) then (frame_Loose.l0 kj4 (x0_1.extract ((wrap64 (t256 + t255)) : Int).toNat x0_1.size) y258) else (none)) = some (r1, r2) := by first | (rw [hy258]; with_reducible exact H) | (have H2_ := (Option.bind_some _ _).symm.trans H; rw [hy258]; with_reducible exact H2_) | (have H2_ := (Option.bind_some _ _).symm.trans H; with_reducible exact H2_) | with_reducible exact H | (rw [hy258]; exact H) | exact H
                          have Ny258 := Aside0.mk hy258
                          clear hy258
                          obtain ⟨ji15, hji15⟩ : ∃ j_ : Int, (wrap64 (t256 + t255)) = j_ := ⟨_, rfl⟩
                          replace H : (if 0 ≤ (ji15) then (frame_Loose.l0 kj4 (x0_1.extract ((ji15) : Int).toNat x0_1.size) y258) else (none)) = some (r1, r2) := by first | (rw [hji15] at H; exact H) | (simp only [hji15] at H ⊢; exact H)
                          (try rw [hji15] at c12b0)
                          (try rw [hji15] at c12b1)
                          (try rw [hji15] at c12)
                          (try rw [hji15] at c13b0)
                          (try rw [hji15] at c13b1)
                          (try rw [hji15] at c13)
                          (try rw [hji15] at Ny258)
                          have hji15w : (IntKind.i64.wrap (t256 + t255)) = ji15 := (i64_w _).trans hji15
                          by_cases c16 : 0 ≤ (ji15)
                          · rw [if_pos c16] at H
                            have c16b0 := eq_true c16
                            have c16b1 : decide (0 ≤ (ji15)) = true := decide_eq_true c16
                            clear c16
                            have c17b0 := eq_true (of_decide_eq_true (by first | (with_reducible assumption) | assumption) : (ji15) ≤ (x0_1.size : Int))
                            have H' := Aside0.mk H
                            clear H
                            try go_wp2
                            have n0_ := Aside0.mk (Kd.R_drew HO_4.out)
                            have n1_ := Aside0.mk (below_drew1 HB.out)
                            clear HO_4
                            clear HB
                            have HO_4 := n0_
                            have HB := n1_
                            clear n0_ n1_
                            refine start_ (n := 16) (S := fun w' => True) (ds := []) #[false, false, false, false, false, false, false, false, false, false, false, false, false, false, false, false] (by kernel_rfl) rfl rfl trivial (fun hHeld => ?_); refine with_tabW frame_Loose.tab10 frame_Loose.bits10 (fun HT_ HW_ => ?_)
                            generalize wc.drew = w18 at HO_4 HB hHeld ⊢
                            refine pure_ (i := 0) (N := some 35) (v := ?_) (a' := ?_) #[true, false, false, false, false, false, false, false, false, false, false, false, false, false, false, false] rfl rfl (any_of HT_.out (by kernel_rfl)) (fun _ _ _ h => h) (Or.inl ⟨by rfl, ?_⟩) ?_ ?_
                            rotate_left
                            · intro w'
                              go_simp
                              with_reducible rfl
                            rotate_left
                            · simp only [Act.put, List.setIfInBounds_toArray, List.set_cons_zero, List.set_cons_succ, i64_w, i32_w]
                              rfl
                            refine pure_ (i := 1) (N := some 36) (v := ?_) (a' := ?_) #[true, true, false, false, false, false, false, false, false, false, false, false, false, false, false, false] rfl rfl (any_of HT_.out (by kernel_rfl)) (fun _ _ _ h => h) (Or.inl ⟨by rfl, ?_⟩) ?_ ?_
                            rotate_left
                            · intro w'
                              go_simp
                              with_reducible rfl
                            rotate_left
                            · simp only [Act.put, List.setIfInBounds_toArray, List.set_cons_zero, List.set_cons_succ, i64_w, i32_w]
                              rfl
                            refine pure_ (i := 2) (N := some 37) (v := ?_) (a' := ?_) #[true, true, true, false, false, false, false, false, false, false, false, false, false, false, false, false] rfl rfl (any_of HT_.out (by kernel_rfl)) (fun _ _ _ h => h) (Or.inl ⟨by rfl, ?_⟩) ?_ ?_
                            rotate_left
                            · intro w'
                              go_simp
                              with_reducible rfl
                            rotate_left
                            · simp only [Act.put, List.setIfInBounds_toArray, List.set_cons_zero, List.set_cons_succ, i64_w, i32_w]
                              rfl
                            refine pure_ (i := 3) (N := some 38) (v := ?_) (a' := ?_) #[true, true, true, true, false, false, false, false, false, false, false, false, false, false, false, false] rfl rfl (any_of HT_.out (by kernel_rfl)) (fun _ _ _ h => h) (Or.inl ⟨by rfl, ?_⟩) ?_ ?_
                            rotate_left
                            · intro w'
                              go_simp
                              with_reducible rfl
                            rotate_left
                            · simp only [Act.put, List.setIfInBounds_toArray, List.set_cons_zero, List.set_cons_succ, i64_w, i32_w]
                              rfl
                            refine pure_ (i := 4) (N := some 39) (v := ?_) (a' := ?_) #[true, true, true, true, true, false, false, false, false, false, false, false, false, false, false, false] rfl rfl (any_of HT_.out (by kernel_rfl)) (fun _ _ _ h => h) (Or.inl ⟨by rfl, ?_⟩) ?_ ?_
                            rotate_left
                            · intro w'
                              go_simp
                              with_reducible rfl
                            rotate_left
                            · simp only [Act.put, List.setIfInBounds_toArray, List.set_cons_zero, List.set_cons_succ, i64_w, i32_w]
                              rfl
                            refine pure_ (i := 5) (N := some 40) (v := ?_) (a' := ?_) #[true, true, true, true, true, true, false, false, false, false, false, false, false, false, false, false] rfl rfl (any_of HT_.out (by kernel_rfl)) (fun _ _ _ h => h) (Or.inl ⟨by rfl, ?_⟩) ?_ ?_
                            rotate_left
                            · intro w'
                              go_simp
                              with_reducible rfl
                            rotate_left
                            · simp only [Act.put, List.setIfInBounds_toArray, List.set_cons_zero, List.set_cons_succ, i64_w, i32_w]
                              rfl
                            refine pure_ (i := 6) (N := some 41) (v := ?_) (a' := ?_) #[true, true, true, true, true, true, true, false, false, false, false, false, false, false, false, false] rfl rfl (any_of HT_.out (by kernel_rfl)) (fun _ _ _ h => h) (Or.inl ⟨by rfl, ?_⟩) ?_ ?_
                            rotate_left
                            · intro w'
                              go_simp
                              with_reducible rfl
                            rotate_left
                            · simp only [Act.put, List.setIfInBounds_toArray, List.set_cons_zero, List.set_cons_succ, i64_w, i32_w]
                              rfl
                            refine pure_ (i := 9) (N := some 44) (v := ?_) (a' := ?_) #[true, true, true, true, true, true, true, false, false, true, false, false, false, false, false, false] rfl rfl (any_of HT_.out (by kernel_rfl)) (fun _ _ _ h => h) (Or.inl ⟨by rfl, ?_⟩) ?_ ?_
                            rotate_left
                            · intro w'
                              go_simp
                              with_reducible rfl
                            rotate_left
                            · simp only [Act.put, List.setIfInBounds_toArray, List.set_cons_zero, List.set_cons_succ, i64_w, i32_w]
                              rfl
                            refine pure_ (i := 10) (N := some 45) (v := ?_) (a' := ?_) #[true, true, true, true, true, true, true, false, false, true, true, false, false, false, false, false] rfl rfl (any_of HT_.out (by kernel_rfl)) (fun _ _ _ h => h) (Or.inl ⟨by rfl, ?_⟩) ?_ ?_
                            rotate_left
                            · intro w'
                              go_simp
                              with_reducible rfl
                            rotate_left
                            · simp only [Act.put, List.setIfInBounds_toArray, List.set_cons_zero, List.set_cons_succ, i64_w, i32_w]
                              rfl
                            refine pure_ (i := 11) (N := some 46) (v := ?_) (a' := ?_) #[true, true, true, true, true, true, true, false, false, true, true, true, false, false, false, false] rfl rfl (any_of HT_.out (by kernel_rfl)) (fun _ _ _ h => h) (Or.inl ⟨by rfl, ?_⟩) ?_ ?_
                            rotate_left
                            · intro w'
                              go_simp
                              with_reducible rfl
                            rotate_left
                            · simp only [Act.put, List.setIfInBounds_toArray, List.set_cons_zero, List.set_cons_succ, i64_w, i32_w]
                              rfl
                            refine pure_ (i := 12) (N := some 47) (v := ?_) (a' := ?_) #[true, true, true, true, true, true, true, false, false, true, true, true, true, false, false, false] rfl rfl (any_of HT_.out (by kernel_rfl)) (fun _ _ _ h => h) (Or.inl ⟨by rfl, ?_⟩) ?_ ?_
                            rotate_left
                            · intro w'
                              go_simp
                              with_reducible rfl
                            rotate_left
                            · simp only [Act.put, List.setIfInBounds_toArray, List.set_cons_zero, List.set_cons_succ, i64_w, i32_w]
                              rfl
                            refine pure_ (i := 13) (N := some 48) (v := ?_) (a' := ?_) #[true, true, true, true, true, true, true, false, false, true, true, true, true, true, false, false] rfl rfl (any_of HT_.out (by kernel_rfl)) (fun _ _ _ h => h) (Or.inl ⟨by rfl, ?_⟩) ?_ ?_
                            rotate_left
                            · intro w'
                              go_simp
                              with_reducible rfl
                            rotate_left
                            · simp only [Act.put, List.setIfInBounds_toArray, List.set_cons_zero, List.set_cons_succ, i64_w, i32_w]
                              rfl
                            refine one_ (i := 7) (N := some 42) #[true, true, true, true, true, true, true, true, false, true, true, true, true, true, false, false] rfl rfl (one_of HT_.out (by kernel_rfl)) (by decide) (fun K hK => ?_)
                            refine value_ (w1 := ?_) (v := ?_) (by rfl) rfl ?_ ?_
                            rotate_left 2
                            · go_simp
                              constructor
                              · rfl
                              · rfl
                            refine hK.out _ _ trivial (fun hHeld => ?_)
                            clear hK K
                            refine norm_ (a' := ?_) ?_ ?_
                            rotate_left
                            · show Act.put _ (some 42) _ = _
                              simp only [Act.put, List.setIfInBounds_toArray, List.set_cons_zero, List.set_cons_succ, i64_w, i32_w]
                              rfl
                            refine one_ (i := 8) (N := some 43) #[true, true, true, true, true, true, true, true, true, true, true, true, true, true, false, false] rfl rfl (one_of HT_.out (by kernel_rfl)) (by decide) (fun K hK => ?_)
                            refine Kd.R_append_step Kd.string (w0 := w) w.heap.size (by rfl) (.tmp 35) (.tmp 42) 29 9 (.string ⟨#[]⟩) 16 rfl Tryd.underlying29 info9 rfl (by decide) (by omega) u4 x4_1 (x0_1.extract (t256 : Int).toNat ((ji15) : Int).toNat) [.string (x0_1.extract (t256 : Int).toNat ((ji15) : Int).toNat)] (fun _ => True) (fun _ => False) rfl rfl ?aP (fun _ hk => hk.elim) ?aF ?aO ?aB ?aS ?aL ?_
                            (case aP => exact rfl)
                            (case aB => exact (by repeat (first | (with_reducible first | exact HB.out | apply below_alloc | apply pw_below_drewN | apply below_drew1) | exact HB.out)))
                            (case aF => exact (fun _ _ => trivial))
                            (case aO => exact (by (with_reducible repeat (first | apply Kd.R_alloc | apply Kd.R_drewN | apply Kd.R_drew)); exact HO_4.out))
                            (case aS => exact (below_size (by repeat (first | (with_reducible first | exact HB.out | apply below_alloc | apply pw_below_drewN | apply below_drew1) | exact HB.out))))
                            (case aL => have := LMc14.out; omega)
                            intro v259 w19 ho hb hg hat
                            rw [← Ny258.out] at ho
                            have n0_ := Aside0.mk (hb)
                            have n1_ := Aside0.mk (ho)
                            clear HB
                            clear HO_4
                            have HB := n0_
                            have HO260 := n1_
                            clear n0_ n1_
                            clear ho hb hg hat
                            refine hK.out _ _ trivial (fun hHeld => ?_)
                            clear hK K
                            refine norm_ (a' := ?_) ?_ ?_
                            rotate_left
                            · show Act.put _ (some 43) _ = _
                              simp only [Act.put, List.setIfInBounds_toArray, List.set_cons_zero, List.set_cons_succ, i64_w, i32_w]
                              rfl
                            refine pure_ (i := 14) (N := some 4) (v := ?_) (a' := ?_) #[true, true, true, true, true, true, true, true, true, true, true, true, true, true, true, false] rfl rfl (any_of HT_.out (by kernel_rfl)) (fun _ _ _ h => h) (Or.inl ⟨by rfl, ?_⟩) ?_ ?_
                            rotate_left
                            · intro w'
                              go_simp
                              with_reducible rfl
                            rotate_left
                            · simp only [Act.put, List.setIfInBounds_toArray, List.set_cons_zero, List.set_cons_succ, i64_w, i32_w]
                              rfl
                            refine pure_ (i := 15) (N := some 0) (v := ?_) (a' := ?_) #[true, true, true, true, true, true, true, true, true, true, true, true, true, true, true, true] rfl rfl (any_of HT_.out (by kernel_rfl)) (fun _ _ _ h => h) (Or.inl ⟨by rfl, ?_⟩) ?_ ?_
                            rotate_left
                            · intro w'
                              go_simp
                              with_reducible rfl
                            rotate_left
                            · simp only [Act.put, List.setIfInBounds_toArray, List.set_cons_zero, List.set_cons_succ, i64_w, i32_w]
                              rfl
                            refine done_ (done_of HT_.out (by kernel_rfl)) ?_
                            try go_wp2
                            go_roundg kj4
                            case measure => have := HK1.out; have := HJ4.out; omega
                            case rel => exact ⟨(x0_1.extract ((ji15) : Int).toNat x0_1.size), (y258), (by first | rfl | (simp; done) | (simp only [← hji15] <;> (first | rfl | simp)) | (simp [*]; done)), H', ⟨by have := HK1.out; have := HJ4.out; omega⟩, ⟨by (with_reducible repeat (first | apply Kd.R_alloc | apply Kd.R_drewN | apply Kd.R_drew)); exact HO260.out⟩, ⟨by repeat (first | (with_reducible first | exact HB.out | apply below_alloc | apply pw_below_drewN | apply below_drew1) | exact HB.out)⟩⟩
                          · rw [if_neg c16] at H
                            exact absurd H (by simp)
                        · rw [if_neg c14] at H
                          exact absurd H (by simp)
                      · rw [if_neg c13] at H
                        exact absurd H (by simp)
                    · rw [if_neg c12] at H
                      exact absurd H (by simp)
                  · rw [if_neg c11] at H
                    exact absurd H (by simp)
        · rw [if_neg c4] at H
          have c4b0 : (t257 == 0) = false := beq_eq_false_iff_ne.mpr c4
          have c4b1 : (t257 != 0) = true := bne_iff_ne.mpr c4
          simp only [Option.some.injEq, Prod.mk.injEq] at H
          obtain ⟨rfl, rfl⟩ := H
          go_wp2_with (first | ((with_reducible refine gate_callee (f := 60) rfl ?_); refine goesL_ (some 12) rfl rfl Tryd.func60 (by kernel_rfl) rfl #[.string x0_1] rfl (by (try simp only [List.map_toArray, List.map_cons, List.map_nil]); first | done | rfl | (simp only [List.length_drop, List.length_take]; rfl)) ?_; (with_reducible refine (frame_Read.calls k1 x0_1 t255 t256 t257 _ A3.out).mono ?_); rintro e w20 ⟨rfl, hb⟩; refine ⟨_, rfl, ?_⟩; have n0_ := Aside0.mk (Kd.R_below (by (with_reducible repeat (first | apply Kd.R_alloc | apply Kd.R_drewN | apply Kd.R_drew)); exact HO_4.out) hb); have n1_ := Aside0.mk (below_step (by repeat (first | (with_reducible first | exact HB.out | apply below_alloc | apply pw_below_drewN | apply below_drew1) | exact HB.out)) hb); clear HO_4; clear HB; have HO_4 := n0_; have HB := n1_; clear n0_ n1_; (try clear hb); (try clear hb2); (try clear hk); (try clear hi)))
          go_ret2
          exact ⟨_, by first | rfl | (simp [errW_none, errW_some] <;> rfl) | (simp [*, errW_none, errW_some] <;> rfl), by first | exact Kd.R_nil _ _ _ _ _ | exact Kd.N_nil _ _ _ _ _ | exact Kd.V_nil _ _ _ _ _ | exact Kd.Q_nil _ _ _ _ _ | exact Kd.S_nil _ _ _ _ _, by repeat (first | (with_reducible first | exact HB.out | apply below_alloc | apply pw_below_drewN | apply below_drew1) | exact HB.out)⟩

end Go.Proofs.YtceedgflpkaclaaDoor.P

/- frame.Crc comes to the check of its text's bytes, as a Lean function. Conditions: none. -/
namespace Go.Proofs.YtceedgflpkaclaaDoor.P
open Go.RowKit Go.Proofs.YtceedgflpkaclaaDoorW.PrintWords Go.Proofs.YtceedgflpkaclaaDoorW.PrintLast Go.Proofs.YtceedgflpkaclaaDoorW.PrintMore

/-- One of a byte's eight steps. -/
def crcStep (c : Int) : Int := if Go.bits .and .u32 c 1 = 1 then Go.bits .xor .u32 (c / 2) 3988292384 else c / 2
def crcSteps : Nat → Int → Int
  | 0, c => c
  | n + 1, c => crcStep (crcSteps n c)
def crcByte (c b : Int) : Int := crcSteps 8 (Go.bits .xor .u32 c b)
/-- Behind so many bytes. -/
def crcFold (s : ByteArray) : Nat → Int
  | 0 => 4294967295
  | i + 1 => crcByte (crcFold s i) (bt s i)
def frame_Crc.f (s : ByteArray) : Option Int := if s.size ≤ 9223372036854775807 then some (Go.bits .xor .u32 (crcFold s s.size) 4294967295) else none

def InU (c : Int) : Prop := 0 ≤ c ∧ c < 4294967296
theorem bits_u32 (op : BinOp) (x y : Int) : InU (Go.bits op .u32 x y) := by
  unfold Go.bits InU
  rw [IntKind.wrap_u32]
  omega
theorem crcStep_in {c : Int} (h : InU c) : InU (crcStep c) := by
  unfold crcStep
  split
  · exact bits_u32 _ _ _
  · unfold InU at *; omega
theorem crcSteps_in {c : Int} (h : InU c) : ∀ n, InU (crcSteps n c)
  | 0 => h
  | n + 1 => crcStep_in (crcSteps_in h n)
theorem crcFold_in (s : ByteArray) : ∀ n, InU (crcFold s n)
  | 0 => by unfold crcFold InU; omega
  | n + 1 => crcSteps_in (bits_u32 _ _ _) 8

/-- A block of one uint32. -/
structure OneU (w : World) (b : Nat) (c : Int) : Prop where
  at_ : w.heap[b]? = some (.cells #[.int .u32 c] 30 (0, 0))
theorem OneU.set {w : World} {b : Nat} {c : Int} (h : OneU w b c) (d : Int) : OneU (w.setCell ⟨b, 0, none⟩ (.int .u32 d)) b d := ⟨one_setCell h.at_⟩
theorem OneU.drewN {w : World} {b : Nat} {c : Int} (h : OneU w b c) (n : Nat) : OneU (w.drewN n) b c := ⟨h.at_⟩
theorem OneU.drew {w : World} {b : Nat} {c : Int} (h : OneU w b c) : OneU w.drew b c := ⟨h.at_⟩

set_option maxHeartbeats 400000 in
set_option maxRecDepth 100000 in
theorem crc_step (b : Nat) (c : Int) (w : World) (h : OneU w b c) :
    Calls Tryd.prog 70 #[.pointer (some ⟨b, 0, none⟩)] w fun e w' => e = .returned (.tuple #[]) ∧ OneU w' b (crcStep c) ∧ ∀ B, B ≤ b → ∀ w0, Below B w0 w → Below B w0 w' := by
  have hcell := cell_of_one h.at_
  have hfree := free_of_one h.at_
  by_cases ht : Go.bits .and .u32 c 1 = 1
  · have hb : (Go.bits .and .u32 c 1 == 1) = true := beq_iff_eq.2 ht
    have HT := Aside0.mk ht
    clear ht
    go_enter Tryd.func70, Tryd.ntmps70
    go_wp2
    go_end0
    refine ⟨rfl, ?_, fun B hB w0 hw => (hw.setCell hB _).setCell hB _⟩
    unfold crcStep
    rw [if_pos HT.out]
    exact (h.set _).set _
  · have hb : (Go.bits .and .u32 c 1 == 1) = false := beq_eq_false_iff_ne.2 ht
    have HT := Aside0.mk ht
    clear ht
    go_enter Tryd.func70, Tryd.ntmps70
    go_wp2
    go_end0
    refine ⟨rfl, ?_, fun B hB w0 hw => hw.setCell hB _⟩
    unfold crcStep
    rw [if_neg HT.out]
    exact h.set _

set_option maxHeartbeats 1000000 in
set_option maxRecDepth 100000 in
theorem crc_any (s : ByteArray) (w : World) (hs : s.size ≤ 9223372036854775807) :
    Calls Tryd.prog 62 #[.string s] w fun e w' => e = .returned (.int .u32 (Go.bits .xor .u32 (crcFold s s.size) 4294967295)) ∧ Below w.heap.size w w' := by
  have hmf : ∀ (fn : Fn) (first cap : Array Value) (w : World), (Instr.makeFunc fn first cap).run Tryd.prog w = .ok (.func fn first cap) w := fun _ _ _ _ => rfl
  go_enter Tryd.func62, Tryd.ntmps62
  go_wp2
  go_loopw [9] (fun i wr => ∃ k : Nat, k ≤ s.size ∧ i = .int .i64 k ∧ OneU wr w.heap.size (crcFold s k) ∧ Aside0 (Below w.heap.size w wr)) (fun i _ => s.size - (intOf i).toNat)
  case atStart => exact ⟨0, Nat.zero_le _, rfl, ⟨heap_alloc_new w _⟩, ⟨(Below.refl _ _).alloc (Nat.le_refl _) _⟩⟩
  case round =>
    obtain ⟨k, hk, rfl, ho, hb⟩ := hrel
    have hcell := cell_of_one ho.at_
    have hfree := free_of_one ho.at_
    by_cases hlt : k < s.size
    · have hx : (s[k].toNat : Int) = bt s k := bt_at s k hlt
      have hy := bt_range s k
      have HX := Aside0.mk hx
      clear hx
      have hr1 : (s[k].toNat : Int) < 256 := by have := s[k].toNat_lt; omega
      go_wp2
      go_region
      go_wp2
      go_loopw [18] (fun i wi => ∃ j : Nat, j ≤ 8 ∧ i = .int .i64 j ∧ OneU wi w.heap.size (crcSteps j (Go.bits .xor .u32 (crcFold s k) (bt s k))) ∧ Aside0 (Below w.heap.size w wi)) (fun i _ => 8 - (intOf i).toNat)
      case atStart => exact ⟨0, by omega, rfl, by rw [HX.out]; exact (ho.set _).drew, ⟨below_drew (hb.out.setCell (Nat.le_refl _) _)⟩⟩
      case round =>
        obtain ⟨j, hj, rfl, hi, hbi⟩ := hrel
        by_cases hj8 : j < 8
        · go_wp2_with (go_at_call 70; refine (crc_step _ _ _ hi).mono ?_; rintro e w1 ⟨rfl, ho1, hb1⟩)
          go_roundw
          case rel => exact ⟨j + 1, by omega, by go_num, ho1, ⟨hb1 _ (Nat.le_refl _) _ hbi.out⟩⟩
          case measure => simp [intOf]; omega
        · obtain rfl : j = 8 := by omega
          go_wp2
          go_roundw
          case rel => exact ⟨k + 1, by omega, by go_num, hi, hbi⟩
          case measure => simp [intOf]; omega
    · obtain rfl : k = s.size := by omega
      go_wp2
      go_ret
      exact ⟨rfl, hb.out⟩
theorem frame_Crc.calls (a0 : ByteArray) (r : Int) (w : World) (h : frame_Crc.f a0 = some r) :
    Calls Tryd.prog 62 #[.string a0] w fun e w' => e = .returned (.int .u32 r) ∧ Below w.heap.size w w' := by
  unfold frame_Crc.f at h
  by_cases hs : a0.size ≤ 9223372036854775807
  · rw [if_pos hs] at h
    obtain rfl := Option.some.inj h
    exact crc_any a0 w hs
  · rw [if_neg hs] at h
    cases h
end Go.Proofs.YtceedgflpkaclaaDoor.P

/- What one function of the program computes, as a Lean function, and a proof that its call comes to just that. Conditions: none. Written by wip/ownprint.py. -/
namespace Go.Proofs.YtceedgflpkaclaaDoor.P
open Go.RowKit Go.Proofs.YtceedgflpkaclaaDoorW.PrintWords Go.Proofs.YtceedgflpkaclaaDoorW.PrintLast Go.Proofs.YtceedgflpkaclaaDoorW.PrintMore
attribute [local go_sem] max2_int min2_int max_two min_two max_three min_three max_four min_four   -- for this text's walks alone
set_option linter.unusedVariables false
set_option linter.unusedSimpArgs false

/-! ### seal_checked: function 43 -/
def seal_checked.f (a0 : ByteArray) : Option (ByteArray) := (frame_Crc.f a0).bind fun t267 => (some (strOfNums (([(t267) % 256, (t267 / 256) % 256, (t267 / 65536) % 256, (t267 / 16777216) % 256] : List Int))))
set_option maxHeartbeats 8000000 in
set_option maxRecDepth 100000 in
theorem seal_checked.calls (a0 : ByteArray) (r : ByteArray) (w : World) (h : seal_checked.f a0 = some r) :
    Calls Tryd.prog 43 #[.string a0] w fun e w' => e = .returned (.string r) ∧ Below w.heap.size w w' := by
  have HB := Aside0.mk (Below.refl w.heap.size w)
  have H : ((frame_Crc.f a0).bind fun t267 => (some (strOfNums (([(t267) % 256, (t267 / 256) % 256, (t267 / 65536) % 256, (t267 / 16777216) % 256] : List Int))))) = some r := h
  clear h
  replace H := Option.bind_eq_some_iff.mp H
  obtain ⟨t267, A20, H⟩ := H
  replace H : (some (strOfNums (([(t267) % 256, (t267 / 256) % 256, (t267 / 65536) % 256, (t267 / 16777216) % 256] : List Int)))) = some r := H
  have A2 := Aside0.mk A20
  clear A20
  obtain ⟨y268, hy268⟩ : ∃ y_ : List Int, y_ = (([(t267) % 256, (t267 / 256) % 256, (t267 / 65536) % 256, (t267 / 16777216) % 256] : List Int)) := ⟨_, rfl⟩
  replace H : (some (strOfNums y268)) = some r := by first | (rw [hy268]; with_reducible exact H) | (have H2_ := (Option.bind_some _ _).symm.trans H; rw [hy268]; with_reducible exact H2_) | (have H2_ := (Option.bind_some _ _).symm.trans H; with_reducible exact H2_) | with_reducible exact H | (rw [hy268]; exact H) | exact H
  have Ny268 := Aside0.mk hy268
  clear hy268
  obtain rfl := Option.some.inj H
  go_enter Tryd.func43, Tryd.ntmps43
  go_wp2_with (first | ((with_reducible refine gate_callee (f := 62) rfl ?_); refine goesL_ (some 5) rfl rfl Tryd.func62 (by kernel_rfl) rfl #[.string a0] rfl (by (try simp only [List.map_toArray, List.map_cons, List.map_nil]); first | done | rfl | (simp only [List.length_drop, List.length_take]; rfl)) ?_; (with_reducible refine (frame_Crc.calls a0 t267 _ A2.out).mono ?_); rintro e w3 ⟨rfl, hb⟩; refine ⟨_, rfl, ?_⟩; have n0_ := Aside0.mk (below_step (by repeat (first | (with_reducible first | exact HB.out | apply below_alloc | apply pw_below_drewN | apply below_drew1) | exact HB.out)) hb); clear HB; have HB := n0_; clear n0_; (try clear hb); (try clear hb2); (try clear hk); (try clear hi)) | ((with_reducible refine gate_dst (N := 17) rfl ?_); refine Kd.R_lit (Kd.int .u8) _ 5 ?hg (N := 17) ?hd (xs := ([(t267) % 256, (t267 / 256) % 256, (t267 / 65536) % 256, (t267 / 16777216) % 256] : List Int)) (inner := [.int .u8 ((t267) % 256), .int .u8 ((t267 / 256) % 256), .int .u8 ((t267 / 65536) % 256), .int .u8 ((t267 / 16777216) % 256)]) (ok := fun _ => True) (okp := fun _ => True) ?hr ?hp (fun _ hk => hk) trivial (Below.refl _ _) (Nat.le_refl _) (by simp) ?_; (case hd => rfl); (case hg => rfl); (case hr => first | (go_simp; done) | (go_simp; rfl) | (go_simp; simp [IntKind.wrap_u32])); (case hp => exact (Reps.one (show Kd.M (Kd.int .u8) _ _ _ ((t267) % 256) [.int .u8 ((t267) % 256)] from rfl) (Reps.one (show Kd.M (Kd.int .u8) _ _ _ ((t267 / 256) % 256) [.int .u8 ((t267 / 256) % 256)] from rfl) (Reps.one (show Kd.M (Kd.int .u8) _ _ _ ((t267 / 65536) % 256) [.int .u8 ((t267 / 65536) % 256)] from rfl) (Reps.one (show Kd.M (Kd.int .u8) _ _ _ ((t267 / 16777216) % 256) [.int .u8 ((t267 / 16777216) % 256)] from rfl) (Reps.none _ _)))))); intro v269 w4 ho5 hb hg_ hnew_; clear hg_ hnew_; (first | rw [← Ny268.out] at ho5 | (simp only [Int.reduceToNat] at ho5; rw [← Ny268.out] at ho5)); have n0_ := Aside0.mk (Kd.R_lower ho5 (below_size (by repeat (first | (with_reducible first | exact HB.out | apply below_alloc | apply pw_below_drewN | apply below_drew1) | exact HB.out)))); have n1_ := Aside0.mk (below_step (by repeat (first | (with_reducible first | exact HB.out | apply below_alloc | apply pw_below_drewN | apply below_drew1) | exact HB.out)) hb); clear HB; have HO270 := n0_; have HB := n1_; clear n0_ n1_; clear hb ho5; have hcv6 := own_string (P := Tryd.prog) Tryd.underlying31 Tryd.underlying5 Tryd.underlying9 (Kd.own_of_R HO270.out)))
  (first | go_ret | go_ret2)
  exact ⟨by first | rfl | (simp [errW_none, errW_some] <;> rfl) | (simp [*, errW_none, errW_some] <;> rfl), by repeat (first | (with_reducible first | exact HB.out | apply below_alloc | apply pw_below_drewN | apply below_drew1) | exact HB.out)⟩

end Go.Proofs.YtceedgflpkaclaaDoor.P

/- What one function of the program computes, as a Lean function, and a proof that its call comes to just that. Conditions: none. Written by wip/ownprint.py. -/
namespace Go.Proofs.YtceedgflpkaclaaDoor.P
open Go.RowKit Go.Proofs.YtceedgflpkaclaaDoorW.PrintWords Go.Proofs.YtceedgflpkaclaaDoorW.PrintLast Go.Proofs.YtceedgflpkaclaaDoorW.PrintMore
attribute [local go_sem] max2_int min2_int max_two min_two max_three min_three max_four min_four   -- for this text's walks alone
set_option linter.unusedVariables false
set_option linter.unusedSimpArgs false

/-! ### frame_Number: function 61 -/
mutual
def frame_Number.j0 : Nat → Int → Bool → Option (ByteArray × Int)
  | 0, _, _ => none
  | k + 1, x0, x10 => if x10 = true then (some ((⟨#[]⟩ : ByteArray), 1)) else (frame_Number.l0 k x0 ([] : List Int))
def frame_Number.l0 : Nat → Int → List Int → Option (ByteArray × Int)
  | 0, _, _ => none
  | k + 1, x0, x4 => if x0 ≥ 128 then (if x4.length < 140737488355328 then (frame_Number.l0 k (wrap64 (Int.tdiv x0 128)) (x4 ++ [(wrap64 ((Int.tmod x0 128) + 128)) % 256])) else (none)) else (if x4.length < 140737488355328 then (some (strOfNums (x4 ++ [(x0) % 256]), 0)) else (none))
end
def frame_Number.f (k : Nat) (a0 : Int) : Option (ByteArray × Int) := if a0 < 0 then (frame_Number.j0 k a0 true) else (frame_Number.j0 k a0 (decide (a0 ≥ 4611686018427387904)))
theorem frame_Number.mono_l : ∀ k, (∀ y0 y1, LeO (frame_Number.j0 k y0 y1) (frame_Number.j0 (k + 1) y0 y1)) ∧ (∀ y0 y1, LeO (frame_Number.l0 k y0 y1) (frame_Number.l0 (k + 1) y0 y1))
  | 0 => ⟨fun _ _ r h => by simp [frame_Number.j0] at h, fun _ _ r h => by simp [frame_Number.l0] at h⟩
  | k + 1 => by
    obtain ⟨ih0, ih1⟩ := frame_Number.mono_l k
    refine ⟨?_, ?_⟩
    · intro y0 y1
      unfold frame_Number.j0
      repeat' first
      | (with_reducible exact ih0 _ _)
      | (with_reducible exact ih1 _ _)
      | (with_reducible exact LeO.refl _)
      | (with_reducible exact LeO.none _)
      | (with_reducible refine LeO.ite ?_ ?_)
      | (with_reducible refine LeO.bind ?_ (fun _ => ?_))
      | exact ih0 _ _
      | exact ih1 _ _
      | exact LeO.none _
      | refine LeO.ite ?_ ?_
      | refine LeO.bind ?_ (fun _ => ?_)
    · intro y0 y1
      unfold frame_Number.l0
      repeat' first
      | (with_reducible exact ih0 _ _)
      | (with_reducible exact ih1 _ _)
      | (with_reducible exact LeO.refl _)
      | (with_reducible exact LeO.none _)
      | (with_reducible refine LeO.ite ?_ ?_)
      | (with_reducible refine LeO.bind ?_ (fun _ => ?_))
      | exact ih0 _ _
      | exact ih1 _ _
      | exact LeO.none _
      | refine LeO.ite ?_ ?_
      | refine LeO.bind ?_ (fun _ => ?_)
theorem frame_Number.mono : ∀ a0 k, LeO (frame_Number.f k a0) (frame_Number.f (k + 1) a0) := by
  intro a0 k
  obtain ⟨ih0, ih1⟩ := frame_Number.mono_l k
  unfold frame_Number.f
  repeat' first
      | (with_reducible exact ih0 _ _)
      | (with_reducible exact ih1 _ _)
      | (with_reducible exact LeO.refl _)
      | (with_reducible exact LeO.none _)
      | (with_reducible refine LeO.ite ?_ ?_)
      | (with_reducible refine LeO.bind ?_ (fun _ => ?_))
      | exact ih0 _ _
      | exact ih1 _ _
      | exact LeO.none _
      | refine LeO.ite ?_ ?_
      | refine LeO.bind ?_ (fun _ => ?_)
set_option maxHeartbeats 8000000 in
set_option maxRecDepth 100000 in
theorem frame_Number.calls (k : Nat) (a0 : Int) (r1 : ByteArray) (r2 : Int) (w : World) (h : frame_Number.f k a0 = some (r1, r2)) :
    Calls Tryd.prog 61 #[.int .i64 a0] w fun e w' => e = .returned (.tuple #[.string r1, .int .i64 r2]) ∧ Below w.heap.size w w' := by
  have HB := Aside0.mk (Below.refl w.heap.size w)
  have H : (if a0 < 0 then (frame_Number.j0 k a0 true) else (frame_Number.j0 k a0 (decide (a0 ≥ 4611686018427387904)))) = some (r1, r2) := h
  clear h
  have HC2 := Aside0.mk H
  clear H
  go_enter Tryd.func61, Tryd.ntmps61
  go_upto_region 1 with (fail)
  go_cut [10] (fun v10 wc => ∃ (kq : Nat) (x10_1 : Bool), v10 = .bool x10_1 ∧ Aside0 (frame_Number.j0 kq a0 x10_1 = some (r1, r2)) ∧ Aside0 (kq ≤ k) ∧ Aside0 (Below w.heap.size w wc))
  case first =>
    have H := HC2.out
    clear HC2
    by_cases c3 : a0 < 0
    · rw [if_pos c3] at H
      have c3b0 : decide (a0 < 0) = true := decide_eq_true c3
      clear c3
      (first | rw [c3b0] | (simp only [i64_w, i32_w]; rw [c3b0]) | skip)
      have H' := Aside0.mk H
      clear H
      go_wp2
      go_meet
      case rel => exact ⟨_, (true), (by first | rfl | (simp; done) | (simp [*]; done)), H', ⟨by first | omega | exact Nat.le_refl _⟩, ⟨by repeat (first | (with_reducible first | exact HB.out | apply below_alloc | apply pw_below_drewN | apply below_drew1) | exact HB.out)⟩⟩
    · rw [if_neg c3] at H
      have c3b0 : decide (a0 < 0) = false := decide_eq_false c3
      clear c3
      (first | rw [c3b0] | (simp only [i64_w, i32_w]; rw [c3b0]) | skip)
      have H' := Aside0.mk H
      clear H
      go_wp2
      go_meet
      case rel => exact ⟨_, (decide (a0 ≥ 4611686018427387904)), (by first | rfl | (simp; done) | (simp [*]; done)), H', ⟨by first | omega | exact Nat.le_refl _⟩, ⟨by repeat (first | (with_reducible first | exact HB.out | apply below_alloc | apply pw_below_drewN | apply below_drew1) | exact HB.out)⟩⟩
  case rest =>
    clear HC2
    try clear p2
    try clear c3
    try clear c3b0
    obtain ⟨kq, x10_1, rfl, HA, HJ1, HB⟩ := hcut
    cases kq with
    | zero => exact absurd HA.out (by simp [frame_Number.j0])
    | succ kj1 =>
      have H := HA.out
      clear HA
      simp only [frame_Number.j0] at H
      by_cases c4 : x10_1 = true
      · subst c4
        have H1 : (some ((⟨#[]⟩ : ByteArray), 1)) = some (r1, r2) := by rw [if_pos rfl] at H; exact H
        clear H
        have H := H1
        clear H1
        simp only [Option.some.injEq, Prod.mk.injEq] at H
        obtain ⟨rfl, rfl⟩ := H
        go_wp2
        go_ret2
        exact ⟨by first | rfl | (simp [errW_none, errW_some] <;> rfl) | (simp [*, errW_none, errW_some] <;> rfl), by repeat (first | (with_reducible first | exact HB.out | apply below_alloc | apply pw_below_drewN | apply below_drew1) | exact HB.out)⟩
      · replace c4 := Bool.eq_false_iff.mpr c4
        subst c4
        have H1 : (frame_Number.l0 kj1 a0 ([] : List Int)) = some (r1, r2) := by rw [if_neg (show ¬ (false = true) by decide)] at H; exact H
        clear H
        have H := H1
        clear H1
        have H' := Aside0.mk H
        clear H
        go_wp2
        go_loopg [0, 4] kj1 (fun kq v0 v4 w' => ∃ (x0_2 : Int) (x4_2 : List Int), v0 = .int .i64 x0_2 ∧ Aside0 (frame_Number.l0 kq x0_2 x4_2 = some (r1, r2)) ∧ Aside0 (kq ≤ kj1) ∧ Aside0 (Kd.R (Kd.int .u8) 5 w' w.heap.size (fun _ => True) v4 x4_2) ∧ Aside0 (Below w.heap.size w w'))
        case atStart => exact ⟨(a0), (([] : List Int)), (by first | rfl | (simp; done) | (simp [*]; done)), H', ⟨Nat.le_refl _⟩, ⟨by first | exact Kd.R_nil _ _ _ _ _ | exact Kd.N_nil _ _ _ _ _ | exact Kd.V_nil _ _ _ _ _ | exact Kd.Q_nil _ _ _ _ _ | exact Kd.S_nil _ _ _ _ _⟩, ⟨by repeat (first | (with_reducible first | exact HB.out | apply below_alloc | apply pw_below_drewN | apply below_drew1) | exact HB.out)⟩⟩
        case round =>
          clear H'
          try clear p2
          try clear c3
          try clear c3b0
          try clear c4
          try clear p2
          obtain ⟨x0_2, x4_2, rfl, HA, HK2, HO_4, HB⟩ := hrel
          cases gk with
          | zero => exact absurd HA.out (by simp [frame_Number.l0])
          | succ k2 =>
            have H := HA.out
            clear HA
            simp only [frame_Number.l0] at H
            by_cases c5 : x0_2 ≥ 128
            · rw [if_pos c5] at H
              have c5b0 : decide (128 ≤ x0_2) = true := decide_eq_true c5
              clear c5
              by_cases c6 : x4_2.length < 140737488355328
              · rw [if_pos c6] at H
                have LMc6 := Aside0.mk c6
                clear c6
                obtain ⟨y261, hy261⟩ : ∃ y_ : List Int, y_ = (x4_2 ++ [(wrap64 ((Int.tmod x0_2 128) + 128)) % 256]) := ⟨_, rfl⟩
                replace H : (frame_Number.l0 k2 (wrap64 (Int.tdiv x0_2 128)) y261) = some (r1, r2) := by first | (rw [hy261]; with_reducible exact H) | (have H2_ := (Option.bind_some _ _).symm.trans H; rw [hy261]; with_reducible exact H2_) | (have H2_ := (Option.bind_some _ _).symm.trans H; with_reducible exact H2_) | with_reducible exact H | (rw [hy261]; exact H) | exact H
                have Ny261 := Aside0.mk hy261
                clear hy261
                have H' := Aside0.mk H
                clear H
                go_wp2_with (first | ((with_reducible refine gate_builtin (b := .append) (xs := #[.tmp 15, .tmp 20]) rfl ?_); at_builtin; refine Kd.R_append (Kd.int .u8) (w0 := w) w.heap.size rfl (.tmp 15) (.tmp 20) 31 5 (.int .u8 0) 1 rfl Tryd.underlying31 info5 rfl (by decide) (by omega) u4 x4_2 ((wrap64 ((Int.tmod x0_2 128) + 128)) % 256) [.int .u8 ((wrap64 ((Int.tmod x0_2 128) + 128)) % 256)] (fun _ => True) (fun _ => False) rfl rfl ?aP (fun _ hk => hk.elim) ?aF ?aO ?aB ?aS ?aL ?_; (case aP => exact rfl); (case aB => exact (by repeat (first | (with_reducible first | exact HB.out | apply below_alloc | apply pw_below_drewN | apply below_drew1) | exact HB.out))); (case aF => exact (fun _ _ => trivial)); (case aO => exact (by (with_reducible repeat (first | apply Kd.R_alloc | apply Kd.R_drewN | apply Kd.R_drew)); exact HO_4.out)); (case aS => exact (below_size (by repeat (first | (with_reducible first | exact HB.out | apply below_alloc | apply pw_below_drewN | apply below_drew1) | exact HB.out)))); (case aL => have := LMc6.out; omega); intro v262 w7 ho hb hg hat; rw [← Ny261.out] at ho; have n0_ := Aside0.mk (hb); have n1_ := Aside0.mk (ho); clear HB; clear HO_4; have HB := n0_; have HO263 := n1_; clear n0_ n1_; clear ho hb hg hat))
                go_roundg k2
                case measure => have := HJ1.out; have := HK2.out; omega
                case rel => exact ⟨(wrap64 (Int.tdiv x0_2 128)), (y261), (by first | rfl | (simp; done) | (simp [*]; done)), H', ⟨by have := HJ1.out; have := HK2.out; omega⟩, ⟨by (with_reducible repeat (first | apply Kd.R_alloc | apply Kd.R_drewN | apply Kd.R_drew)); exact HO263.out⟩, ⟨by repeat (first | (with_reducible first | exact HB.out | apply below_alloc | apply pw_below_drewN | apply below_drew1) | exact HB.out)⟩⟩
              · rw [if_neg c6] at H
                exact absurd H (by simp)
            · rw [if_neg c5] at H
              have c5b0 : decide (128 ≤ x0_2) = false := decide_eq_false c5
              clear c5
              by_cases c8 : x4_2.length < 140737488355328
              · rw [if_pos c8] at H
                have LMc8 := Aside0.mk c8
                clear c8
                obtain ⟨y264, hy264⟩ : ∃ y_ : List Int, y_ = (x4_2 ++ [(x0_2) % 256]) := ⟨_, rfl⟩
                replace H : (some (strOfNums y264, 0)) = some (r1, r2) := by first | (rw [hy264]; with_reducible exact H) | (have H2_ := (Option.bind_some _ _).symm.trans H; rw [hy264]; with_reducible exact H2_) | (have H2_ := (Option.bind_some _ _).symm.trans H; with_reducible exact H2_) | with_reducible exact H | (rw [hy264]; exact H) | exact H
                have Ny264 := Aside0.mk hy264
                clear hy264
                simp only [Option.some.injEq, Prod.mk.injEq] at H
                obtain ⟨rfl, rfl⟩ := H
                go_wp2_with (first | ((with_reducible refine gate_builtin (b := .append) (xs := #[.tmp 22, .tmp 25]) rfl ?_); at_builtin; refine Kd.R_append (Kd.int .u8) (w0 := w) w.heap.size rfl (.tmp 22) (.tmp 25) 31 5 (.int .u8 0) 1 rfl Tryd.underlying31 info5 rfl (by decide) (by omega) u4 x4_2 ((x0_2) % 256) [.int .u8 ((x0_2) % 256)] (fun _ => True) (fun _ => False) rfl rfl ?aP (fun _ hk => hk.elim) ?aF ?aO ?aB ?aS ?aL ?_; (case aP => exact rfl); (case aB => exact (by repeat (first | (with_reducible first | exact HB.out | apply below_alloc | apply pw_below_drewN | apply below_drew1) | exact HB.out))); (case aF => exact (fun _ _ => trivial)); (case aO => exact (by (with_reducible repeat (first | apply Kd.R_alloc | apply Kd.R_drewN | apply Kd.R_drew)); exact HO_4.out)); (case aS => exact (below_size (by repeat (first | (with_reducible first | exact HB.out | apply below_alloc | apply pw_below_drewN | apply below_drew1) | exact HB.out)))); (case aL => have := LMc8.out; omega); intro v265 w9 ho hb hg hat; rw [← Ny264.out] at ho; have n0_ := Aside0.mk (hb); have n1_ := Aside0.mk (ho); clear HB; clear HO_4; have HB := n0_; have HO266 := n1_; clear n0_ n1_; clear ho hb hg hat; have hcv10 := own_string (P := Tryd.prog) Tryd.underlying31 Tryd.underlying5 Tryd.underlying9 (Kd.own_of_R HO266.out)))
                go_ret2
                exact ⟨by first | rfl | (simp [errW_none, errW_some] <;> rfl) | (simp [*, errW_none, errW_some] <;> rfl), by repeat (first | (with_reducible first | exact HB.out | apply below_alloc | apply pw_below_drewN | apply below_drew1) | exact HB.out)⟩
              · rw [if_neg c8] at H
                exact absurd H (by simp)

end Go.Proofs.YtceedgflpkaclaaDoor.P

/- frame.Bind comes to the bound texts, as a Lean function. Conditions: none (where the whole would pass 2^47 bytes the Lean function says nothing). -/
namespace Go.Proofs.YtceedgflpkaclaaDoor.P
open Go.RowKit Go.Proofs.YtceedgflpkaclaaDoorW.PrintWords Go.Proofs.YtceedgflpkaclaaDoorW.PrintLast Go.Proofs.YtceedgflpkaclaaDoorW.PrintMore

def bindGo (k : Nat) : List ByteArray → List UInt8 → Option (ByteArray × Int)
  | [], out => some (⟨out.toArray⟩, 0)
  | p :: ps, out => if p.size > 8192 then some (⟨#[]⟩, 2) else (frame_Number.f k (p.size : Int)).bind fun n => if out.length + n.1.size + p.size ≤ 140737488355328 then bindGo k ps (out ++ n.1.data.toList ++ p.data.toList) else none
def frame_Bind.f (k : Nat) (l : List ByteArray) : Option (ByteArray × Int) := if l.length > 512 then some (⟨#[]⟩, 2) else bindGo k l []

theorem bindGo_mono (k : Nat) : ∀ l out, LeO (bindGo k l out) (bindGo (k + 1) l out)
  | [], _ => LeO.refl _
  | p :: ps, out => by
    unfold bindGo
    refine LeO.ite (LeO.refl (α := ByteArray × Int) _) ?_
    intro r hr
    obtain ⟨n, hn, hr⟩ := Option.bind_eq_some_iff.1 hr
    refine Option.bind_eq_some_iff.2 ⟨n, frame_Number.mono _ _ _ hn, ?_⟩
    exact (LeO.ite (c := out.length + n.1.size + p.size ≤ 140737488355328) (bindGo_mono k ps _) (LeO.refl (α := ByteArray × Int) _)) r hr
theorem frame_Bind.mono : ∀ a0 k, LeO (frame_Bind.f k a0) (frame_Bind.f (k + 1) a0) := fun l k => LeO.ite (LeO.refl (α := ByteArray × Int) _) (bindGo_mono k l [])

theorem rdOf_string (l : List ByteArray) (i : Nat) (h : i < l.length) : rdOf ByteArray.empty l (i : Int) = l[i] := by
  simp [rdOf, List.getD, h]

set_option maxHeartbeats 2000000 in
set_option maxRecDepth 100000 in
theorem frame_Bind.calls (k : Nat) (A0 : Option Addr) (c0 : Nat) (l0 : List ByteArray) (r1 : ByteArray) (r2 : Int) (w : World) (hr0 : Kd.C Kd.string w A0 l0.length l0) (_hc0 : l0.length ≤ c0) (h : frame_Bind.f k l0 = some (r1, r2)) :
    Calls Tryd.prog 42 #[.slice A0 l0.length c0] w fun e w' => e = .returned (.tuple #[.string r1, .int .i64 r2]) ∧ Below w.heap.size w w' := by
  have HR := Aside0.mk hr0
  clear hr0 _hc0
  unfold frame_Bind.f at h
  by_cases hl : l0.length > 512
  · rw [if_pos hl] at h
    simp only [Option.some.injEq, Prod.mk.injEq] at h
    obtain ⟨rfl, rfl⟩ := h
    go_enter Tryd.func42, Tryd.ntmps42
    go_wp2
    go_ret2
    exact ⟨rfl, Below.refl _ _⟩
  · rw [if_neg hl] at h
    have H := Aside0.mk h
    clear h
    go_enter Tryd.func42, Tryd.ntmps42
    go_wp2
    go_loopw [14] (fun v wr => ∃ (i : Nat) (out : List UInt8), i ≤ l0.length ∧ v = .int .i64 i ∧ Aside0 (bindGo k (l0.drop i) out = some (r1, r2)) ∧ Aside0 (Bld w.heap.size w.heap.size out wr) ∧ Aside0 (Below w.heap.size w wr)) (fun v _ => l0.length - (intOf v).toNat)
    case atStart => exact ⟨0, [], Nat.zero_le _, rfl, H, ⟨Bld.fresh w⟩, ⟨(Below.refl _ _).alloc (Nat.le_refl _) _⟩⟩
    case round =>
      clear H
      obtain ⟨i, out, hi, rfl, HA, HB, HW⟩ := hrel
      by_cases hlt : i < l0.length
      · have hd := HA.out
        rw [List.drop_eq_getElem_cons hlt] at hd
        unfold bindGo at hd
        have hx := rdOf_string l0 i hlt
        obtain ⟨ad, ead, hcell⟩ := Kd.at_string HR.out i (by omega) (by omega)
        cases ead
        rw [hx, Int.toNat_natCast] at hcell
        have hcw := pw_cell_below HW.out hcell
        clear hcell hx
        generalize l0[i] = p at *
        by_cases hbig : p.size > 8192
        · rw [if_pos hbig] at hd
          simp only [Option.some.injEq, Prod.mk.injEq] at hd
          obtain ⟨rfl, rfl⟩ := hd
          go_wp2
          go_ret2
          exact ⟨rfl, HW.out⟩
        · rw [if_neg hbig] at hd
          obtain ⟨n, hn, hd⟩ := Option.bind_eq_some_iff.1 hd
          obtain ⟨n1, n2⟩ := n
          by_cases hroom : out.length + n1.size + p.size ≤ 140737488355328
          · simp only [if_pos hroom] at hd
            have HD := Aside0.mk hd
            have HN := Aside0.mk hn
            clear hd hn
            go_wp2_with (first | (go_at_call 61; refine (frame_Number.calls k _ n1 n2 _ HN.out).mono ?_; rintro e w1 ⟨rfl, hb1⟩) | fail)
            have hb2 := (HB.out).below hb1
            refine (bld_write _ _ _ _ _ hb2 (by omega)).mono ?_
            rintro e w2 ⟨rfl, hb3, hw2⟩
            go_wp2_with fail
            refine (bld_write _ _ _ _ _ hb3 (by rw [List.length_append, data_length]; omega)).mono ?_
            rintro e w3 ⟨rfl, hb4, hw3⟩
            go_wp2_with fail
            go_roundw
            case rel => exact ⟨i + 1, _, by omega, by go_num, HD, ⟨hb4⟩, ⟨((below_then HW.out (by have := HW.out.size; omega) hb1).trans hw2).trans hw3⟩⟩
            case measure => simp [intOf]; omega
          · simp only [if_neg hroom] at hd
            cases hd
      · obtain rfl : i = l0.length := by omega
        have hd := HA.out
        rw [List.drop_length] at hd
        unfold bindGo at hd
        simp only [Option.some.injEq, Prod.mk.injEq] at hd
        obtain ⟨rfl, rfl⟩ := hd
        go_wp2_with (first | (go_at_call 34; refine (bld_string _ _ _ _ HB.out).mono ?_; rintro e w1 ⟨rfl, hb1⟩) | fail)
        go_ret2
        exact ⟨rfl, HW.out.trans hb1⟩
end Go.Proofs.YtceedgflpkaclaaDoor.P
