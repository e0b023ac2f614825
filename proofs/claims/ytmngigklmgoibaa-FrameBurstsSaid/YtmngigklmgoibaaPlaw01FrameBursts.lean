/- What one function of the program computes, as a Lean function, and a proof that its call comes to just that. Conditions: none. Written by wip/ownprint.py. -/
import Derived.Test.YtmngigklmgoibaaP0
import Derived.Test.YtmngigklmgoibaaPlaw01Alive
import Derived.Test.YtmngigklmgoibaaBytesRow
import Derived.Test.YtmngigklmgoibaaFrameCrc
namespace Go.Proofs.Ytmngigklmgoibaa.P
open Go.RowKit Go.Proofs.YtmngigklmgoibaaW.PrintWords Go.Proofs.YtmngigklmgoibaaW.PrintLast Go.Proofs.YtmngigklmgoibaaW.PrintMore
attribute [local go_sem] max2_int min2_int max_two min_two max_three min_three max_four min_four   -- for this text's walks alone
set_option linter.unusedVariables false
set_option linter.unusedSimpArgs false

/-! ### transhipmentlaw01_FrameBursts: function 4 -/
mutual
def transhipmentlaw01_FrameBursts.j0 : Nat → ByteArray → Int → Int → Bool → Option (Bool)
  | 0, _, _, _, _ => none
  | k + 1, x0, x1, x2, x22 => if x22 = true then ((transhipmentlaw01_alive.f k).bind fun t251 => (some t251)) else (if (wrap64 (8 * (x0.size : Int))) = 0 then (none) else (if x0.size ≤ 9223372036854775807 then (transhipmentlaw01_FrameBursts.l0 k x0 (Int.tmod (wrap64 ((Int.tmod x1 (wrap64 (8 * (x0.size : Int)))) + (wrap64 (8 * (x0.size : Int))))) (wrap64 (8 * (x0.size : Int)))) x2 (wrap64 (8 * (x0.size : Int))) (bytesOf x0) 0) else (none)))
def transhipmentlaw01_FrameBursts.l0 : Nat → ByteArray → Int → Int → Int → List Int → Int → Option (Bool)
  | 0, _, _, _, _, _, _ => none
  | k + 1, x0, x1, x2, x7, x8, x36 => if x36 < 32 then (if 0 ≤ x36 then (if (Go.bits .and .u32 (shr .u32 x2 x36) 1) = 1 then (if (wrap64 (x1 + x36)) < x7 then (if 0 ≤ (wrap64 (Int.tdiv (wrap64 (x1 + x36)) 8)) then (if (wrap64 (Int.tdiv (wrap64 (x1 + x36)) 8)) < (x8.length : Int) then (if 0 ≤ (Int.tmod (wrap64 (x1 + x36)) 8) then (transhipmentlaw01_FrameBursts.l0 k x0 x1 x2 x7 (x8.set ((wrap64 (Int.tdiv (wrap64 (x1 + x36)) 8)) : Int).toNat (Go.bits .xor .u8 (rd x8 (wrap64 (Int.tdiv (wrap64 (x1 + x36)) 8))) (shl .u8 1 (Int.tmod (wrap64 (x1 + x36)) 8)))) (wrap64 (x36 + 1))) else (none)) else (none)) else (none)) else (transhipmentlaw01_FrameBursts.l0 k x0 x1 x2 x7 x8 (wrap64 (x36 + 1)))) else (transhipmentlaw01_FrameBursts.l0 k x0 x1 x2 x7 x8 (wrap64 (x36 + 1)))) else (none)) else ((transhipmentlaw01_alive.f k).bind fun t257 => (if t257 = true then (if (strOfNums x8).toList = x0.toList then (some true) else ((frame_Crc.f (strOfNums x8)).bind fun t258 => ((frame_Crc.f x0).bind fun t259 => (some (t258 != t259))))) else (some false)))
end
def transhipmentlaw01_FrameBursts.f (k : Nat) (a0 : ByteArray) (a1 : Int) (a2 : Int) : Option (Bool) := if 0 ≤ (mn (a0.size : Int) 200) then (if (mn (a0.size : Int) 200) ≤ (a0.size : Int) then (if ((a0.extract 0 ((mn (a0.size : Int) 200) : Int).toNat).size : Int) = 0 then (transhipmentlaw01_FrameBursts.j0 k (a0.extract 0 ((mn (a0.size : Int) 200) : Int).toNat) a1 a2 true) else (transhipmentlaw01_FrameBursts.j0 k (a0.extract 0 ((mn (a0.size : Int) 200) : Int).toNat) a1 a2 (a2 == 0))) else (none)) else (none)
theorem transhipmentlaw01_FrameBursts.mono_l : ∀ k, (∀ y0 y1 y2 y3, LeO (transhipmentlaw01_FrameBursts.j0 k y0 y1 y2 y3) (transhipmentlaw01_FrameBursts.j0 (k + 1) y0 y1 y2 y3)) ∧ (∀ y0 y1 y2 y3 y4 y5, LeO (transhipmentlaw01_FrameBursts.l0 k y0 y1 y2 y3 y4 y5) (transhipmentlaw01_FrameBursts.l0 (k + 1) y0 y1 y2 y3 y4 y5))
  | 0 => ⟨fun _ _ _ _ r h => by simp [transhipmentlaw01_FrameBursts.j0] at h, fun _ _ _ _ _ _ r h => by simp [transhipmentlaw01_FrameBursts.l0] at h⟩
  | k + 1 => by
    obtain ⟨ih0, ih1⟩ := transhipmentlaw01_FrameBursts.mono_l k
    refine ⟨?_, ?_⟩
    · intro y0 y1 y2 y3
      unfold transhipmentlaw01_FrameBursts.j0
      repeat' first
      | (with_reducible exact ih0 _ _ _ _)
      | (with_reducible exact ih1 _ _ _ _ _ _)
      | (with_reducible exact transhipmentlaw01_alive.mono _)
      | (with_reducible exact LeO.refl _)
      | (with_reducible exact LeO.none _)
      | (with_reducible refine LeO.ite ?_ ?_)
      | (with_reducible refine LeO.bind ?_ (fun _ => ?_))
      | exact ih0 _ _ _ _
      | exact ih1 _ _ _ _ _ _
      | exact transhipmentlaw01_alive.mono _
      | exact LeO.none _
      | refine LeO.ite ?_ ?_
      | refine LeO.bind ?_ (fun _ => ?_)
    · intro y0 y1 y2 y3 y4 y5
      unfold transhipmentlaw01_FrameBursts.l0
      repeat' first
      | (with_reducible exact ih0 _ _ _ _)
      | (with_reducible exact ih1 _ _ _ _ _ _)
      | (with_reducible exact transhipmentlaw01_alive.mono _)
      | (with_reducible exact LeO.refl _)
      | (with_reducible exact LeO.none _)
      | (with_reducible refine LeO.ite ?_ ?_)
      | (with_reducible refine LeO.bind ?_ (fun _ => ?_))
      | exact ih0 _ _ _ _
      | exact ih1 _ _ _ _ _ _
      | exact transhipmentlaw01_alive.mono _
      | exact LeO.none _
      | refine LeO.ite ?_ ?_
      | refine LeO.bind ?_ (fun _ => ?_)
theorem transhipmentlaw01_FrameBursts.mono : ∀ a0 a1 a2 k, LeO (transhipmentlaw01_FrameBursts.f k a0 a1 a2) (transhipmentlaw01_FrameBursts.f (k + 1) a0 a1 a2) := by
  intro a0 a1 a2 k
  obtain ⟨ih0, ih1⟩ := transhipmentlaw01_FrameBursts.mono_l k
  unfold transhipmentlaw01_FrameBursts.f
  repeat' first
      | (with_reducible exact ih0 _ _ _ _)
      | (with_reducible exact ih1 _ _ _ _ _ _)
      | (with_reducible exact transhipmentlaw01_alive.mono _)
      | (with_reducible exact LeO.refl _)
      | (with_reducible exact LeO.none _)
      | (with_reducible refine LeO.ite ?_ ?_)
      | (with_reducible refine LeO.bind ?_ (fun _ => ?_))
      | exact ih0 _ _ _ _
      | exact ih1 _ _ _ _ _ _
      | exact transhipmentlaw01_alive.mono _
      | exact LeO.none _
      | refine LeO.ite ?_ ?_
      | refine LeO.bind ?_ (fun _ => ?_)
def transhipmentlaw01_FrameBursts.T12 : Bool × List (List Nat × List Nat) := (true, [([], []), ([], []), ([1], [1]), ([0, 2], [0, 2]), ([3], [3]), ([], []), ([5], [5]), ([6], [6]), ([4, 7], [4, 7]), ([0, 2, 0, 1, 2, 3, 4, 5, 6, 7, 8], [0, 2]), ([9, 8, 0, 1, 2, 3, 4, 5, 6, 7, 8], [8, 9])])
def transhipmentlaw01_FrameBursts.B12 : List Nat := [0, 0, 2, 7, 15, 0, 32, 96, 255, 511, 1023]
theorem transhipmentlaw01_FrameBursts.tab12 : rtab .any (opsOf Try.f4 12) = transhipmentlaw01_FrameBursts.T12 := by kernel_rfl
theorem transhipmentlaw01_FrameBursts.bits12 : waitsOk transhipmentlaw01_FrameBursts.T12.2 transhipmentlaw01_FrameBursts.B12 = true := by kernel_rfl
set_option maxHeartbeats 8000000 in
set_option maxRecDepth 100000 in
theorem transhipmentlaw01_FrameBursts.calls (k : Nat) (a0 : ByteArray) (a1 : Int) (a2 : Int) (r : Bool) (w : World) (h : transhipmentlaw01_FrameBursts.f k a0 a1 a2 = some r) :
    Calls Try.prog 4 #[.string a0, .int .i64 a1, .int .u32 a2] w fun e w' => e = .returned (.bool r) ∧ Below w.heap.size w w' := by
  have HB := Aside0.mk (Below.refl w.heap.size w)
  have H : (if 0 ≤ (mn (a0.size : Int) 200) then (if (mn (a0.size : Int) 200) ≤ (a0.size : Int) then (if ((a0.extract 0 ((mn (a0.size : Int) 200) : Int).toNat).size : Int) = 0 then (transhipmentlaw01_FrameBursts.j0 k (a0.extract 0 ((mn (a0.size : Int) 200) : Int).toNat) a1 a2 true) else (transhipmentlaw01_FrameBursts.j0 k (a0.extract 0 ((mn (a0.size : Int) 200) : Int).toNat) a1 a2 (a2 == 0))) else (none)) else (none)) = some r := h
  clear h
  obtain ⟨ji4, hji4⟩ : ∃ j_ : Int, (mn (a0.size : Int) 200) = j_ := ⟨_, rfl⟩
  replace H : (if 0 ≤ (ji4) then (if (ji4) ≤ (a0.size : Int) then (if ((a0.extract 0 ((ji4) : Int).toNat).size : Int) = 0 then (transhipmentlaw01_FrameBursts.j0 k (a0.extract 0 ((ji4) : Int).toNat) a1 a2 true) else (transhipmentlaw01_FrameBursts.j0 k (a0.extract 0 ((ji4) : Int).toNat) a1 a2 (a2 == 0))) else (none)) else (none)) = some r := by first | (rw [hji4] at H; exact H) | (simp only [hji4] at H ⊢; exact H)
  (try (have hji4h : ji4 ≤ 200 := by (rw [← hji4]; unfold mn; (repeat' split) <;> omega)))
  (try (have hji4g : ji4 ≤ 64 := by omega))
  (try (have hji4l : 0 ≤ ji4 := by (rw [← hji4]; unfold mn; (repeat' split) <;> omega)))
  (try (have hji4m : 0 ≤ ji4 := by omega))
  have hji4_ : (if 200 < (a0.size : Int) then 200 else (a0.size : Int)) = ji4 := hji4
  by_cases c5 : 0 ≤ (ji4)
  · rw [if_pos c5] at H
    have c5b0 := eq_true c5
    have c5b1 : decide (0 ≤ (ji4)) = true := decide_eq_true c5
    clear c5
    by_cases c6 : (ji4) ≤ (a0.size : Int)
    · rw [if_pos c6] at H
      have c6b0 := eq_true c6
      have c6b1 : decide ((ji4) ≤ (a0.size : Int)) = true := decide_eq_true c6
      clear c6
      obtain ⟨ji7, hji7⟩ : ∃ j_ : ByteArray, (a0.extract 0 ((ji4) : Int).toNat) = j_ := ⟨_, rfl⟩
      replace H : (if ((ji7).size : Int) = 0 then (transhipmentlaw01_FrameBursts.j0 k ji7 a1 a2 true) else (transhipmentlaw01_FrameBursts.j0 k ji7 a1 a2 (a2 == 0))) = some r := by first | (rw [hji7] at H; exact H) | (simp only [hji7] at H ⊢; exact H)
      have HC8 := Aside0.mk H
      clear H
      go_enter Try.func4, Try.ntmps4
      go_upto_region 2 with (fail)
      go_cut [22] (fun v22 wc => ∃ (kq : Nat) (x22_7 : Bool), v22 = .bool x22_7 ∧ Aside0 (transhipmentlaw01_FrameBursts.j0 kq ji7 a1 a2 x22_7 = some r) ∧ Aside0 (kq ≤ k) ∧ Aside0 (Below w.heap.size w wc))
      case first =>
        have H := HC8.out
        clear HC8
        by_cases c9 : ((ji7).size : Int) = 0
        · rw [if_pos c9] at H
          have c9b0 : (((ji7).size : Int) == 0) = true := beq_iff_eq.mpr c9
          have c9b1 : (((ji7).size : Int) != 0) = false := bne_eq_false_iff_eq.mpr c9
          clear c9
          (first | rw [c9b0] | (simp only [i64_w, i32_w]; rw [c9b0]) | skip)
          have H' := Aside0.mk H
          clear H
          go_wp2
          go_meet
          case rel => exact ⟨_, (true), (by first | rfl | (simp; done) | (simp [*]; done)), H', ⟨by first | omega | exact Nat.le_refl _⟩, ⟨by repeat (first | (with_reducible first | exact HB.out | apply below_alloc | apply pw_below_drewN | apply below_drew1) | exact HB.out)⟩⟩
        · rw [if_neg c9] at H
          have c9b0 : (((ji7).size : Int) == 0) = false := beq_eq_false_iff_ne.mpr c9
          have c9b1 : (((ji7).size : Int) != 0) = true := bne_iff_ne.mpr c9
          (first | rw [c9b0] | (simp only [i64_w, i32_w]; rw [c9b0]) | skip)
          have H' := Aside0.mk H
          clear H
          go_wp2
          go_meet
          case rel => exact ⟨_, ((a2 == 0)), (by first | rfl | (simp; done) | (simp [*]; done)), H', ⟨by first | omega | exact Nat.le_refl _⟩, ⟨by repeat (first | (with_reducible first | exact HB.out | apply below_alloc | apply pw_below_drewN | apply below_drew1) | exact HB.out)⟩⟩
      case rest =>
        clear HC8
        try clear p2
        try clear c4
        try clear c5
        try clear c5b0
        try clear c5b1
        try clear c6
        try clear c6b0
        try clear c6b1
        try clear c9
        try clear c9b0
        try clear c9b1
        obtain ⟨kq, x22_7, rfl, HA, HJ7, HB⟩ := hcut
        cases kq with
        | zero => exact absurd HA.out (by simp [transhipmentlaw01_FrameBursts.j0])
        | succ kj7 =>
          have H := HA.out
          clear HA
          simp only [transhipmentlaw01_FrameBursts.j0] at H
          by_cases c10 : x22_7 = true
          · subst c10
            have H1 : ((transhipmentlaw01_alive.f kj7).bind fun t251 => (some t251)) = some r := by rw [if_pos rfl] at H; exact H
            clear H
            have H := H1
            clear H1
            replace H := Option.bind_eq_some_iff.mp H
            obtain ⟨t251, A110, H⟩ := H
            replace H : (some t251) = some r := H
            have A11 := Aside0.mk A110
            clear A110
            obtain rfl := Option.some.inj H
            go_wp2_with (first | ((with_reducible refine gate_callee (f := 12) rfl ?_); refine goesL_ (some 23) rfl rfl Try.func12 (by kernel_rfl) rfl #[] rfl (by (try simp only [List.map_toArray, List.map_cons, List.map_nil]); first | done | rfl | (simp only [List.length_drop, List.length_take]; rfl)) ?_; (with_reducible refine (transhipmentlaw01_alive.calls kj7  t251 _ A11.out).mono ?_); rintro e w12 ⟨rfl, hb⟩; refine ⟨_, rfl, ?_⟩; have n0_ := Aside0.mk (below_step (by repeat (first | (with_reducible first | exact HB.out | apply below_alloc | apply pw_below_drewN | apply below_drew1) | exact HB.out)) hb); clear HB; have HB := n0_; clear n0_; (try clear hb); (try clear hb2); (try clear hk); (try clear hi)))
            go_ret
            exact ⟨by first | rfl | (simp [errW_none, errW_some] <;> rfl) | (simp only [← hji4, ← hji7]; first | rfl | (simp [errW_none, errW_some] <;> rfl)) | (simp [*, errW_none, errW_some] <;> rfl), by repeat (first | (with_reducible first | exact HB.out | apply below_alloc | apply pw_below_drewN | apply below_drew1) | exact HB.out)⟩
          · replace c10 := Bool.eq_false_iff.mpr c10
            subst c10
            have H1 : (if (wrap64 (8 * (ji7.size : Int))) = 0 then (none) else (if ji7.size ≤ 9223372036854775807 then (transhipmentlaw01_FrameBursts.l0 kj7 ji7 (Int.tmod (wrap64 ((Int.tmod a1 (wrap64 (8 * (ji7.size : Int)))) + (wrap64 (8 * (ji7.size : Int))))) (wrap64 (8 * (ji7.size : Int)))) a2 (wrap64 (8 * (ji7.size : Int))) (bytesOf ji7) 0) else (none))) = some r := by rw [if_neg (show ¬ (false = true) by decide)] at H; exact H
            clear H
            have H := H1
            clear H1
            by_cases c13 : (wrap64 (8 * (ji7.size : Int))) = 0
            · rw [if_pos c13] at H
              exact absurd H (by simp)
            · rw [if_neg c13] at H
              have c13b0 : ((wrap64 (8 * (ji7.size : Int))) == 0) = false := beq_eq_false_iff_ne.mpr c13
              have c13b1 : ((wrap64 (8 * (ji7.size : Int))) != 0) = true := bne_iff_ne.mpr c13
              by_cases c14 : ji7.size ≤ 9223372036854775807
              · rw [if_pos c14] at H
                have c14b0 := eq_true c14
                have c14b1 : decide (ji7.size ≤ 9223372036854775807) = true := decide_eq_true c14
                try have c14b2 : (9223372036854775807 < ji7.size) = False := eq_false (Nat.not_lt.2 c14)
                clear c14
                obtain ⟨y252, hy252⟩ : ∃ y_ : List Int, y_ = (bytesOf ji7) := ⟨_, rfl⟩
                replace H : (transhipmentlaw01_FrameBursts.l0 kj7 ji7 (Int.tmod (wrap64 ((Int.tmod a1 (wrap64 (8 * (ji7.size : Int)))) + (wrap64 (8 * (ji7.size : Int))))) (wrap64 (8 * (ji7.size : Int)))) a2 (wrap64 (8 * (ji7.size : Int))) y252 0) = some r := by first | (rw [hy252]; with_reducible exact H) | (have H2_ := (Option.bind_some _ _).symm.trans H; rw [hy252]; with_reducible exact H2_) | (have H2_ := (Option.bind_some _ _).symm.trans H; with_reducible exact H2_) | with_reducible exact H | (rw [hy252]; exact H) | exact H
                have Ny252 := Aside0.mk hy252
                clear hy252
                have H' := Aside0.mk H
                clear H
                go_wp2_with (first | ((with_reducible refine gate_dst (N := 35) rfl ?_); refine Kd.R_bytes _ 5 rfl (N := 35) rfl (s := ji7) (ok := fun _ => True) (okp := fun _ => True) rfl rfl Try.underlying9 Try.underlying24 Try.underlying5 (of_decide_eq_true (by first | (with_reducible assumption) | assumption)) trivial trivial (Below.refl _ _) (Nat.le_refl _) ?_; intro v253 w15 ho16 hb; (first | rw [← Ny252.out] at ho16 | (simp only [Int.reduceToNat] at ho16; rw [← Ny252.out] at ho16)); have n0_ := Aside0.mk (Kd.R_lower ho16 (below_size (by repeat (first | (with_reducible first | exact HB.out | apply below_alloc | apply pw_below_drewN | apply below_drew1) | exact HB.out)))); have n1_ := Aside0.mk (below_step (by repeat (first | (with_reducible first | exact HB.out | apply below_alloc | apply pw_below_drewN | apply below_drew1) | exact HB.out)) hb); clear HB; have HO254 := n0_; have HB := n1_; clear n0_ n1_; clear hb ho16))
                go_loopg [36] kj7 (fun kq v36 w' => ∃ (x8_2 : List Int) (x36_2 : Int), v36 = .int .i64 x36_2 ∧ Aside0 (transhipmentlaw01_FrameBursts.l0 kq ji7 (Int.tmod (wrap64 ((Int.tmod a1 (wrap64 (8 * (ji7.size : Int)))) + (wrap64 (8 * (ji7.size : Int))))) (wrap64 (8 * (ji7.size : Int)))) a2 (wrap64 (8 * (ji7.size : Int))) x8_2 x36_2 = some r) ∧ Aside0 (kq ≤ kj7) ∧ Aside0 (Kd.R (Kd.int .u8) 5 w' w.heap.size (fun _ => True) v253 x8_2) ∧ Aside0 (Below w.heap.size w w'))
                case atStart => exact ⟨(y252), (0), (by first | rfl | (simp; done) | (simp [*]; done)), H', ⟨Nat.le_refl _⟩, ⟨by (with_reducible repeat (first | apply Kd.R_alloc | apply Kd.R_drewN | apply Kd.R_drew)); exact HO254.out⟩, ⟨by repeat (first | (with_reducible first | exact HB.out | apply below_alloc | apply pw_below_drewN | apply below_drew1) | exact HB.out)⟩⟩
                case round =>
                  clear H'
                  try clear c1
                  try clear p2
                  try clear c4
                  try clear c5
                  try clear c5b0
                  try clear c5b1
                  try clear c6
                  try clear c6b0
                  try clear c6b1
                  try clear p6
                  try clear c9
                  try clear c9b0
                  try clear c9b1
                  try clear c10
                  try clear c12
                  try clear c13
                  try clear c13b0
                  try clear c13b1
                  try clear c14
                  try clear c14b0
                  try clear c14b1
                  try clear c14b2
                  try clear p2
                  obtain ⟨x8_2, x36_2, rfl, HA, HK2, HO_8, HB⟩ := hrel
                  cases gk with
                  | zero => exact absurd HA.out (by simp [transhipmentlaw01_FrameBursts.l0])
                  | succ k2 =>
                    have H := HA.out
                    clear HA
                    simp only [transhipmentlaw01_FrameBursts.l0] at H
                    by_cases c17 : x36_2 < 32
                    · rw [if_pos c17] at H
                      have c17b0 : decide (x36_2 < 32) = true := decide_eq_true c17
                      clear c17
                      by_cases c18 : 0 ≤ x36_2
                      · rw [if_pos c18] at H
                        have c18b0 := eq_true c18
                        have c18b1 : decide (0 ≤ x36_2) = true := decide_eq_true c18
                        clear c18
                        obtain ⟨ji19, hji19⟩ : ∃ j_ : Int, (shr .u32 a2 x36_2) = j_ := ⟨_, rfl⟩
                        replace H : (if (Go.bits .and .u32 (ji19) 1) = 1 then (if (wrap64 ((Int.tmod (wrap64 ((Int.tmod a1 (wrap64 (8 * (ji7.size : Int)))) + (wrap64 (8 * (ji7.size : Int))))) (wrap64 (8 * (ji7.size : Int)))) + x36_2)) < (wrap64 (8 * (ji7.size : Int))) then (if 0 ≤ (wrap64 (Int.tdiv (wrap64 ((Int.tmod (wrap64 ((Int.tmod a1 (wrap64 (8 * (ji7.size : Int)))) + (wrap64 (8 * (ji7.size : Int))))) (wrap64 (8 * (ji7.size : Int)))) + x36_2)) 8)) then (if (wrap64 (Int.tdiv (wrap64 ((Int.tmod (wrap64 ((Int.tmod a1 (wrap64 (8 * (ji7.size : Int)))) + (wrap64 (8 * (ji7.size : Int))))) (wrap64 (8 * (ji7.size : Int)))) + x36_2)) 8)) < (x8_2.length : Int) then (if 0 ≤ (Int.tmod (wrap64 ((Int.tmod (wrap64 ((Int.tmod a1 (wrap64 (8 * (ji7.size : Int)))) + (wrap64 (8 * (ji7.size : Int))))) (wrap64 (8 * (ji7.size : Int)))) + x36_2)) 8) then (transhipmentlaw01_FrameBursts.l0 k2 ji7 (Int.tmod (wrap64 ((Int.tmod a1 (wrap64 (8 * (ji7.size : Int)))) + (wrap64 (8 * (ji7.size : Int))))) (wrap64 (8 * (ji7.size : Int)))) a2 (wrap64 (8 * (ji7.size : Int))) (x8_2.set ((wrap64 (Int.tdiv (wrap64 ((Int.tmod (wrap64 ((Int.tmod a1 (wrap64 (8 * (ji7.size : Int)))) + (wrap64 (8 * (ji7.size : Int))))) (wrap64 (8 * (ji7.size : Int)))) + x36_2)) 8)) : Int).toNat (Go.bits .xor .u8 (rd x8_2 (wrap64 (Int.tdiv (wrap64 ((Int.tmod (wrap64 ((Int.tmod a1 (wrap64 (8 * (ji7.size : Int)))) + (wrap64 (8 * (ji7.size : Int))))) (wrap64 (8 * (ji7.size : Int)))) + x36_2)) 8))) (shl .u8 1 (Int.tmod (wrap64 ((Int.tmod (wrap64 ((Int.tmod a1 (wrap64 (8 * (ji7.size : Int)))) + (wrap64 (8 * (ji7.size : Int))))) (wrap64 (8 * (ji7.size : Int)))) + x36_2)) 8)))) (wrap64 (x36_2 + 1))) else (none)) else (none)) else (none)) else (transhipmentlaw01_FrameBursts.l0 k2 ji7 (Int.tmod (wrap64 ((Int.tmod a1 (wrap64 (8 * (ji7.size : Int)))) + (wrap64 (8 * (ji7.size : Int))))) (wrap64 (8 * (ji7.size : Int)))) a2 (wrap64 (8 * (ji7.size : Int))) x8_2 (wrap64 (x36_2 + 1)))) else (transhipmentlaw01_FrameBursts.l0 k2 ji7 (Int.tmod (wrap64 ((Int.tmod a1 (wrap64 (8 * (ji7.size : Int)))) + (wrap64 (8 * (ji7.size : Int))))) (wrap64 (8 * (ji7.size : Int)))) a2 (wrap64 (8 * (ji7.size : Int))) x8_2 (wrap64 (x36_2 + 1)))) = some r := by first | (rw [hji19] at H; exact H) | (simp only [hji19] at H ⊢; exact H)
                        have hji19_ : (a2 / 2 ^ min x36_2.toNat 32) = ji19 := hji19
                        have hji19z : x36_2 ≤ 32 → (a2 / 2 ^ x36_2.toNat) = ji19 := shr_small hji19
                        by_cases c20 : (Go.bits .and .u32 (ji19) 1) = 1
                        · rw [if_pos c20] at H
                          have c20b0 : ((Go.bits .and .u32 (ji19) 1) == 1) = true := beq_iff_eq.mpr c20
                          have c20b1 : ((Go.bits .and .u32 (ji19) 1) != 1) = false := bne_eq_false_iff_eq.mpr c20
                          clear c20
                          by_cases c21 : (wrap64 ((Int.tmod (wrap64 ((Int.tmod a1 (wrap64 (8 * (ji7.size : Int)))) + (wrap64 (8 * (ji7.size : Int))))) (wrap64 (8 * (ji7.size : Int)))) + x36_2)) < (wrap64 (8 * (ji7.size : Int)))
                          · rw [if_pos c21] at H
                            have c21b0 : decide ((wrap64 ((Int.tmod (wrap64 ((Int.tmod a1 (wrap64 (8 * (ji7.size : Int)))) + (wrap64 (8 * (ji7.size : Int))))) (wrap64 (8 * (ji7.size : Int)))) + x36_2)) < (wrap64 (8 * (ji7.size : Int)))) = true := decide_eq_true c21
                            clear c21
                            obtain ⟨ji22, hji22⟩ : ∃ j_ : Int, (wrap64 (Int.tdiv (wrap64 ((Int.tmod (wrap64 ((Int.tmod a1 (wrap64 (8 * (ji7.size : Int)))) + (wrap64 (8 * (ji7.size : Int))))) (wrap64 (8 * (ji7.size : Int)))) + x36_2)) 8)) = j_ := ⟨_, rfl⟩
                            replace H : (if 0 ≤ (ji22) then (if (ji22) < (x8_2.length : Int) then (if 0 ≤ (Int.tmod (wrap64 ((Int.tmod (wrap64 ((Int.tmod a1 (wrap64 (8 * (ji7.size : Int)))) + (wrap64 (8 * (ji7.size : Int))))) (wrap64 (8 * (ji7.size : Int)))) + x36_2)) 8) then (transhipmentlaw01_FrameBursts.l0 k2 ji7 (Int.tmod (wrap64 ((Int.tmod a1 (wrap64 (8 * (ji7.size : Int)))) + (wrap64 (8 * (ji7.size : Int))))) (wrap64 (8 * (ji7.size : Int)))) a2 (wrap64 (8 * (ji7.size : Int))) (x8_2.set ((ji22) : Int).toNat (Go.bits .xor .u8 (rd x8_2 (ji22)) (shl .u8 1 (Int.tmod (wrap64 ((Int.tmod (wrap64 ((Int.tmod a1 (wrap64 (8 * (ji7.size : Int)))) + (wrap64 (8 * (ji7.size : Int))))) (wrap64 (8 * (ji7.size : Int)))) + x36_2)) 8)))) (wrap64 (x36_2 + 1))) else (none)) else (none)) else (none)) = some r := by first | (rw [hji22] at H; exact H) | (simp only [hji22] at H ⊢; exact H)
                            have hji22w : (IntKind.i64.wrap (Int.tdiv (wrap64 ((Int.tmod (wrap64 ((Int.tmod a1 (wrap64 (8 * (ji7.size : Int)))) + (wrap64 (8 * (ji7.size : Int))))) (wrap64 (8 * (ji7.size : Int)))) + x36_2)) 8)) = ji22 := (i64_w _).trans hji22
                            by_cases c23 : 0 ≤ (ji22)
                            · rw [if_pos c23] at H
                              have c23b0 : decide (0 ≤ (ji22)) = true := decide_eq_true c23
                              clear c23
                              by_cases c24 : (ji22) < (x8_2.length : Int)
                              · rw [if_pos c24] at H
                                have c24b0 : decide ((ji22) < (x8_2.length : Int)) = true := decide_eq_true c24
                                clear c24
                                obtain ⟨ji25, hji25⟩ : ∃ j_ : Int, (Int.tmod (wrap64 ((Int.tmod (wrap64 ((Int.tmod a1 (wrap64 (8 * (ji7.size : Int)))) + (wrap64 (8 * (ji7.size : Int))))) (wrap64 (8 * (ji7.size : Int)))) + x36_2)) 8) = j_ := ⟨_, rfl⟩
                                replace H : (if 0 ≤ (ji25) then (transhipmentlaw01_FrameBursts.l0 k2 ji7 (Int.tmod (wrap64 ((Int.tmod a1 (wrap64 (8 * (ji7.size : Int)))) + (wrap64 (8 * (ji7.size : Int))))) (wrap64 (8 * (ji7.size : Int)))) a2 (wrap64 (8 * (ji7.size : Int))) (x8_2.set ((ji22) : Int).toNat (Go.bits .xor .u8 (rd x8_2 (ji22)) (shl .u8 1 (ji25)))) (wrap64 (x36_2 + 1))) else (none)) = some r := by first | (rw [hji25] at H; exact H) | (simp only [hji25] at H ⊢; exact H)
                                by_cases c26 : 0 ≤ (ji25)
                                · rw [if_pos c26] at H
                                  have c26b0 := eq_true c26
                                  have c26b1 : decide (0 ≤ (ji25)) = true := decide_eq_true c26
                                  clear c26
                                  obtain ⟨ji27, hji27⟩ : ∃ j_ : Int, (shl .u8 1 (ji25)) = j_ := ⟨_, rfl⟩
                                  replace H : (transhipmentlaw01_FrameBursts.l0 k2 ji7 (Int.tmod (wrap64 ((Int.tmod a1 (wrap64 (8 * (ji7.size : Int)))) + (wrap64 (8 * (ji7.size : Int))))) (wrap64 (8 * (ji7.size : Int)))) a2 (wrap64 (8 * (ji7.size : Int))) (x8_2.set ((ji22) : Int).toNat (Go.bits .xor .u8 (rd x8_2 (ji22)) (ji27))) (wrap64 (x36_2 + 1))) = some r := by first | (rw [hji27] at H; exact H) | (simp only [hji27] at H ⊢; exact H)
                                  have hji27_ : (IntKind.u8.wrap (1 * 2 ^ min (ji25).toNat 8)) = ji27 := hji27
                                  have hji27z : (ji25) ≤ 8 → (IntKind.u8.wrap (1 * 2 ^ (ji25).toNat)) = ji27 := shl_small hji27
                                  have hji27u : (IntKind.u8.wrap (2 ^ min (ji25).toNat 8)) = ji27 := by have h_ := hji27_; rw [Int.one_mul] at h_; exact h_
                                  have hji27v : (ji25) ≤ 8 → (IntKind.u8.wrap (2 ^ (ji25).toNat)) = ji27 := fun hle_ => by have h_ := hji27z hle_; rw [Int.one_mul] at h_; exact h_
                                  obtain ⟨y256, hy256⟩ : ∃ y_ : List Int, y_ = (x8_2.set ((ji22) : Int).toNat (Go.bits .xor .u8 (rd x8_2 (ji22)) (ji27))) := ⟨_, rfl⟩
                                  replace H : (transhipmentlaw01_FrameBursts.l0 k2 ji7 (Int.tmod (wrap64 ((Int.tmod a1 (wrap64 (8 * (ji7.size : Int)))) + (wrap64 (8 * (ji7.size : Int))))) (wrap64 (8 * (ji7.size : Int)))) a2 (wrap64 (8 * (ji7.size : Int))) y256 (wrap64 (x36_2 + 1))) = some r := by first | (rw [hy256]; with_reducible exact H) | (have H2_ := (Option.bind_some _ _).symm.trans H; rw [hy256]; with_reducible exact H2_) | (have H2_ := (Option.bind_some _ _).symm.trans H; with_reducible exact H2_) | with_reducible exact H | (rw [hy256]; exact H) | exact H
                                  have Ny256 := Aside0.mk hy256
                                  clear hy256
                                  have H' := Aside0.mk H
                                  clear H
                                  try go_wp2
                                  have n0_ := Aside0.mk (Kd.R_drew HO_8.out)
                                  have n1_ := Aside0.mk (below_drew1 HB.out)
                                  clear HO_8
                                  clear HB
                                  have HO_8 := n0_
                                  have HB := n1_
                                  clear n0_ n1_
                                  obtain ⟨Ao30, co30, eo30⟩ := Kd.R_slice HO_8.out
                                  (first | subst eo30 | (injection eo30 with f1_ f2_ f3_; have f4_ := f1_.symm; have f5_ := f3_.symm; clear f1_ f2_ f3_; subst f4_; subst f5_))
                                  have p255 : 0 ≤ ((ji22) : Int) := of_decide_eq_true (by first | (with_reducible assumption) | assumption)
                                  have q255 : (ji22) < (x8_2.length : Int) := of_decide_eq_true (by first | (with_reducible assumption) | assumption)
                                  obtain ⟨ad255, e255, hx255_0⟩ := Kd.at_int (Kd.R_reads' HO_8.out).2.2 (ji22) p255 q255
                                  cases e255
                                  replace p255 := eq_true p255
                                  replace q255 := eq_true q255
                                  have p28 : 0 ≤ ((ji22) : Int) := of_decide_eq_true (by first | (with_reducible assumption) | assumption)
                                  have q28 : ((ji22) : Int) < ((x8_2.length : Int) : Int) := of_decide_eq_true (by first | (with_reducible assumption) | assumption)
                                  obtain ⟨go28, co28, eo28, gb28, gl28, cl28, HG28⟩ := Kd.R_form HO_8.out (by omega)
                                  (first | cases eo28 | (injection eo28 with ea_ en_ ec_; (first | subst ea_ | (injection ea_ with ea_; subst ea_)); subst ec_; clear en_))
                                  have GB28 := Aside0.mk gb28
                                  have GG28 := Aside0.mk HG28
                                  clear gb28 gl28 HG28
                                  (first | simp only [add_plain] at hx255_0 | skip)
                                  obtain ⟨hx28_0, hf28_0⟩ := Kd.R_celln 0 HO_8.out ((ji22) : Int) p28 q28
                                  replace p28 := eq_true p28
                                  replace q28 := eq_true q28
                                  have HP31 := Kd.R_putn HO_8.out ((ji22) : Int) (Go.bits .xor .u8 (rd x8_2 (ji22)) (ji27))
                                  rw [← Ny256.out] at HP31
                                  have HQ31 := Aside0.mk HP31
                                  clear HP31
                                  refine start_ (n := 11) (S := fun w' => w'.cell? ⟨go28, ((ji22)).toNat, none⟩ = some (.int .u8 (rd x8_2 (ji22)))) (ds := [10]) #[false, false, false, false, false, false, false, false, false, false, false] (by kernel_rfl) rfl rfl (hx255_0) (fun hHeld => ?_); refine with_tabW transhipmentlaw01_FrameBursts.tab12 transhipmentlaw01_FrameBursts.bits12 (fun HT_ HW_ => ?_)
                                  generalize wr.drew = w29 at HO_8 HB GG28 HQ31 hf28_0 hx255_0 hx28_0 hHeld ⊢
                                  refine pure_ (i := 0) (N := some 52) (v := ?_) (a' := ?_) #[true, false, false, false, false, false, false, false, false, false, false] rfl rfl (any_of HT_.out (by kernel_rfl)) (fun _ _ _ h => h) (Or.inl ⟨by rfl, ?_⟩) ?_ ?_
                                  rotate_left
                                  · intro w'
                                    go_simp
                                    with_reducible rfl
                                  rotate_left
                                  · simp only [Act.put, List.setIfInBounds_toArray, List.set_cons_zero, List.set_cons_succ, i64_w, i32_w]
                                    rfl
                                  refine pure_ (i := 1) (N := some 53) (v := ?_) (a' := ?_) #[true, true, false, false, false, false, false, false, false, false, false] rfl rfl (any_of HT_.out (by kernel_rfl)) (fun _ _ _ h => h) (Or.inl ⟨by rfl, ?_⟩) ?_ ?_
                                  rotate_left
                                  · intro w'
                                    go_simp
                                    with_reducible rfl
                                  rotate_left
                                  · simp only [Act.put, List.setIfInBounds_toArray, List.set_cons_zero, List.set_cons_succ, i64_w, i32_w]
                                    rfl
                                  refine pure_ (i := 2) (N := some 54) (v := ?_) (a' := ?_) #[true, true, true, false, false, false, false, false, false, false, false] rfl rfl (any_of HT_.out (by kernel_rfl)) (fun _ _ _ h => h) (Or.inl ⟨by rfl, ?_⟩) ?_ ?_
                                  rotate_left
                                  · intro w'
                                    go_simp
                                    with_reducible rfl
                                  rotate_left
                                  · simp only [Act.put, List.setIfInBounds_toArray, List.set_cons_zero, List.set_cons_succ, i64_w, i32_w]
                                    rfl
                                  refine pure_ (i := 3) (N := some 55) (v := ?_) (a' := ?_) #[true, true, true, true, false, false, false, false, false, false, false] rfl rfl (any_of HT_.out (by kernel_rfl)) (fun _ _ _ h => h) (Or.inl ⟨by rfl, ?_⟩) ?_ ?_
                                  rotate_left
                                  · intro w'
                                    go_simp
                                    with_reducible rfl
                                  rotate_left
                                  · simp only [Act.put, List.setIfInBounds_toArray, List.set_cons_zero, List.set_cons_succ, i64_w, i32_w]
                                    rfl
                                  refine pure_ (i := 5) (N := some 57) (v := ?_) (a' := ?_) #[true, true, true, true, false, true, false, false, false, false, false] rfl rfl (any_of HT_.out (by kernel_rfl)) (fun _ _ _ h => h) (Or.inl ⟨by rfl, ?_⟩) ?_ ?_
                                  rotate_left
                                  · intro w'
                                    go_simp
                                    with_reducible rfl
                                  rotate_left
                                  · simp only [Act.put, List.setIfInBounds_toArray, List.set_cons_zero, List.set_cons_succ, i64_w, i32_w]
                                    rfl
                                  refine pure_ (i := 6) (N := some 58) (v := ?_) (a' := ?_) #[true, true, true, true, false, true, true, false, false, false, false] rfl rfl (any_of HT_.out (by kernel_rfl)) (fun _ _ _ h => h) (Or.inl ⟨by rfl, ?_⟩) ?_ ?_
                                  rotate_left
                                  · intro w'
                                    go_simp
                                    with_reducible rfl
                                  rotate_left
                                  · simp only [Act.put, List.setIfInBounds_toArray, List.set_cons_zero, List.set_cons_succ, i64_w, i32_w]
                                    rfl
                                  refine pure_ (i := 7) (N := some 59) (v := ?_) (a' := ?_) #[true, true, true, true, false, true, true, true, false, false, false] rfl rfl (any_of HT_.out (by kernel_rfl)) (fun _ _ _ h => h) (Or.inl ⟨by rfl, ?_⟩) ?_ ?_
                                  rotate_left
                                  · intro w'
                                    go_simp
                                    with_reducible rfl
                                  rotate_left
                                  · simp only [Act.put, List.setIfInBounds_toArray, List.set_cons_zero, List.set_cons_succ, i64_w, i32_w]
                                    rfl
                                  refine take_ (i := 4) (N := some 56) (v := ?_) (a' := ?_) #[true, true, true, true, true, true, true, true, false, false, false] rfl rfl (take_ofW HT_.out HW_.out (by kernel_rfl)) (fun _ _ _ h => h) (Or.inl ⟨by rfl, ?_⟩) hHeld ?_ ?_
                                  rotate_left
                                  · intro w' s0
                                    go_simp
                                    with_reducible rfl
                                  rotate_left
                                  · simp only [Act.put, List.setIfInBounds_toArray, List.set_cons_zero, List.set_cons_succ, i64_w, i32_w]
                                    rfl
                                  refine pure_ (i := 8) (N := some 60) (v := ?_) (a' := ?_) #[true, true, true, true, true, true, true, true, true, false, false] rfl rfl (any_of HT_.out (by kernel_rfl)) (fun _ _ _ h => h) (Or.inl ⟨by rfl, ?_⟩) ?_ ?_
                                  rotate_left
                                  · intro w'
                                    go_simp
                                    with_reducible rfl
                                  rotate_left
                                  · simp only [Act.put, List.setIfInBounds_toArray, List.set_cons_zero, List.set_cons_succ, i64_w, i32_w]
                                    rfl
                                  refine pure_ (i := 9) (N := some 61) (v := ?_) (a' := ?_) #[true, true, true, true, true, true, true, true, true, true, false] rfl rfl (any_of HT_.out (by kernel_rfl)) (fun _ _ _ h => h) (Or.inl ⟨by rfl, ?_⟩) ?_ ?_
                                  rotate_left
                                  · intro w'
                                    go_simp
                                    with_reducible rfl
                                  rotate_left
                                  · simp only [Act.put, List.setIfInBounds_toArray, List.set_cons_zero, List.set_cons_succ, i64_w, i32_w]
                                    rfl
                                  refine last_ (i := 10) (N := none) #[true, true, true, true, true, true, true, true, true, true, true] rfl rfl (one_of HT_.out (by kernel_rfl)) (by decide) (fun K hK => ?_)
                                  refine skip_ (w1 := ?_) (by rfl) rfl ?_ ?_
                                  rotate_left
                                  · go_simp
                                    rfl
                                  refine hK.out _ _ ?_
                                  clear hK K
                                  refine done_ (done_of HT_.out (by kernel_rfl)) ?_
                                  try go_wp2
                                  go_roundg k2
                                  case measure => have := HJ7.out; have := HK2.out; omega
                                  case rel => exact ⟨(y256), (wrap64 (x36_2 + 1)), (by first | rfl | (simp; done) | (simp [*]; done)), H', ⟨by have := HJ7.out; have := HK2.out; omega⟩, ⟨by (with_reducible repeat (first | apply Kd.R_alloc | apply Kd.R_drewN | apply Kd.R_drew)); exact HQ31.out⟩, ⟨by repeat (first | (with_reducible first | exact HB.out | apply below_alloc | apply pw_below_drewN | apply below_drew1 | refine below_set ?_ GB28.out) | exact HB.out)⟩⟩
                                · rw [if_neg c26] at H
                                  exact absurd H (by simp)
                              · rw [if_neg c24] at H
                                exact absurd H (by simp)
                            · rw [if_neg c23] at H
                              exact absurd H (by simp)
                          · rw [if_neg c21] at H
                            have c21b0 : decide ((wrap64 ((Int.tmod (wrap64 ((Int.tmod a1 (wrap64 (8 * (ji7.size : Int)))) + (wrap64 (8 * (ji7.size : Int))))) (wrap64 (8 * (ji7.size : Int)))) + x36_2)) < (wrap64 (8 * (ji7.size : Int)))) = false := decide_eq_false c21
                            clear c21
                            have H' := Aside0.mk H
                            clear H
                            go_wp2
                            go_roundg k2
                            case measure => have := HJ7.out; have := HK2.out; omega
                            case rel => exact ⟨(x8_2), (wrap64 (x36_2 + 1)), (by first | rfl | (simp; done) | (simp [*]; done)), H', ⟨by have := HJ7.out; have := HK2.out; omega⟩, ⟨by (with_reducible repeat (first | apply Kd.R_alloc | apply Kd.R_drewN | apply Kd.R_drew)); exact HO_8.out⟩, ⟨by repeat (first | (with_reducible first | exact HB.out | apply below_alloc | apply pw_below_drewN | apply below_drew1) | exact HB.out)⟩⟩
                        · rw [if_neg c20] at H
                          have c20b0 : ((Go.bits .and .u32 (ji19) 1) == 1) = false := beq_eq_false_iff_ne.mpr c20
                          have c20b1 : ((Go.bits .and .u32 (ji19) 1) != 1) = true := bne_iff_ne.mpr c20
                          have H' := Aside0.mk H
                          clear H
                          go_wp2
                          go_roundg k2
                          case measure => have := HJ7.out; have := HK2.out; omega
                          case rel => exact ⟨(x8_2), (wrap64 (x36_2 + 1)), (by first | rfl | (simp; done) | (simp [*]; done)), H', ⟨by have := HJ7.out; have := HK2.out; omega⟩, ⟨by (with_reducible repeat (first | apply Kd.R_alloc | apply Kd.R_drewN | apply Kd.R_drew)); exact HO_8.out⟩, ⟨by repeat (first | (with_reducible first | exact HB.out | apply below_alloc | apply pw_below_drewN | apply below_drew1) | exact HB.out)⟩⟩
                      · rw [if_neg c18] at H
                        exact absurd H (by simp)
                    · rw [if_neg c17] at H
                      have c17b0 : decide (x36_2 < 32) = false := decide_eq_false c17
                      clear c17
                      replace H := Option.bind_eq_some_iff.mp H
                      obtain ⟨t257, A320, H⟩ := H
                      replace H : (if t257 = true then (if (strOfNums x8_2).toList = ji7.toList then (some true) else ((frame_Crc.f (strOfNums x8_2)).bind fun t258 => ((frame_Crc.f ji7).bind fun t259 => (some (t258 != t259))))) else (some false)) = some r := H
                      have A32 := Aside0.mk A320
                      clear A320
                      by_cases c33 : t257 = true
                      · subst c33
                        have H1 : (if (strOfNums x8_2).toList = ji7.toList then (some true) else ((frame_Crc.f (strOfNums x8_2)).bind fun t258 => ((frame_Crc.f ji7).bind fun t259 => (some (t258 != t259))))) = some r := by rw [if_pos rfl] at H; exact H
                        clear H
                        have H := H1
                        clear H1
                        by_cases c34 : (strOfNums x8_2).toList = ji7.toList
                        · rw [if_pos c34] at H
                          have c34b0 : ((strOfNums x8_2).toList == ji7.toList) = true := beq_iff_eq.mpr c34
                          have c34b1 : ((strOfNums x8_2).toList != ji7.toList) = false := bne_eq_false_iff_eq.mpr c34
                          clear c34
                          obtain rfl := Option.some.inj H
                          go_wp2_with (first | ((with_reducible refine gate_callee (f := 12) rfl ?_); refine goesL_ (some 63) rfl rfl Try.func12 (by kernel_rfl) rfl #[] rfl (by (try simp only [List.map_toArray, List.map_cons, List.map_nil]); first | done | rfl | (simp only [List.length_drop, List.length_take]; rfl)) ?_; (with_reducible refine (transhipmentlaw01_alive.calls k2  true _ A32.out).mono ?_); rintro e w35 ⟨rfl, hb⟩; refine ⟨_, rfl, ?_⟩; have n0_ := Aside0.mk (Kd.R_below (by (with_reducible repeat (first | apply Kd.R_alloc | apply Kd.R_drewN | apply Kd.R_drew)); exact HO_8.out) hb); have n1_ := Aside0.mk (below_step (by repeat (first | (with_reducible first | exact HB.out | apply below_alloc | apply pw_below_drewN | apply below_drew1) | exact HB.out)) hb); clear HO_8; clear HB; have HO_8 := n0_; have HB := n1_; clear n0_ n1_; (try clear hb); (try clear hb2); (try clear hk); (try clear hi); have hcv36 := own_string (P := Try.prog) Try.underlying24 Try.underlying5 Try.underlying9 (Kd.own_of_R HO_8.out)))
                          go_ret
                          exact ⟨by first | rfl | (simp [errW_none, errW_some] <;> rfl) | (simp only [← hji4, ← hji7]; first | rfl | (simp [errW_none, errW_some] <;> rfl)) | (simp [*, errW_none, errW_some] <;> rfl), by repeat (first | (with_reducible first | exact HB.out | apply below_alloc | apply pw_below_drewN | apply below_drew1) | exact HB.out)⟩
                        · rw [if_neg c34] at H
                          have c34b0 : ((strOfNums x8_2).toList == ji7.toList) = false := beq_eq_false_iff_ne.mpr c34
                          have c34b1 : ((strOfNums x8_2).toList != ji7.toList) = true := bne_iff_ne.mpr c34
                          replace H := Option.bind_eq_some_iff.mp H
                          obtain ⟨t258, A370, H⟩ := H
                          replace H : ((frame_Crc.f ji7).bind fun t259 => (some (t258 != t259))) = some r := H
                          have A37 := Aside0.mk A370
                          clear A370
                          replace H := Option.bind_eq_some_iff.mp H
                          obtain ⟨t259, A380, H⟩ := H
                          replace H : (some (t258 != t259)) = some r := H
                          have A38 := Aside0.mk A380
                          clear A380
                          obtain rfl := Option.some.inj H
                          go_wp2_with (first | ((with_reducible refine gate_callee (f := 12) rfl ?_); refine goesL_ (some 63) rfl rfl Try.func12 (by kernel_rfl) rfl #[] rfl (by (try simp only [List.map_toArray, List.map_cons, List.map_nil]); first | done | rfl | (simp only [List.length_drop, List.length_take]; rfl)) ?_; (with_reducible refine (transhipmentlaw01_alive.calls k2  true _ A32.out).mono ?_); rintro e w39 ⟨rfl, hb⟩; refine ⟨_, rfl, ?_⟩; have n0_ := Aside0.mk (Kd.R_below (by (with_reducible repeat (first | apply Kd.R_alloc | apply Kd.R_drewN | apply Kd.R_drew)); exact HO_8.out) hb); have n1_ := Aside0.mk (below_step (by repeat (first | (with_reducible first | exact HB.out | apply below_alloc | apply pw_below_drewN | apply below_drew1) | exact HB.out)) hb); clear HO_8; clear HB; have HO_8 := n0_; have HB := n1_; clear n0_ n1_; (try clear hb); (try clear hb2); (try clear hk); (try clear hi); have hcv40 := own_string (P := Try.prog) Try.underlying24 Try.underlying5 Try.underlying9 (Kd.own_of_R HO_8.out); have hcv41 := own_string (P := Try.prog) Try.underlying24 Try.underlying5 Try.underlying9 (Kd.own_of_R HO_8.out)) | (go_at_call 10; (with_reducible refine (frame_Crc.calls (strOfNums x8_2) t258 _ A37.out).mono ?_); rintro e w42 ⟨rfl, hb⟩; have n0_ := Aside0.mk (Kd.R_below (by (with_reducible repeat (first | apply Kd.R_alloc | apply Kd.R_drewN | apply Kd.R_drew)); exact HO_8.out) hb); have n1_ := Aside0.mk (below_step (by repeat (first | (with_reducible first | exact HB.out | apply below_alloc | apply pw_below_drewN | apply below_drew1) | exact HB.out)) hb); clear HO_8; clear HB; have HO_8 := n0_; have HB := n1_; clear n0_ n1_; (try clear hb); (try clear hb2); (try clear hk); (try clear hi)) | (go_at_call 10; (with_reducible refine (frame_Crc.calls ji7 t259 _ A38.out).mono ?_); rintro e w43 ⟨rfl, hb⟩; have n0_ := Aside0.mk (Kd.R_below (by (with_reducible repeat (first | apply Kd.R_alloc | apply Kd.R_drewN | apply Kd.R_drew)); exact HO_8.out) hb); have n1_ := Aside0.mk (below_step (by repeat (first | (with_reducible first | exact HB.out | apply below_alloc | apply pw_below_drewN | apply below_drew1) | exact HB.out)) hb); clear HO_8; clear HB; have HO_8 := n0_; have HB := n1_; clear n0_ n1_; (try clear hb); (try clear hb2); (try clear hk); (try clear hi)))
                          go_ret
                          exact ⟨by first | rfl | (simp [errW_none, errW_some] <;> rfl) | (simp only [← hji4, ← hji7]; first | rfl | (simp [errW_none, errW_some] <;> rfl)) | (simp [*, errW_none, errW_some] <;> rfl), by repeat (first | (with_reducible first | exact HB.out | apply below_alloc | apply pw_below_drewN | apply below_drew1) | exact HB.out)⟩
                      · replace c33 := Bool.eq_false_iff.mpr c33
                        subst c33
                        have H1 : (some false) = some r := by rw [if_neg (show ¬ (false = true) by decide)] at H; exact H
                        clear H
                        have H := H1
                        clear H1
                        obtain rfl := Option.some.inj H
                        go_wp2_with (first | ((with_reducible refine gate_callee (f := 12) rfl ?_); refine goesL_ (some 63) rfl rfl Try.func12 (by kernel_rfl) rfl #[] rfl (by (try simp only [List.map_toArray, List.map_cons, List.map_nil]); first | done | rfl | (simp only [List.length_drop, List.length_take]; rfl)) ?_; (with_reducible refine (transhipmentlaw01_alive.calls k2  false _ A32.out).mono ?_); rintro e w44 ⟨rfl, hb⟩; refine ⟨_, rfl, ?_⟩; have n0_ := Aside0.mk (Kd.R_below (by (with_reducible repeat (first | apply Kd.R_alloc | apply Kd.R_drewN | apply Kd.R_drew)); exact HO_8.out) hb); have n1_ := Aside0.mk (below_step (by repeat (first | (with_reducible first | exact HB.out | apply below_alloc | apply pw_below_drewN | apply below_drew1) | exact HB.out)) hb); clear HO_8; clear HB; have HO_8 := n0_; have HB := n1_; clear n0_ n1_; (try clear hb); (try clear hb2); (try clear hk); (try clear hi)))
                        go_ret
                        exact ⟨by first | rfl | (simp [errW_none, errW_some] <;> rfl) | (simp only [← hji4, ← hji7]; first | rfl | (simp [errW_none, errW_some] <;> rfl)) | (simp [*, errW_none, errW_some] <;> rfl), by repeat (first | (with_reducible first | exact HB.out | apply below_alloc | apply pw_below_drewN | apply below_drew1) | exact HB.out)⟩
              · rw [if_neg c14] at H
                exact absurd H (by simp)
    · rw [if_neg c6] at H
      exact absurd H (by simp)
  · rw [if_neg c5] at H
    exact absurd H (by simp)

/-- THE ONE PURE STATEMENT of transhipmentlaw01_FrameBursts: yours. -/
def transhipmentlaw01_FrameBursts.Pure : Prop := ∀ (a0 : ByteArray) (a1 : Int) (a2 : Int), a0.size ≤ 140737488351232 → (Lit.int .i64 a1).wf = true → (Lit.int .u32 a2).wf = true → ∃ k, transhipmentlaw01_FrameBursts.f k a0 a1 a2 = some true
theorem transhipmentlaw01_FrameBursts.walk (P : transhipmentlaw01_FrameBursts.Pure) (a0 : ByteArray) (a1 : Int) (a2 : Int) (w : World) (w0 : a0.size ≤ 140737488351232) (w1 : (Lit.int .i64 a1).wf = true) (w2 : (Lit.int .u32 a2).wf = true) :
    Calls Try.prog 4 #[.string a0, .int .i64 a1, .int .u32 a2] w fun e w' => e = .returned (.bool true) ∧ Below w.heap.size w w' := by
  obtain ⟨k, h⟩ := P a0 a1 a2 w0 w1 w2
  refine (transhipmentlaw01_FrameBursts.calls k a0 a1 a2 true w h).mono ?_
  rintro e w' ⟨rfl, hd⟩
  exact ⟨rfl, hd⟩

end Go.Proofs.Ytmngigklmgoibaa.P
