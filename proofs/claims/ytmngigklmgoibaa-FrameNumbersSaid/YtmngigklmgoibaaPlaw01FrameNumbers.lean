/- What one function of the program computes, as a Lean function, and a proof that its call comes to just that. Conditions: none. Written by wip/ownprint.py. -/
import Derived.Test.YtmngigklmgoibaaP0
import Derived.Test.YtmngigklmgoibaaPFrameNumber
import Derived.Test.YtmngigklmgoibaaPlaw01Alive
import Derived.Test.YtmngigklmgoibaaPFrameRead
import Derived.Test.YtmngigklmgoibaaPref01Read
import Derived.Test.YtmngigklmgoibaaPref01Number
namespace Go.Proofs.Ytmngigklmgoibaa.P
open Go.RowKit Go.Proofs.YtmngigklmgoibaaW.PrintWords Go.Proofs.YtmngigklmgoibaaW.PrintLast Go.Proofs.YtmngigklmgoibaaW.PrintMore
attribute [local go_sem] max2_int min2_int max_two min_two max_three min_three max_four min_four   -- for this text's walks alone
set_option linter.unusedVariables false
set_option linter.unusedSimpArgs false

/-! ### transhipmentlaw01_FrameNumbers: function 6 -/
def transhipmentlaw01_FrameNumbers.j0 : Nat → Int → ByteArray → Int → Bool → Option (Bool)
  | 0, _, _, _, _ => none
  | k + 1, x0, x5, x6, x43 => if x43 = true then (some false) else (if x0 < 0 then (if x6 = 1 then (some (x5.toList == ([] : List UInt8))) else (some false)) else (if x0 ≥ 4611686018427387904 then (if x6 = 1 then (some (x5.toList == ([] : List UInt8))) else (some false)) else (if x6 = 0 then ((transhipmentref01_Number.f k x0).bind fun t132 => (some (x5.toList == t132.toList))) else (some false))))
def transhipmentlaw01_FrameNumbers.f (k : Nat) (a0 : Int) (a1 : ByteArray) : Option (Bool) := (frame_Number.f k a0).bind fun bt122 => ((frame_Read.f k a1).bind fun bt124 => ((transhipmentref01_Read.f k a1).bind fun bt127 => (if bt124.1 = bt127.1 then (if bt124.2.1 = bt127.2.1 then (if bt124.2.2 = bt127.2.2 then ((transhipmentlaw01_alive.f k).bind fun t131 => (transhipmentlaw01_FrameNumbers.j0 k a0 bt122.1 bt122.2 (!t131))) else (transhipmentlaw01_FrameNumbers.j0 k a0 bt122.1 bt122.2 true)) else (transhipmentlaw01_FrameNumbers.j0 k a0 bt122.1 bt122.2 true)) else (transhipmentlaw01_FrameNumbers.j0 k a0 bt122.1 bt122.2 true))))
theorem transhipmentlaw01_FrameNumbers.mono_l : ∀ k, (∀ y0 y1 y2 y3, LeO (transhipmentlaw01_FrameNumbers.j0 k y0 y1 y2 y3) (transhipmentlaw01_FrameNumbers.j0 (k + 1) y0 y1 y2 y3))
  | 0 => fun _ _ _ _ r h => by simp [transhipmentlaw01_FrameNumbers.j0] at h
  | k + 1 => by
    have ih0 := transhipmentlaw01_FrameNumbers.mono_l k
    · intro y0 y1 y2 y3
      unfold transhipmentlaw01_FrameNumbers.j0
      repeat' first
      | (with_reducible exact ih0 _ _ _ _)
      | (with_reducible exact frame_Number.mono _ _)
      | (with_reducible exact frame_Read.mono _ _)
      | (with_reducible exact transhipmentlaw01_alive.mono _)
      | (with_reducible exact transhipmentref01_Number.mono _ _)
      | (with_reducible exact transhipmentref01_Read.mono _ _)
      | (with_reducible exact LeO.refl _)
      | (with_reducible exact LeO.none _)
      | (with_reducible refine LeO.ite ?_ ?_)
      | (with_reducible refine LeO.bind ?_ (fun _ => ?_))
      | exact ih0 _ _ _ _
      | exact frame_Number.mono _ _
      | exact frame_Read.mono _ _
      | exact transhipmentlaw01_alive.mono _
      | exact transhipmentref01_Number.mono _ _
      | exact transhipmentref01_Read.mono _ _
      | exact LeO.none _
      | refine LeO.ite ?_ ?_
      | refine LeO.bind ?_ (fun _ => ?_)
theorem transhipmentlaw01_FrameNumbers.mono : ∀ a0 a1 k, LeO (transhipmentlaw01_FrameNumbers.f k a0 a1) (transhipmentlaw01_FrameNumbers.f (k + 1) a0 a1) := by
  intro a0 a1 k
  have ih0 := transhipmentlaw01_FrameNumbers.mono_l k
  unfold transhipmentlaw01_FrameNumbers.f
  repeat' first
      | (with_reducible exact ih0 _ _ _ _)
      | (with_reducible exact frame_Number.mono _ _)
      | (with_reducible exact frame_Read.mono _ _)
      | (with_reducible exact transhipmentlaw01_alive.mono _)
      | (with_reducible exact transhipmentref01_Number.mono _ _)
      | (with_reducible exact transhipmentref01_Read.mono _ _)
      | (with_reducible exact LeO.refl _)
      | (with_reducible exact LeO.none _)
      | (with_reducible refine LeO.ite ?_ ?_)
      | (with_reducible refine LeO.bind ?_ (fun _ => ?_))
      | exact ih0 _ _ _ _
      | exact frame_Number.mono _ _
      | exact frame_Read.mono _ _
      | exact transhipmentlaw01_alive.mono _
      | exact transhipmentref01_Number.mono _ _
      | exact transhipmentref01_Read.mono _ _
      | exact LeO.none _
      | refine LeO.ite ?_ ?_
      | refine LeO.bind ?_ (fun _ => ?_)
set_option maxHeartbeats 8000000 in
set_option maxRecDepth 100000 in
theorem transhipmentlaw01_FrameNumbers.calls (k : Nat) (a0 : Int) (a1 : ByteArray) (r : Bool) (w : World) (h : transhipmentlaw01_FrameNumbers.f k a0 a1 = some r) :
    Calls Try.prog 6 #[.int .i64 a0, .string a1] w fun e w' => e = .returned (.bool r) ∧ Below w.heap.size w w' := by
  have hu36 := Try.underlying36
  have HB := Aside0.mk (Below.refl w.heap.size w)
  have H : ((frame_Number.f k a0).bind fun bt122 => ((frame_Read.f k a1).bind fun bt124 => ((transhipmentref01_Read.f k a1).bind fun bt127 => (if bt124.1 = bt127.1 then (if bt124.2.1 = bt127.2.1 then (if bt124.2.2 = bt127.2.2 then ((transhipmentlaw01_alive.f k).bind fun t131 => (transhipmentlaw01_FrameNumbers.j0 k a0 bt122.1 bt122.2 (!t131))) else (transhipmentlaw01_FrameNumbers.j0 k a0 bt122.1 bt122.2 true)) else (transhipmentlaw01_FrameNumbers.j0 k a0 bt122.1 bt122.2 true)) else (transhipmentlaw01_FrameNumbers.j0 k a0 bt122.1 bt122.2 true))))) = some r := h
  clear h
  replace H := Option.bind_eq_some_iff.mp H
  obtain ⟨⟨t122, t123⟩, A30, H⟩ := H
  replace H : ((frame_Read.f k a1).bind fun bt124 => ((transhipmentref01_Read.f k a1).bind fun bt127 => (if bt124.1 = bt127.1 then (if bt124.2.1 = bt127.2.1 then (if bt124.2.2 = bt127.2.2 then ((transhipmentlaw01_alive.f k).bind fun t131 => (transhipmentlaw01_FrameNumbers.j0 k a0 t122 t123 (!t131))) else (transhipmentlaw01_FrameNumbers.j0 k a0 t122 t123 true)) else (transhipmentlaw01_FrameNumbers.j0 k a0 t122 t123 true)) else (transhipmentlaw01_FrameNumbers.j0 k a0 t122 t123 true)))) = some r := H
  have A3 := Aside0.mk A30
  clear A30
  replace H := Option.bind_eq_some_iff.mp H
  obtain ⟨⟨t124, t125, t126⟩, A40, H⟩ := H
  replace H : ((transhipmentref01_Read.f k a1).bind fun bt127 => (if t124 = bt127.1 then (if t125 = bt127.2.1 then (if t126 = bt127.2.2 then ((transhipmentlaw01_alive.f k).bind fun t131 => (transhipmentlaw01_FrameNumbers.j0 k a0 t122 t123 (!t131))) else (transhipmentlaw01_FrameNumbers.j0 k a0 t122 t123 true)) else (transhipmentlaw01_FrameNumbers.j0 k a0 t122 t123 true)) else (transhipmentlaw01_FrameNumbers.j0 k a0 t122 t123 true))) = some r := H
  have A4 := Aside0.mk A40
  clear A40
  replace H := Option.bind_eq_some_iff.mp H
  obtain ⟨⟨t127, t128, t129⟩, A50, H⟩ := H
  replace H : (if t124 = t127 then (if t125 = t128 then (if t126 = t129 then ((transhipmentlaw01_alive.f k).bind fun t131 => (transhipmentlaw01_FrameNumbers.j0 k a0 t122 t123 (!t131))) else (transhipmentlaw01_FrameNumbers.j0 k a0 t122 t123 true)) else (transhipmentlaw01_FrameNumbers.j0 k a0 t122 t123 true)) else (transhipmentlaw01_FrameNumbers.j0 k a0 t122 t123 true)) = some r := H
  have A5 := Aside0.mk A50
  clear A50
  have HC6 := Aside0.mk H
  clear H
  go_enter Try.func6, Try.ntmps6
  go_upto_region 4 with (first | ((with_reducible refine gate_callee (f := 14) rfl ?_); refine goesL_ (some 13) rfl rfl Try.func14 (by kernel_rfl) rfl #[.int .i64 a0] rfl (by (try simp only [List.map_toArray, List.map_cons, List.map_nil]); first | done | rfl | (simp only [List.length_drop, List.length_take]; rfl)) ?_; (with_reducible refine (frame_Number.calls k a0 t122 t123 _ A3.out).mono ?_); rintro e w7 ⟨rfl, hb⟩; refine ⟨_, rfl, ?_⟩; have n0_ := Aside0.mk (below_step (by repeat (first | (with_reducible first | exact HB.out | apply below_alloc | apply pw_below_drewN | apply below_drew1) | exact HB.out)) hb); clear HB; have HB := n0_; clear n0_; (try clear hb); (try clear hb2); (try clear hk); (try clear hi)) | ((with_reducible refine gate_callee (f := 15) rfl ?_); refine goesL_ (some 18) rfl rfl Try.func15 (by kernel_rfl) rfl #[.string a1] rfl (by (try simp only [List.map_toArray, List.map_cons, List.map_nil]); first | done | rfl | (simp only [List.length_drop, List.length_take]; rfl)) ?_; (with_reducible refine (frame_Read.calls k a1 t124 t125 t126 _ A4.out).mono ?_); rintro e w8 ⟨rfl, hb⟩; refine ⟨_, rfl, ?_⟩; have n0_ := Aside0.mk (below_step (by repeat (first | (with_reducible first | exact HB.out | apply below_alloc | apply pw_below_drewN | apply below_drew1) | exact HB.out)) hb); clear HB; have HB := n0_; clear n0_; (try clear hb); (try clear hb2); (try clear hk); (try clear hi)) | ((with_reducible refine gate_callee (f := 16) rfl ?_); refine goesL_ (some 23) rfl rfl Try.func16 (by kernel_rfl) rfl #[.string a1] rfl (by (try simp only [List.map_toArray, List.map_cons, List.map_nil]); first | done | rfl | (simp only [List.length_drop, List.length_take]; rfl)) ?_; (with_reducible refine (transhipmentref01_Read.calls k a1 t127 t128 t129 _ A5.out).mono ?_); rintro e w9 ⟨rfl, hb⟩; refine ⟨_, rfl, ?_⟩; have n0_ := Aside0.mk (below_step (by repeat (first | (with_reducible first | exact HB.out | apply below_alloc | apply pw_below_drewN | apply below_drew1) | exact HB.out)) hb); clear HB; have HB := n0_; clear n0_; (try clear hb); (try clear hb2); (try clear hk); (try clear hi)) | ((with_reducible refine gate_dst (N := 10) rfl ?_); refine box_event ?hg (N := 10) ?hd (cs := #[.int .i64 0, .int .i64 0, .int .i64 0]) (t := 36) ?hr ?_; (case hd => rfl); (case hg => rfl); (case hr => first | (go_simp; done) | (go_simp; rfl)); intro gb130 hg w10 hbox hb; have n0_ := Aside0.mk (below_step (by repeat (first | (with_reducible first | exact HB.out | apply below_alloc | apply pw_below_drewN | apply below_drew1) | exact HB.out)) hb); have n1_ := Aside0.mk (hbox); have n2_ := Aside0.mk ((by rw [hg]; exact (below_size (by repeat (first | (with_reducible first | exact HB.out | apply below_alloc | apply pw_below_drewN | apply below_drew1) | exact HB.out))) : w.heap.size ≤ gb130)); have n3_ := Aside0.mk ((by rw [hg]; exact (below_size (by repeat (first | (with_reducible first | exact HB.out | apply below_alloc | apply pw_below_drewN | apply below_drew1) | exact HB.out))) : w.heap.size ≤ gb130)); clear HB; have HB := n0_; have BK130 := n1_; have GW130 := n2_; have GE130 := n3_; clear n0_ n1_ n2_ n3_; clear hb hbox hg; have hcz11_0 : w10.cell? ⟨gb130, 0, none⟩ = some (.int .i64 0) := (blk_cell BK130.out 0).trans rfl; have hcz11_1 : w10.cell? ⟨gb130, 1, none⟩ = some (.int .i64 0) := (blk_cell BK130.out 1).trans rfl; have hcz11_2 : w10.cell? ⟨gb130, 2, none⟩ = some (.int .i64 0) := (blk_cell BK130.out 2).trans rfl; have hfz11_0 := blk_frozen BK130.out 0; have hfz11_1 := blk_frozen BK130.out 1; have hfz11_2 := blk_frozen BK130.out 2))
  (try simp only [Act.put, List.setIfInBounds_toArray, List.set_cons_zero, List.set_cons_succ])
  go_cut [43] (fun v43 wc => ∃ (kq : Nat) (x43_5 : Bool), v43 = .bool x43_5 ∧ Aside0 (transhipmentlaw01_FrameNumbers.j0 kq a0 t122 t123 x43_5 = some r) ∧ Aside0 (kq ≤ k) ∧ Aside0 (wc.heap[gb130]? = some (.cells #[.int .i64 t127, .int .i64 t128, .int .i64 t129] 36 (0, 0))) ∧ Aside0 (Below w.heap.size w wc))
  case first =>
    have H := HC6.out
    clear HC6
    by_cases c12 : t124 = t127
    · rw [if_pos c12] at H
      have c12b0 : (t124 == t127) = true := beq_iff_eq.mpr c12
      have c12b1 : (t124 != t127) = false := bne_eq_false_iff_eq.mpr c12
      clear c12
      (first | rw [c12b0] | (simp only [i64_w, i32_w]; rw [c12b0]) | skip)
      by_cases c13 : t125 = t128
      · rw [if_pos c13] at H
        have c13b0 : (t125 == t128) = true := beq_iff_eq.mpr c13
        have c13b1 : (t125 != t128) = false := bne_eq_false_iff_eq.mpr c13
        clear c13
        by_cases c14 : t126 = t129
        · rw [if_pos c14] at H
          have c14b0 : (t126 == t129) = true := beq_iff_eq.mpr c14
          have c14b1 : (t126 != t129) = false := bne_eq_false_iff_eq.mpr c14
          clear c14
          replace H := Option.bind_eq_some_iff.mp H
          obtain ⟨t131, A150, H⟩ := H
          replace H : (transhipmentlaw01_FrameNumbers.j0 k a0 t122 t123 (!t131)) = some r := H
          have A15 := Aside0.mk A150
          clear A150
          have H' := Aside0.mk H
          clear H
          have hcz16_0 : w10.cell? ⟨gb130, 0, none⟩ = some (.int .i64 0) := (blk_cell BK130.out 0).trans rfl
          have hcz16_1 : w10.cell? ⟨gb130, 1, none⟩ = some (.int .i64 0) := (blk_cell BK130.out 1).trans rfl
          have hcz16_2 : w10.cell? ⟨gb130, 2, none⟩ = some (.int .i64 0) := (blk_cell BK130.out 2).trans rfl
          have hfz16_0 := blk_frozen BK130.out 0
          have hfz16_1 := blk_frozen BK130.out 1
          have hfz16_2 := blk_frozen BK130.out 2
          go_wp2_with (first | (go_at_call 12; (with_reducible refine (transhipmentlaw01_alive.calls k  t131 _ A15.out).mono ?_); rintro e w17 ⟨rfl, hb⟩; have n0_ := Aside0.mk (blk_below (g := gb130) (o := .cells #[.int .i64 t127, .int .i64 t128, .int .i64 t129] 36 (0, 0)) (by (with_reducible repeat (first | refine blk_drewN ?_ _ | refine blk_drew ?_ | refine blk_alloc ?_ _)); refine blk_put (cs := #[.int .i64 t127, .int .i64 t128, .int .i64 0]) ?_ 2 _ rfl; (with_reducible repeat (first | refine blk_drewN ?_ _ | refine blk_drew ?_ | refine blk_alloc ?_ _)); refine blk_put (cs := #[.int .i64 t127, .int .i64 0, .int .i64 0]) ?_ 1 _ rfl; (with_reducible repeat (first | refine blk_drewN ?_ _ | refine blk_drew ?_ | refine blk_alloc ?_ _)); refine blk_put (cs := #[.int .i64 0, .int .i64 0, .int .i64 0]) ?_ 0 _ rfl; (with_reducible repeat (first | refine blk_drewN ?_ _ | refine blk_drew ?_ | refine blk_alloc ?_ _)); exact BK130.out) hb); have n1_ := Aside0.mk (below_step (by repeat (first | (with_reducible first | exact HB.out | apply below_alloc | apply pw_below_drewN | apply below_drew1 | refine below_set ?_ GE130.out) | exact HB.out)) hb); clear BK130; clear HB; have BK130 := n0_; have HB := n1_; clear n0_ n1_; (try clear hb); (try clear hb2); (try clear hk); (try clear hi)))
          go_meet
          case rel => exact ⟨_, (!t131), (by first | rfl | (simp; done) | (simp [*]; done)), H', ⟨by first | omega | exact Nat.le_refl _⟩, ⟨by (with_reducible repeat (first | refine blk_drewN ?_ _ | refine blk_drew ?_ | refine blk_alloc ?_ _)); exact BK130.out⟩, ⟨by repeat (first | (with_reducible first | exact HB.out | apply below_alloc | apply pw_below_drewN | apply below_drew1 | refine below_set ?_ GE130.out) | exact HB.out)⟩⟩
        · rw [if_neg c14] at H
          have c14b0 : (t126 == t129) = false := beq_eq_false_iff_ne.mpr c14
          have c14b1 : (t126 != t129) = true := bne_iff_ne.mpr c14
          have H' := Aside0.mk H
          clear H
          have hcz18_0 : w10.cell? ⟨gb130, 0, none⟩ = some (.int .i64 0) := (blk_cell BK130.out 0).trans rfl
          have hcz18_1 : w10.cell? ⟨gb130, 1, none⟩ = some (.int .i64 0) := (blk_cell BK130.out 1).trans rfl
          have hcz18_2 : w10.cell? ⟨gb130, 2, none⟩ = some (.int .i64 0) := (blk_cell BK130.out 2).trans rfl
          have hfz18_0 := blk_frozen BK130.out 0
          have hfz18_1 := blk_frozen BK130.out 1
          have hfz18_2 := blk_frozen BK130.out 2
          go_wp2
          go_meet
          case rel => exact ⟨_, (true), (by first | rfl | (simp; done) | (simp [*]; done)), H', ⟨by first | omega | exact Nat.le_refl _⟩, ⟨by (with_reducible repeat (first | refine blk_drewN ?_ _ | refine blk_drew ?_ | refine blk_alloc ?_ _)); refine blk_put (cs := #[.int .i64 t127, .int .i64 t128, .int .i64 0]) ?_ 2 _ rfl; (with_reducible repeat (first | refine blk_drewN ?_ _ | refine blk_drew ?_ | refine blk_alloc ?_ _)); refine blk_put (cs := #[.int .i64 t127, .int .i64 0, .int .i64 0]) ?_ 1 _ rfl; (with_reducible repeat (first | refine blk_drewN ?_ _ | refine blk_drew ?_ | refine blk_alloc ?_ _)); refine blk_put (cs := #[.int .i64 0, .int .i64 0, .int .i64 0]) ?_ 0 _ rfl; (with_reducible repeat (first | refine blk_drewN ?_ _ | refine blk_drew ?_ | refine blk_alloc ?_ _)); exact BK130.out⟩, ⟨by repeat (first | (with_reducible first | exact HB.out | apply below_alloc | apply pw_below_drewN | apply below_drew1 | refine below_set ?_ GE130.out) | exact HB.out)⟩⟩
      · rw [if_neg c13] at H
        have c13b0 : (t125 == t128) = false := beq_eq_false_iff_ne.mpr c13
        have c13b1 : (t125 != t128) = true := bne_iff_ne.mpr c13
        have H' := Aside0.mk H
        clear H
        have hcz19_0 : w10.cell? ⟨gb130, 0, none⟩ = some (.int .i64 0) := (blk_cell BK130.out 0).trans rfl
        have hcz19_1 : w10.cell? ⟨gb130, 1, none⟩ = some (.int .i64 0) := (blk_cell BK130.out 1).trans rfl
        have hcz19_2 : w10.cell? ⟨gb130, 2, none⟩ = some (.int .i64 0) := (blk_cell BK130.out 2).trans rfl
        have hfz19_0 := blk_frozen BK130.out 0
        have hfz19_1 := blk_frozen BK130.out 1
        have hfz19_2 := blk_frozen BK130.out 2
        go_wp2
        go_meet
        case rel => exact ⟨_, (true), (by first | rfl | (simp; done) | (simp [*]; done)), H', ⟨by first | omega | exact Nat.le_refl _⟩, ⟨by (with_reducible repeat (first | refine blk_drewN ?_ _ | refine blk_drew ?_ | refine blk_alloc ?_ _)); refine blk_put (cs := #[.int .i64 t127, .int .i64 t128, .int .i64 0]) ?_ 2 _ rfl; (with_reducible repeat (first | refine blk_drewN ?_ _ | refine blk_drew ?_ | refine blk_alloc ?_ _)); refine blk_put (cs := #[.int .i64 t127, .int .i64 0, .int .i64 0]) ?_ 1 _ rfl; (with_reducible repeat (first | refine blk_drewN ?_ _ | refine blk_drew ?_ | refine blk_alloc ?_ _)); refine blk_put (cs := #[.int .i64 0, .int .i64 0, .int .i64 0]) ?_ 0 _ rfl; (with_reducible repeat (first | refine blk_drewN ?_ _ | refine blk_drew ?_ | refine blk_alloc ?_ _)); exact BK130.out⟩, ⟨by repeat (first | (with_reducible first | exact HB.out | apply below_alloc | apply pw_below_drewN | apply below_drew1 | refine below_set ?_ GE130.out) | exact HB.out)⟩⟩
    · rw [if_neg c12] at H
      have c12b0 : (t124 == t127) = false := beq_eq_false_iff_ne.mpr c12
      have c12b1 : (t124 != t127) = true := bne_iff_ne.mpr c12
      (first | rw [c12b0] | (simp only [i64_w, i32_w]; rw [c12b0]) | skip)
      have H' := Aside0.mk H
      clear H
      have hcz20_0 : w10.cell? ⟨gb130, 0, none⟩ = some (.int .i64 0) := (blk_cell BK130.out 0).trans rfl
      have hcz20_1 : w10.cell? ⟨gb130, 1, none⟩ = some (.int .i64 0) := (blk_cell BK130.out 1).trans rfl
      have hcz20_2 : w10.cell? ⟨gb130, 2, none⟩ = some (.int .i64 0) := (blk_cell BK130.out 2).trans rfl
      have hfz20_0 := blk_frozen BK130.out 0
      have hfz20_1 := blk_frozen BK130.out 1
      have hfz20_2 := blk_frozen BK130.out 2
      go_wp2
      go_meet
      case rel => exact ⟨_, (true), (by first | rfl | (simp; done) | (simp [*]; done)), H', ⟨by first | omega | exact Nat.le_refl _⟩, ⟨by (with_reducible repeat (first | refine blk_drewN ?_ _ | refine blk_drew ?_ | refine blk_alloc ?_ _)); refine blk_put (cs := #[.int .i64 t127, .int .i64 t128, .int .i64 0]) ?_ 2 _ rfl; (with_reducible repeat (first | refine blk_drewN ?_ _ | refine blk_drew ?_ | refine blk_alloc ?_ _)); refine blk_put (cs := #[.int .i64 t127, .int .i64 0, .int .i64 0]) ?_ 1 _ rfl; (with_reducible repeat (first | refine blk_drewN ?_ _ | refine blk_drew ?_ | refine blk_alloc ?_ _)); refine blk_put (cs := #[.int .i64 0, .int .i64 0, .int .i64 0]) ?_ 0 _ rfl; (with_reducible repeat (first | refine blk_drewN ?_ _ | refine blk_drew ?_ | refine blk_alloc ?_ _)); exact BK130.out⟩, ⟨by repeat (first | (with_reducible first | exact HB.out | apply below_alloc | apply pw_below_drewN | apply below_drew1 | refine below_set ?_ GE130.out) | exact HB.out)⟩⟩
  case rest =>
    clear HC6
    try clear c1
    try clear p2
    try clear c6
    try clear c12
    try clear c12b0
    try clear c12b1
    try clear c13
    try clear c13b0
    try clear c13b1
    try clear c14
    try clear c14b0
    try clear c14b1
    try clear c15
    try clear c16
    try clear hcz11_0
    try clear hcz11_1
    try clear hcz11_2
    try clear hcz16_0
    try clear hcz16_1
    try clear hcz16_2
    try clear hcz18_0
    try clear hcz18_1
    try clear hcz18_2
    try clear hcz19_0
    try clear hcz19_1
    try clear hcz19_2
    try clear hcz20_0
    try clear hcz20_1
    try clear hcz20_2
    try clear hfz11_0
    try clear hfz11_1
    try clear hfz11_2
    try clear hfz16_0
    try clear hfz16_1
    try clear hfz16_2
    try clear hfz18_0
    try clear hfz18_1
    try clear hfz18_2
    try clear hfz19_0
    try clear hfz19_1
    try clear hfz19_2
    try clear hfz20_0
    try clear hfz20_1
    try clear hfz20_2
    obtain ⟨kq, x43_5, rfl, HA, HJ5, BK130, HB⟩ := hcut
    cases kq with
    | zero => exact absurd HA.out (by simp [transhipmentlaw01_FrameNumbers.j0])
    | succ kj5 =>
      have H := HA.out
      clear HA
      simp only [transhipmentlaw01_FrameNumbers.j0] at H
      by_cases c21 : x43_5 = true
      · subst c21
        have H1 : (some false) = some r := by rw [if_pos rfl] at H; exact H
        clear H
        have H := H1
        clear H1
        obtain rfl := Option.some.inj H
        go_wp2
        go_ret
        exact ⟨by first | rfl | (simp [errW_none, errW_some] <;> rfl) | (simp [*, errW_none, errW_some] <;> rfl), by repeat (first | (with_reducible first | exact HB.out | apply below_alloc | apply pw_below_drewN | apply below_drew1 | refine below_set ?_ GE130.out) | exact HB.out)⟩
      · replace c21 := Bool.eq_false_iff.mpr c21
        subst c21
        have H1 : (if a0 < 0 then (if t123 = 1 then (some (t122.toList == ([] : List UInt8))) else (some false)) else (if a0 ≥ 4611686018427387904 then (if t123 = 1 then (some (t122.toList == ([] : List UInt8))) else (some false)) else (if t123 = 0 then ((transhipmentref01_Number.f kj5 a0).bind fun t132 => (some (t122.toList == t132.toList))) else (some false)))) = some r := by rw [if_neg (show ¬ (false = true) by decide)] at H; exact H
        clear H
        have H := H1
        clear H1
        by_cases c22 : a0 < 0
        · rw [if_pos c22] at H
          have c22b0 : decide (a0 < 0) = true := decide_eq_true c22
          clear c22
          by_cases c23 : t123 = 1
          · rw [if_pos c23] at H
            have c23b0 : (t123 == 1) = true := beq_iff_eq.mpr c23
            have c23b1 : (t123 != 1) = false := bne_eq_false_iff_eq.mpr c23
            clear c23
            obtain rfl := Option.some.inj H
            go_wp2
            go_ret
            exact ⟨by first | rfl | (simp [errW_none, errW_some] <;> rfl) | (simp [*, errW_none, errW_some] <;> rfl), by repeat (first | (with_reducible first | exact HB.out | apply below_alloc | apply pw_below_drewN | apply below_drew1 | refine below_set ?_ GE130.out) | exact HB.out)⟩
          · rw [if_neg c23] at H
            have c23b0 : (t123 == 1) = false := beq_eq_false_iff_ne.mpr c23
            have c23b1 : (t123 != 1) = true := bne_iff_ne.mpr c23
            obtain rfl := Option.some.inj H
            go_wp2
            go_ret
            exact ⟨by first | rfl | (simp [errW_none, errW_some] <;> rfl) | (simp [*, errW_none, errW_some] <;> rfl), by repeat (first | (with_reducible first | exact HB.out | apply below_alloc | apply pw_below_drewN | apply below_drew1 | refine below_set ?_ GE130.out) | exact HB.out)⟩
        · rw [if_neg c22] at H
          have c22b0 : decide (a0 < 0) = false := decide_eq_false c22
          clear c22
          by_cases c24 : a0 ≥ 4611686018427387904
          · rw [if_pos c24] at H
            have c24b0 : decide (4611686018427387904 ≤ a0) = true := decide_eq_true c24
            clear c24
            by_cases c25 : t123 = 1
            · rw [if_pos c25] at H
              have c25b0 : (t123 == 1) = true := beq_iff_eq.mpr c25
              have c25b1 : (t123 != 1) = false := bne_eq_false_iff_eq.mpr c25
              clear c25
              obtain rfl := Option.some.inj H
              go_wp2
              go_ret
              exact ⟨by first | rfl | (simp [errW_none, errW_some] <;> rfl) | (simp [*, errW_none, errW_some] <;> rfl), by repeat (first | (with_reducible first | exact HB.out | apply below_alloc | apply pw_below_drewN | apply below_drew1 | refine below_set ?_ GE130.out) | exact HB.out)⟩
            · rw [if_neg c25] at H
              have c25b0 : (t123 == 1) = false := beq_eq_false_iff_ne.mpr c25
              have c25b1 : (t123 != 1) = true := bne_iff_ne.mpr c25
              obtain rfl := Option.some.inj H
              go_wp2
              go_ret
              exact ⟨by first | rfl | (simp [errW_none, errW_some] <;> rfl) | (simp [*, errW_none, errW_some] <;> rfl), by repeat (first | (with_reducible first | exact HB.out | apply below_alloc | apply pw_below_drewN | apply below_drew1 | refine below_set ?_ GE130.out) | exact HB.out)⟩
          · rw [if_neg c24] at H
            have c24b0 : decide (4611686018427387904 ≤ a0) = false := decide_eq_false c24
            clear c24
            by_cases c26 : t123 = 0
            · rw [if_pos c26] at H
              have c26b0 : (t123 == 0) = true := beq_iff_eq.mpr c26
              have c26b1 : (t123 != 0) = false := bne_eq_false_iff_eq.mpr c26
              clear c26
              replace H := Option.bind_eq_some_iff.mp H
              obtain ⟨t132, A270, H⟩ := H
              replace H : (some (t122.toList == t132.toList)) = some r := H
              have A27 := Aside0.mk A270
              clear A270
              obtain rfl := Option.some.inj H
              go_wp2_with (first | (go_at_call 17; (with_reducible refine (transhipmentref01_Number.calls kj5 a0 t132 _ A27.out).mono ?_); rintro e w28 ⟨rfl, hb⟩; have n0_ := Aside0.mk (blk_below (g := gb130) (o := .cells #[.int .i64 t127, .int .i64 t128, .int .i64 t129] 36 (0, 0)) (by (with_reducible repeat (first | refine blk_drewN ?_ _ | refine blk_drew ?_ | refine blk_alloc ?_ _)); exact BK130.out) hb); have n1_ := Aside0.mk (below_step (by repeat (first | (with_reducible first | exact HB.out | apply below_alloc | apply pw_below_drewN | apply below_drew1 | refine below_set ?_ GE130.out) | exact HB.out)) hb); clear BK130; clear HB; have BK130 := n0_; have HB := n1_; clear n0_ n1_; (try clear hb); (try clear hb2); (try clear hk); (try clear hi)))
              go_ret
              exact ⟨by first | rfl | (simp [errW_none, errW_some] <;> rfl) | (simp [*, errW_none, errW_some] <;> rfl), by repeat (first | (with_reducible first | exact HB.out | apply below_alloc | apply pw_below_drewN | apply below_drew1 | refine below_set ?_ GE130.out) | exact HB.out)⟩
            · rw [if_neg c26] at H
              have c26b0 : (t123 == 0) = false := beq_eq_false_iff_ne.mpr c26
              have c26b1 : (t123 != 0) = true := bne_iff_ne.mpr c26
              obtain rfl := Option.some.inj H
              go_wp2
              go_ret
              exact ⟨by first | rfl | (simp [errW_none, errW_some] <;> rfl) | (simp [*, errW_none, errW_some] <;> rfl), by repeat (first | (with_reducible first | exact HB.out | apply below_alloc | apply pw_below_drewN | apply below_drew1 | refine below_set ?_ GE130.out) | exact HB.out)⟩

/-- THE ONE PURE STATEMENT of transhipmentlaw01_FrameNumbers: yours. -/
def transhipmentlaw01_FrameNumbers.Pure : Prop := ∀ (a0 : Int) (a1 : ByteArray), (Lit.int .i64 a0).wf = true → a1.size ≤ 140737488351232 → ∃ k, transhipmentlaw01_FrameNumbers.f k a0 a1 = some true
theorem transhipmentlaw01_FrameNumbers.walk (P : transhipmentlaw01_FrameNumbers.Pure) (a0 : Int) (a1 : ByteArray) (w : World) (w0 : (Lit.int .i64 a0).wf = true) (w1 : a1.size ≤ 140737488351232) :
    Calls Try.prog 6 #[.int .i64 a0, .string a1] w fun e w' => e = .returned (.bool true) ∧ Below w.heap.size w w' := by
  obtain ⟨k, h⟩ := P a0 a1 w0 w1
  refine (transhipmentlaw01_FrameNumbers.calls k a0 a1 true w h).mono ?_
  rintro e w' ⟨rfl, hd⟩
  exact ⟨rfl, hd⟩

end Go.Proofs.Ytmngigklmgoibaa.P
