/- What one function of the program computes, as a Lean function, and a proof that its call comes to just that. Conditions: none. Written by wip/ownprint.py. -/
import Derived.Test.YtmngigklmgoibaaP0
import Derived.Test.YtmngigklmgoibaaPFrameNumber
import Derived.Test.YtmngigklmgoibaaPlaw01Alive
import Derived.Test.YtmngigklmgoibaaPlaw01Few
import Derived.Test.YtmngigklmgoibaaFrameBind
namespace Go.Proofs.Ytmngigklmgoibaa.P
open Go.RowKit Go.Proofs.YtmngigklmgoibaaW.PrintWords Go.Proofs.YtmngigklmgoibaaW.PrintLast Go.Proofs.YtmngigklmgoibaaW.PrintMore
attribute [local go_sem] max2_int min2_int max_two min_two max_three min_three max_four min_four   -- for this text's walks alone
set_option linter.unusedVariables false
set_option linter.unusedSimpArgs false

/-! ### transhipmentlaw01_FrameParts: function 7 -/
mutual
def transhipmentlaw01_FrameParts.j0 : Nat → Int → Bool → Option (Bool)
  | 0, _, _ => none
  | k + 1, x2, x71 => if x71 = true then (some false) else ((frame_Number.f k x2).bind fun bt206 => (if bt206.2 = 0 then (transhipmentlaw01_FrameParts.l0 k bt206.1 1 (x2 / 128)) else (if bt206.1.toList = ([] : List UInt8) then (if x2 < 0 then (some true) else (some (decide (x2 ≥ 4611686018427387904)))) else (some false))))
def transhipmentlaw01_FrameParts.l0 : Nat → ByteArray → Int → Int → Option (Bool)
  | 0, _, _, _ => none
  | k + 1, x13, x15, x16 => if x16 > 0 then (transhipmentlaw01_FrameParts.l0 k x13 (wrap64 (x15 + 1)) (x16 / 128)) else (some ((x13.size : Int) == x15))
end
def transhipmentlaw01_FrameParts.f (k : Nat) (l0 : List ByteArray) (l1 : List ByteArray) (a2 : Int) : Option (Bool) := (transhipmentlaw01_few.f k l0).bind fun t179 => ((transhipmentlaw01_few.f k l1).bind fun t182 => ((frame_Bind.f k t179).bind fun bt185 => ((frame_Bind.f k t182).bind fun bt187 => ((some (([] : List ByteArray) : List ByteArray)).bind fun y189 => (if y189.length + t179.length < 8796093022208 then ((some (y189 ++ t179 : List ByteArray)).bind fun y192 => (if y192.length + t182.length < 8796093022208 then ((frame_Bind.f k (y192 ++ t182)).bind fun bt198 => (if bt185.2 = 0 then (if bt187.2 = 0 then (if bt198.2 = 0 then (if (wrap64 ((t179.length : Int) + (t182.length : Int))) ≤ 512 then (if bt185.1.size + bt187.1.size ≤ 9223372036854775807 then (if bt198.1.toList = (bt185.1 ++ bt187.1).toList then ((transhipmentlaw01_alive.f k).bind fun t200 => (transhipmentlaw01_FrameParts.j0 k a2 (!t200))) else (transhipmentlaw01_FrameParts.j0 k a2 true)) else (none)) else (transhipmentlaw01_FrameParts.j0 k a2 true)) else (if (wrap64 ((t179.length : Int) + (t182.length : Int))) ≤ 512 then (transhipmentlaw01_FrameParts.j0 k a2 true) else ((transhipmentlaw01_alive.f k).bind fun t201 => (transhipmentlaw01_FrameParts.j0 k a2 (!t201))))) else (if bt198.2 = 0 then (if bt185.1.size + bt187.1.size ≤ 9223372036854775807 then (if bt198.1.toList = (bt185.1 ++ bt187.1).toList then ((transhipmentlaw01_alive.f k).bind fun t202 => (transhipmentlaw01_FrameParts.j0 k a2 (!t202))) else (transhipmentlaw01_FrameParts.j0 k a2 true)) else (none)) else ((transhipmentlaw01_alive.f k).bind fun t203 => (transhipmentlaw01_FrameParts.j0 k a2 (!t203))))) else (if bt198.2 = 0 then (if bt185.1.size + bt187.1.size ≤ 9223372036854775807 then (if bt198.1.toList = (bt185.1 ++ bt187.1).toList then ((transhipmentlaw01_alive.f k).bind fun t204 => (transhipmentlaw01_FrameParts.j0 k a2 (!t204))) else (transhipmentlaw01_FrameParts.j0 k a2 true)) else (none)) else ((transhipmentlaw01_alive.f k).bind fun t205 => (transhipmentlaw01_FrameParts.j0 k a2 (!t205)))))) else (none))) else (none))))))
theorem transhipmentlaw01_FrameParts.mono_l : ∀ k, (∀ y0 y1, LeO (transhipmentlaw01_FrameParts.j0 k y0 y1) (transhipmentlaw01_FrameParts.j0 (k + 1) y0 y1)) ∧ (∀ y0 y1 y2, LeO (transhipmentlaw01_FrameParts.l0 k y0 y1 y2) (transhipmentlaw01_FrameParts.l0 (k + 1) y0 y1 y2))
  | 0 => ⟨fun _ _ r h => by simp [transhipmentlaw01_FrameParts.j0] at h, fun _ _ _ r h => by simp [transhipmentlaw01_FrameParts.l0] at h⟩
  | k + 1 => by
    obtain ⟨ih0, ih1⟩ := transhipmentlaw01_FrameParts.mono_l k
    refine ⟨?_, ?_⟩
    · intro y0 y1
      unfold transhipmentlaw01_FrameParts.j0
      repeat' first
      | (with_reducible exact ih0 _ _)
      | (with_reducible exact ih1 _ _ _)
      | (with_reducible exact frame_Bind.mono _ _)
      | (with_reducible exact frame_Number.mono _ _)
      | (with_reducible exact transhipmentlaw01_alive.mono _)
      | (with_reducible exact transhipmentlaw01_few.mono _ _)
      | (with_reducible exact LeO.refl _)
      | (with_reducible exact LeO.none _)
      | (with_reducible refine LeO.ite ?_ ?_)
      | (with_reducible refine LeO.bind ?_ (fun _ => ?_))
      | exact ih0 _ _
      | exact ih1 _ _ _
      | exact frame_Bind.mono _ _
      | exact frame_Number.mono _ _
      | exact transhipmentlaw01_alive.mono _
      | exact transhipmentlaw01_few.mono _ _
      | exact LeO.none _
      | refine LeO.ite ?_ ?_
      | refine LeO.bind ?_ (fun _ => ?_)
    · intro y0 y1 y2
      unfold transhipmentlaw01_FrameParts.l0
      repeat' first
      | (with_reducible exact ih0 _ _)
      | (with_reducible exact ih1 _ _ _)
      | (with_reducible exact frame_Bind.mono _ _)
      | (with_reducible exact frame_Number.mono _ _)
      | (with_reducible exact transhipmentlaw01_alive.mono _)
      | (with_reducible exact transhipmentlaw01_few.mono _ _)
      | (with_reducible exact LeO.refl _)
      | (with_reducible exact LeO.none _)
      | (with_reducible refine LeO.ite ?_ ?_)
      | (with_reducible refine LeO.bind ?_ (fun _ => ?_))
      | exact ih0 _ _
      | exact ih1 _ _ _
      | exact frame_Bind.mono _ _
      | exact frame_Number.mono _ _
      | exact transhipmentlaw01_alive.mono _
      | exact transhipmentlaw01_few.mono _ _
      | exact LeO.none _
      | refine LeO.ite ?_ ?_
      | refine LeO.bind ?_ (fun _ => ?_)
theorem transhipmentlaw01_FrameParts.mono : ∀ a0 a1 a2 k, LeO (transhipmentlaw01_FrameParts.f k a0 a1 a2) (transhipmentlaw01_FrameParts.f (k + 1) a0 a1 a2) := by
  intro a0 a1 a2 k
  obtain ⟨ih0, ih1⟩ := transhipmentlaw01_FrameParts.mono_l k
  unfold transhipmentlaw01_FrameParts.f
  repeat' first
      | (with_reducible exact ih0 _ _)
      | (with_reducible exact ih1 _ _ _)
      | (with_reducible exact frame_Bind.mono _ _)
      | (with_reducible exact frame_Number.mono _ _)
      | (with_reducible exact transhipmentlaw01_alive.mono _)
      | (with_reducible exact transhipmentlaw01_few.mono _ _)
      | (with_reducible exact LeO.refl _)
      | (with_reducible exact LeO.none _)
      | (with_reducible refine LeO.ite ?_ ?_)
      | (with_reducible refine LeO.bind ?_ (fun _ => ?_))
      | exact ih0 _ _
      | exact ih1 _ _ _
      | exact frame_Bind.mono _ _
      | exact frame_Number.mono _ _
      | exact transhipmentlaw01_alive.mono _
      | exact transhipmentlaw01_few.mono _ _
      | exact LeO.none _
      | refine LeO.ite ?_ ?_
      | refine LeO.bind ?_ (fun _ => ?_)
set_option maxHeartbeats 8000000 in
set_option maxRecDepth 100000 in
theorem transhipmentlaw01_FrameParts.calls (k : Nat) (A0 : Option Addr) (c0 : Nat) (l0 : List ByteArray) (A1 : Option Addr) (c1 : Nat) (l1 : List ByteArray) (a2 : Int) (r : Bool) (w : World) (hr0 : Kd.C Kd.string w A0 l0.length l0) (hc0 : l0.length ≤ c0) (hr1 : Kd.C Kd.string w A1 l1.length l1) (hc1 : l1.length ≤ c1) (h : transhipmentlaw01_FrameParts.f k l0 l1 a2 = some r) :
    Calls Try.prog 7 #[.slice A0 l0.length c0, .slice A1 l1.length c1, .int .i64 a2] w fun e w' => e = .returned (.bool r) ∧ Below w.heap.size w w' := by
  have HR0 := Aside0.mk hr0
  have HC0 := Aside0.mk hc0
  clear hr0 hc0
  have HR1 := Aside0.mk hr1
  have HC1 := Aside0.mk hc1
  clear hr1 hc1
  have HB := Aside0.mk (Below.refl w.heap.size w)
  have H : ((transhipmentlaw01_few.f k l0).bind fun t179 => ((transhipmentlaw01_few.f k l1).bind fun t182 => ((frame_Bind.f k t179).bind fun bt185 => ((frame_Bind.f k t182).bind fun bt187 => ((some (([] : List ByteArray) : List ByteArray)).bind fun y189 => (if y189.length + t179.length < 8796093022208 then ((some (y189 ++ t179 : List ByteArray)).bind fun y192 => (if y192.length + t182.length < 8796093022208 then ((frame_Bind.f k (y192 ++ t182)).bind fun bt198 => (if bt185.2 = 0 then (if bt187.2 = 0 then (if bt198.2 = 0 then (if (wrap64 ((t179.length : Int) + (t182.length : Int))) ≤ 512 then (if bt185.1.size + bt187.1.size ≤ 9223372036854775807 then (if bt198.1.toList = (bt185.1 ++ bt187.1).toList then ((transhipmentlaw01_alive.f k).bind fun t200 => (transhipmentlaw01_FrameParts.j0 k a2 (!t200))) else (transhipmentlaw01_FrameParts.j0 k a2 true)) else (none)) else (transhipmentlaw01_FrameParts.j0 k a2 true)) else (if (wrap64 ((t179.length : Int) + (t182.length : Int))) ≤ 512 then (transhipmentlaw01_FrameParts.j0 k a2 true) else ((transhipmentlaw01_alive.f k).bind fun t201 => (transhipmentlaw01_FrameParts.j0 k a2 (!t201))))) else (if bt198.2 = 0 then (if bt185.1.size + bt187.1.size ≤ 9223372036854775807 then (if bt198.1.toList = (bt185.1 ++ bt187.1).toList then ((transhipmentlaw01_alive.f k).bind fun t202 => (transhipmentlaw01_FrameParts.j0 k a2 (!t202))) else (transhipmentlaw01_FrameParts.j0 k a2 true)) else (none)) else ((transhipmentlaw01_alive.f k).bind fun t203 => (transhipmentlaw01_FrameParts.j0 k a2 (!t203))))) else (if bt198.2 = 0 then (if bt185.1.size + bt187.1.size ≤ 9223372036854775807 then (if bt198.1.toList = (bt185.1 ++ bt187.1).toList then ((transhipmentlaw01_alive.f k).bind fun t204 => (transhipmentlaw01_FrameParts.j0 k a2 (!t204))) else (transhipmentlaw01_FrameParts.j0 k a2 true)) else (none)) else ((transhipmentlaw01_alive.f k).bind fun t205 => (transhipmentlaw01_FrameParts.j0 k a2 (!t205)))))) else (none))) else (none))))))) = some r := h
  clear h
  replace H := Option.bind_eq_some_iff.mp H
  obtain ⟨t179, A40, H⟩ := H
  replace H : ((transhipmentlaw01_few.f k l1).bind fun t182 => ((frame_Bind.f k t179).bind fun bt185 => ((frame_Bind.f k t182).bind fun bt187 => ((some (([] : List ByteArray) : List ByteArray)).bind fun y189 => (if y189.length + t179.length < 8796093022208 then ((some (y189 ++ t179 : List ByteArray)).bind fun y192 => (if y192.length + t182.length < 8796093022208 then ((frame_Bind.f k (y192 ++ t182)).bind fun bt198 => (if bt185.2 = 0 then (if bt187.2 = 0 then (if bt198.2 = 0 then (if (wrap64 ((t179.length : Int) + (t182.length : Int))) ≤ 512 then (if bt185.1.size + bt187.1.size ≤ 9223372036854775807 then (if bt198.1.toList = (bt185.1 ++ bt187.1).toList then ((transhipmentlaw01_alive.f k).bind fun t200 => (transhipmentlaw01_FrameParts.j0 k a2 (!t200))) else (transhipmentlaw01_FrameParts.j0 k a2 true)) else (none)) else (transhipmentlaw01_FrameParts.j0 k a2 true)) else (if (wrap64 ((t179.length : Int) + (t182.length : Int))) ≤ 512 then (transhipmentlaw01_FrameParts.j0 k a2 true) else ((transhipmentlaw01_alive.f k).bind fun t201 => (transhipmentlaw01_FrameParts.j0 k a2 (!t201))))) else (if bt198.2 = 0 then (if bt185.1.size + bt187.1.size ≤ 9223372036854775807 then (if bt198.1.toList = (bt185.1 ++ bt187.1).toList then ((transhipmentlaw01_alive.f k).bind fun t202 => (transhipmentlaw01_FrameParts.j0 k a2 (!t202))) else (transhipmentlaw01_FrameParts.j0 k a2 true)) else (none)) else ((transhipmentlaw01_alive.f k).bind fun t203 => (transhipmentlaw01_FrameParts.j0 k a2 (!t203))))) else (if bt198.2 = 0 then (if bt185.1.size + bt187.1.size ≤ 9223372036854775807 then (if bt198.1.toList = (bt185.1 ++ bt187.1).toList then ((transhipmentlaw01_alive.f k).bind fun t204 => (transhipmentlaw01_FrameParts.j0 k a2 (!t204))) else (transhipmentlaw01_FrameParts.j0 k a2 true)) else (none)) else ((transhipmentlaw01_alive.f k).bind fun t205 => (transhipmentlaw01_FrameParts.j0 k a2 (!t205)))))) else (none))) else (none)))))) = some r := H
  have A4 := Aside0.mk A40
  clear A40
  replace H := Option.bind_eq_some_iff.mp H
  obtain ⟨t182, A50, H⟩ := H
  replace H : ((frame_Bind.f k t179).bind fun bt185 => ((frame_Bind.f k t182).bind fun bt187 => ((some (([] : List ByteArray) : List ByteArray)).bind fun y189 => (if y189.length + t179.length < 8796093022208 then ((some (y189 ++ t179 : List ByteArray)).bind fun y192 => (if y192.length + t182.length < 8796093022208 then ((frame_Bind.f k (y192 ++ t182)).bind fun bt198 => (if bt185.2 = 0 then (if bt187.2 = 0 then (if bt198.2 = 0 then (if (wrap64 ((t179.length : Int) + (t182.length : Int))) ≤ 512 then (if bt185.1.size + bt187.1.size ≤ 9223372036854775807 then (if bt198.1.toList = (bt185.1 ++ bt187.1).toList then ((transhipmentlaw01_alive.f k).bind fun t200 => (transhipmentlaw01_FrameParts.j0 k a2 (!t200))) else (transhipmentlaw01_FrameParts.j0 k a2 true)) else (none)) else (transhipmentlaw01_FrameParts.j0 k a2 true)) else (if (wrap64 ((t179.length : Int) + (t182.length : Int))) ≤ 512 then (transhipmentlaw01_FrameParts.j0 k a2 true) else ((transhipmentlaw01_alive.f k).bind fun t201 => (transhipmentlaw01_FrameParts.j0 k a2 (!t201))))) else (if bt198.2 = 0 then (if bt185.1.size + bt187.1.size ≤ 9223372036854775807 then (if bt198.1.toList = (bt185.1 ++ bt187.1).toList then ((transhipmentlaw01_alive.f k).bind fun t202 => (transhipmentlaw01_FrameParts.j0 k a2 (!t202))) else (transhipmentlaw01_FrameParts.j0 k a2 true)) else (none)) else ((transhipmentlaw01_alive.f k).bind fun t203 => (transhipmentlaw01_FrameParts.j0 k a2 (!t203))))) else (if bt198.2 = 0 then (if bt185.1.size + bt187.1.size ≤ 9223372036854775807 then (if bt198.1.toList = (bt185.1 ++ bt187.1).toList then ((transhipmentlaw01_alive.f k).bind fun t204 => (transhipmentlaw01_FrameParts.j0 k a2 (!t204))) else (transhipmentlaw01_FrameParts.j0 k a2 true)) else (none)) else ((transhipmentlaw01_alive.f k).bind fun t205 => (transhipmentlaw01_FrameParts.j0 k a2 (!t205)))))) else (none))) else (none))))) = some r := H
  have A5 := Aside0.mk A50
  clear A50
  replace H := Option.bind_eq_some_iff.mp H
  obtain ⟨⟨t185, t186⟩, A60, H⟩ := H
  replace H : ((frame_Bind.f k t182).bind fun bt187 => ((some (([] : List ByteArray) : List ByteArray)).bind fun y189 => (if y189.length + t179.length < 8796093022208 then ((some (y189 ++ t179 : List ByteArray)).bind fun y192 => (if y192.length + t182.length < 8796093022208 then ((frame_Bind.f k (y192 ++ t182)).bind fun bt198 => (if t186 = 0 then (if bt187.2 = 0 then (if bt198.2 = 0 then (if (wrap64 ((t179.length : Int) + (t182.length : Int))) ≤ 512 then (if t185.size + bt187.1.size ≤ 9223372036854775807 then (if bt198.1.toList = (t185 ++ bt187.1).toList then ((transhipmentlaw01_alive.f k).bind fun t200 => (transhipmentlaw01_FrameParts.j0 k a2 (!t200))) else (transhipmentlaw01_FrameParts.j0 k a2 true)) else (none)) else (transhipmentlaw01_FrameParts.j0 k a2 true)) else (if (wrap64 ((t179.length : Int) + (t182.length : Int))) ≤ 512 then (transhipmentlaw01_FrameParts.j0 k a2 true) else ((transhipmentlaw01_alive.f k).bind fun t201 => (transhipmentlaw01_FrameParts.j0 k a2 (!t201))))) else (if bt198.2 = 0 then (if t185.size + bt187.1.size ≤ 9223372036854775807 then (if bt198.1.toList = (t185 ++ bt187.1).toList then ((transhipmentlaw01_alive.f k).bind fun t202 => (transhipmentlaw01_FrameParts.j0 k a2 (!t202))) else (transhipmentlaw01_FrameParts.j0 k a2 true)) else (none)) else ((transhipmentlaw01_alive.f k).bind fun t203 => (transhipmentlaw01_FrameParts.j0 k a2 (!t203))))) else (if bt198.2 = 0 then (if t185.size + bt187.1.size ≤ 9223372036854775807 then (if bt198.1.toList = (t185 ++ bt187.1).toList then ((transhipmentlaw01_alive.f k).bind fun t204 => (transhipmentlaw01_FrameParts.j0 k a2 (!t204))) else (transhipmentlaw01_FrameParts.j0 k a2 true)) else (none)) else ((transhipmentlaw01_alive.f k).bind fun t205 => (transhipmentlaw01_FrameParts.j0 k a2 (!t205)))))) else (none))) else (none)))) = some r := H
  have A6 := Aside0.mk A60
  clear A60
  replace H := Option.bind_eq_some_iff.mp H
  obtain ⟨⟨t187, t188⟩, A70, H⟩ := H
  replace H : ((some (([] : List ByteArray) : List ByteArray)).bind fun y189 => (if y189.length + t179.length < 8796093022208 then ((some (y189 ++ t179 : List ByteArray)).bind fun y192 => (if y192.length + t182.length < 8796093022208 then ((frame_Bind.f k (y192 ++ t182)).bind fun bt198 => (if t186 = 0 then (if t188 = 0 then (if bt198.2 = 0 then (if (wrap64 ((t179.length : Int) + (t182.length : Int))) ≤ 512 then (if t185.size + t187.size ≤ 9223372036854775807 then (if bt198.1.toList = (t185 ++ t187).toList then ((transhipmentlaw01_alive.f k).bind fun t200 => (transhipmentlaw01_FrameParts.j0 k a2 (!t200))) else (transhipmentlaw01_FrameParts.j0 k a2 true)) else (none)) else (transhipmentlaw01_FrameParts.j0 k a2 true)) else (if (wrap64 ((t179.length : Int) + (t182.length : Int))) ≤ 512 then (transhipmentlaw01_FrameParts.j0 k a2 true) else ((transhipmentlaw01_alive.f k).bind fun t201 => (transhipmentlaw01_FrameParts.j0 k a2 (!t201))))) else (if bt198.2 = 0 then (if t185.size + t187.size ≤ 9223372036854775807 then (if bt198.1.toList = (t185 ++ t187).toList then ((transhipmentlaw01_alive.f k).bind fun t202 => (transhipmentlaw01_FrameParts.j0 k a2 (!t202))) else (transhipmentlaw01_FrameParts.j0 k a2 true)) else (none)) else ((transhipmentlaw01_alive.f k).bind fun t203 => (transhipmentlaw01_FrameParts.j0 k a2 (!t203))))) else (if bt198.2 = 0 then (if t185.size + t187.size ≤ 9223372036854775807 then (if bt198.1.toList = (t185 ++ t187).toList then ((transhipmentlaw01_alive.f k).bind fun t204 => (transhipmentlaw01_FrameParts.j0 k a2 (!t204))) else (transhipmentlaw01_FrameParts.j0 k a2 true)) else (none)) else ((transhipmentlaw01_alive.f k).bind fun t205 => (transhipmentlaw01_FrameParts.j0 k a2 (!t205)))))) else (none))) else (none))) = some r := H
  have A7 := Aside0.mk A70
  clear A70
  obtain ⟨y189, hy189⟩ : ∃ y_ : List ByteArray, y_ = (([] : List ByteArray)) := ⟨_, rfl⟩
  replace H : (if y189.length + t179.length < 8796093022208 then ((some (y189 ++ t179 : List ByteArray)).bind fun y192 => (if y192.length + t182.length < 8796093022208 then ((frame_Bind.f k (y192 ++ t182)).bind fun bt198 => (if t186 = 0 then (if t188 = 0 then (if bt198.2 = 0 then (if (wrap64 ((t179.length : Int) + (t182.length : Int))) ≤ 512 then (if t185.size + t187.size ≤ 9223372036854775807 then (if bt198.1.toList = (t185 ++ t187).toList then ((transhipmentlaw01_alive.f k).bind fun t200 => (transhipmentlaw01_FrameParts.j0 k a2 (!t200))) else (transhipmentlaw01_FrameParts.j0 k a2 true)) else (none)) else (transhipmentlaw01_FrameParts.j0 k a2 true)) else (if (wrap64 ((t179.length : Int) + (t182.length : Int))) ≤ 512 then (transhipmentlaw01_FrameParts.j0 k a2 true) else ((transhipmentlaw01_alive.f k).bind fun t201 => (transhipmentlaw01_FrameParts.j0 k a2 (!t201))))) else (if bt198.2 = 0 then (if t185.size + t187.size ≤ 9223372036854775807 then (if bt198.1.toList = (t185 ++ t187).toList then ((transhipmentlaw01_alive.f k).bind fun t202 => (transhipmentlaw01_FrameParts.j0 k a2 (!t202))) else (transhipmentlaw01_FrameParts.j0 k a2 true)) else (none)) else ((transhipmentlaw01_alive.f k).bind fun t203 => (transhipmentlaw01_FrameParts.j0 k a2 (!t203))))) else (if bt198.2 = 0 then (if t185.size + t187.size ≤ 9223372036854775807 then (if bt198.1.toList = (t185 ++ t187).toList then ((transhipmentlaw01_alive.f k).bind fun t204 => (transhipmentlaw01_FrameParts.j0 k a2 (!t204))) else (transhipmentlaw01_FrameParts.j0 k a2 true)) else (none)) else ((transhipmentlaw01_alive.f k).bind fun t205 => (transhipmentlaw01_FrameParts.j0 k a2 (!t205)))))) else (none))) else (none)) = some r := by first | (rw [hy189]; with_reducible exact H) | (have H2_ := (Option.bind_some _ _).symm.trans H; rw [hy189]; with_reducible exact H2_) | (have H2_ := (Option.bind_some _ _).symm.trans H; with_reducible exact H2_) | with_reducible exact H | (rw [hy189]; exact H) | exact H
  have Ny189 := Aside0.mk hy189
  clear hy189
  by_cases c8 : y189.length + t179.length < 8796093022208
  · rw [if_pos c8] at H
    have LMc8 := Aside0.mk c8
    clear c8
    obtain ⟨y192, hy192⟩ : ∃ y_ : List ByteArray, y_ = (y189 ++ t179) := ⟨_, rfl⟩
    replace H : (if y192.length + t182.length < 8796093022208 then ((frame_Bind.f k (y192 ++ t182)).bind fun bt198 => (if t186 = 0 then (if t188 = 0 then (if bt198.2 = 0 then (if (wrap64 ((t179.length : Int) + (t182.length : Int))) ≤ 512 then (if t185.size + t187.size ≤ 9223372036854775807 then (if bt198.1.toList = (t185 ++ t187).toList then ((transhipmentlaw01_alive.f k).bind fun t200 => (transhipmentlaw01_FrameParts.j0 k a2 (!t200))) else (transhipmentlaw01_FrameParts.j0 k a2 true)) else (none)) else (transhipmentlaw01_FrameParts.j0 k a2 true)) else (if (wrap64 ((t179.length : Int) + (t182.length : Int))) ≤ 512 then (transhipmentlaw01_FrameParts.j0 k a2 true) else ((transhipmentlaw01_alive.f k).bind fun t201 => (transhipmentlaw01_FrameParts.j0 k a2 (!t201))))) else (if bt198.2 = 0 then (if t185.size + t187.size ≤ 9223372036854775807 then (if bt198.1.toList = (t185 ++ t187).toList then ((transhipmentlaw01_alive.f k).bind fun t202 => (transhipmentlaw01_FrameParts.j0 k a2 (!t202))) else (transhipmentlaw01_FrameParts.j0 k a2 true)) else (none)) else ((transhipmentlaw01_alive.f k).bind fun t203 => (transhipmentlaw01_FrameParts.j0 k a2 (!t203))))) else (if bt198.2 = 0 then (if t185.size + t187.size ≤ 9223372036854775807 then (if bt198.1.toList = (t185 ++ t187).toList then ((transhipmentlaw01_alive.f k).bind fun t204 => (transhipmentlaw01_FrameParts.j0 k a2 (!t204))) else (transhipmentlaw01_FrameParts.j0 k a2 true)) else (none)) else ((transhipmentlaw01_alive.f k).bind fun t205 => (transhipmentlaw01_FrameParts.j0 k a2 (!t205)))))) else (none)) = some r := by first | (rw [hy192]; with_reducible exact H) | (have H2_ := (Option.bind_some _ _).symm.trans H; rw [hy192]; with_reducible exact H2_) | (have H2_ := (Option.bind_some _ _).symm.trans H; with_reducible exact H2_) | with_reducible exact H | (rw [hy192]; exact H) | exact H
    have Ny192 := Aside0.mk hy192
    clear hy192
    by_cases c9 : y192.length + t182.length < 8796093022208
    · rw [if_pos c9] at H
      have LMc9 := Aside0.mk c9
      clear c9
      obtain ⟨y195, hy195⟩ : ∃ y_ : List ByteArray, y_ = (y192 ++ t182) := ⟨_, rfl⟩
      replace H : ((frame_Bind.f k y195).bind fun bt198 => (if t186 = 0 then (if t188 = 0 then (if bt198.2 = 0 then (if (wrap64 ((t179.length : Int) + (t182.length : Int))) ≤ 512 then (if t185.size + t187.size ≤ 9223372036854775807 then (if bt198.1.toList = (t185 ++ t187).toList then ((transhipmentlaw01_alive.f k).bind fun t200 => (transhipmentlaw01_FrameParts.j0 k a2 (!t200))) else (transhipmentlaw01_FrameParts.j0 k a2 true)) else (none)) else (transhipmentlaw01_FrameParts.j0 k a2 true)) else (if (wrap64 ((t179.length : Int) + (t182.length : Int))) ≤ 512 then (transhipmentlaw01_FrameParts.j0 k a2 true) else ((transhipmentlaw01_alive.f k).bind fun t201 => (transhipmentlaw01_FrameParts.j0 k a2 (!t201))))) else (if bt198.2 = 0 then (if t185.size + t187.size ≤ 9223372036854775807 then (if bt198.1.toList = (t185 ++ t187).toList then ((transhipmentlaw01_alive.f k).bind fun t202 => (transhipmentlaw01_FrameParts.j0 k a2 (!t202))) else (transhipmentlaw01_FrameParts.j0 k a2 true)) else (none)) else ((transhipmentlaw01_alive.f k).bind fun t203 => (transhipmentlaw01_FrameParts.j0 k a2 (!t203))))) else (if bt198.2 = 0 then (if t185.size + t187.size ≤ 9223372036854775807 then (if bt198.1.toList = (t185 ++ t187).toList then ((transhipmentlaw01_alive.f k).bind fun t204 => (transhipmentlaw01_FrameParts.j0 k a2 (!t204))) else (transhipmentlaw01_FrameParts.j0 k a2 true)) else (none)) else ((transhipmentlaw01_alive.f k).bind fun t205 => (transhipmentlaw01_FrameParts.j0 k a2 (!t205)))))) = some r := by first | (rw [hy195]; with_reducible exact H) | (have H2_ := (Option.bind_some _ _).symm.trans H; rw [hy195]; with_reducible exact H2_) | (have H2_ := (Option.bind_some _ _).symm.trans H; with_reducible exact H2_) | with_reducible exact H | (rw [hy195]; exact H) | exact H
      have Ny195 := Aside0.mk hy195
      clear hy195
      replace H := Option.bind_eq_some_iff.mp H
      obtain ⟨⟨t198, t199⟩, A100, H⟩ := H
      replace H : (if t186 = 0 then (if t188 = 0 then (if t199 = 0 then (if (wrap64 ((t179.length : Int) + (t182.length : Int))) ≤ 512 then (if t185.size + t187.size ≤ 9223372036854775807 then (if t198.toList = (t185 ++ t187).toList then ((transhipmentlaw01_alive.f k).bind fun t200 => (transhipmentlaw01_FrameParts.j0 k a2 (!t200))) else (transhipmentlaw01_FrameParts.j0 k a2 true)) else (none)) else (transhipmentlaw01_FrameParts.j0 k a2 true)) else (if (wrap64 ((t179.length : Int) + (t182.length : Int))) ≤ 512 then (transhipmentlaw01_FrameParts.j0 k a2 true) else ((transhipmentlaw01_alive.f k).bind fun t201 => (transhipmentlaw01_FrameParts.j0 k a2 (!t201))))) else (if t199 = 0 then (if t185.size + t187.size ≤ 9223372036854775807 then (if t198.toList = (t185 ++ t187).toList then ((transhipmentlaw01_alive.f k).bind fun t202 => (transhipmentlaw01_FrameParts.j0 k a2 (!t202))) else (transhipmentlaw01_FrameParts.j0 k a2 true)) else (none)) else ((transhipmentlaw01_alive.f k).bind fun t203 => (transhipmentlaw01_FrameParts.j0 k a2 (!t203))))) else (if t199 = 0 then (if t185.size + t187.size ≤ 9223372036854775807 then (if t198.toList = (t185 ++ t187).toList then ((transhipmentlaw01_alive.f k).bind fun t204 => (transhipmentlaw01_FrameParts.j0 k a2 (!t204))) else (transhipmentlaw01_FrameParts.j0 k a2 true)) else (none)) else ((transhipmentlaw01_alive.f k).bind fun t205 => (transhipmentlaw01_FrameParts.j0 k a2 (!t205))))) = some r := H
      have A10 := Aside0.mk A100
      clear A100
      have HC11 := Aside0.mk H
      clear H
      go_enter Try.func7, Try.ntmps7
      go_upto_region 5 with (first | ((with_reducible refine gate_callee (f := 18) rfl ?_); refine goesL_ (some 18) rfl rfl Try.func18 (by kernel_rfl) rfl #[.slice A0 l0.length c0] rfl (by (try simp only [List.map_toArray, List.map_cons, List.map_nil]); first | done | rfl | (simp only [List.length_drop, List.length_take]; rfl)) ?_; (with_reducible refine (transhipmentlaw01_few.calls k _ _ l0 t179 _ ?side1 ?side2 A4.out).mono ?_); (case side1 => repeat (first | exact HR0.out | (with_reducible refine Kd.C_alloc ?_ _) | (with_reducible refine Kd.C_drewN ?_ _) | (with_reducible refine Kd.C_drew ?_))); (case side2 => exact HC0.out); rintro e w12 ⟨v180, rfl, ho0, hb⟩; refine ⟨_, rfl, ?_⟩; have n0_ := Aside0.mk (Kd.R_lower ho0 (below_size (by repeat (first | (with_reducible first | exact HB.out | apply below_alloc | apply pw_below_drewN | apply below_drew1) | exact HB.out)))); have n1_ := Aside0.mk (below_step (by repeat (first | (with_reducible first | exact HB.out | apply below_alloc | apply pw_below_drewN | apply below_drew1) | exact HB.out)) hb); clear HB; have HO181 := n0_; have HB := n1_; clear n0_ n1_; (try clear hb); (try clear hb2); (try clear hk); (try clear hi); (try clear ho0)) | ((with_reducible refine gate_callee (f := 18) rfl ?_); refine goesL_ (some 20) rfl rfl Try.func18 (by kernel_rfl) rfl #[.slice A1 l1.length c1] rfl (by (try simp only [List.map_toArray, List.map_cons, List.map_nil]); first | done | rfl | (simp only [List.length_drop, List.length_take]; rfl)) ?_; (with_reducible refine (transhipmentlaw01_few.calls k _ _ l1 t182 _ ?side1 ?side2 A5.out).mono ?_); (case side1 => repeat (first | exact (Kd.C_below HR1.out HB.out) | (with_reducible refine Kd.C_alloc ?_ _) | (with_reducible refine Kd.C_drewN ?_ _) | (with_reducible refine Kd.C_drew ?_))); (case side2 => exact HC1.out); rintro e w13 ⟨v183, rfl, ho0, hb⟩; refine ⟨_, rfl, ?_⟩; have n0_ := Aside0.mk (Kd.R_elder' (by (with_reducible repeat (first | apply Kd.R_alloc | apply Kd.R_drewN | apply Kd.R_drew)); exact HO181.out) (Kd.R_base ho0) hb); have n1_ := Aside0.mk (Kd.R_lower (Kd.R_new' ho0 (Kd.R_lt (by (with_reducible repeat (first | apply Kd.R_alloc | apply Kd.R_drewN | apply Kd.R_drew)); exact HO181.out))) (below_size (by repeat (first | (with_reducible first | exact HB.out | apply below_alloc | apply pw_below_drewN | apply below_drew1) | exact HB.out)))); have n2_ := Aside0.mk (below_step (by repeat (first | (with_reducible first | exact HB.out | apply below_alloc | apply pw_below_drewN | apply below_drew1) | exact HB.out)) hb); clear HO181; clear HB; have HO181 := n0_; have HO184 := n1_; have HB := n2_; clear n0_ n1_ n2_; (try clear hb); (try clear hb2); (try clear hk); (try clear hi); (try clear ho0); obtain ⟨Ao14, co14, eo14⟩ := Kd.R_slice HO181.out; subst eo14) | ((with_reducible refine gate_callee (f := 19) rfl ?_); refine goesL_ (some 23) rfl rfl Try.func19 (by kernel_rfl) rfl #[.slice Ao14 t179.length co14] rfl (by (try simp only [List.map_toArray, List.map_cons, List.map_nil]); first | done | rfl | (simp only [List.length_drop, List.length_take]; rfl)) ?_; (with_reducible refine (frame_Bind.calls k _ _ t179 t185 t186 _ ?side1 ?side2 A6.out).mono ?_); (case side1 => repeat (first | exact (Kd.R_reads' HO181.out).2.2 | (with_reducible refine Kd.C_alloc ?_ _) | (with_reducible refine Kd.C_drewN ?_ _) | (with_reducible refine Kd.C_drew ?_))); (case side2 => exact (Kd.R_reads' HO181.out).2.1); rintro e w15 ⟨rfl, hb⟩; refine ⟨_, rfl, ?_⟩; have n0_ := Aside0.mk (Kd.R_below (by (with_reducible repeat (first | apply Kd.R_alloc | apply Kd.R_drewN | apply Kd.R_drew)); exact HO181.out) hb); have n1_ := Aside0.mk (Kd.R_below (by (with_reducible repeat (first | apply Kd.R_alloc | apply Kd.R_drewN | apply Kd.R_drew)); exact HO184.out) hb); have n2_ := Aside0.mk (below_step (by repeat (first | (with_reducible first | exact HB.out | apply below_alloc | apply pw_below_drewN | apply below_drew1) | exact HB.out)) hb); clear HO181; clear HO184; clear HB; have HO181 := n0_; have HO184 := n1_; have HB := n2_; clear n0_ n1_ n2_; (try clear hb); (try clear hb2); (try clear hk); (try clear hi); obtain ⟨Ao16, co16, eo16⟩ := Kd.R_slice HO184.out; subst eo16) | ((with_reducible refine gate_callee (f := 19) rfl ?_); refine goesL_ (some 28) rfl rfl Try.func19 (by kernel_rfl) rfl #[.slice Ao16 t182.length co16] rfl (by (try simp only [List.map_toArray, List.map_cons, List.map_nil]); first | done | rfl | (simp only [List.length_drop, List.length_take]; rfl)) ?_; (with_reducible refine (frame_Bind.calls k _ _ t182 t187 t188 _ ?side1 ?side2 A7.out).mono ?_); (case side1 => repeat (first | exact (Kd.R_reads' HO184.out).2.2 | (with_reducible refine Kd.C_alloc ?_ _) | (with_reducible refine Kd.C_drewN ?_ _) | (with_reducible refine Kd.C_drew ?_))); (case side2 => exact (Kd.R_reads' HO184.out).2.1); rintro e w17 ⟨rfl, hb⟩; refine ⟨_, rfl, ?_⟩; have n0_ := Aside0.mk (Kd.R_below (by (with_reducible repeat (first | apply Kd.R_alloc | apply Kd.R_drewN | apply Kd.R_drew)); exact HO181.out) hb); have n1_ := Aside0.mk (Kd.R_below (by (with_reducible repeat (first | apply Kd.R_alloc | apply Kd.R_drewN | apply Kd.R_drew)); exact HO184.out) hb); have n2_ := Aside0.mk (below_step (by repeat (first | (with_reducible first | exact HB.out | apply below_alloc | apply pw_below_drewN | apply below_drew1) | exact HB.out)) hb); clear HO181; clear HO184; clear HB; have HO181 := n0_; have HO184 := n1_; have HB := n2_; clear n0_ n1_ n2_; (try clear hb); (try clear hb2); (try clear hk); (try clear hi)) | ((with_reducible refine gate_dst (N := 32) rfl ?_); (try (refine gate_guard (by rfl) ?_; dsimp only)); refine Kd.R_lit Kd.string _ 9 ?hg (N := 32) ?hd (xs := ([] : List ByteArray)) (inner := []) (ok := fun _ => True) (okp := fun _ => True) ?hr ?hp (fun _ hk => hk) trivial (Below.refl _ _) (Nat.le_refl _) (by simp) ?_; (case hd => rfl); (case hg => rfl); (case hr => first | (go_simp; done) | (go_simp; rfl)); (case hp => exact (Reps.none _ _)); intro v190 w18 ho19 hb hg_ hnew_; clear hg_ hnew_; (first | rw [← Ny189.out] at ho19 | (simp only [Int.reduceToNat] at ho19; rw [← Ny189.out] at ho19)); have n0_ := Aside0.mk (Kd.R_elder' (by (with_reducible repeat (first | apply Kd.R_alloc | apply Kd.R_drewN | apply Kd.R_drew)); exact HO181.out) (Kd.R_base ho19) hb); have n1_ := Aside0.mk (Kd.R_elder' (by (with_reducible repeat (first | apply Kd.R_alloc | apply Kd.R_drewN | apply Kd.R_drew)); exact HO184.out) (Kd.R_base ho19) hb); have n2_ := Aside0.mk (Kd.R_lower (Kd.R_new' (Kd.R_new' ho19 (Kd.R_lt (by (with_reducible repeat (first | apply Kd.R_alloc | apply Kd.R_drewN | apply Kd.R_drew)); exact HO181.out))) (Kd.R_lt (by (with_reducible repeat (first | apply Kd.R_alloc | apply Kd.R_drewN | apply Kd.R_drew)); exact HO184.out))) (below_size (by repeat (first | (with_reducible first | exact HB.out | apply below_alloc | apply pw_below_drewN | apply below_drew1) | exact HB.out)))); have n3_ := Aside0.mk (below_step (by repeat (first | (with_reducible first | exact HB.out | apply below_alloc | apply pw_below_drewN | apply below_drew1) | exact HB.out)) hb); clear HO181; clear HO184; clear HB; have HO181 := n0_; have HO184 := n1_; have HO191 := n2_; have HB := n3_; clear n0_ n1_ n2_ n3_; clear hb ho19) | ((with_reducible refine gate_builtin (b := .append) (xs := #[.tmp 32, .tmp 33]) rfl ?_); (try (refine gate_guard (by rfl) ?_; dsimp only)); at_builtin; refine Kd.R_append_rows Kd.string (w0 := w) w.heap.size rfl (.tmp 32) (.tmp 33) 40 9 (.string ⟨#[]⟩) 16 rfl Try.underlying40 info9 rfl (by decide) (by omega) v190 y189 t179 _ _ _ (fun k_ => some k_ ≠ (.slice Ao14 t179.length co14 : Value).ownBlock ∧ some k_ ≠ (.slice Ao16 t182.length co16 : Value).ownBlock) (fun _ => False) rfl rfl ?aO ?aR (fun _ _ h => h) (fun _ h => h.elim) ?aF ?aB ?aS ?aL ?_; (case aR => repeat (first | exact (Kd.R_reads' HO181.out).2.2 | (with_reducible refine Kd.C_alloc ?_ _) | (with_reducible refine Kd.C_drewN ?_ _) | (with_reducible refine Kd.C_drew ?_))); (case aB => exact (by repeat (first | (with_reducible first | exact HB.out | apply below_alloc | apply pw_below_drewN | apply below_drew1) | exact HB.out))); (case aF => exact (fun k_ hk => ⟨Kd.fresh' (Kd.R_lt (by (with_reducible repeat (first | apply Kd.R_alloc | apply Kd.R_drewN | apply Kd.R_drew)); exact HO181.out)) k_ hk, Kd.fresh' (Kd.R_lt (by (with_reducible repeat (first | apply Kd.R_alloc | apply Kd.R_drewN | apply Kd.R_drew)); exact HO184.out)) k_ hk⟩)); (case aO => exact (by (with_reducible repeat (first | apply Kd.R_alloc | apply Kd.R_drewN | apply Kd.R_drew)); exact Kd.R_mono HO191.out (fun _ hk => ⟨hk.1.2, hk.2⟩))); (case aS => exact (below_size (by repeat (first | (with_reducible first | exact HB.out | apply below_alloc | apply pw_below_drewN | apply below_drew1) | exact HB.out)))); (case aL => have := LMc8.out; omega); intro v193 w20 ho hb hg hat; rw [← Ny192.out] at ho; have n0_ := Aside0.mk (Kd.R_after (ok := (fun k_ => some k_ ≠ (.slice Ao16 t182.length co16 : Value).ownBlock)) (by (with_reducible repeat (first | apply Kd.R_alloc | apply Kd.R_drewN | apply Kd.R_drew)); exact Kd.R_mono HO181.out (fun _ hk => ⟨hk.1.2, hk.2⟩)) hg hat); have n1_ := Aside0.mk (Kd.R_after (ok := (fun k_ => some k_ ≠ (.slice Ao14 t179.length co14 : Value).ownBlock)) (by (with_reducible repeat (first | apply Kd.R_alloc | apply Kd.R_drewN | apply Kd.R_drew)); exact Kd.R_mono HO184.out (fun _ hk => ⟨hk.1.2, hk.2⟩)) hg hat); have n2_ := Aside0.mk (hb); have n3_ := Aside0.mk (ho); clear HO181; clear HO184; clear HB; clear HO191; have HO181 := n0_; have HO184 := n1_; have HB := n2_; have HO194 := n3_; clear n0_ n1_ n2_ n3_; clear ho hb hg hat) | ((with_reducible refine gate_builtin (b := .append) (xs := #[.tmp 34, .tmp 35]) rfl ?_); (try (refine gate_guard (by rfl) ?_; dsimp only)); at_builtin; refine Kd.R_append_rows Kd.string (w0 := w) w.heap.size rfl (.tmp 34) (.tmp 35) 40 9 (.string ⟨#[]⟩) 16 rfl Try.underlying40 info9 rfl (by decide) (by omega) v193 y192 t182 _ _ _ (fun k_ => some k_ ≠ (.slice Ao14 t179.length co14 : Value).ownBlock ∧ some k_ ≠ (.slice Ao16 t182.length co16 : Value).ownBlock) (fun _ => False) rfl rfl ?aO ?aR (fun _ _ h => h) (fun _ h => h.elim) ?aF ?aB ?aS ?aL ?_; (case aR => repeat (first | exact (Kd.R_reads' HO184.out).2.2 | (with_reducible refine Kd.C_alloc ?_ _) | (with_reducible refine Kd.C_drewN ?_ _) | (with_reducible refine Kd.C_drew ?_))); (case aB => exact (by repeat (first | (with_reducible first | exact HB.out | apply below_alloc | apply pw_below_drewN | apply below_drew1) | exact HB.out))); (case aF => exact (fun k_ hk => ⟨Kd.fresh' (Kd.R_lt (by (with_reducible repeat (first | apply Kd.R_alloc | apply Kd.R_drewN | apply Kd.R_drew)); exact HO181.out)) k_ hk, Kd.fresh' (Kd.R_lt (by (with_reducible repeat (first | apply Kd.R_alloc | apply Kd.R_drewN | apply Kd.R_drew)); exact HO184.out)) k_ hk⟩)); (case aO => exact (by (with_reducible repeat (first | apply Kd.R_alloc | apply Kd.R_drewN | apply Kd.R_drew)); exact HO194.out)); (case aS => exact (below_size (by repeat (first | (with_reducible first | exact HB.out | apply below_alloc | apply pw_below_drewN | apply below_drew1) | exact HB.out)))); (case aL => have := LMc9.out; omega); intro v196 w21 ho hb hg hat; rw [← Ny195.out] at ho; have n0_ := Aside0.mk (Kd.R_after (ok := (fun k_ => some k_ ≠ (.slice Ao16 t182.length co16 : Value).ownBlock)) (by (with_reducible repeat (first | apply Kd.R_alloc | apply Kd.R_drewN | apply Kd.R_drew)); exact HO181.out) hg hat); have n1_ := Aside0.mk (Kd.R_after (ok := (fun k_ => some k_ ≠ (.slice Ao14 t179.length co14 : Value).ownBlock)) (by (with_reducible repeat (first | apply Kd.R_alloc | apply Kd.R_drewN | apply Kd.R_drew)); exact HO184.out) hg hat); have n2_ := Aside0.mk (hb); have n3_ := Aside0.mk (ho); clear HO181; clear HO184; clear HB; clear HO194; have HO181 := n0_; have HO184 := n1_; have HB := n2_; have HO197 := n3_; clear n0_ n1_ n2_ n3_; clear ho hb hg hat; obtain ⟨Ao22, co22, eo22⟩ := Kd.R_slice HO197.out; subst eo22) | ((with_reducible refine gate_callee (f := 19) rfl ?_); refine goesL_ (some 37) rfl rfl Try.func19 (by kernel_rfl) rfl #[.slice Ao22 y195.length co22] rfl (by (try simp only [List.map_toArray, List.map_cons, List.map_nil]); first | done | rfl | (simp only [List.length_drop, List.length_take]; rfl)) ?_; (with_reducible refine (frame_Bind.calls k _ _ y195 t198 t199 _ ?side1 ?side2 A10.out).mono ?_); (case side1 => repeat (first | exact (Kd.R_reads' HO197.out).2.2 | (with_reducible refine Kd.C_alloc ?_ _) | (with_reducible refine Kd.C_drewN ?_ _) | (with_reducible refine Kd.C_drew ?_))); (case side2 => exact (Kd.R_reads' HO197.out).2.1); rintro e w23 ⟨rfl, hb⟩; refine ⟨_, rfl, ?_⟩; have n0_ := Aside0.mk (Kd.R_below (by (with_reducible repeat (first | apply Kd.R_alloc | apply Kd.R_drewN | apply Kd.R_drew)); exact HO181.out) hb); have n1_ := Aside0.mk (Kd.R_below (by (with_reducible repeat (first | apply Kd.R_alloc | apply Kd.R_drewN | apply Kd.R_drew)); exact HO184.out) hb); have n2_ := Aside0.mk (Kd.R_below (by (with_reducible repeat (first | apply Kd.R_alloc | apply Kd.R_drewN | apply Kd.R_drew)); exact HO197.out) hb); have n3_ := Aside0.mk (below_step (by repeat (first | (with_reducible first | exact HB.out | apply below_alloc | apply pw_below_drewN | apply below_drew1) | exact HB.out)) hb); clear HO181; clear HO184; clear HO197; clear HB; have HO181 := n0_; have HO184 := n1_; have HO197 := n2_; have HB := n3_; clear n0_ n1_ n2_ n3_; (try clear hb); (try clear hb2); (try clear hk); (try clear hi)))
      (try simp only [Act.put, List.setIfInBounds_toArray, List.set_cons_zero, List.set_cons_succ])
      go_cut [71] (fun v71 wc => ∃ (kq : Nat) (x71_10 : Bool), v71 = .bool x71_10 ∧ Aside0 (transhipmentlaw01_FrameParts.j0 kq a2 x71_10 = some r) ∧ Aside0 (kq ≤ k) ∧ Aside0 (Below w.heap.size w wc))
      case first =>
        have H := HC11.out
        clear HC11
        by_cases c24 : t186 = 0
        · rw [if_pos c24] at H
          have c24b0 : (t186 == 0) = true := beq_iff_eq.mpr c24
          have c24b1 : (t186 != 0) = false := bne_eq_false_iff_eq.mpr c24
          clear c24
          (first | rw [c24b0] | (simp only [i64_w, i32_w]; rw [c24b0]) | skip)
          by_cases c25 : t188 = 0
          · rw [if_pos c25] at H
            have c25b0 : (t188 == 0) = true := beq_iff_eq.mpr c25
            have c25b1 : (t188 != 0) = false := bne_eq_false_iff_eq.mpr c25
            clear c25
            by_cases c26 : t199 = 0
            · rw [if_pos c26] at H
              have c26b0 : (t199 == 0) = true := beq_iff_eq.mpr c26
              have c26b1 : (t199 != 0) = false := bne_eq_false_iff_eq.mpr c26
              clear c26
              by_cases c27 : (wrap64 ((t179.length : Int) + (t182.length : Int))) ≤ 512
              · rw [if_pos c27] at H
                have c27b0 : decide ((wrap64 ((t179.length : Int) + (t182.length : Int))) ≤ 512) = true := decide_eq_true c27
                clear c27
                by_cases c28 : t185.size + t187.size ≤ 9223372036854775807
                · rw [if_pos c28] at H
                  have c28b0 := eq_true c28
                  have c28b1 : decide (t185.size + t187.size ≤ 9223372036854775807) = true := decide_eq_true c28
                  try have c28b2 : (9223372036854775807 < t185.size + t187.size) = False := eq_false (Nat.not_lt.2 c28)
                  by_cases c29 : t198.toList = (t185 ++ t187).toList
                  · rw [if_pos c29] at H
                    have c29b0 : (t198.toList == (t185 ++ t187).toList) = true := beq_iff_eq.mpr c29
                    have c29b1 : (t198.toList != (t185 ++ t187).toList) = false := bne_eq_false_iff_eq.mpr c29
                    clear c29
                    replace H := Option.bind_eq_some_iff.mp H
                    obtain ⟨t200, A300, H⟩ := H
                    replace H : (transhipmentlaw01_FrameParts.j0 k a2 (!t200)) = some r := H
                    have A30 := Aside0.mk A300
                    clear A300
                    have H' := Aside0.mk H
                    clear H
                    go_wp2_with (first | (go_at_call 12; (with_reducible refine (transhipmentlaw01_alive.calls k  t200 _ A30.out).mono ?_); rintro e w31 ⟨rfl, hb⟩; have n0_ := Aside0.mk (Kd.R_below (by (with_reducible repeat (first | apply Kd.R_alloc | apply Kd.R_drewN | apply Kd.R_drew)); exact HO181.out) hb); have n1_ := Aside0.mk (Kd.R_below (by (with_reducible repeat (first | apply Kd.R_alloc | apply Kd.R_drewN | apply Kd.R_drew)); exact HO184.out) hb); have n2_ := Aside0.mk (Kd.R_below (by (with_reducible repeat (first | apply Kd.R_alloc | apply Kd.R_drewN | apply Kd.R_drew)); exact HO197.out) hb); have n3_ := Aside0.mk (below_step (by repeat (first | (with_reducible first | exact HB.out | apply below_alloc | apply pw_below_drewN | apply below_drew1) | exact HB.out)) hb); clear HO181; clear HO184; clear HO197; clear HB; have HO181 := n0_; have HO184 := n1_; have HO197 := n2_; have HB := n3_; clear n0_ n1_ n2_ n3_; (try clear hb); (try clear hb2); (try clear hk); (try clear hi)))
                    go_meet
                    case rel => exact ⟨_, (!t200), (by first | rfl | (simp; done) | (simp [*]; done)), H', ⟨by first | omega | exact Nat.le_refl _⟩, ⟨by repeat (first | (with_reducible first | exact HB.out | apply below_alloc | apply pw_below_drewN | apply below_drew1) | exact HB.out)⟩⟩
                  · rw [if_neg c29] at H
                    have c29b0 : (t198.toList == (t185 ++ t187).toList) = false := beq_eq_false_iff_ne.mpr c29
                    have c29b1 : (t198.toList != (t185 ++ t187).toList) = true := bne_iff_ne.mpr c29
                    have H' := Aside0.mk H
                    clear H
                    go_wp2
                    go_meet
                    case rel => exact ⟨_, (true), (by first | rfl | (simp; done) | (simp [*]; done)), H', ⟨by first | omega | exact Nat.le_refl _⟩, ⟨by repeat (first | (with_reducible first | exact HB.out | apply below_alloc | apply pw_below_drewN | apply below_drew1) | exact HB.out)⟩⟩
                · rw [if_neg c28] at H
                  exact absurd H (by simp)
              · rw [if_neg c27] at H
                have c27b0 : decide ((wrap64 ((t179.length : Int) + (t182.length : Int))) ≤ 512) = false := decide_eq_false c27
                clear c27
                have H' := Aside0.mk H
                clear H
                go_wp2
                go_meet
                case rel => exact ⟨_, (true), (by first | rfl | (simp; done) | (simp [*]; done)), H', ⟨by first | omega | exact Nat.le_refl _⟩, ⟨by repeat (first | (with_reducible first | exact HB.out | apply below_alloc | apply pw_below_drewN | apply below_drew1) | exact HB.out)⟩⟩
            · rw [if_neg c26] at H
              have c26b0 : (t199 == 0) = false := beq_eq_false_iff_ne.mpr c26
              have c26b1 : (t199 != 0) = true := bne_iff_ne.mpr c26
              by_cases c32 : (wrap64 ((t179.length : Int) + (t182.length : Int))) ≤ 512
              · rw [if_pos c32] at H
                have c32b0 : decide ((wrap64 ((t179.length : Int) + (t182.length : Int))) ≤ 512) = true := decide_eq_true c32
                clear c32
                have H' := Aside0.mk H
                clear H
                go_wp2
                go_meet
                case rel => exact ⟨_, (true), (by first | rfl | (simp; done) | (simp [*]; done)), H', ⟨by first | omega | exact Nat.le_refl _⟩, ⟨by repeat (first | (with_reducible first | exact HB.out | apply below_alloc | apply pw_below_drewN | apply below_drew1) | exact HB.out)⟩⟩
              · rw [if_neg c32] at H
                have c32b0 : decide ((wrap64 ((t179.length : Int) + (t182.length : Int))) ≤ 512) = false := decide_eq_false c32
                clear c32
                replace H := Option.bind_eq_some_iff.mp H
                obtain ⟨t201, A330, H⟩ := H
                replace H : (transhipmentlaw01_FrameParts.j0 k a2 (!t201)) = some r := H
                have A33 := Aside0.mk A330
                clear A330
                have H' := Aside0.mk H
                clear H
                go_wp2_with (first | (go_at_call 12; (with_reducible refine (transhipmentlaw01_alive.calls k  t201 _ A33.out).mono ?_); rintro e w34 ⟨rfl, hb⟩; have n0_ := Aside0.mk (Kd.R_below (by (with_reducible repeat (first | apply Kd.R_alloc | apply Kd.R_drewN | apply Kd.R_drew)); exact HO181.out) hb); have n1_ := Aside0.mk (Kd.R_below (by (with_reducible repeat (first | apply Kd.R_alloc | apply Kd.R_drewN | apply Kd.R_drew)); exact HO184.out) hb); have n2_ := Aside0.mk (Kd.R_below (by (with_reducible repeat (first | apply Kd.R_alloc | apply Kd.R_drewN | apply Kd.R_drew)); exact HO197.out) hb); have n3_ := Aside0.mk (below_step (by repeat (first | (with_reducible first | exact HB.out | apply below_alloc | apply pw_below_drewN | apply below_drew1) | exact HB.out)) hb); clear HO181; clear HO184; clear HO197; clear HB; have HO181 := n0_; have HO184 := n1_; have HO197 := n2_; have HB := n3_; clear n0_ n1_ n2_ n3_; (try clear hb); (try clear hb2); (try clear hk); (try clear hi)))
                go_meet
                case rel => exact ⟨_, (!t201), (by first | rfl | (simp; done) | (simp [*]; done)), H', ⟨by first | omega | exact Nat.le_refl _⟩, ⟨by repeat (first | (with_reducible first | exact HB.out | apply below_alloc | apply pw_below_drewN | apply below_drew1) | exact HB.out)⟩⟩
          · rw [if_neg c25] at H
            have c25b0 : (t188 == 0) = false := beq_eq_false_iff_ne.mpr c25
            have c25b1 : (t188 != 0) = true := bne_iff_ne.mpr c25
            by_cases c35 : t199 = 0
            · rw [if_pos c35] at H
              have c35b0 : (t199 == 0) = true := beq_iff_eq.mpr c35
              have c35b1 : (t199 != 0) = false := bne_eq_false_iff_eq.mpr c35
              clear c35
              by_cases c36 : t185.size + t187.size ≤ 9223372036854775807
              · rw [if_pos c36] at H
                have c36b0 := eq_true c36
                have c36b1 : decide (t185.size + t187.size ≤ 9223372036854775807) = true := decide_eq_true c36
                try have c36b2 : (9223372036854775807 < t185.size + t187.size) = False := eq_false (Nat.not_lt.2 c36)
                by_cases c37 : t198.toList = (t185 ++ t187).toList
                · rw [if_pos c37] at H
                  have c37b0 : (t198.toList == (t185 ++ t187).toList) = true := beq_iff_eq.mpr c37
                  have c37b1 : (t198.toList != (t185 ++ t187).toList) = false := bne_eq_false_iff_eq.mpr c37
                  clear c37
                  replace H := Option.bind_eq_some_iff.mp H
                  obtain ⟨t202, A380, H⟩ := H
                  replace H : (transhipmentlaw01_FrameParts.j0 k a2 (!t202)) = some r := H
                  have A38 := Aside0.mk A380
                  clear A380
                  have H' := Aside0.mk H
                  clear H
                  go_wp2_with (first | (go_at_call 12; (with_reducible refine (transhipmentlaw01_alive.calls k  t202 _ A38.out).mono ?_); rintro e w39 ⟨rfl, hb⟩; have n0_ := Aside0.mk (Kd.R_below (by (with_reducible repeat (first | apply Kd.R_alloc | apply Kd.R_drewN | apply Kd.R_drew)); exact HO181.out) hb); have n1_ := Aside0.mk (Kd.R_below (by (with_reducible repeat (first | apply Kd.R_alloc | apply Kd.R_drewN | apply Kd.R_drew)); exact HO184.out) hb); have n2_ := Aside0.mk (Kd.R_below (by (with_reducible repeat (first | apply Kd.R_alloc | apply Kd.R_drewN | apply Kd.R_drew)); exact HO197.out) hb); have n3_ := Aside0.mk (below_step (by repeat (first | (with_reducible first | exact HB.out | apply below_alloc | apply pw_below_drewN | apply below_drew1) | exact HB.out)) hb); clear HO181; clear HO184; clear HO197; clear HB; have HO181 := n0_; have HO184 := n1_; have HO197 := n2_; have HB := n3_; clear n0_ n1_ n2_ n3_; (try clear hb); (try clear hb2); (try clear hk); (try clear hi)))
                  go_meet
                  case rel => exact ⟨_, (!t202), (by first | rfl | (simp; done) | (simp [*]; done)), H', ⟨by first | omega | exact Nat.le_refl _⟩, ⟨by repeat (first | (with_reducible first | exact HB.out | apply below_alloc | apply pw_below_drewN | apply below_drew1) | exact HB.out)⟩⟩
                · rw [if_neg c37] at H
                  have c37b0 : (t198.toList == (t185 ++ t187).toList) = false := beq_eq_false_iff_ne.mpr c37
                  have c37b1 : (t198.toList != (t185 ++ t187).toList) = true := bne_iff_ne.mpr c37
                  have H' := Aside0.mk H
                  clear H
                  go_wp2
                  go_meet
                  case rel => exact ⟨_, (true), (by first | rfl | (simp; done) | (simp [*]; done)), H', ⟨by first | omega | exact Nat.le_refl _⟩, ⟨by repeat (first | (with_reducible first | exact HB.out | apply below_alloc | apply pw_below_drewN | apply below_drew1) | exact HB.out)⟩⟩
              · rw [if_neg c36] at H
                exact absurd H (by simp)
            · rw [if_neg c35] at H
              have c35b0 : (t199 == 0) = false := beq_eq_false_iff_ne.mpr c35
              have c35b1 : (t199 != 0) = true := bne_iff_ne.mpr c35
              replace H := Option.bind_eq_some_iff.mp H
              obtain ⟨t203, A400, H⟩ := H
              replace H : (transhipmentlaw01_FrameParts.j0 k a2 (!t203)) = some r := H
              have A40 := Aside0.mk A400
              clear A400
              have H' := Aside0.mk H
              clear H
              go_wp2_with (first | (go_at_call 12; (with_reducible refine (transhipmentlaw01_alive.calls k  t203 _ A40.out).mono ?_); rintro e w41 ⟨rfl, hb⟩; have n0_ := Aside0.mk (Kd.R_below (by (with_reducible repeat (first | apply Kd.R_alloc | apply Kd.R_drewN | apply Kd.R_drew)); exact HO181.out) hb); have n1_ := Aside0.mk (Kd.R_below (by (with_reducible repeat (first | apply Kd.R_alloc | apply Kd.R_drewN | apply Kd.R_drew)); exact HO184.out) hb); have n2_ := Aside0.mk (Kd.R_below (by (with_reducible repeat (first | apply Kd.R_alloc | apply Kd.R_drewN | apply Kd.R_drew)); exact HO197.out) hb); have n3_ := Aside0.mk (below_step (by repeat (first | (with_reducible first | exact HB.out | apply below_alloc | apply pw_below_drewN | apply below_drew1) | exact HB.out)) hb); clear HO181; clear HO184; clear HO197; clear HB; have HO181 := n0_; have HO184 := n1_; have HO197 := n2_; have HB := n3_; clear n0_ n1_ n2_ n3_; (try clear hb); (try clear hb2); (try clear hk); (try clear hi)))
              go_meet
              case rel => exact ⟨_, (!t203), (by first | rfl | (simp; done) | (simp [*]; done)), H', ⟨by first | omega | exact Nat.le_refl _⟩, ⟨by repeat (first | (with_reducible first | exact HB.out | apply below_alloc | apply pw_below_drewN | apply below_drew1) | exact HB.out)⟩⟩
        · rw [if_neg c24] at H
          have c24b0 : (t186 == 0) = false := beq_eq_false_iff_ne.mpr c24
          have c24b1 : (t186 != 0) = true := bne_iff_ne.mpr c24
          (first | rw [c24b0] | (simp only [i64_w, i32_w]; rw [c24b0]) | skip)
          by_cases c42 : t199 = 0
          · rw [if_pos c42] at H
            have c42b0 : (t199 == 0) = true := beq_iff_eq.mpr c42
            have c42b1 : (t199 != 0) = false := bne_eq_false_iff_eq.mpr c42
            clear c42
            by_cases c43 : t185.size + t187.size ≤ 9223372036854775807
            · rw [if_pos c43] at H
              have c43b0 := eq_true c43
              have c43b1 : decide (t185.size + t187.size ≤ 9223372036854775807) = true := decide_eq_true c43
              try have c43b2 : (9223372036854775807 < t185.size + t187.size) = False := eq_false (Nat.not_lt.2 c43)
              by_cases c44 : t198.toList = (t185 ++ t187).toList
              · rw [if_pos c44] at H
                have c44b0 : (t198.toList == (t185 ++ t187).toList) = true := beq_iff_eq.mpr c44
                have c44b1 : (t198.toList != (t185 ++ t187).toList) = false := bne_eq_false_iff_eq.mpr c44
                clear c44
                replace H := Option.bind_eq_some_iff.mp H
                obtain ⟨t204, A450, H⟩ := H
                replace H : (transhipmentlaw01_FrameParts.j0 k a2 (!t204)) = some r := H
                have A45 := Aside0.mk A450
                clear A450
                have H' := Aside0.mk H
                clear H
                go_wp2_with (first | (go_at_call 12; (with_reducible refine (transhipmentlaw01_alive.calls k  t204 _ A45.out).mono ?_); rintro e w46 ⟨rfl, hb⟩; have n0_ := Aside0.mk (Kd.R_below (by (with_reducible repeat (first | apply Kd.R_alloc | apply Kd.R_drewN | apply Kd.R_drew)); exact HO181.out) hb); have n1_ := Aside0.mk (Kd.R_below (by (with_reducible repeat (first | apply Kd.R_alloc | apply Kd.R_drewN | apply Kd.R_drew)); exact HO184.out) hb); have n2_ := Aside0.mk (Kd.R_below (by (with_reducible repeat (first | apply Kd.R_alloc | apply Kd.R_drewN | apply Kd.R_drew)); exact HO197.out) hb); have n3_ := Aside0.mk (below_step (by repeat (first | (with_reducible first | exact HB.out | apply below_alloc | apply pw_below_drewN | apply below_drew1) | exact HB.out)) hb); clear HO181; clear HO184; clear HO197; clear HB; have HO181 := n0_; have HO184 := n1_; have HO197 := n2_; have HB := n3_; clear n0_ n1_ n2_ n3_; (try clear hb); (try clear hb2); (try clear hk); (try clear hi)))
                go_meet
                case rel => exact ⟨_, (!t204), (by first | rfl | (simp; done) | (simp [*]; done)), H', ⟨by first | omega | exact Nat.le_refl _⟩, ⟨by repeat (first | (with_reducible first | exact HB.out | apply below_alloc | apply pw_below_drewN | apply below_drew1) | exact HB.out)⟩⟩
              · rw [if_neg c44] at H
                have c44b0 : (t198.toList == (t185 ++ t187).toList) = false := beq_eq_false_iff_ne.mpr c44
                have c44b1 : (t198.toList != (t185 ++ t187).toList) = true := bne_iff_ne.mpr c44
                have H' := Aside0.mk H
                clear H
                go_wp2
                go_meet
                case rel => exact ⟨_, (true), (by first | rfl | (simp; done) | (simp [*]; done)), H', ⟨by first | omega | exact Nat.le_refl _⟩, ⟨by repeat (first | (with_reducible first | exact HB.out | apply below_alloc | apply pw_below_drewN | apply below_drew1) | exact HB.out)⟩⟩
            · rw [if_neg c43] at H
              exact absurd H (by simp)
          · rw [if_neg c42] at H
            have c42b0 : (t199 == 0) = false := beq_eq_false_iff_ne.mpr c42
            have c42b1 : (t199 != 0) = true := bne_iff_ne.mpr c42
            replace H := Option.bind_eq_some_iff.mp H
            obtain ⟨t205, A470, H⟩ := H
            replace H : (transhipmentlaw01_FrameParts.j0 k a2 (!t205)) = some r := H
            have A47 := Aside0.mk A470
            clear A470
            have H' := Aside0.mk H
            clear H
            go_wp2_with (first | (go_at_call 12; (with_reducible refine (transhipmentlaw01_alive.calls k  t205 _ A47.out).mono ?_); rintro e w48 ⟨rfl, hb⟩; have n0_ := Aside0.mk (Kd.R_below (by (with_reducible repeat (first | apply Kd.R_alloc | apply Kd.R_drewN | apply Kd.R_drew)); exact HO181.out) hb); have n1_ := Aside0.mk (Kd.R_below (by (with_reducible repeat (first | apply Kd.R_alloc | apply Kd.R_drewN | apply Kd.R_drew)); exact HO184.out) hb); have n2_ := Aside0.mk (Kd.R_below (by (with_reducible repeat (first | apply Kd.R_alloc | apply Kd.R_drewN | apply Kd.R_drew)); exact HO197.out) hb); have n3_ := Aside0.mk (below_step (by repeat (first | (with_reducible first | exact HB.out | apply below_alloc | apply pw_below_drewN | apply below_drew1) | exact HB.out)) hb); clear HO181; clear HO184; clear HO197; clear HB; have HO181 := n0_; have HO184 := n1_; have HO197 := n2_; have HB := n3_; clear n0_ n1_ n2_ n3_; (try clear hb); (try clear hb2); (try clear hk); (try clear hi)))
            go_meet
            case rel => exact ⟨_, (!t205), (by first | rfl | (simp; done) | (simp [*]; done)), H', ⟨by first | omega | exact Nat.le_refl _⟩, ⟨by repeat (first | (with_reducible first | exact HB.out | apply below_alloc | apply pw_below_drewN | apply below_drew1) | exact HB.out)⟩⟩
      case rest =>
        clear HC11
        try clear c1
        try clear c2
        try clear p2
        try clear c3
        try clear c4
        try clear p6
        try clear c7
        try clear c8
        try clear c9
        try clear c18
        try clear c19
        try clear c24
        try clear c24b0
        try clear c24b1
        try clear c25
        try clear c25b0
        try clear c25b1
        try clear c26
        try clear c26b0
        try clear c26b1
        try clear c27
        try clear c27b0
        try clear c28
        try clear c28b0
        try clear c28b1
        try clear c28b2
        try clear c29
        try clear c29b0
        try clear c29b1
        try clear c32
        try clear c32b0
        try clear c35
        try clear c35b0
        try clear c35b1
        try clear c36
        try clear c36b0
        try clear c36b1
        try clear c36b2
        try clear c37
        try clear c37b0
        try clear c37b1
        try clear c42
        try clear c42b0
        try clear c42b1
        try clear c43
        try clear c43b0
        try clear c43b1
        try clear c43b2
        try clear c44
        try clear c44b0
        try clear c44b1
        obtain ⟨kq, x71_10, rfl, HA, HJ10, HB⟩ := hcut
        cases kq with
        | zero => exact absurd HA.out (by simp [transhipmentlaw01_FrameParts.j0])
        | succ kj10 =>
          have H := HA.out
          clear HA
          simp only [transhipmentlaw01_FrameParts.j0] at H
          by_cases c49 : x71_10 = true
          · subst c49
            have H1 : (some false) = some r := by rw [if_pos rfl] at H; exact H
            clear H
            have H := H1
            clear H1
            obtain rfl := Option.some.inj H
            go_wp2
            go_ret
            exact ⟨by first | rfl | (simp [errW_none, errW_some] <;> rfl) | (simp [*, errW_none, errW_some] <;> rfl), by repeat (first | (with_reducible first | exact HB.out | apply below_alloc | apply pw_below_drewN | apply below_drew1) | exact HB.out)⟩
          · replace c49 := Bool.eq_false_iff.mpr c49
            subst c49
            have H1 : ((frame_Number.f kj10 a2).bind fun bt206 => (if bt206.2 = 0 then (transhipmentlaw01_FrameParts.l0 kj10 bt206.1 1 (a2 / 128)) else (if bt206.1.toList = ([] : List UInt8) then (if a2 < 0 then (some true) else (some (decide (a2 ≥ 4611686018427387904)))) else (some false)))) = some r := by rw [if_neg (show ¬ (false = true) by decide)] at H; exact H
            clear H
            have H := H1
            clear H1
            replace H := Option.bind_eq_some_iff.mp H
            obtain ⟨⟨t206, t207⟩, A500, H⟩ := H
            replace H : (if t207 = 0 then (transhipmentlaw01_FrameParts.l0 kj10 t206 1 (a2 / 128)) else (if t206.toList = ([] : List UInt8) then (if a2 < 0 then (some true) else (some (decide (a2 ≥ 4611686018427387904)))) else (some false))) = some r := H
            have A50 := Aside0.mk A500
            clear A500
            by_cases c51 : t207 = 0
            · rw [if_pos c51] at H
              have c51b0 : (t207 == 0) = true := beq_iff_eq.mpr c51
              have c51b1 : (t207 != 0) = false := bne_eq_false_iff_eq.mpr c51
              clear c51
              have H' := Aside0.mk H
              clear H
              go_wp2_with (first | ((with_reducible refine gate_callee (f := 14) rfl ?_); refine goesL_ (some 74) rfl rfl Try.func14 (by kernel_rfl) rfl #[.int .i64 a2] rfl (by (try simp only [List.map_toArray, List.map_cons, List.map_nil]); first | done | rfl | (simp only [List.length_drop, List.length_take]; rfl)) ?_; (with_reducible refine (frame_Number.calls kj10 a2 t206 t207 _ A50.out).mono ?_); rintro e w52 ⟨rfl, hb⟩; refine ⟨_, rfl, ?_⟩; have n0_ := Aside0.mk (below_step (by repeat (first | (with_reducible first | exact HB.out | apply below_alloc | apply pw_below_drewN | apply below_drew1) | exact HB.out)) hb); clear HB; have HB := n0_; clear n0_; (try clear hb); (try clear hb2); (try clear hk); (try clear hi)))
              go_loopg [15, 16] kj10 (fun kq v15 v16 w' => ∃ (x15_2 : Int) (x16_2 : Int), v15 = .int .i64 x15_2 ∧ v16 = .int .i64 x16_2 ∧ Aside0 (transhipmentlaw01_FrameParts.l0 kq t206 x15_2 x16_2 = some r) ∧ Aside0 (kq ≤ kj10) ∧ Aside0 (Below w.heap.size w w'))
              case atStart => exact ⟨(1), (a2 / 128), (by first | rfl | (simp; done) | (simp [*]; done)), (by first | rfl | (simp; done) | (simp [*]; done)), H', ⟨Nat.le_refl _⟩, ⟨by repeat (first | (with_reducible first | exact HB.out | apply below_alloc | apply pw_below_drewN | apply below_drew1) | exact HB.out)⟩⟩
              case round =>
                clear H'
                try clear c1
                try clear c2
                try clear p2
                try clear c3
                try clear c4
                try clear c5
                try clear p6
                try clear c7
                try clear c8
                try clear c9
                try clear c14
                try clear c18
                try clear c19
                try clear c24
                try clear c24b0
                try clear c24b1
                try clear c25
                try clear c25b0
                try clear c25b1
                try clear c26
                try clear c26b0
                try clear c26b1
                try clear c27
                try clear c27b0
                try clear c28
                try clear c28b0
                try clear c28b1
                try clear c28b2
                try clear c29
                try clear c29b0
                try clear c29b1
                try clear c32
                try clear c32b0
                try clear c35
                try clear c35b0
                try clear c35b1
                try clear c36
                try clear c36b0
                try clear c36b1
                try clear c36b2
                try clear c37
                try clear c37b0
                try clear c37b1
                try clear c42
                try clear c42b0
                try clear c42b1
                try clear c43
                try clear c43b0
                try clear c43b1
                try clear c43b2
                try clear c44
                try clear c44b0
                try clear c44b1
                try clear c49
                try clear c51
                try clear c51b0
                try clear c51b1
                try clear p2
                try clear p6
                obtain ⟨x15_2, x16_2, rfl, rfl, HA, HK2, HB⟩ := hrel
                cases gk with
                | zero => exact absurd HA.out (by simp [transhipmentlaw01_FrameParts.l0])
                | succ k2 =>
                  have H := HA.out
                  clear HA
                  simp only [transhipmentlaw01_FrameParts.l0] at H
                  by_cases c53 : x16_2 > 0
                  · rw [if_pos c53] at H
                    have c53b0 : decide (0 < x16_2) = true := decide_eq_true c53
                    clear c53
                    have H' := Aside0.mk H
                    clear H
                    go_wp2
                    go_roundg k2
                    case measure => have := HJ10.out; have := HK2.out; omega
                    case rel => exact ⟨(wrap64 (x15_2 + 1)), (x16_2 / 128), (by first | rfl | (simp; done) | (simp [*]; done)), (by first | rfl | (simp; done) | (simp [*]; done)), H', ⟨by have := HJ10.out; have := HK2.out; omega⟩, ⟨by repeat (first | (with_reducible first | exact HB.out | apply below_alloc | apply pw_below_drewN | apply below_drew1) | exact HB.out)⟩⟩
                  · rw [if_neg c53] at H
                    have c53b0 : decide (0 < x16_2) = false := decide_eq_false c53
                    clear c53
                    obtain rfl := Option.some.inj H
                    go_wp2
                    go_ret
                    exact ⟨by first | rfl | (simp [errW_none, errW_some] <;> rfl) | (simp [*, errW_none, errW_some] <;> rfl), by repeat (first | (with_reducible first | exact HB.out | apply below_alloc | apply pw_below_drewN | apply below_drew1) | exact HB.out)⟩
            · rw [if_neg c51] at H
              have c51b0 : (t207 == 0) = false := beq_eq_false_iff_ne.mpr c51
              have c51b1 : (t207 != 0) = true := bne_iff_ne.mpr c51
              by_cases c54 : t206.toList = ([] : List UInt8)
              · rw [if_pos c54] at H
                have c54b0 : (t206.toList == ([] : List UInt8)) = true := beq_iff_eq.mpr c54
                have c54b1 : (t206.toList != ([] : List UInt8)) = false := bne_eq_false_iff_eq.mpr c54
                clear c54
                by_cases c55 : a2 < 0
                · rw [if_pos c55] at H
                  have c55b0 : decide (a2 < 0) = true := decide_eq_true c55
                  clear c55
                  obtain rfl := Option.some.inj H
                  go_wp2_with (first | ((with_reducible refine gate_callee (f := 14) rfl ?_); refine goesL_ (some 74) rfl rfl Try.func14 (by kernel_rfl) rfl #[.int .i64 a2] rfl (by (try simp only [List.map_toArray, List.map_cons, List.map_nil]); first | done | rfl | (simp only [List.length_drop, List.length_take]; rfl)) ?_; (with_reducible refine (frame_Number.calls kj10 a2 t206 t207 _ A50.out).mono ?_); rintro e w56 ⟨rfl, hb⟩; refine ⟨_, rfl, ?_⟩; have n0_ := Aside0.mk (below_step (by repeat (first | (with_reducible first | exact HB.out | apply below_alloc | apply pw_below_drewN | apply below_drew1) | exact HB.out)) hb); clear HB; have HB := n0_; clear n0_; (try clear hb); (try clear hb2); (try clear hk); (try clear hi)))
                  go_ret
                  exact ⟨by first | rfl | (simp [errW_none, errW_some] <;> rfl) | (simp [*, errW_none, errW_some] <;> rfl), by repeat (first | (with_reducible first | exact HB.out | apply below_alloc | apply pw_below_drewN | apply below_drew1) | exact HB.out)⟩
                · rw [if_neg c55] at H
                  have c55b0 : decide (a2 < 0) = false := decide_eq_false c55
                  clear c55
                  obtain rfl := Option.some.inj H
                  go_wp2_with (first | ((with_reducible refine gate_callee (f := 14) rfl ?_); refine goesL_ (some 74) rfl rfl Try.func14 (by kernel_rfl) rfl #[.int .i64 a2] rfl (by (try simp only [List.map_toArray, List.map_cons, List.map_nil]); first | done | rfl | (simp only [List.length_drop, List.length_take]; rfl)) ?_; (with_reducible refine (frame_Number.calls kj10 a2 t206 t207 _ A50.out).mono ?_); rintro e w57 ⟨rfl, hb⟩; refine ⟨_, rfl, ?_⟩; have n0_ := Aside0.mk (below_step (by repeat (first | (with_reducible first | exact HB.out | apply below_alloc | apply pw_below_drewN | apply below_drew1) | exact HB.out)) hb); clear HB; have HB := n0_; clear n0_; (try clear hb); (try clear hb2); (try clear hk); (try clear hi)))
                  go_ret
                  exact ⟨by first | rfl | (simp [errW_none, errW_some] <;> rfl) | (simp [*, errW_none, errW_some] <;> rfl), by repeat (first | (with_reducible first | exact HB.out | apply below_alloc | apply pw_below_drewN | apply below_drew1) | exact HB.out)⟩
              · rw [if_neg c54] at H
                have c54b0 : (t206.toList == ([] : List UInt8)) = false := beq_eq_false_iff_ne.mpr c54
                have c54b1 : (t206.toList != ([] : List UInt8)) = true := bne_iff_ne.mpr c54
                obtain rfl := Option.some.inj H
                go_wp2_with (first | ((with_reducible refine gate_callee (f := 14) rfl ?_); refine goesL_ (some 74) rfl rfl Try.func14 (by kernel_rfl) rfl #[.int .i64 a2] rfl (by (try simp only [List.map_toArray, List.map_cons, List.map_nil]); first | done | rfl | (simp only [List.length_drop, List.length_take]; rfl)) ?_; (with_reducible refine (frame_Number.calls kj10 a2 t206 t207 _ A50.out).mono ?_); rintro e w58 ⟨rfl, hb⟩; refine ⟨_, rfl, ?_⟩; have n0_ := Aside0.mk (below_step (by repeat (first | (with_reducible first | exact HB.out | apply below_alloc | apply pw_below_drewN | apply below_drew1) | exact HB.out)) hb); clear HB; have HB := n0_; clear n0_; (try clear hb); (try clear hb2); (try clear hk); (try clear hi)))
                go_ret
                exact ⟨by first | rfl | (simp [errW_none, errW_some] <;> rfl) | (simp [*, errW_none, errW_some] <;> rfl), by repeat (first | (with_reducible first | exact HB.out | apply below_alloc | apply pw_below_drewN | apply below_drew1) | exact HB.out)⟩
    · rw [if_neg c9] at H
      exact absurd H (by simp)
  · rw [if_neg c8] at H
    exact absurd H (by simp)

/-- THE ONE PURE STATEMENT of transhipmentlaw01_FrameParts: yours. -/
def transhipmentlaw01_FrameParts.Pure : Prop := ∀ (l0 : List ByteArray) (l1 : List ByteArray) (a2 : Int), (l0.length ≤ maxLen ∧ ∀ yl0 ∈ l0, yl0.size ≤ maxLen) → (l1.length ≤ maxLen ∧ ∀ yl1 ∈ l1, yl1.size ≤ maxLen) → (Lit.int .i64 a2).wf = true → ∃ k, transhipmentlaw01_FrameParts.f k l0 l1 a2 = some true
theorem transhipmentlaw01_FrameParts.walk (P : transhipmentlaw01_FrameParts.Pure) (a0 : Option Addr) (len0 cap0 : Nat) (z0 : List ByteArray) (a1 : Option Addr) (len1 cap1 : Nat) (z1 : List ByteArray) (a2 : Int) (w : World) (w0 : len0 = z0.length ∧ Kd.C Kd.string w a0 z0.length z0 ∧ z0.length ≤ cap0 ∧ (z0.length ≤ maxLen ∧ ∀ yz0 ∈ z0, yz0.size ≤ maxLen)) (w1 : len1 = z1.length ∧ Kd.C Kd.string w a1 z1.length z1 ∧ z1.length ≤ cap1 ∧ (z1.length ≤ maxLen ∧ ∀ yz1 ∈ z1, yz1.size ≤ maxLen)) (w2 : (Lit.int .i64 a2).wf = true) :
    Calls Try.prog 7 #[.slice a0 len0 cap0, .slice a1 len1 cap1, .int .i64 a2] w fun e w' => e = .returned (.bool true) ∧ Below w.heap.size w w' := by
  obtain ⟨rfl, hr0, hc0, hm0⟩ := w0
  obtain ⟨rfl, hr1, hc1, hm1⟩ := w1
  obtain ⟨k, h⟩ := P z0 z1 a2 hm0 hm1 w2
  refine (transhipmentlaw01_FrameParts.calls k _ _ z0 _ _ z1 a2 true w hr0 hc0 hr1 hc1 h).mono ?_
  rintro e w' ⟨rfl, hd⟩
  exact ⟨rfl, hd⟩

end Go.Proofs.Ytmngigklmgoibaa.P
