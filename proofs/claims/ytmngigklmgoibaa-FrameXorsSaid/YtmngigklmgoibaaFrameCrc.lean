/- frame.Crc comes to the check of its text's bytes, as a Lean function. Conditions: none. -/
import Derived.Test.YtmngigklmgoibaaP0
import Derived.OneCell
import Derived.RegionTactic
import Derived.ChangeAlike
namespace Go.Proofs.Ytmngigklmgoibaa.P
open Go.RowKit Go.Proofs.YtmngigklmgoibaaW.PrintWords Go.Proofs.YtmngigklmgoibaaW.PrintLast Go.Proofs.YtmngigklmgoibaaW.PrintMore

/-- One of a byte's eight steps. -/
def crcStep (c : Int) : Int := if Go.bits .and .u32 c 1 = 1 then Go.bits .xor .u32 (c / 2) 3988292384 else c / 2
def crcSteps : Nat → Int → Int
  | 0, c => c
  | n + 1, c => crcStep (crcSteps n c)
def crcByte (c b : Int) : Int := crcSteps 8 (Go.bits .xor .u32 c b)
/-- Behind so many bytes. -/
def crcFold (s : ByteArray) : Nat → Int
  | 0 => 4294967295
  | i + 1 => crcByte (crcFold s i) (bt s i)
def frame_Crc.f (s : ByteArray) : Option Int := if s.size ≤ 9223372036854775807 then some (Go.bits .xor .u32 (crcFold s s.size) 4294967295) else none

def InU (c : Int) : Prop := 0 ≤ c ∧ c < 4294967296
theorem bits_u32 (op : BinOp) (x y : Int) : InU (Go.bits op .u32 x y) := by
  unfold Go.bits InU
  rw [IntKind.wrap_u32]
  omega
theorem crcStep_in {c : Int} (h : InU c) : InU (crcStep c) := by
  unfold crcStep
  split
  · exact bits_u32 _ _ _
  · unfold InU at *; omega
theorem crcSteps_in {c : Int} (h : InU c) : ∀ n, InU (crcSteps n c)
  | 0 => h
  | n + 1 => crcStep_in (crcSteps_in h n)
theorem crcFold_in (s : ByteArray) : ∀ n, InU (crcFold s n)
  | 0 => by unfold crcFold InU; omega
  | n + 1 => crcSteps_in (bits_u32 _ _ _) 8

/-- A block of one uint32. -/
structure OneU (w : World) (b : Nat) (c : Int) : Prop where
  at_ : w.heap[b]? = some (.cells #[.int .u32 c] 22 (0, 0))
theorem OneU.set {w : World} {b : Nat} {c : Int} (h : OneU w b c) (d : Int) : OneU (w.setCell ⟨b, 0, none⟩ (.int .u32 d)) b d := ⟨one_setCell h.at_⟩
theorem OneU.drewN {w : World} {b : Nat} {c : Int} (h : OneU w b c) (n : Nat) : OneU (w.drewN n) b c := ⟨h.at_⟩
theorem OneU.drew {w : World} {b : Nat} {c : Int} (h : OneU w b c) : OneU w.drew b c := ⟨h.at_⟩

set_option maxHeartbeats 400000 in
set_option maxRecDepth 100000 in
theorem crc_step (b : Nat) (c : Int) (w : World) (h : OneU w b c) :
    Calls Try.prog 25 #[.pointer (some ⟨b, 0, none⟩)] w fun e w' => e = .returned (.tuple #[]) ∧ OneU w' b (crcStep c) ∧ ∀ B, B ≤ b → ∀ w0, Below B w0 w → Below B w0 w' := by
  have hcell := cell_of_one h.at_
  have hfree := free_of_one h.at_
  by_cases ht : Go.bits .and .u32 c 1 = 1
  · have hb : (Go.bits .and .u32 c 1 == 1) = true := beq_iff_eq.2 ht
    have HT := Aside0.mk ht
    clear ht
    go_enter Try.func25, Try.ntmps25
    go_wp2
    go_end0
    refine ⟨rfl, ?_, fun B hB w0 hw => (hw.setCell hB _).setCell hB _⟩
    unfold crcStep
    rw [if_pos HT.out]
    exact (h.set _).set _
  · have hb : (Go.bits .and .u32 c 1 == 1) = false := beq_eq_false_iff_ne.2 ht
    have HT := Aside0.mk ht
    clear ht
    go_enter Try.func25, Try.ntmps25
    go_wp2
    go_end0
    refine ⟨rfl, ?_, fun B hB w0 hw => hw.setCell hB _⟩
    unfold crcStep
    rw [if_neg HT.out]
    exact h.set _

set_option maxHeartbeats 1000000 in
set_option maxRecDepth 100000 in
theorem crc_any (s : ByteArray) (w : World) (hs : s.size ≤ 9223372036854775807) :
    Calls Try.prog 10 #[.string s] w fun e w' => e = .returned (.int .u32 (Go.bits .xor .u32 (crcFold s s.size) 4294967295)) ∧ Below w.heap.size w w' := by
  have hmf : ∀ (fn : Fn) (first cap : Array Value) (w : World), (Instr.makeFunc fn first cap).run Try.prog w = .ok (.func fn first cap) w := fun _ _ _ _ => rfl
  go_enter Try.func10, Try.ntmps10
  go_wp2
  go_loopw [9] (fun i wr => ∃ k : Nat, k ≤ s.size ∧ i = .int .i64 k ∧ OneU wr w.heap.size (crcFold s k) ∧ Aside0 (Below w.heap.size w wr)) (fun i _ => s.size - (intOf i).toNat)
  case atStart => exact ⟨0, Nat.zero_le _, rfl, ⟨heap_alloc_new w _⟩, ⟨(Below.refl _ _).alloc (Nat.le_refl _) _⟩⟩
  case round =>
    obtain ⟨k, hk, rfl, ho, hb⟩ := hrel
    have hcell := cell_of_one ho.at_
    have hfree := free_of_one ho.at_
    by_cases hlt : k < s.size
    · have hx : (s[k].toNat : Int) = bt s k := bt_at s k hlt
      have hy := bt_range s k
      have HX := Aside0.mk hx
      clear hx
      have hr1 : (s[k].toNat : Int) < 256 := by have := s[k].toNat_lt; omega
      go_wp2
      go_region
      go_wp2
      go_loopw [18] (fun i wi => ∃ j : Nat, j ≤ 8 ∧ i = .int .i64 j ∧ OneU wi w.heap.size (crcSteps j (Go.bits .xor .u32 (crcFold s k) (bt s k))) ∧ Aside0 (Below w.heap.size w wi)) (fun i _ => 8 - (intOf i).toNat)
      case atStart => exact ⟨0, by omega, rfl, by rw [HX.out]; exact (ho.set _).drew, ⟨below_drew (hb.out.setCell (Nat.le_refl _) _)⟩⟩
      case round =>
        obtain ⟨j, hj, rfl, hi, hbi⟩ := hrel
        by_cases hj8 : j < 8
        · go_wp2_with (go_at_call 25; refine (crc_step _ _ _ hi).mono ?_; rintro e w1 ⟨rfl, ho1, hb1⟩)
          go_roundw
          case rel => exact ⟨j + 1, by omega, by go_num, ho1, ⟨hb1 _ (Nat.le_refl _) _ hbi.out⟩⟩
          case measure => simp [intOf]; omega
        · obtain rfl : j = 8 := by omega
          go_wp2
          go_roundw
          case rel => exact ⟨k + 1, by omega, by go_num, hi, hbi⟩
          case measure => simp [intOf]; omega
    · obtain rfl : k = s.size := by omega
      go_wp2
      go_ret
      exact ⟨rfl, hb.out⟩
theorem frame_Crc.calls (a0 : ByteArray) (r : Int) (w : World) (h : frame_Crc.f a0 = some r) :
    Calls Try.prog 10 #[.string a0] w fun e w' => e = .returned (.int .u32 r) ∧ Below w.heap.size w w' := by
  unfold frame_Crc.f at h
  by_cases hs : a0.size ≤ 9223372036854775807
  · rw [if_pos hs] at h
    obtain rfl := Option.some.inj h
    exact crc_any a0 w hs
  · rw [if_neg hs] at h
    cases h
end Go.Proofs.Ytmngigklmgoibaa.P
