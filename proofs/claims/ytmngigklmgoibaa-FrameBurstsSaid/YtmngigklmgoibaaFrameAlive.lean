/- The layer's known check and a known number's bytes stand. Conditions: none. -/
import Derived.Test.YtmngigklmgoibaaFrameLaw
import Derived.Test.YtmngigklmgoibaaPlaw01Alive
namespace Go.Proofs.Ytmngigklmgoibaa.P
open Go.RowKit Go.Proofs.YtmngigklmgoibaaW.PrintWords Go.Proofs.YtmngigklmgoibaaW.PrintLast Go.Proofs.YtmngigklmgoibaaW.PrintMore

theorem known_number : numB 300 = ⟨#[172, 2]⟩ := by
  unfold numB
  rw [show (300 : Int).toNat = 300 from rfl]
  unfold numL
  rw [dif_neg (by decide)]
  unfold numL
  rw [dif_pos (by decide)]
  rfl
theorem known_check : frame_Crc.f (⟨#[49, 50, 51, 52, 53, 54, 55, 56, 57]⟩ : ByteArray) = some 3421780262 := by decide +kernel
theorem alive_true (k : Nat) (hk : 20 < k) : transhipmentlaw01_alive.f k = some true := by
  unfold transhipmentlaw01_alive.f
  rw [frame_Number_eq k hk 300 (by omega), if_pos (by omega), known_number, known_check]
  simp [ByteArray.toList_eq]
theorem wf_i64 {n : Int} (h : (Lit.int .i64 n).wf = true) : -9223372036854775808 ≤ n ∧ n < 9223372036854775808 := by
  simp [Lit.wf, IntKind.min, IntKind.max, IntKind.signed, IntKind.bits] at h
  omega
end Go.Proofs.Ytmngigklmgoibaa.P
