/- Any number's bytes, and the number at any text's beginning, are as the document says, or refused. Conditions: none. -/
import Derived.Test.YtmngigklmgoibaaPlaw01FrameNumbers
import Derived.Test.YtmngigklmgoibaaFrameAlive
namespace Go.Proofs.Ytmngigklmgoibaa.Pure
open Go.RowKit Go.Proofs.Ytmngigklmgoibaa.P Go.Proofs.YtmngigklmgoibaaW.PrintWords Go.Proofs.YtmngigklmgoibaaW.PrintLast

theorem FrameNumbers : transhipmentlaw01_FrameNumbers.Pure := by
  intro n s hn hs
  refine ⟨100, ?_⟩
  have hb := wf_i64 hn
  unfold transhipmentlaw01_FrameNumbers.f
  rw [frame_Number_eq 100 (by decide) n hb, frame_Read_eq s (by omega) 100 (by decide), ref_Read_eq s (by omega) 100 (by decide), alive_true 100 (by decide)]
  simp only [Option.bind_some, if_true]
  by_cases h : 0 ≤ n ∧ n < 4611686018427387904
  · rw [if_pos h]
    simp only [transhipmentlaw01_FrameNumbers.j0]
    rw [if_neg (by simp), if_neg (by omega), if_neg (by omega), if_pos (by trivial), ref_Number_eq 99 (by decide) n h.1 (by omega)]
    simp
  · rw [if_neg h]
    simp only [transhipmentlaw01_FrameNumbers.j0]
    rw [if_neg (by simp)]
    by_cases h0 : n < 0
    · rw [if_pos h0, if_pos (by trivial)]
      simp [ByteArray.toList_eq]
    · rw [if_neg h0, if_pos (by omega), if_pos (by trivial)]
      simp [ByteArray.toList_eq]
end Go.Proofs.Ytmngigklmgoibaa.Pure
