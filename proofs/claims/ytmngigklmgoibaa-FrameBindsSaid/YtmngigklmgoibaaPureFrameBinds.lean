/- Any texts bound, and any text taken apart, are as the document says, or refused. Conditions: none. -/
import Derived.Test.YtmngigklmgoibaaPlaw01FrameBinds
import Derived.Test.YtmngigklmgoibaaFrameAlive
import Derived.Test.YtmngigklmgoibaaFrameLaw3
namespace Go.Proofs.Ytmngigklmgoibaa.Pure
open Go.RowKit Go.Proofs.Ytmngigklmgoibaa.P Go.Proofs.YtmngigklmgoibaaW.PrintWords Go.Proofs.YtmngigklmgoibaaW.PrintLast Go.Proofs.YtmngigklmgoibaaW.PrintMore

theorem FrameBinds : transhipmentlaw01_FrameBinds.Pure := by
  intro l s hl hs
  refine ⟨100000, ?_⟩
  unfold transhipmentlaw01_FrameBinds.f
  rw [few_eq 100000 (by decide)]
  simp only [Option.bind_some]
  rw [show mn (s.size : Int) 20000 = ((min s.size 20000 : Nat) : Int) from mn_min _ 20000, if_pos (by omega), if_pos (by omega), Int.toNat_natCast]
  have hz : (s.extract 0 (min s.size 20000)).size ≤ 20000 := by rw [ByteArray.size_extract]; omega
  generalize s.extract 0 (min s.size 20000) = t at *
  have hl1 := fewL_length l
  have hl2 := @fewL_size l
  generalize fewL l = m at *
  rw [frame_Bind_eq 100000 (by decide) m hl2, frame_Loose_eq t (by omega) 100000 (by omega), ref_Loose_eq t (by omega) 100000 (by omega)]
  simp only [Option.bind_some, if_true]
  rw [ref_Same_eq _ _ (by have := looseB_length t; omega) 100000 (by decide), alive_true 100000 (by decide)]
  simp only [Option.bind_some, decide_true, if_true]
  simp only [transhipmentlaw01_FrameBinds.j0]
  rw [if_neg (by simp), ref_May_eq m (by omega) 99999 (by decide)]
  simp only [Option.bind_some]
  by_cases h : mayB m
  · rw [if_pos h, if_pos (by simp [h]), if_pos (by trivial), ref_Bind_eq m (by omega) hl2 99999 (by decide)]
    simp
  · rw [if_neg h, if_neg (by simp [h]), if_pos (by trivial)]
    simp [ByteArray.toList_eq]
end Go.Proofs.Ytmngigklmgoibaa.Pure
