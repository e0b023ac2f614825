/- Numbers, and texts that are bound, are read as they were; unlike texts are bound to unlike ones. Conditions: none. -/
import Derived.Test.YtmngigklmgoibaaPlaw01FrameBack
import Derived.Test.YtmngigklmgoibaaFrameAlive
import Derived.Test.YtmngigklmgoibaaFrameLaw4
namespace Go.Proofs.Ytmngigklmgoibaa.Pure
open Go.RowKit Go.Proofs.Ytmngigklmgoibaa.P Go.Proofs.YtmngigklmgoibaaW.PrintWords Go.Proofs.YtmngigklmgoibaaW.PrintLast Go.Proofs.YtmngigklmgoibaaW.PrintMore

theorem back_j0 (l m : List ByteArray) (hl1 : l.length ≤ 515) (hl2 : ∀ p ∈ l, p.size ≤ 8200) (hm2 : ∀ p ∈ m, p.size ≤ 8200) (k : Nat) (hk : 99999999 < k) :
    transhipmentlaw01_FrameBack.j0 k l m = some true := by
  obtain ⟨k, rfl⟩ : ∃ m, k = m + 1 := ⟨k - 1, by omega⟩
  have hz : (boundB l).size ≤ l.length * 9000 := bound_size l hl2
  simp only [transhipmentlaw01_FrameBack.j0]
  rw [frame_Bind_eq k (by omega) l hl2, frame_Bind_eq k (by omega) m hm2]
  simp only [Option.bind_some]
  by_cases hl : mayB l
  · rw [if_pos hl, frame_Loose_eq (boundB l) (by omega) k (by omega), looseB_back l hl]
    simp only [Option.bind_some, if_true]
    rw [ref_Same_eq _ _ (by omega) k (by omega), alive_true k (by omega)]
    simp only [Option.bind_some, decide_true, if_true]
    by_cases hm : mayB m
    · rw [if_pos hm, if_pos (by trivial), ref_Same_eq _ _ (by omega) k (by omega)]
      simp only [Option.bind_some, Option.some.injEq, beq_iff_eq]
      by_cases h : l = m
      · rw [decide_eq_true h, h]
        exact beq_iff_eq.2 rfl
      · rw [decide_eq_false h]
        apply beq_eq_false_iff_ne.2
        intro e
        rw [ByteArray.toList_eq, ByteArray.toList_eq] at e
        exact h (boundB_inj hl hm (ByteArray.ext (Array.ext' e)))
    · rw [if_neg hm, if_neg (by simp)]
  · rw [if_neg hl, frame_Loose_eq _ (by decide) k (by show 2 * 0 + _ < k; omega)]
    simp only [Option.bind_some]
    rw [if_neg (by decide), ref_May_eq l (by omega) k (by omega), alive_true k (by omega)]
    simp [hl]
theorem FrameBack : transhipmentlaw01_FrameBack.Pure := by
  intro n l m rest hn hl hm hr
  refine ⟨100000000, ?_⟩
  have hb := wf_i64 hn
  have go := back_j0 (fewL l) (fewL m) (fewL_length l) fewL_size fewL_size 100000000 (by decide)
  unfold transhipmentlaw01_FrameBack.f
  rw [few_eq _ (by decide), few_eq _ (by decide)]
  simp only [Option.bind_some]
  rw [show mn (rest.size : Int) 20 = ((min rest.size 20 : Nat) : Int) from mn_min _ 20, if_pos (by omega), if_pos (by omega), Int.toNat_natCast]
  have hz : (rest.extract 0 (min rest.size 20)).size ≤ 20 := by rw [ByteArray.size_extract]; omega
  generalize rest.extract 0 (min rest.size 20) = t at *
  rw [frame_Number_eq _ (by decide) n hb]
  simp only [Option.bind_some]
  by_cases h : 0 ≤ n ∧ n < 4611686018427387904
  · obtain ⟨q, rfl⟩ := Int.eq_ofNat_of_zero_le h.1
    have hs := numB_size (q : Int) (by omega) (by omega)
    rw [if_pos h, if_pos (by trivial), if_pos (show (numB (q : Int)).size + t.size ≤ 9223372036854775807 by omega), frame_Read_eq (numB (q : Int) ++ t) (by rw [ByteArray.size_append]; omega) _ (by decide), readB_back q (by omega) t]
    simp only [Option.bind_some, if_true]
    exact go
  · rw [if_neg h, if_neg (by simp)]
    exact go
end Go.Proofs.Ytmngigklmgoibaa.Pure
