/- What these functions of the program and of the plain reference compute, and plain lemmas on it: PureSealSums. Conditions: as each lemma says. -/
import Derived.Test.YtceedgflpkaclaaDoorMLawSealSums7
/- Any text's sum and mark are as the document says, of constants that are made of roots. Conditions: none. -/
namespace Go.Proofs.YtceedgflpkaclaaDoor.Pure
open Go.RowKit Go.Proofs.YtceedgflpkaclaaDoor.P Go.Proofs.YtceedgflpkaclaaDoorW.PrintWords Go.Proofs.YtceedgflpkaclaaDoorW.PrintLast Go.Proofs.YtceedgflpkaclaaDoorW.PrintMore

theorem dig_digR (n : Nat) (hn : n < 16) : digR (n : Int) = dig (n : Int) := by
  unfold digR dig
  split <;> omega
theorem markL_markI (xs : List Int) (hx : ∀ i, i < xs.length → 0 ≤ xs.getD i 0 ∧ xs.getD i 0 < 256) : ∀ r, r ≤ xs.length → markL xs r = (markI xs r).map (fun n : Int => UInt8.ofNat n.toNat)
  | 0, _ => by simp [markL, markI]
  | r + 1, hr => by
    have h := hx r (by omega)
    obtain ⟨n, hn⟩ : ∃ n : Nat, xs.getD r 0 = (n : Int) := ⟨(xs.getD r 0).toNat, by omega⟩
    rw [hn] at h
    rw [markL, markL_markI xs hx r (by omega), ← markI_next xs r (n : Int) (by omega) hn, hn, and15 n (by omega), List.map_append]
    unfold two16
    rw [show (n : Int) / 16 = ((n / 16 : Nat) : Int) by omega, show (n : Int) % 16 = ((n % 16 : Nat) : Int) by omega, dig_digR _ (by omega), dig_digR _ (by omega)]
    simp
theorem ref_Mark_eq (s : ByteArray) (hs : s.size ≤ 70368744177664) (k : Nat) (hk : 1000 < k) : transhipmentref02_Mark.f k s = some (markB s) := by
  unfold transhipmentref02_Mark.f
  have h32 := sumV_32 s
  rw [ref_Sum_eq s hs k hk, Option.bind_some, if_pos h32]
  refine congrArg some ?_
  have h8 : ((sumV s).extract 0 8).size = 8 := by rw [ByteArray.size_extract]; omega
  unfold markB
  generalize (sumV s).extract 0 8 = Q at h8 ⊢
  have hl : (bytesOf Q).length = 8 := by rw [bytesOf_length, h8]
  have e := markL_markI (bytesOf Q) (fun i _ => by
    have h1 := bt_range Q (i : Int)
    have h2 := rd_bytesOf Q (i : Int)
    unfold rd at h2
    rw [Int.toNat_natCast] at h2
    rw [h2]
    omega) 8 (by omega)
  rw [e]
  rfl
theorem SealSums : transhipmentlaw02_SealSums.Pure := by
  intro a ha
  refine ⟨20000, ?_⟩
  unfold transhipmentlaw02_SealSums.f
  rw [show mn (a.size : Int) 300 = ((min a.size 300 : Nat) : Int) from mn_min _ 300, if_pos (by omega), if_pos (by omega), Int.toNat_natCast]
  have hz : (a.extract 0 (min a.size 300)).size ≤ 300 := by rw [ByteArray.size_extract]; omega
  generalize a.extract 0 (min a.size 300) = s at *
  rw [alive_true, Option.bind_some, if_pos (by trivial), seal_Sum_eq s (by omega), Option.bind_some, ref_Sum_eq s (by omega) _ (by decide), Option.bind_some, if_pos (by trivial), seal_Mark_eq s (by omega), Option.bind_some, ref_Mark_eq s (by omega) _ (by decide), Option.bind_some, if_pos (by trivial)]
  rw [show transhipmentref02_Keys.f = some keysW from rfl, Option.bind_some, roots_64, Option.bind_some, same_keys, Option.bind_some, if_pos (by trivial)]
  rw [show transhipmentref02_First.f = some [1779033703, 3144134277, 1013904242, 2773480762, 1359893119, 2600822924, 528734635, 1541459225] from rfl, Option.bind_some, roots_8, Option.bind_some, same_first, Option.bind_some]
end Go.Proofs.YtceedgflpkaclaaDoor.Pure
