/- The check is linear: three texts' exclusive or. Conditions: none. -/
import Derived.Test.YtmngigklmgoibaaPlaw01FrameXors
import Derived.Test.YtmngigklmgoibaaFrameAlive
import Derived.Test.YtmngigklmgoibaaCrcBits
namespace Go.Proofs.Ytmngigklmgoibaa.Pure
open Go.RowKit Go.Proofs.Ytmngigklmgoibaa.P Go.Proofs.YtmngigklmgoibaaW.PrintWords Go.Proofs.YtmngigklmgoibaaW.PrintLast Go.Proofs.YtmngigklmgoibaaW.PrintMore

theorem last_xor (x a b c o : BitVec 32) (h : x = a ^^^ (b ^^^ c)) : x ^^^ o = a ^^^ o ^^^ (b ^^^ o) ^^^ (c ^^^ o) := by
  subst h
  apply BitVec.eq_of_getLsbD_eq
  intro i hi
  simp only [BitVec.getLsbD_xor]
  cases a.getLsbD i <;> cases b.getLsbD i <;> cases c.getLsbD i <;> cases o.getLsbD i <;> rfl
theorem xors_l0 (a b c : ByteArray) (n : Nat) (hn : n ≤ 200) (ha : n ≤ a.size) (hb : n ≤ b.size) (hc : n ≤ c.size) : ∀ (d i k : Nat) (L : List Int), i + d = n → d + 1000 < k → L.length = n → Bytes L →
    (∀ j, j < n → lnat L j = if j < i then nat a j ^^^ (nat b j ^^^ nat c j) else nat a j) →
    transhipmentlaw01_FrameXors.l0 k a b c (n : Int) L (n : Int) (i : Int) = some true := by
  intro d
  induction d with
  | zero =>
    intro i k L hi hk hL hB h
    obtain ⟨k, rfl⟩ : ∃ m, k = m + 1 := ⟨k - 1, by omega⟩
    simp only [transhipmentlaw01_FrameXors.l0]
    have zx : (strOfNums L).size = n := by rw [strOfNums_size, hL]
    have za : (a.extract 0 n).size = n := by rw [ByteArray.size_extract]; omega
    have zb : (b.extract 0 n).size = n := by rw [ByteArray.size_extract]; omega
    have zc : (c.extract 0 n).size = n := by rw [ByteArray.size_extract]; omega
    rw [if_neg (by omega), alive_true k (by omega), frame_Crc_B (strOfNums L) (by omega), Int.toNat_natCast, frame_Crc_B (a.extract 0 n) (by omega), frame_Crc_B (b.extract 0 n) (by omega), frame_Crc_B (c.extract 0 n) (by omega)]
    simp only [Option.bind_some, if_true]
    rw [if_pos (by omega), if_pos (by omega), if_pos (by omega), if_pos (by omega), bits_xor_B, bits_xor_B]
    have hX : crcB (strOfNums L) = crcB (a.extract 0 n) ^^^ (crcB (b.extract 0 n) ^^^ crcB (c.extract 0 n)) := by
      apply crcB_three _ _ _ _ n zx za zb zc
      intro j hj
      rw [nat_strOfNums L hB j (by omega), h j hj, if_pos (by omega), nat_extract _ _ _ _ (by omega), nat_extract _ _ _ _ (by omega), nat_extract _ _ _ _ (by omega), Nat.zero_add]
    rw [last_xor _ _ _ _ _ hX]
    simp
  | succ d ih =>
    intro i k L hi hk hL hB h
    obtain ⟨k, rfl⟩ : ∃ m, k = m + 1 := ⟨k - 1, by omega⟩
    simp only [transhipmentlaw01_FrameXors.l0]
    rw [if_pos (by omega), if_pos (by omega), if_pos (by omega), if_pos (by omega), if_pos (by omega), wrap64_id (by omega) (by omega), Int.toNat_natCast,
      nat_cast, nat_cast, hB.cast, bits8 _ _ (nat_lt b i) (nat_lt c i), bits8 _ _ (hB.lt i) (xor_lt8 (nat_lt b i) (nat_lt c i))]
    have hv := xor_lt8 (hB.lt i) (xor_lt8 (nat_lt b i) (nat_lt c i))
    refine ih (i + 1) k _ (by omega) (by omega) (by rw [List.length_set, hL]) ?_ ?_
    · intro j
      rw [rd_set L i j _ (by omega)]
      by_cases e : j = i
      · rw [if_pos e]
        omega
      · rw [if_neg e]
        exact hB j
    · intro j hj
      have h2 := h j hj
      unfold lnat at h2 ⊢
      rw [rd_set L i j _ (by omega)]
      by_cases e : j = i
      · subst e
        rw [if_neg (by omega)] at h2
        rw [if_pos rfl, if_pos (by omega), Int.toNat_natCast, h2]
      · rw [if_neg e, h2]
        by_cases e2 : j < i
        · rw [if_pos e2, if_pos (by omega)]
        · rw [if_neg e2, if_neg (by omega)]
theorem FrameXors : transhipmentlaw01_FrameXors.Pure := by
  intro a b c ha hb hc
  refine ⟨100000, ?_⟩
  unfold transhipmentlaw01_FrameXors.f
  have e0 : mn (mn (mn (a.size : Int) (b.size : Int)) (c.size : Int)) (200 : Int) = ((min (min (min a.size b.size) c.size) 200 : Nat) : Int) := by
    rw [mn_min, mn_min]
    exact mn_min _ 200
  rw [e0]
  have hn : min (min (min a.size b.size) c.size) 200 ≤ 200 ∧ min (min (min a.size b.size) c.size) 200 ≤ a.size ∧ min (min (min a.size b.size) c.size) 200 ≤ b.size ∧ min (min (min a.size b.size) c.size) 200 ≤ c.size := by omega
  generalize min (min (min a.size b.size) c.size) 200 = n at *
  have za : (a.extract 0 n).size = n := by rw [ByteArray.size_extract]; omega
  rw [if_pos (by omega), if_pos (by omega), Int.toNat_natCast, if_pos (by omega)]
  refine xors_l0 a b c n hn.1 hn.2.1 hn.2.2.1 hn.2.2.2 n 0 _ _ (by omega) (by omega) (by rw [bytesOf_length, za]) (bytesOf_Bytes _) ?_
  intro j hj
  rw [lnat_bytesOf, if_neg (by omega), nat_extract _ _ _ _ (by omega), Nat.zero_add]

end Go.Proofs.Ytmngigklmgoibaa.Pure
