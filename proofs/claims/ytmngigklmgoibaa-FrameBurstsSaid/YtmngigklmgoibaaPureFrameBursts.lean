/- A burst of 32 bits or fewer changes the check. Conditions: none. -/
import Derived.Test.YtmngigklmgoibaaPlaw01FrameBursts
import Derived.Test.YtmngigklmgoibaaFrameAlive
import Derived.Test.YtmngigklmgoibaaCrcBits
namespace Go.Proofs.Ytmngigklmgoibaa.Pure
open Go.RowKit Go.Proofs.Ytmngigklmgoibaa.P Go.Proofs.YtmngigklmgoibaaW.PrintWords Go.Proofs.YtmngigklmgoibaaW.PrintLast Go.Proofs.YtmngigklmgoibaaW.PrintMore

theorem bit_of (y : BitVec 32) (i : Nat) (hi : i < 32) : (Go.bits .and .u32 (shr .u32 (y.toNat : Int) (i : Int)) 1 = 1) ↔ y.getLsbD i = true := by
  have e1 : (1 : Int) = ((1#32).toNat : Int) := rfl
  have e2 : shr .u32 (y.toNat : Int) (i : Int) = ((y >>> i).toNat : Int) := by
    unfold shr
    rw [Int.toNat_natCast, show min i IntKind.u32.bits = i by simp [IntKind.bits]; omega, BitVec.toNat_ushiftRight, Nat.shiftRight_eq_div_pow]
    simp
  rw [e2]
  conv => lhs; lhs; rw [e1]
  rw [bits_and_B, BitVec.toNat_and]
  have e3 : (y >>> i).toNat &&& (1#32).toNat = (y >>> i).toNat % 2 := Nat.and_one_is_mod _
  rw [e3]
  have e4 := low_B (y >>> i)
  rw [BitVec.getLsbD_ushiftRight, Nat.add_zero] at e4
  rw [e4, decide_eq_true_iff]
  omega
theorem shl8 : ∀ r : Nat, r < 8 → shl .u8 1 (r : Int) = ((2 ^ r : Nat) : Int) := by decide
theorem wf_u32 {n : Int} (h : (Lit.int .u32 n).wf = true) : 0 ≤ n ∧ n < 4294967296 := by
  simp [Lit.wf, IntKind.min, IntKind.max, IntKind.signed, IntKind.bits] at h
  omega

/-- What stands in the list after i rounds. -/
def Flipped (s : ByteArray) (y : BitVec 32) (p i : Nat) (L : List Int) : Prop :=
  ∀ j, j < 8 * s.size → mbits (lnat L) j = (mbits (nat s) j ^^ (decide (p ≤ j) && decide (j < p + i) && y.getLsbD (j - p)))
theorem bursts_end (s : ByteArray) (y : BitVec 32) (p : Nat) (hp : p < 8 * s.size) (L : List Int) (hL : L.length = s.size) (hB : Bytes L) (h : Flipped s y p 32 L) :
    (strOfNums L).toList = s.toList ∨ crcB (strOfNums L) ≠ crcB s := by
  have zx : (strOfNums L).size = s.size := by rw [strOfNums_size, hL]
  have hx : ∀ j, j < 8 * s.size → mbits (nat (strOfNums L)) j = mbits (lnat L) j := by
    intro j hj
    unfold mbits
    rw [nat_strOfNums L hB _ (by omega)]
  have hq : min 32 (8 * s.size - p) ≤ 32 ∧ p + min 32 (8 * s.size - p) ≤ 8 * s.size := by omega
  have hz : ∀ i, (BitVec.ofNat 32 (y.toNat % 2 ^ (min 32 (8 * s.size - p)))).getLsbD i = (decide (i < min 32 (8 * s.size - p)) && y.getLsbD i) := by
    intro i
    rw [BitVec.getLsbD, BitVec.toNat_ofNat, Nat.mod_eq_of_lt (Nat.lt_of_le_of_lt (Nat.mod_le _ _) y.isLt), Nat.testBit_mod_two_pow]
    rfl
  have hm : ∀ j, j < 8 * s.size → mbits (nat (strOfNums L)) j = (mbits (nat s) j ^^ (decide (p ≤ j) && decide (j < p + min 32 (8 * s.size - p)) && (BitVec.ofNat 32 (y.toNat % 2 ^ (min 32 (8 * s.size - p)))).getLsbD (j - p))) := by
    intro j hj
    rw [hx j hj, h j hj, hz]
    by_cases h1 : p ≤ j
    · by_cases h2 : j < p + 32
      · rw [decide_eq_true h1, decide_eq_true h2, decide_eq_true (by omega : j < p + min 32 (8 * s.size - p)), decide_eq_true (by omega : j - p < min 32 (8 * s.size - p))]
        simp
      · rw [decide_eq_false h2, decide_eq_false (by omega : ¬ j < p + min 32 (8 * s.size - p))]
        simp
    · rw [decide_eq_false h1]
      simp
  by_cases h0 : BitVec.ofNat 32 (y.toNat % 2 ^ (min 32 (8 * s.size - p))) = 0#32
  · left
    apply same_bits _ _ zx
    intro j hj
    rw [hm j hj, h0]
    simp
  · right
    refine crcB_burst _ s zx p _ hq.1 hq.2 _ h0 ?_ hm
    intro i hi
    rw [hz, decide_eq_false (by omega)]
    rfl
theorem xor_inj (a b o : BitVec 32) (h : a ^^^ o = b ^^^ o) : a = b := by
  have := congrArg (· ^^^ o) h
  simpa [BitVec.xor_assoc] using this
theorem bursts_l0 (s : ByteArray) (hs : s.size ≤ 200) (y : BitVec 32) (p : Nat) (hp : p < 8 * s.size) : ∀ (d i k : Nat) (L : List Int), i + d = 32 → d + 1000 < k → L.length = s.size → Bytes L → Flipped s y p i L →
    transhipmentlaw01_FrameBursts.l0 k s (p : Int) (y.toNat : Int) ((8 * s.size : Nat) : Int) L (i : Int) = some true := by
  intro d
  induction d with
  | zero =>
    intro i k L hi hk hL hB h
    obtain ⟨k, rfl⟩ : ∃ m, k = m + 1 := ⟨k - 1, by omega⟩
    obtain rfl : i = 32 := by omega
    simp only [transhipmentlaw01_FrameBursts.l0]
    have zx : (strOfNums L).size = s.size := by rw [strOfNums_size, hL]
    rw [if_neg (by omega), alive_true k (by omega), frame_Crc_B (strOfNums L) (by omega), frame_Crc_B s (by omega)]
    simp only [Option.bind_some, if_true]
    rcases bursts_end s y p hp L hL hB h with e | e
    · rw [if_pos e]
    · by_cases e2 : (strOfNums L).toList = s.toList
      · rw [if_pos e2]
      · rw [if_neg e2]
        have ne : ((crcB (strOfNums L) ^^^ 4294967295#32).toNat : Int) ≠ ((crcB s ^^^ 4294967295#32).toNat : Int) := by
          intro hh
          exact e (xor_inj _ _ _ (BitVec.eq_of_toNat_eq (Int.ofNat.inj hh)))
        simpa using ne
  | succ d ih =>
    intro i k L hi hk hL hB h
    obtain ⟨k, rfl⟩ : ∃ m, k = m + 1 := ⟨k - 1, by omega⟩
    simp only [transhipmentlaw01_FrameBursts.l0]
    rw [if_pos (by omega), if_pos (by omega), wrap64_id (x := (i : Int) + 1) (by omega) (by omega), wrap64_id (x := (p : Int) + (i : Int)) (by omega) (by omega)]
    have skip : (y.getLsbD i = false ∨ 8 * s.size ≤ p + i) → Flipped s y p (i + 1) L := by
      intro hh j hj
      rw [h j hj]
      by_cases e : j = p + i
      · subst e
        rcases hh with hh | hh
        · rw [Nat.add_sub_cancel_left, hh, Bool.and_false, Bool.and_false]
        · omega
      · have : decide (j < p + i) = decide (j < p + (i + 1)) := decide_eq_decide.2 (by omega)
        rw [this]
    by_cases hb : y.getLsbD i = true
    · rw [if_pos ((bit_of y i (by omega)).2 hb)]
      by_cases hN : p + i < 8 * s.size
      · have e1 : wrap64 (Int.tdiv ((p : Int) + (i : Int)) 8) = (((p + i) / 8 : Nat) : Int) := by
          rw [Int.tdiv_eq_ediv_of_nonneg (by omega), wrap64_id (by omega) (by omega)]
          omega
        have e2 : Int.tmod ((p : Int) + (i : Int)) 8 = (((p + i) % 8 : Nat) : Int) := by
          rw [Int.tmod_eq_emod_of_nonneg (by omega)]
          omega
        have hpow : 2 ^ ((p + i) % 8) < 256 := Nat.pow_lt_pow_right (m := (p + i) % 8) (n := 8) (a := 2) (by decide) (Nat.mod_lt _ (by decide))
        rw [if_pos (by omega), e1, e2, if_pos (by omega), if_pos (by omega), if_pos (by omega), Int.toNat_natCast, shl8 _ (Nat.mod_lt _ (by decide)), hB.cast, bits8 _ _ (hB.lt _) hpow]
        have hv := xor_lt8 (hB.lt ((p + i) / 8)) hpow
        refine ih (i + 1) k _ (by omega) (by omega) (by rw [List.length_set, hL]) ?_ ?_
        · intro j
          rw [rd_set L _ j _ (by omega)]
          by_cases e : j = (p + i) / 8
          · rw [if_pos e]
            omega
          · rw [if_neg e]
            exact hB j
        · intro j hj
          have h2 := h j hj
          have e3 : mbits (lnat (L.set ((p + i) / 8) ((lnat L ((p + i) / 8) ^^^ 2 ^ ((p + i) % 8) : Nat) : Int))) j = (mbits (lnat L) j ^^ decide (j = p + i)) := by
            unfold mbits
            conv => lhs; unfold lnat
            rw [rd_set L _ _ _ (by omega)]
            by_cases e : j / 8 = (p + i) / 8
            · rw [if_pos e, Int.toNat_natCast, Nat.testBit_xor, Nat.testBit_two_pow, e]
              have : decide ((p + i) % 8 = j % 8) = decide (j = p + i) := decide_eq_decide.2 (by omega)
              rw [this]
              rfl
            · rw [if_neg e, decide_eq_false (by omega), Bool.xor_false]
              rfl
          rw [e3, h2]
          by_cases e : j = p + i
          · subst e
            rw [decide_eq_false (by omega : ¬ p + i < p + i), decide_eq_true (by omega : p ≤ p + i), decide_eq_true (by omega : p + i < p + (i + 1)), Nat.add_sub_cancel_left, hb]
            simp
          · have : decide (j < p + i) = decide (j < p + (i + 1)) := decide_eq_decide.2 (by omega)
            rw [this, decide_eq_false e, Bool.xor_false]
      · rw [if_neg (by omega)]
        exact ih (i + 1) k L (by omega) (by omega) hL hB (skip (Or.inr (by omega)))
    · rw [if_neg (fun hh => hb ((bit_of y i (by omega)).1 hh))]
      exact ih (i + 1) k L (by omega) (by omega) hL hB (skip (Or.inl (by simpa using hb)))
theorem bursts_j0 (s : ByteArray) (hs : s.size ≤ 200) (a w : Int) (hw : 0 ≤ w ∧ w < 4294967296) (b : Bool) (hb : b = false → 0 < s.size) (k : Nat) (hk : 5000 < k) :
    transhipmentlaw01_FrameBursts.j0 k s a w b = some true := by
  obtain ⟨k, rfl⟩ : ∃ m, k = m + 1 := ⟨k - 1, by omega⟩
  simp only [transhipmentlaw01_FrameBursts.j0]
  cases b with
  | true => rw [if_pos rfl, alive_true k (by omega)]; rfl
  | false =>
    have h0 := hb rfl
    rw [if_neg (by simp), wrap64_id (x := 8 * (s.size : Int)) (by omega) (by omega), if_neg (by omega), if_pos (by omega)]
    have m0 : -(8 * (s.size : Int)) < Int.tmod a (8 * (s.size : Int)) ∧ Int.tmod a (8 * (s.size : Int)) < 8 * (s.size : Int) := by
      have h1 := Int.tmod_lt_of_pos a (show (0 : Int) < 8 * (s.size : Int) by omega)
      have h2 := Int.lt_tmod_of_pos a (show (0 : Int) < 8 * (s.size : Int) by omega)
      omega
    generalize Int.tmod a (8 * (s.size : Int)) = r at *
    rw [wrap64_id (x := r + 8 * (s.size : Int)) (by omega) (by omega)]
    have m1 : 0 ≤ Int.tmod (r + 8 * (s.size : Int)) (8 * (s.size : Int)) ∧ Int.tmod (r + 8 * (s.size : Int)) (8 * (s.size : Int)) < 8 * (s.size : Int) :=
      ⟨Int.tmod_nonneg _ (by omega), Int.tmod_lt_of_pos _ (by omega)⟩
    generalize Int.tmod (r + 8 * (s.size : Int)) (8 * (s.size : Int)) = q at *
    obtain ⟨p, rfl⟩ := Int.eq_ofNat_of_zero_le m1.1
    obtain ⟨n, rfl⟩ := Int.eq_ofNat_of_zero_le hw.1
    have ew : ((n : Nat) : Int) = ((BitVec.ofNat 32 n).toNat : Int) := by
      rw [BitVec.toNat_ofNat]
      omega
    rw [ew]
    refine bursts_l0 s hs (BitVec.ofNat 32 n) p (by omega) 32 0 k _ rfl (by omega) (bytesOf_length s) (bytesOf_Bytes s) ?_
    intro j _
    rw [show mbits (lnat (bytesOf s)) j = mbits (nat s) j by unfold mbits; rw [lnat_bytesOf]]
    by_cases e : p ≤ j
    · rw [decide_eq_false (by omega : ¬ j < p + 0)]
      simp
    · rw [decide_eq_false e]
      simp
theorem FrameBursts : transhipmentlaw01_FrameBursts.Pure := by
  intro a0 a1 a2 hs h1 h2
  refine ⟨100000, ?_⟩
  unfold transhipmentlaw01_FrameBursts.f
  have e0 : mn (a0.size : Int) (200 : Int) = ((min a0.size 200 : Nat) : Int) := mn_min a0.size 200
  rw [e0, if_pos (by omega), if_pos (by omega), Int.toNat_natCast]
  have hz : (a0.extract 0 (min a0.size 200)).size ≤ 200 := by rw [ByteArray.size_extract]; omega
  generalize a0.extract 0 (min a0.size 200) = s at *
  by_cases h : (s.size : Int) = 0
  · rw [if_pos h]
    exact bursts_j0 s hz a1 a2 (wf_u32 h2) true (by simp) _ (by decide)
  · rw [if_neg h]
    exact bursts_j0 s hz a1 a2 (wf_u32 h2) _ (fun _ => by omega) _ (by decide)

end Go.Proofs.Ytmngigklmgoibaa.Pure
