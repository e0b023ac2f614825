/- The check, taken over a text's parts, is that over the whole; it is what the plain reference says. Conditions: none. -/
import Derived.Test.YtmngigklmgoibaaPlaw01FrameChecks
import Derived.Test.YtmngigklmgoibaaFrameAlive
import Derived.Test.YtmngigklmgoibaaCrcLaw
namespace Go.Proofs.Ytmngigklmgoibaa.Pure
open Go.RowKit Go.Proofs.Ytmngigklmgoibaa.P Go.Proofs.YtmngigklmgoibaaW.PrintWords Go.Proofs.YtmngigklmgoibaaW.PrintLast Go.Proofs.YtmngigklmgoibaaW.PrintMore

theorem ref_On_l0 : ∀ (d k i : Nat) (X : BitVec 32), i + d = 8 → d < k → transhipmentref01_On.l0 k (X.toNat : Int) (i : Int) = some ((stepsB d X).toNat : Int) := by
  intro d
  induction d with
  | zero =>
    intro k i X hi hk
    obtain ⟨k, rfl⟩ : ∃ m, k = m + 1 := ⟨k - 1, by omega⟩
    simp only [transhipmentref01_On.l0]
    rw [if_neg (by omega)]
    rfl
  | succ d ih =>
    intro k i X hi hk
    obtain ⟨k, rfl⟩ : ∃ m, k = m + 1 := ⟨k - 1, by omega⟩
    have hX := X.isLt
    simp only [transhipmentref01_On.l0]
    have e1 : Int.tmod (X.toNat : Int) 2 = ((X.toNat % 2 : Nat) : Int) := by rw [Int.tmod_eq_emod_of_nonneg (by omega)]; omega
    have e2 : (Int.tdiv (X.toNat : Int) 2) % (4294967296 : Int) = ((X >>> 1).toNat : Int) := by
      rw [Int.tdiv_eq_ediv_of_nonneg (by omega), half_B]
      have := (X >>> 1).isLt
      omega
    have e3 : (3988292384 : Int) = ((3988292384#32).toNat : Int) := rfl
    rw [if_pos (by omega), e1, e2, wrap64_id (by omega) (by omega), stepsB_first]
    unfold stepB
    rw [low_B]
    by_cases h : X.toNat % 2 = 1
    · rw [if_pos (by omega), decide_eq_true h, e3, bits_xor_B]
      exact ih k (i + 1) _ (by omega) (by omega)
    · rw [if_neg (by omega), decide_eq_false h, show polB false = 0#32 from rfl, BitVec.xor_zero]
      exact ih k (i + 1) _ (by omega) (by omega)
theorem ref_On_eq (k : Nat) (hk : 10 < k) (X : BitVec 32) (b : Nat) (_ : b < 256) : transhipmentref01_On.f k (X.toNat : Int) (b : Int) = some ((byteB X b).toNat : Int) := by
  unfold transhipmentref01_On.f byteB
  have e : (b : Int) % (4294967296 : Int) = ((BitVec.ofNat 32 b).toNat : Int) := by
    rw [BitVec.toNat_ofNat]
    omega
  rw [e, bits_xor_B]
  exact ref_On_l0 8 k 0 _ rfl (by omega)
theorem ref_Crc_l0 (s : ByteArray) (hs : s.size < 10000) : ∀ (d i k : Nat) (X : BitVec 32), i + d = s.size → d + 20 < k → crcB s = foldB (fun j => nat s (i + j)) X d →
    transhipmentref01_Crc.l0 k s (X.toNat : Int) (i : Int) = some ((crcB s ^^^ 4294967295#32).toNat : Int) := by
  intro d
  induction d with
  | zero =>
    intro i k X hi hk hX
    obtain ⟨k, rfl⟩ : ∃ m, k = m + 1 := ⟨k - 1, by omega⟩
    simp only [transhipmentref01_Crc.l0]
    rw [if_neg (by omega), not_B, hX]
    rfl
  | succ d ih =>
    intro i k X hi hk hX
    obtain ⟨k, rfl⟩ : ∃ m, k = m + 1 := ⟨k - 1, by omega⟩
    simp only [transhipmentref01_Crc.l0]
    rw [if_pos (by omega), if_pos (by omega), nat_cast, ref_On_eq k (by omega) X _ (nat_lt s i), Option.bind_some, wrap64_id (by omega) (by omega)]
    refine ih (i + 1) k _ (by omega) (by omega) ?_
    rw [hX, foldB_first]
    refine foldB_congr _ _ (fun j _ => ?_)
    rw [Nat.add_assoc]
theorem ref_Crc_eq (s : ByteArray) (hs : s.size < 10000) (k : Nat) (hk : 10100 < k) : transhipmentref01_Crc.f k s = some ((crcB s ^^^ 4294967295#32).toNat : Int) := by
  unfold transhipmentref01_Crc.f
  refine ref_Crc_l0 s hs s.size 0 k 4294967295#32 (by omega) (by omega) ?_
  simp only [Nat.zero_add]
  rfl
theorem rd_nat (t : ByteArray) (i : Nat) : rd (bytesOf t) (i : Int) = (nat t i : Int) := by rw [rd_bytesOf, nat_cast]
theorem checks_l0 (s t : ByteArray) (hs : s.size < 1000) (ht : t.size < 1000) : ∀ (d i k : Nat) (X : BitVec 32), i + d = t.size → d + 20000 < k → crcB s = foldB (fun j => nat t (i + j)) X d →
    transhipmentlaw01_FrameChecks.l0 k s (X.toNat : Int) (bytesOf t) ((bytesOf t).length : Int) (i : Int) = some true := by
  intro d
  induction d with
  | zero =>
    intro i k X hi hk hX
    obtain ⟨k, rfl⟩ : ∃ m, k = m + 1 := ⟨k - 1, by omega⟩
    simp only [transhipmentlaw01_FrameChecks.l0]
    rw [bytesOf_length, if_neg (by omega), alive_true k (by omega), frame_Crc_B s (by omega), ref_Crc_eq s (by omega) k (by omega)]
    simp only [Option.bind_some, if_true]
    rw [not_B, hX]
    simp [foldB]
  | succ d ih =>
    intro i k X hi hk hX
    obtain ⟨k, rfl⟩ : ∃ m, k = m + 1 := ⟨k - 1, by omega⟩
    simp only [transhipmentlaw01_FrameChecks.l0]
    have hl := bytesOf_length t
    rw [if_pos (by omega), if_pos (by omega), if_pos (by omega), rd_nat, ref_On_eq k (by omega) X _ (nat_lt t i), Option.bind_some, wrap64_id (by omega) (by omega)]
    refine ih (i + 1) k _ (by omega) (by omega) ?_
    rw [hX, foldB_first]
    refine foldB_congr _ _ (fun j _ => ?_)
    rw [Nat.add_assoc]
theorem FrameChecks : transhipmentlaw01_FrameChecks.Pure := by
  intro a0 a1 hs hn
  refine ⟨100000, ?_⟩
  have hb := wf_i64 hn
  unfold transhipmentlaw01_FrameChecks.f
  have e0 : mn (a0.size : Int) (400 : Int) = ((min a0.size 400 : Nat) : Int) := mn_min a0.size 400
  rw [e0, if_pos (by omega), if_pos (by omega), Int.toNat_natCast]
  have hz : (a0.extract 0 (min a0.size 400)).size ≤ 400 := by rw [ByteArray.size_extract]; omega
  generalize a0.extract 0 (min a0.size 400) = s at *
  have e1 : wrap64 ((s.size : Int) + 1) = (s.size : Int) + 1 := wrap64_id (by omega) (by omega)
  rw [e1]
  have m0 : -(s.size : Int) - 1 < Int.tmod a1 ((s.size : Int) + 1) ∧ Int.tmod a1 ((s.size : Int) + 1) < (s.size : Int) + 1 := by
    have h1 := Int.tmod_lt_of_pos a1 (show (0 : Int) < (s.size : Int) + 1 by omega)
    have h2 := Int.lt_tmod_of_pos a1 (show (0 : Int) < (s.size : Int) + 1 by omega)
    omega
  generalize Int.tmod a1 ((s.size : Int) + 1) = r at *
  rw [wrap64_id (x := r + (s.size : Int)) (by omega) (by omega), wrap64_id (x := r + (s.size : Int) + 1) (by omega) (by omega)]
  have m1 : 0 ≤ Int.tmod (r + (s.size : Int) + 1) ((s.size : Int) + 1) ∧ Int.tmod (r + (s.size : Int) + 1) ((s.size : Int) + 1) < (s.size : Int) + 1 :=
    ⟨Int.tmod_nonneg _ (by omega), Int.tmod_lt_of_pos _ (by omega)⟩
  generalize Int.tmod (r + (s.size : Int) + 1) ((s.size : Int) + 1) = q at *
  obtain ⟨a, rfl⟩ := Int.eq_ofNat_of_zero_le m1.1
  rw [if_neg (by omega), if_pos (by omega), if_pos (by omega), Int.toNat_natCast]
  have z1 : (s.extract 0 a).size = a := by rw [ByteArray.size_extract]; omega
  have z2 : (s.extract a s.size).size = s.size - a := by rw [ByteArray.size_extract]; omega
  rw [frame_Crc_B _ (by omega), Option.bind_some, if_pos (by omega), Option.bind_some, not_B, ones_ones]
  refine checks_l0 s (s.extract a s.size) (by omega) (by omega) (s.size - a) 0 _ _ (by omega) (by omega) ?_
  have ea : crcB (s.extract 0 a) = foldB (nat s) 4294967295#32 a := by
    unfold crcB
    rw [z1]
    refine foldB_congr _ _ (fun i hi => ?_)
    rw [nat_extract _ _ _ _ (by omega), Nat.zero_add]
  rw [ea]
  unfold crcB
  conv => lhs; rw [show s.size = a + (s.size - a) by omega, foldB_add]
  refine foldB_congr _ _ (fun j hj => ?_)
  rw [nat_extract _ _ _ _ (by omega), Nat.zero_add]

end Go.Proofs.Ytmngigklmgoibaa.Pure
