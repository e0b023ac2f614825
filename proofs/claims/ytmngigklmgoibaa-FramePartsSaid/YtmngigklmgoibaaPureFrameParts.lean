/- Texts that are bound in two rows, one behind the other, are those of both; a number has one byte more for each 7 bits. Conditions: none. -/
import Derived.Test.YtmngigklmgoibaaPlaw01FrameParts
import Derived.Test.YtmngigklmgoibaaFrameAlive
import Derived.Test.YtmngigklmgoibaaFrameLaw4
namespace Go.Proofs.Ytmngigklmgoibaa.Pure
open Go.RowKit Go.Proofs.Ytmngigklmgoibaa.P Go.Proofs.YtmngigklmgoibaaW.PrintWords Go.Proofs.YtmngigklmgoibaaW.PrintLast Go.Proofs.YtmngigklmgoibaaW.PrintMore

theorem parts_l0 (s : ByteArray) : ∀ (d k n : Nat) (c : Int), n < 128 ^ d → n < 9223372036854775808 → d < k → 0 ≤ c → c + d < 1000 →
    transhipmentlaw01_FrameParts.l0 k s c (n : Int) = some ((s.size : Int) == c + (if n = 0 then 0 else ((numL n).length : Int))) := by
  intro d
  induction d with
  | zero =>
    intro k n c hn hb hk h0 h1
    obtain ⟨k, rfl⟩ : ∃ m, k = m + 1 := ⟨k - 1, by omega⟩
    have : n = 0 := by simpa using hn
    subst this
    simp [transhipmentlaw01_FrameParts.l0]
  | succ d ih =>
    intro k n c hn hb hk h0 h1
    obtain ⟨k, rfl⟩ : ∃ m, k = m + 1 := ⟨k - 1, by omega⟩
    simp only [transhipmentlaw01_FrameParts.l0]
    by_cases h : n = 0
    · subst h
      simp
    · rw [if_pos (by omega), if_neg h, wrap64_id (by omega) (by omega), show ((n : Int) / 128) = ((n / 128 : Nat) : Int) by omega,
        ih k (n / 128) (c + 1) (by rw [Nat.pow_succ] at hn; omega) (by omega) (by omega) (by omega) (by omega)]
      by_cases h2 : n < 128
      · have e : numL n = [(n : Int)] := by unfold numL; rw [dif_pos h2]
        rw [if_pos (by omega), e]
        simp
      · have e : numL n = ((n % 128 + 128 : Nat) : Int) :: numL (n / 128) := by
          conv => lhs; unfold numL
          rw [dif_neg h2]
        rw [if_neg (by omega), e]
        simp only [List.length_cons]
        congr 2
        omega
theorem parts_j0 (n : Int) (hb : -9223372036854775808 ≤ n ∧ n < 9223372036854775808) (k : Nat) (hk : 1000 < k) : transhipmentlaw01_FrameParts.j0 k n false = some true := by
  obtain ⟨k, rfl⟩ : ∃ m, k = m + 1 := ⟨k - 1, by omega⟩
  simp only [transhipmentlaw01_FrameParts.j0]
  rw [if_neg (by simp), frame_Number_eq k (by omega) n hb]
  simp only [Option.bind_some]
  by_cases h : 0 ≤ n ∧ n < 4611686018427387904
  · obtain ⟨q, rfl⟩ := Int.eq_ofNat_of_zero_le h.1
    rw [if_pos h, if_pos (by trivial), show ((q : Int) / 128) = ((q / 128 : Nat) : Int) by omega, parts_l0 _ 10 k (q / 128) 1 (by omega) (by omega) (by omega) (by omega) (by omega), ← numL_length_eq]
    by_cases h2 : q < 128
    · have e : numL q = [(q : Int)] := by unfold numL; rw [dif_pos h2]
      rw [if_pos (by omega), e]
      simp
    · have e : numL q = ((q % 128 + 128 : Nat) : Int) :: numL (q / 128) := by
        conv => lhs; unfold numL
        rw [dif_neg h2]
      rw [if_neg (by omega)]
      conv => lhs; rw [e]
      simp only [List.length_cons, Option.some.injEq, beq_iff_eq]
      omega
  · rw [if_neg h, if_neg (by simp), if_pos (by simp [ByteArray.toList_eq])]
    by_cases h0 : n < 0
    · rw [if_pos h0]
    · rw [if_neg h0]
      simp
      omega
theorem FrameParts : transhipmentlaw01_FrameParts.Pure := by
  intro l m n hl hm hn
  refine ⟨100000, ?_⟩
  have hb := wf_i64 hn
  have go := parts_j0 n hb 100000 (by decide)
  unfold transhipmentlaw01_FrameParts.f
  rw [few_eq _ (by decide), few_eq _ (by decide)]
  simp only [Option.bind_some]
  have hl1 := fewL_length l
  have hl2 := @fewL_size l
  have hm1 := fewL_length m
  have hm2 := @fewL_size m
  generalize fewL l = a at *
  generalize fewL m = b at *
  have hab : ∀ p ∈ a ++ b, p.size ≤ 8200 := by
    intro p hp
    rcases List.mem_append.1 hp with h | h
    · exact hl2 p h
    · exact hm2 p h
  have hza := bound_size a hl2
  have hzb := bound_size b hm2
  rw [frame_Bind_eq _ (by decide) a hl2, frame_Bind_eq _ (by decide) b hm2]
  simp only [Option.bind_some, List.nil_append]
  rw [if_pos (by simp; omega)]
  rw [if_pos (by omega), frame_Bind_eq _ (by decide) (a ++ b) hab, alive_true _ (by decide)]
  simp only [Option.bind_some, Bool.not_true]
  rw [wrap64_id (by omega) (by omega)]
  have e : mayB (a ++ b) ↔ (a.length + b.length ≤ 512 ∧ mayB a ∧ mayB b) := by
    unfold mayB
    rw [List.length_append, List.forall_mem_append]
    constructor
    · rintro ⟨h1, h2, h3⟩
      exact ⟨h1, ⟨by omega, h2⟩, by omega, h3⟩
    · rintro ⟨h1, ⟨_, h2⟩, _, h3⟩
      exact ⟨h1, h2, h3⟩
  have hsum : (boundB a).size + (boundB b).size ≤ 9223372036854775807 := by omega
  have h5 : ((a.length : Int) + (b.length : Int) ≤ 512) ↔ a.length + b.length ≤ 512 := by omega
  set_option linter.unusedSimpArgs false in
  by_cases ha : mayB a <;> by_cases hbb : mayB b <;> by_cases h512 : a.length + b.length ≤ 512 <;> simp [e, ha, hbb, h512, h5, boundB_append, hsum, go]
end Go.Proofs.Ytmngigklmgoibaa.Pure
