/- What a text that is taken apart comes to, by the program and by the document; what is bound is read as it was. Conditions: as each lemma says. -/
import Derived.Test.YtmngigklmgoibaaFrameLaw2
namespace Go.Proofs.Ytmngigklmgoibaa.P
open Go.RowKit Go.Proofs.YtmngigklmgoibaaW.PrintWords Go.Proofs.YtmngigklmgoibaaW.PrintLast Go.Proofs.YtmngigklmgoibaaW.PrintMore

theorem readB_ok (s : ByteArray) (h : (readB s).2.2 = 0) : 0 ≤ (readB s).1 ∧ (readB s).1 < 9223372036854775808 ∧ 1 ≤ (readB s).2.1 ∧ (readB s).2.1 ≤ s.size ∧ (readB s).2.1 ≤ 9 := by
  unfold readB at *
  cases hs : scan s (min s.size 9) 0 with
  | none =>
    rw [hs] at h
    unfold readAt at h
    simp only at h
    split at h <;> simp at h
  | some L =>
    rw [hs] at h
    have hL := scan_lt s _ _ _ hs
    unfold readAt at *
    simp only at *
    split at h
    · simp at h
    · rename_i hz
      rw [if_neg hz]
      have hv := val_range s (L + 1)
      have h9 : (128 : Int) ^ (L + 1) ≤ 128 ^ 9 := by
        have h : 128 ^ (L + 1) ≤ 128 ^ 9 := Nat.pow_le_pow_right (by decide) (by omega)
        exact_mod_cast h
      have e : (128 : Int) ^ 9 = 9223372036854775808 := by decide
      generalize (128 : Int) ^ (L + 1) = a at *
      rw [e] at h9
      refine ⟨hv.1, by omega, ?_, ?_, ?_⟩ <;> dsimp only <;> omega
theorem readB_err (s : ByteArray) : (readB s).2.2 = 0 ∨ (readB s).2.2 = 2 ∨ (readB s).2.2 = 3 ∨ (readB s).2.2 = 6 := by
  unfold readB
  cases scan s (min s.size 9) 0 with
  | none => unfold readAt; simp only; split <;> simp
  | some L => unfold readAt; simp only; split <;> simp

/-- A text, taken apart (so many steps at the most). -/
def looseGo : Nat → ByteArray → List ByteArray → List ByteArray × Int
  | 0, _, out => (out, 0)
  | d + 1, s, out =>
    if s.size = 0 then (out, 0)
    else if (readB s).2.2 ≠ 0 then ([], (readB s).2.2)
    else if (readB s).1 > 8192 ∨ out.length = 512 then ([], 2)
    else if (readB s).1 > s.size - (readB s).2.1 then ([], 3)
    else looseGo d (s.extract ((readB s).2.1.toNat + (readB s).1.toNat) s.size) (out ++ [s.extract (readB s).2.1.toNat ((readB s).2.1.toNat + (readB s).1.toNat)])
def looseB (s : ByteArray) : List ByteArray × Int := looseGo (s.size + 1) s []

theorem size_zero_iff (s : ByteArray) : s.toList = [] ↔ s.size = 0 := by
  rw [ByteArray.toList_eq, ← data_length, List.length_eq_zero_iff]

theorem frame_Loose_l0 : ∀ (d k : Nat) (s : ByteArray) (out : List ByteArray), s.size < d → s.size < 100000000000 → 2 * d + 100 < k → out.length ≤ 512 →
    frame_Loose.l0 k s out = some (looseGo d s out) := by
  intro d
  induction d with
  | zero => intro k s out h; omega
  | succ d ih =>
    intro k s out hd hs hk ho
    obtain ⟨k, rfl⟩ : ∃ m, k = m + 1 := ⟨k - 1, by omega⟩
    simp only [frame_Loose.l0, looseGo]
    by_cases h0 : s.size = 0
    · rw [if_pos ((size_zero_iff s).2 h0), if_pos h0]
    · rw [if_neg (fun h => h0 ((size_zero_iff s).1 h)), if_neg h0, frame_Read_eq s (by omega) k (by omega)]
      simp only [Option.bind_some]
      by_cases he : (readB s).2.2 = 0
      · have hr := readB_ok s he
        rw [if_pos he, if_neg (show ¬ ((readB s).2.2 ≠ 0) from fun h => h he)]
        have go : ∀ b : Bool, b = decide ((readB s).1 > 8192 ∨ out.length = 512) → frame_Loose.j1 k s out (readB s).1 (readB s).2.1 b = some (if (readB s).1 > 8192 ∨ out.length = 512 then ([], 2) else if (readB s).1 > s.size - (readB s).2.1 then ([], 3) else looseGo d (s.extract ((readB s).2.1.toNat + (readB s).1.toNat) s.size) (out ++ [s.extract (readB s).2.1.toNat ((readB s).2.1.toNat + (readB s).1.toNat)])) := by
          intro b hb
          generalize (readB s).1 = n at *
          generalize (readB s).2.1 = u at *
          obtain ⟨k, rfl⟩ : ∃ m, k = m + 1 := ⟨k - 1, by omega⟩
          simp only [frame_Loose.j1]
          by_cases hbig : n > 8192 ∨ out.length = 512
          · rw [hb, if_pos hbig, if_pos (by simp [hbig])]
          · rw [hb, if_neg hbig, if_neg (by simp [hbig])]
            rw [wrap64_id (x := (s.size : Int) - u) (by omega) (by omega)]
            by_cases hshort : n > s.size - u
            · rw [if_pos hshort, if_pos hshort]
            · rw [if_neg hshort, if_neg hshort, wrap64_id (x := u + n) (by omega) (by omega), if_pos (by omega), if_pos (by omega), if_pos (by omega), if_pos (by omega), if_pos (by omega)]
              rw [show (u + n).toNat = u.toNat + n.toNat by omega]
              exact ih k _ _ (by rw [ByteArray.size_extract]; omega) (by rw [ByteArray.size_extract]; omega) (by omega) (by simp only [List.length_append, List.length_singleton]; omega)
        by_cases hbig : (readB s).1 > 8192
        · rw [if_pos hbig]
          exact go true (by simp [hbig])
        · rw [if_neg hbig]
          refine go _ ?_
          by_cases h5 : out.length = 512
          · simp [h5]
          · rw [show ((out.length : Int) == 512) = false from beq_eq_false_iff_ne.2 (by omega)]
            symm
            exact decide_eq_false (by omega)
      · rw [if_neg he, if_pos he]
theorem frame_Loose_eq (s : ByteArray) (hs : s.size < 100000000000) (k : Nat) (hk : 2 * s.size + 200 < k) : frame_Loose.f k s = some (looseB s) := by
  unfold frame_Loose.f looseB
  exact frame_Loose_l0 (s.size + 1) k s [] (by omega) hs (by omega) (by simp)

theorem ref_Loose_l0 : ∀ (d k : Nat) (s : ByteArray) (out : List ByteArray), s.size < d → s.size < 100000000000 → 2 * d + 100 < k → out.length ≤ 512 →
    transhipmentref01_Loose.l0 k s out = some (looseGo d s out) := by
  intro d
  induction d with
  | zero => intro k s out h; omega
  | succ d ih =>
    intro k s out hd hs hk ho
    obtain ⟨k, rfl⟩ : ∃ m, k = m + 1 := ⟨k - 1, by omega⟩
    simp only [transhipmentref01_Loose.l0, looseGo]
    by_cases h0 : s.size = 0
    · rw [if_neg (by omega), if_pos h0]
    · rw [if_pos (by omega), if_neg h0, ref_Read_eq s (by omega) k (by omega)]
      simp only [Option.bind_some]
      by_cases he : (readB s).2.2 = 0
      · have hr := readB_ok s he
        rw [if_pos he, if_neg (show ¬ ((readB s).2.2 ≠ 0) from fun h => h he)]
        have go : ∀ b : Bool, b = decide ((readB s).1 > 8192 ∨ out.length = 512) → transhipmentref01_Loose.j1 k s out b (readB s).1 (readB s).2.1 (readB s).2.2 = some (if (readB s).1 > 8192 ∨ out.length = 512 then ([], 2) else if (readB s).1 > s.size - (readB s).2.1 then ([], 3) else looseGo d (s.extract ((readB s).2.1.toNat + (readB s).1.toNat) s.size) (out ++ [s.extract (readB s).2.1.toNat ((readB s).2.1.toNat + (readB s).1.toNat)])) := by
          intro b hb
          generalize (readB s).2.2 = e at *
          generalize (readB s).1 = n at *
          generalize (readB s).2.1 = u at *
          obtain ⟨k, rfl⟩ : ∃ m, k = m + 1 := ⟨k - 1, by omega⟩
          simp only [transhipmentref01_Loose.j1]
          by_cases hbig : n > 8192 ∨ out.length = 512
          · rw [hb, if_pos hbig, if_pos (by simp [hbig])]
          · rw [hb, if_neg hbig, if_neg (by simp [hbig]), if_pos (by omega), if_pos (by omega)]
            by_cases hshort : n > s.size - u
            · rw [if_pos hshort, if_pos (by omega)]
            · rw [if_neg hshort, if_neg (by omega), if_pos (by omega), if_pos (by omega), if_pos (by omega)]
              have e1 : (s.extract u.toNat s.size).extract n.toNat (s.extract u.toNat s.size).size = s.extract (u.toNat + n.toNat) s.size := by
                rw [ByteArray.extract_extract, ByteArray.size_extract]
                congr 1
                omega
              have e2 : (s.extract u.toNat s.size).extract 0 n.toNat = s.extract u.toNat (u.toNat + n.toNat) := by
                rw [ByteArray.extract_extract]
                congr 1
                omega
              first
                | rw [e1, e2]
                | (rw [show (s.size - u.toNat) = (s.extract u.toNat s.size).size by rw [ByteArray.size_extract]; omega, e1, e2])
              exact ih k _ _ (by rw [ByteArray.size_extract]; omega) (by rw [ByteArray.size_extract]; omega) (by omega) (by simp only [List.length_append, List.length_singleton]; omega)
        by_cases hbig : (readB s).1 > 8192
        · rw [if_pos hbig]
          exact go true (by simp [hbig])
        · rw [if_neg hbig]
          refine go _ ?_
          by_cases h5 : out.length = 512
          · simp [h5]
          · rw [show ((out.length : Int) == 512) = false from beq_eq_false_iff_ne.2 (by omega)]
            symm
            exact decide_eq_false (by omega)
      · rw [if_neg he, if_pos he]
theorem ref_Loose_eq (s : ByteArray) (hs : s.size < 100000000000) (k : Nat) (hk : 2 * s.size + 200 < k) : transhipmentref01_Loose.f k s = some (looseB s) := by
  unfold transhipmentref01_Loose.f looseB
  exact ref_Loose_l0 (s.size + 1) k s [] (by omega) hs (by omega) (by simp)
theorem looseGo_length : ∀ (d : Nat) (s : ByteArray) (out : List ByteArray), out.length ≤ 512 → (looseGo d s out).1.length ≤ 512
  | 0, _, _, h => h
  | d + 1, s, out, h => by
    unfold looseGo
    split
    · exact h
    · split
      · simp
      · split
        · simp
        · rename_i h1
          split
          · simp
          · exact looseGo_length d _ _ (by simp only [List.length_append, List.length_singleton]; omega)
theorem looseB_length (s : ByteArray) : (looseB s).1.length ≤ 512 := looseGo_length _ _ _ (by simp)
end Go.Proofs.Ytmngigklmgoibaa.P
