/- Numbers, and texts that are bound, are read as they were. Conditions: as each lemma says. -/
import Derived.Test.YtmngigklmgoibaaFrameLaw3
namespace Go.Proofs.Ytmngigklmgoibaa.P
open Go.RowKit Go.Proofs.YtmngigklmgoibaaW.PrintWords Go.Proofs.YtmngigklmgoibaaW.PrintLast Go.Proofs.YtmngigklmgoibaaW.PrintMore

/-- From place i on a text has a number's bytes. -/
def HasNum (s : ByteArray) (i n : Nat) : Prop := ∀ j, j < (numL n).length → bt s ((i + j : Nat) : Int) = (numL n).getD j 0
theorem HasNum.read : ∀ (n i d : Nat) (s : ByteArray), HasNum s i n → (numL n).length ≤ d →
    scan s d i = some (i + (numL n).length - 1) ∧ val s (i + (numL n).length) = val s i + (n : Int) * 128 ^ i ∧ (bt s ((i + (numL n).length - 1 : Nat) : Int) = 0 → n = 0) := by
  intro n
  induction n using Nat.strongRecOn with
  | _ n ih =>
    intro i d s h hd
    have hp := numL_length_pos n
    obtain ⟨d, rfl⟩ : ∃ m, d = m + 1 := ⟨d - 1, by omega⟩
    have h0 := h 0 hp
    by_cases hn : n < 128
    · have e : numL n = [(n : Int)] := by unfold numL; rw [dif_pos hn]
      rw [e] at h0
      simp at h0
      rw [e]
      simp only [scan, List.length_singleton, Nat.add_sub_cancel]
      rw [h0, if_pos (by omega)]
      refine ⟨rfl, ?_, fun h => by omega⟩
      simp only [val]
      rw [h0, show (n : Int) % 128 = n by omega]
    · have e : numL n = ((n % 128 + 128 : Nat) : Int) :: numL (n / 128) := by
        conv => lhs; unfold numL
        rw [dif_neg hn]
      have hq := numL_length_pos (n / 128)
      rw [e] at h0 hd
      simp only [Nat.add_zero, List.getD_cons_zero] at h0
      simp only [List.length_cons] at hd
      have ht : HasNum s (i + 1) (n / 128) := by
        intro j hj
        have := h (j + 1) (by rw [e]; simp; exact hj)
        rw [e, List.getD_cons_succ] at this
        rw [← this]
        congr 2
        omega
      obtain ⟨h1, h2, h3⟩ := ih (n / 128) (by omega) (i + 1) d s ht (by omega)
      rw [e]
      simp only [scan, List.length_cons]
      rw [h0, if_neg (by omega), h1]
      refine ⟨by congr 1; omega, ?_, ?_⟩
      · rw [show i + ((numL (n / 128)).length + 1) = i + 1 + (numL (n / 128)).length by omega, h2]
        simp only [val, h0, Int.pow_succ]
        have e2 : (((n % 128 + 128 : Nat) : Int) % 128) = ((n % 128 : Nat) : Int) := by omega
        have e3 : (n : Int) = ((n % 128 : Nat) : Int) + ((n / 128 : Nat) : Int) * 128 := by omega
        rw [e2]
        conv => rhs; rw [e3]
        rw [Int.add_mul, Int.mul_comm (128 ^ i) 128, ← Int.mul_assoc]
        omega
      · intro hz
        exfalso
        have := h3 (by rw [← hz]; congr 2; omega)
        omega

theorem numL_byte (n : Nat) : ∀ j, j < (numL n).length → 0 ≤ (numL n).getD j 0 ∧ (numL n).getD j 0 < 256 := by
  induction n using Nat.strongRecOn with
  | _ n ih =>
    intro j hj
    by_cases hn : n < 128
    · have e : numL n = [(n : Int)] := by unfold numL; rw [dif_pos hn]
      rw [e] at hj ⊢
      simp at hj
      subst hj
      simp
      omega
    · have e : numL n = ((n % 128 + 128 : Nat) : Int) :: numL (n / 128) := by
        conv => lhs; unfold numL
        rw [dif_neg hn]
      rw [e] at hj ⊢
      cases j with
      | zero => simp; omega
      | succ j =>
        rw [List.getD_cons_succ]
        exact ih (n / 128) (by omega) j (by simpa using hj)
theorem bt_data (s : ByteArray) (j : Nat) : bt s (j : Int) = ((s.data.toList.getD j 0).toNat : Int) := by
  unfold bt
  rw [Int.toNat_natCast]
  split
  · rename_i h
    rw [List.getD_eq_getElem?_getD, List.getElem?_eq_getElem (by rw [data_length]; exact h)]
    simp [ByteArray.getElem_eq_getElem_data]
  · rename_i h
    rw [List.getD_eq_getElem?_getD, List.getElem?_eq_none (by rw [data_length]; omega)]
    rfl
theorem hasNum_append (n : Nat) (rest : ByteArray) : HasNum (numB (n : Int) ++ rest) 0 n := by
  intro j hj
  have hb := numL_byte n j hj
  rw [bt_data, ByteArray.data_append, Array.toList_append]
  unfold numB
  rw [strOfNums_data, Int.toNat_natCast]
  rw [List.getD_eq_getElem?_getD, List.getElem?_append_left (by simp; exact hj), List.getElem?_map]
  rw [List.getD_eq_getElem?_getD] at hb ⊢
  rw [Nat.zero_add, List.getElem?_eq_getElem hj] at *
  simp at hb ⊢
  omega
theorem numL_length_eq (n : Nat) : (numL n).length = (numB (n : Int)).size := by
  unfold numB
  rw [strOfNums_size, Int.toNat_natCast]
theorem readB_back (n : Nat) (hn : n < 4611686018427387904) (rest : ByteArray) : readB (numB (n : Int) ++ rest) = ((n : Int), ((numB (n : Int)).size : Int), 0) := by
  have hp := numL_length_pos n
  have hle : (numL n).length ≤ 9 := numL_length_le n 8 (by omega)
  have hs : (numB (n : Int)).size ≤ (numB (n : Int) ++ rest).size := by rw [ByteArray.size_append]; omega
  rw [← numL_length_eq] at hs
  obtain ⟨h1, h2, h3⟩ := (HasNum.read n 0 (min (numB (n : Int) ++ rest).size 9) _ (hasNum_append n rest) (by omega))
  unfold readB
  rw [h1]
  simp only [readAt, Nat.zero_add] at *
  rw [show (numL n).length - 1 + 1 = (numL n).length by omega, h2, ← numL_length_eq]
  rw [if_neg]
  · simp [val]
    omega
  · intro hz
    have := h3 hz.1
    subst this
    have e : numL 0 = [((0 : Nat) : Int)] := by unfold numL; rw [dif_pos (by decide)]
    rw [e] at hz
    simp at hz

/-! ### texts that are bound -/
theorem extract_list (s : ByteArray) (a b : Nat) : (s.extract a b).data.toList = (s.data.toList.drop a).take (b - a) := by
  rw [ByteArray.data_extract, Array.toList_extract, List.extract_eq_take_drop]
theorem extract_mid (a b c : ByteArray) : (a ++ (b ++ c)).extract a.size (a.size + b.size) = b := by
  apply ByteArray.ext
  apply Array.ext'
  rw [extract_list, ByteArray.data_append, ByteArray.data_append, Array.toList_append, Array.toList_append, ← data_length a, List.drop_left, Nat.add_sub_cancel_left, ← data_length b, List.take_left]
theorem extract_tail (a b c : ByteArray) (n : Nat) (hn : n = (a ++ (b ++ c)).size) : (a ++ (b ++ c)).extract (a.size + b.size) n = c := by
  apply ByteArray.ext
  apply Array.ext'
  subst hn
  rw [extract_list, ByteArray.data_append, ByteArray.data_append, Array.toList_append, Array.toList_append, ← List.append_assoc, show a.size + b.size = (a.data.toList ++ b.data.toList).length by rw [List.length_append, data_length, data_length], List.drop_left]
  apply List.take_of_length_le
  rw [data_length, List.length_append, data_length, data_length, ByteArray.size_append, ByteArray.size_append]
  omega
theorem boundB_nil : boundB [] = ByteArray.empty := rfl
theorem boundB_cons (p : ByteArray) (ps : List ByteArray) : boundB (p :: ps) = numB (p.size : Int) ++ (p ++ boundB ps) := by
  apply ByteArray.ext
  apply Array.ext'
  simp [boundB, bound, ByteArray.data_append]
theorem boundB_append (l m : List ByteArray) : boundB (l ++ m) = boundB l ++ boundB m := by
  induction l with
  | nil =>
    rw [List.nil_append, boundB_nil]
    simp
  | cons p ps ih => rw [List.cons_append, boundB_cons, boundB_cons, ih]; simp only [ByteArray.append_assoc]
theorem looseGo_back : ∀ (l : List ByteArray) (d : Nat) (out : List ByteArray), (∀ p ∈ l, p.size ≤ 8192) → out.length + l.length ≤ 512 → (boundB l).size < d →
    looseGo d (boundB l) out = (out ++ l, 0)
  | [], d, out, _, _, hd => by
    obtain ⟨d, rfl⟩ : ∃ m, d = m + 1 := ⟨d - 1, by omega⟩
    unfold looseGo
    rw [boundB_nil, if_pos (by rfl), List.append_nil]
  | p :: ps, d, out, hp, hl, hd => by
    obtain ⟨d, rfl⟩ : ∃ m, d = m + 1 := ⟨d - 1, by omega⟩
    have h1 : p.size ≤ 8192 := hp p (by simp)
    have hb := readB_back p.size (by omega) (p ++ boundB ps)
    have hn : 0 < (numB (p.size : Int)).size := by rw [← numL_length_eq]; exact numL_length_pos _
    simp only [List.length_cons] at hl
    rw [boundB_cons] at hd ⊢
    have hs : (numB (p.size : Int) ++ (p ++ boundB ps)).size = (numB (p.size : Int)).size + (p.size + (boundB ps).size) := by rw [ByteArray.size_append, ByteArray.size_append]
    unfold looseGo
    rw [hb]
    simp only
    rw [if_neg (by omega), if_neg (by simp), if_neg (by omega), if_neg (by omega), Int.toNat_natCast, Int.toNat_natCast]
    have e1 : (numB (p.size : Int) ++ (p ++ boundB ps)).extract (numB (p.size : Int)).size ((numB (p.size : Int)).size + p.size) = p := by
      exact extract_mid _ _ _
    have e2 : (numB (p.size : Int) ++ (p ++ boundB ps)).extract ((numB (p.size : Int)).size + p.size) (numB (p.size : Int) ++ (p ++ boundB ps)).size = boundB ps := extract_tail _ _ _ _ rfl
    rw [e1, e2, looseGo_back ps d _ (fun q hq => hp q (by simp [hq])) (by simp only [List.length_append, List.length_singleton]; omega) (by omega)]
    simp
theorem looseB_back (l : List ByteArray) (h : mayB l) : looseB (boundB l) = (l, 0) := by
  unfold looseB
  rw [looseGo_back l _ [] h.2 (by simp; exact h.1) (by omega)]
  simp
theorem boundB_inj {l m : List ByteArray} (hl : mayB l) (hm : mayB m) (h : boundB l = boundB m) : l = m := by
  have h1 := looseB_back l hl
  rw [h, looseB_back m hm] at h1
  exact (Prod.mk.inj h1).1.symm
theorem bound_size (l : List ByteArray) (h : ∀ p ∈ l, p.size ≤ 8200) : (boundB l).size ≤ l.length * 9000 := by
  induction l with
  | nil => rw [boundB_nil]; simp
  | cons p ps ih =>
    have := ih (fun q hq => h q (by simp [hq]))
    have h1 := h p (by simp)
    have hn := numB_size (p.size : Int) (by omega) (by omega)
    rw [boundB_cons, ByteArray.size_append, ByteArray.size_append, List.length_cons]
    omega
end Go.Proofs.Ytmngigklmgoibaa.P
