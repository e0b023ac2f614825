/- What these functions of the program and of the plain reference compute, and plain lemmas on it: FrameLawA, FrameLawB, FrameLawC, FrameLawD, FrameLawE, CrcLawA, Pref02May, SealLaw1, SealLaw2, SealLaw3, PureSealCut, Opens. Conditions: as each lemma says. -/
import Derived.Test.YtceedgflpkaclaaDoorMLawSealCut2
import Derived.Test.YtceedgflpkaclaaDoorMLawSealCut4
import Derived.Laws.BitsLemmas
import Derived.Test.YtceedgflpkaclaaDoorMLawSealCut0
import Derived.Test.YtceedgflpkaclaaDoorMLawSealCut1
import Derived.Test.YtceedgflpkaclaaDoorMLawSealCut5
import Derived.ChangeArms
import Derived.ChangeSlices
import Derived.DataReads
import Derived.ChangeShapes
/- What the numbers of layer 1 come to: the program's functions and the document's, each as one plain Lean function. Conditions: as each lemma says. -/
namespace Go.Proofs.YtceedgflpkaclaaDoor.P
open Go.RowKit Go.Proofs.YtceedgflpkaclaaDoorW.PrintWords Go.Proofs.YtceedgflpkaclaaDoorW.PrintLast Go.Proofs.YtceedgflpkaclaaDoorW.PrintMore

/-! ### a number's bytes -/
def numL (n : Nat) : List Int := if h : n < 128 then [(n : Int)] else ((n % 128 + 128 : Nat) : Int) :: numL (n / 128)
termination_by n
decreasing_by omega

theorem numL_length_pos (n : Nat) : 0 < (numL n).length := by
  unfold numL
  split <;> simp
theorem numL_length_le (n : Nat) : ∀ d, n < 128 ^ (d + 1) → (numL n).length ≤ d + 1 := by
  induction n using Nat.strongRecOn with
  | _ n ih =>
    intro d hd
    unfold numL
    split
    · simp
    · rename_i h
      cases d with
      | zero => simp at hd; omega
      | succ d =>
        have := ih (n / 128) (by omega) d (by rw [Nat.pow_succ] at hd; omega)
        simp only [List.length_cons]
        omega

theorem wrap64_id {x : Int} (h0 : -9223372036854775808 ≤ x) (h1 : x < 9223372036854775808) : wrap64 x = x := by unfold wrap64; omega

theorem frame_Number_l0 : ∀ (d : Nat) (k n : Nat) (acc : List Int), n < 128 ^ (d + 1) → n < 9223372036854775808 → d < 100 → d < k → acc.length + d < 1000 →
    frame_Number.l0 k (n : Int) acc = some (strOfNums (acc ++ numL n), 0) := by
  intro d
  induction d with
  | zero =>
    intro k n acc hn hb hd hk ha
    obtain ⟨k, rfl⟩ : ∃ m, k = m + 1 := ⟨k - 1, by omega⟩
    have h128 : n < 128 := by simpa using hn
    simp only [frame_Number.l0]
    rw [if_neg (by omega), if_pos (by omega)]
    unfold numL
    rw [dif_pos h128, show (n : Int) % 256 = n by omega]
  | succ d ih =>
    intro k n acc hn hb hd hk ha
    obtain ⟨k, rfl⟩ : ∃ m, k = m + 1 := ⟨k - 1, by omega⟩
    simp only [frame_Number.l0]
    by_cases h : n < 128
    · rw [if_neg (by omega), if_pos (by omega)]
      unfold numL
      rw [dif_pos h, show (n : Int) % 256 = n by omega]
    · rw [if_pos (by omega), if_pos (by omega)]
      have e1 : wrap64 (Int.tdiv (n : Int) 128) = ((n / 128 : Nat) : Int) := by
        rw [Int.tdiv_eq_ediv_of_nonneg (by omega)]
        rw [wrap64_id (by omega) (by omega)]
        omega
      have e2 : wrap64 (Int.tmod (n : Int) 128 + 128) % 256 = ((n % 128 + 128 : Nat) : Int) := by
        rw [Int.tmod_eq_emod_of_nonneg (by omega)]
        rw [wrap64_id (by omega) (by omega)]
        omega
      rw [e1, e2, ih k (n / 128) _ (by rw [Nat.pow_succ] at hn; omega) (by omega) (by omega) (by omega) (by simp; omega)]
      conv => rhs; unfold numL
      rw [dif_neg h, List.append_assoc]
      rfl

def numB (n : Int) : ByteArray := strOfNums (numL n.toNat)
theorem frame_Number_eq (k : Nat) (hk : 20 < k) (n : Int) (h : -9223372036854775808 ≤ n ∧ n < 9223372036854775808) :
    frame_Number.f k n = some (if 0 ≤ n ∧ n < 4611686018427387904 then (numB n, 0) else (⟨#[]⟩, 1)) := by
  unfold frame_Number.f
  obtain ⟨k, rfl⟩ : ∃ m, k = m + 1 := ⟨k - 1, by omega⟩
  by_cases h0 : n < 0
  · rw [if_pos h0, if_neg (by omega)]
    simp only [frame_Number.j0]
    rfl
  · rw [if_neg h0]
    simp only [frame_Number.j0]
    by_cases h1 : n < 4611686018427387904
    · rw [if_neg (by simp; omega), if_pos (by omega)]
      obtain ⟨m, rfl⟩ := Int.eq_ofNat_of_zero_le (Int.not_lt.1 h0)
      rw [frame_Number_l0 10 k m [] (by omega) (by omega) (by omega) (by omega) (by simp)]
      simp [numB]
    · rw [if_pos (by simp; omega), if_neg (by omega)]

/-! ### a number at a text's beginning -/
/-- The number of the first bytes. -/
def val (s : ByteArray) : Nat → Int
  | 0 => 0
  | i + 1 => val s i + bt s i % 128 * 128 ^ i
theorem val_range (s : ByteArray) : ∀ i, 0 ≤ val s i ∧ val s i < 128 ^ i
  | 0 => by simp [val]
  | i + 1 => by
    obtain ⟨h0, h1⟩ := val_range s i
    have hp : (0 : Int) < 128 ^ i := Int.pow_pos (by decide)
    have hm0 : 0 ≤ bt s i % 128 := Int.emod_nonneg _ (by decide)
    have hm1 : bt s i % 128 ≤ 127 := by have := Int.emod_lt_of_pos (bt s i) (show (0 : Int) < 128 by decide); omega
    have h2 : 0 ≤ bt s i % 128 * 128 ^ i := Int.mul_nonneg hm0 (Int.le_of_lt hp)
    have h3 : bt s i % 128 * 128 ^ i ≤ 127 * 128 ^ i := Int.mul_le_mul_of_nonneg_right hm1 (Int.le_of_lt hp)
    simp only [val, Int.pow_succ]
    omega
/-- The first byte below 128, among d from i on. -/
def scan (s : ByteArray) : Nat → Nat → Option Nat
  | 0, _ => none
  | d + 1, i => if bt s i < 128 then some i else scan s d (i + 1)
def readAt (s : ByteArray) : Option Nat → Int × Int × Int
  | none => if 9 ≤ s.size then (0, 0, 2) else (0, 0, 3)
  | some L => if bt s L = 0 ∧ 0 < L then (0, 0, 6) else (val s (L + 1), (L : Int) + 1, 0)
def readB (s : ByteArray) : Int × Int × Int := readAt s (scan s (min s.size 9) 0)

theorem bits_or_comm (k : IntKind) (x y : Int) : Go.bits .or k x y = Go.bits .or k y x := by simp only [Go.bits, BitVec.or_comm]
theorem pow128 (i : Nat) : (128 : Int) ^ i = 2 ^ (7 * i) := by rw [Int.pow_mul]; rfl
theorem pow128_le (i : Nat) (hi : i ≤ 8) : (128 : Int) ^ i ≤ 72057594037927936 := by
  have h : 128 ^ i ≤ 128 ^ 8 := Nat.pow_le_pow_right (by decide) hi
  have h2 : ((128 ^ i : Nat) : Int) ≤ ((128 ^ 8 : Nat) : Int) := by exact_mod_cast h
  simpa using h2
theorem wrap_small {x : Int} (h0 : 0 ≤ x) (h1 : x < 2 ^ 63) : IntKind.i64.wrap x = x := by
  rw [IntKind.wrap_i64]
  omega
theorem or_low (x y : Int) (i : Nat) (hi : i ≤ 8) (hx0 : 0 ≤ x) (hx1 : x < 128 ^ i) (hy0 : 0 ≤ y) (hy1 : y < 128) : Go.bits .or .i64 x (y * 128 ^ i) = x + y * 128 ^ i := by
  have hp : (0 : Int) < 128 ^ i := Int.pow_pos (by decide)
  have hle := pow128_le i hi
  have h1 : 0 ≤ y * 128 ^ i := Int.mul_nonneg hy0 (Int.le_of_lt hp)
  have h2 : y * 128 ^ i ≤ 127 * 128 ^ i := Int.mul_le_mul_of_nonneg_right (by omega) (Int.le_of_lt hp)
  rw [bits_or_comm, bits_join .i64 63 (by decide) (fun n a b => wrap_small a b) (7 * i) (y * 128 ^ i) x h1 (by rw [← pow128]; exact Int.mul_emod_left _ _) (by omega) hx0 (by rw [← pow128]; exact hx1) (by omega)]
  omega
theorem shl7 (y : Int) (i : Nat) (hi : i ≤ 8) (hy0 : 0 ≤ y) (hy1 : y < 128) : shl .i64 y (7 * (i : Int)) = y * 128 ^ i := by
  have hp : (0 : Int) < 128 ^ i := Int.pow_pos (by decide)
  have hle := pow128_le i hi
  have h1 : 0 ≤ y * 128 ^ i := Int.mul_nonneg hy0 (Int.le_of_lt hp)
  have h2 : y * 128 ^ i ≤ 127 * 128 ^ i := Int.mul_le_mul_of_nonneg_right (by omega) (Int.le_of_lt hp)
  unfold shl
  rw [show min (7 * (i : Int)).toNat IntKind.i64.bits = 7 * i by simp [IntKind.bits]; omega, ← pow128]
  exact wrap_small h1 (by omega)

theorem or_step (s : ByteArray) (i : Nat) (hi : i ≤ 8) : Go.bits .or .i64 (val s i) (shl .i64 (bt s i % 128) (7 * (i : Int))) = val s (i + 1) := by
  have h0 : 0 ≤ bt s i % 128 := Int.emod_nonneg _ (by decide)
  have h1 : bt s i % 128 < 128 := Int.emod_lt_of_pos _ (by decide)
  rw [shl7 _ i hi h0 h1, or_low _ _ i hi (val_range s i).1 (val_range s i).2 h0 h1]
  rfl
theorem mn_min (a b : Nat) : mn (a : Int) (b : Int) = ((min a b : Nat) : Int) := by
  unfold mn
  split <;> omega

theorem frame_Read_l0 (s : ByteArray) (hs : s.size ≤ 9223372036854775807) : ∀ (d i k : Nat), i + d = min s.size 9 → d < k →
    frame_Read.l0 k s (val s i) ((min s.size 9 : Nat) : Int) i = some (readAt s (scan s d i)) := by
  intro d
  induction d with
  | zero =>
    intro i k hi hk
    obtain ⟨k, rfl⟩ : ∃ m, k = m + 1 := ⟨k - 1, by omega⟩
    simp only [frame_Read.l0, scan, readAt]
    rw [if_neg (by omega)]
    by_cases h : 9 ≤ s.size
    · rw [if_pos (by omega), if_pos h]
    · rw [if_neg (by omega), if_neg h]
  | succ d ih =>
    intro i k hi hk
    obtain ⟨k, rfl⟩ : ∃ m, k = m + 1 := ⟨k - 1, by omega⟩
    have hb := bt_range s i
    have hi9 : i ≤ 8 := by omega
    have his : i < s.size := by omega
    have e1 : wrap64 (7 * (i : Int)) = 7 * (i : Int) := wrap64_id (by omega) (by omega)
    have e2 : wrap64 (bt s (i : Int)) = bt s i := wrap64_id (by omega) (by omega)
    have e3 : wrap64 ((i : Int) + 1) = ((i + 1 : Nat) : Int) := wrap64_id (by omega) (by omega)
    have e4 : Int.tmod (bt s i) 128 = bt s i % 128 := Int.tmod_eq_emod_of_nonneg (by omega)
    have e5 : Go.bits .or .i64 (val s i) (shl .i64 (bt s i % 128) (7 * (i : Int))) = val s (i + 1) := or_step s i hi9
    simp only [frame_Read.l0, scan]
    rw [if_pos (by omega), if_pos (by omega), if_pos (by omega), e1, if_pos (by omega), e2, e3, e4, e5]
    by_cases hlow : bt s i < 128
    · rw [if_neg (by omega), if_pos hlow]
      simp only [readAt]
      by_cases hz : bt s i = 0
      · rw [if_pos hz]
        by_cases hi0 : 0 < i
        · rw [if_pos (by omega), if_pos ⟨hz, hi0⟩]
        · rw [if_neg (by omega), if_neg (by omega)]
          rfl
      · rw [if_neg hz, if_neg (fun h => hz h.1)]
        rfl
    · rw [if_pos (by omega), if_neg hlow]
      exact ih (i + 1) k (by omega) (by omega)
theorem frame_Read_eq (s : ByteArray) (hs : s.size ≤ 9223372036854775807) (k : Nat) (hk : 20 < k) : frame_Read.f k s = some (readB s) := by
  unfold frame_Read.f readB
  rw [show mn (s.size : Int) 9 = ((min s.size 9 : Nat) : Int) from mn_min _ 9]
  exact frame_Read_l0 s hs (min s.size 9) 0 k (by omega) (by omega)

/-! the document's -/
theorem scan_lt (s : ByteArray) : ∀ d i L, scan s d i = some L → i ≤ L ∧ L < i + d ∧ bt s L < 128 := by
  intro d
  induction d with
  | zero => intro i L h; simp [scan] at h
  | succ d ih =>
    intro i L h
    simp only [scan] at h
    split at h
    · rename_i hl
      obtain rfl := Option.some.inj h
      exact ⟨by omega, by omega, hl⟩
    · obtain ⟨h1, h2, h3⟩ := ih _ _ h
      exact ⟨by omega, by omega, h3⟩
end Go.Proofs.YtceedgflpkaclaaDoor.P

/- What texts that are bound, and taken apart, come to: the program's functions and the document's, each as one plain Lean function; what is bound is read as it was. Conditions: as each lemma says. -/
namespace Go.Proofs.YtceedgflpkaclaaDoor.P
open Go.RowKit Go.Proofs.YtceedgflpkaclaaDoorW.PrintWords Go.Proofs.YtceedgflpkaclaaDoorW.PrintLast Go.Proofs.YtceedgflpkaclaaDoorW.PrintMore

/-! ### bind -/
def bound : List ByteArray → List UInt8
  | [] => []
  | p :: ps => (numB (p.size : Int)).data.toList ++ (p.data.toList ++ bound ps)
def boundB (l : List ByteArray) : ByteArray := ⟨(bound l).toArray⟩
/-- May texts be bound? -/
def mayB (l : List ByteArray) : Prop := l.length ≤ 512 ∧ ∀ p ∈ l, p.size ≤ 8192
instance (l : List ByteArray) : Decidable (mayB l) := by unfold mayB; exact inferInstance
theorem numB_size (n : Int) (h0 : 0 ≤ n) (h1 : n < 9223372036854775808) : (numB n).size ≤ 10 := by
  unfold numB
  rw [strOfNums_size]
  exact numL_length_le _ 9 (by omega)
theorem bindGo_eq (k : Nat) (hk : 20 < k) : ∀ (l : List ByteArray) (out : List UInt8), (∀ p ∈ l, p.size ≤ 8200) → out.length + l.length * 9000 ≤ 100000000000 →
    bindGo k l out = some (if ∀ p ∈ l, p.size ≤ 8192 then (⟨(out ++ bound l).toArray⟩, 0) else (⟨#[]⟩, 2))
  | [], out, _, _ => by simp [bindGo, bound]
  | p :: ps, out, hp, hl => by
    have h1 : p.size ≤ 8200 := hp p (by simp)
    simp only [List.length_cons] at hl
    unfold bindGo
    by_cases h : p.size > 8192
    · rw [if_pos h, if_neg]
      intro hh
      have := hh p (by simp)
      omega
    · have hn := numB_size (p.size : Int) (by omega) (by omega)
      rw [if_neg h, frame_Number_eq k hk _ (by omega), if_pos (by omega)]
      simp only [Option.bind_some]
      rw [if_pos (by omega), bindGo_eq k hk ps _ (fun q hq => hp q (by simp [hq])) (by
        simp only [List.length_append]
        have e1 := data_length (numB (p.size : Int))
        have e2 := data_length p
        omega)]
      have e : (∀ q ∈ p :: ps, q.size ≤ 8192) ↔ ∀ q ∈ ps, q.size ≤ 8192 := by
        constructor
        · intro hh q hq
          exact hh q (by simp [hq])
        · intro hh q hq
          rcases List.mem_cons.1 hq with rfl | hq
          · omega
          · exact hh q hq
      by_cases hq : ∀ q ∈ ps, q.size ≤ 8192
      · rw [if_pos hq, if_pos (e.2 hq)]
        simp [bound]
      · rw [if_neg hq, if_neg (fun hh => hq (e.1 hh))]
theorem frame_Bind_eq (k : Nat) (hk : 20 < k) (l : List ByteArray) (hp : ∀ p ∈ l, p.size ≤ 8200) : frame_Bind.f k l = some (if mayB l then (boundB l, 0) else (⟨#[]⟩, 2)) := by
  unfold frame_Bind.f
  by_cases h : l.length > 512
  · rw [if_pos h, if_neg (fun hm => by have := hm.1; omega)]
  · rw [if_neg h, bindGo_eq k hk l [] hp (by simp; omega)]
    by_cases hq : ∀ p ∈ l, p.size ≤ 8192
    · rw [if_pos hq, if_pos ⟨by omega, hq⟩]
      rfl
    · rw [if_neg hq, if_neg (fun hm => hq hm.2)]

/-! ### same -/
theorem ref_Same_l0 (l m : List ByteArray) (hb : l.length < 9223372036854775807) (he : l.length = m.length) : ∀ (d i k : Nat), i + d = l.length → d < k →
    transhipmentref01_Same.l0 k l m (l.length : Int) (i : Int) = some (decide (l.drop i = m.drop i)) := by
  intro d
  induction d with
  | zero =>
    intro i k hi hk
    obtain ⟨k, rfl⟩ : ∃ m, k = m + 1 := ⟨k - 1, by omega⟩
    simp only [transhipmentref01_Same.l0]
    rw [if_neg (by omega), List.drop_of_length_le (by omega), List.drop_of_length_le (by omega)]
    simp
  | succ d ih =>
    intro i k hi hk
    obtain ⟨k, rfl⟩ : ∃ m, k = m + 1 := ⟨k - 1, by omega⟩
    have hl : i < l.length := by omega
    have hm : i < m.length := by omega
    simp only [transhipmentref01_Same.l0]
    rw [rdOf_string l i hl, rdOf_string m i hm, if_pos (by omega), if_pos (by omega), if_pos (by omega), if_pos (by omega), wrap64_id (by omega) (by omega), show ((i : Int) + 1) = ((i + 1 : Nat) : Int) by omega,
      ih (i + 1) k (by omega) (by omega), List.drop_eq_getElem_cons hl, List.drop_eq_getElem_cons hm]
    have e : (l[i].toList = m[i].toList) ↔ l[i] = m[i] := by
      rw [ByteArray.toList_eq, ByteArray.toList_eq]
      exact ⟨fun h => ByteArray.ext (Array.ext' h), fun h => by rw [h]⟩
    by_cases h : l[i] = m[i]
    · rw [if_pos (e.2 h)]
      congr 1
      exact decide_eq_decide.2 ⟨fun h' => by rw [h, h'], fun h' => (List.cons.inj h').2⟩
    · rw [if_neg (fun hh => h (e.1 hh))]
      congr 1
      symm
      exact decide_eq_false (fun h' => h (List.cons.inj h').1)
theorem ref_Same_eq (l m : List ByteArray) (hb : l.length < 5000) (k : Nat) (hk : 5000 < k) : transhipmentref01_Same.f k l m = some (decide (l = m)) := by
  unfold transhipmentref01_Same.f
  by_cases h : l.length = m.length
  · rw [if_pos (by omega), show (0 : Int) = ((0 : Nat) : Int) from rfl, ref_Same_l0 l m (by omega) h l.length 0 k (by omega) (by omega)]
    simp
  · rw [if_neg (by omega)]
    congr 1
    symm
    apply decide_eq_false
    intro e
    exact h (by rw [e])
end Go.Proofs.YtceedgflpkaclaaDoor.P

/- What a text that is taken apart comes to, by the program and by the document; what is bound is read as it was. Conditions: as each lemma says. -/
namespace Go.Proofs.YtceedgflpkaclaaDoor.P
open Go.RowKit Go.Proofs.YtceedgflpkaclaaDoorW.PrintWords Go.Proofs.YtceedgflpkaclaaDoorW.PrintLast Go.Proofs.YtceedgflpkaclaaDoorW.PrintMore

theorem readB_ok (s : ByteArray) (h : (readB s).2.2 = 0) : 0 ≤ (readB s).1 ∧ (readB s).1 < 9223372036854775808 ∧ 1 ≤ (readB s).2.1 ∧ (readB s).2.1 ≤ s.size ∧ (readB s).2.1 ≤ 9 := by
  unfold readB at *
  cases hs : scan s (min s.size 9) 0 with
  | none =>
    rw [hs] at h
    unfold readAt at h
    simp only at h
    split at h <;> simp at h
  | some L =>
    rw [hs] at h
    have hL := scan_lt s _ _ _ hs
    unfold readAt at *
    simp only at *
    split at h
    · simp at h
    · rename_i hz
      rw [if_neg hz]
      have hv := val_range s (L + 1)
      have h9 : (128 : Int) ^ (L + 1) ≤ 128 ^ 9 := by
        have h : 128 ^ (L + 1) ≤ 128 ^ 9 := Nat.pow_le_pow_right (by decide) (by omega)
        exact_mod_cast h
      have e : (128 : Int) ^ 9 = 9223372036854775808 := by decide
      generalize (128 : Int) ^ (L + 1) = a at *
      rw [e] at h9
      refine ⟨hv.1, by omega, ?_, ?_, ?_⟩ <;> dsimp only <;> omega
theorem readB_err (s : ByteArray) : (readB s).2.2 = 0 ∨ (readB s).2.2 = 2 ∨ (readB s).2.2 = 3 ∨ (readB s).2.2 = 6 := by
  unfold readB
  cases scan s (min s.size 9) 0 with
  | none => unfold readAt; simp only; split <;> simp
  | some L => unfold readAt; simp only; split <;> simp

/-- A text, taken apart (so many steps at the most). -/
def looseGo : Nat → ByteArray → List ByteArray → List ByteArray × Int
  | 0, _, out => (out, 0)
  | d + 1, s, out =>
    if s.size = 0 then (out, 0)
    else if (readB s).2.2 ≠ 0 then ([], (readB s).2.2)
    else if (readB s).1 > 8192 ∨ out.length = 512 then ([], 2)
    else if (readB s).1 > s.size - (readB s).2.1 then ([], 3)
    else looseGo d (s.extract ((readB s).2.1.toNat + (readB s).1.toNat) s.size) (out ++ [s.extract (readB s).2.1.toNat ((readB s).2.1.toNat + (readB s).1.toNat)])
def looseB (s : ByteArray) : List ByteArray × Int := looseGo (s.size + 1) s []

theorem size_zero_iff (s : ByteArray) : s.toList = [] ↔ s.size = 0 := by
  rw [ByteArray.toList_eq, ← data_length, List.length_eq_zero_iff]

theorem frame_Loose_l0 : ∀ (d k : Nat) (s : ByteArray) (out : List ByteArray), s.size < d → s.size < 100000000000 → 2 * d + 100 < k → out.length ≤ 512 →
    frame_Loose.l0 k s out = some (looseGo d s out) := by
  intro d
  induction d with
  | zero => intro k s out h; omega
  | succ d ih =>
    intro k s out hd hs hk ho
    obtain ⟨k, rfl⟩ : ∃ m, k = m + 1 := ⟨k - 1, by omega⟩
    simp only [frame_Loose.l0, looseGo]
    by_cases h0 : s.size = 0
    · rw [if_pos ((size_zero_iff s).2 h0), if_pos h0]
    · rw [if_neg (fun h => h0 ((size_zero_iff s).1 h)), if_neg h0, frame_Read_eq s (by omega) k (by omega)]
      simp only [Option.bind_some]
      by_cases he : (readB s).2.2 = 0
      · have hr := readB_ok s he
        rw [if_pos he, if_neg (show ¬ ((readB s).2.2 ≠ 0) from fun h => h he)]
        have go : ∀ b : Bool, b = decide ((readB s).1 > 8192 ∨ out.length = 512) → frame_Loose.j1 k s out (readB s).1 (readB s).2.1 b = some (if (readB s).1 > 8192 ∨ out.length = 512 then ([], 2) else if (readB s).1 > s.size - (readB s).2.1 then ([], 3) else looseGo d (s.extract ((readB s).2.1.toNat + (readB s).1.toNat) s.size) (out ++ [s.extract (readB s).2.1.toNat ((readB s).2.1.toNat + (readB s).1.toNat)])) := by
          intro b hb
          generalize (readB s).1 = n at *
          generalize (readB s).2.1 = u at *
          obtain ⟨k, rfl⟩ : ∃ m, k = m + 1 := ⟨k - 1, by omega⟩
          simp only [frame_Loose.j1]
          by_cases hbig : n > 8192 ∨ out.length = 512
          · rw [hb, if_pos hbig, if_pos (by simp [hbig])]
          · rw [hb, if_neg hbig, if_neg (by simp [hbig])]
            rw [wrap64_id (x := (s.size : Int) - u) (by omega) (by omega)]
            by_cases hshort : n > s.size - u
            · rw [if_pos hshort, if_pos hshort]
            · rw [if_neg hshort, if_neg hshort, wrap64_id (x := u + n) (by omega) (by omega), if_pos (by omega), if_pos (by omega), if_pos (by omega), if_pos (by omega), if_pos (by omega)]
              rw [show (u + n).toNat = u.toNat + n.toNat by omega]
              exact ih k _ _ (by rw [ByteArray.size_extract]; omega) (by rw [ByteArray.size_extract]; omega) (by omega) (by simp only [List.length_append, List.length_singleton]; omega)
        by_cases hbig : (readB s).1 > 8192
        · rw [if_pos hbig]
          exact go true (by simp [hbig])
        · rw [if_neg hbig]
          refine go _ ?_
          by_cases h5 : out.length = 512
          · simp [h5]
          · rw [show ((out.length : Int) == 512) = false from beq_eq_false_iff_ne.2 (by omega)]
            symm
            exact decide_eq_false (by omega)
      · rw [if_neg he, if_pos he]
theorem frame_Loose_eq (s : ByteArray) (hs : s.size < 100000000000) (k : Nat) (hk : 2 * s.size + 200 < k) : frame_Loose.f k s = some (looseB s) := by
  unfold frame_Loose.f looseB
  exact frame_Loose_l0 (s.size + 1) k s [] (by omega) hs (by omega) (by simp)

theorem looseGo_length : ∀ (d : Nat) (s : ByteArray) (out : List ByteArray), out.length ≤ 512 → (looseGo d s out).1.length ≤ 512
  | 0, _, _, h => h
  | d + 1, s, out, h => by
    unfold looseGo
    split
    · exact h
    · split
      · simp
      · split
        · simp
        · rename_i h1
          split
          · simp
          · exact looseGo_length d _ _ (by simp only [List.length_append, List.length_singleton]; omega)
theorem looseB_length (s : ByteArray) : (looseB s).1.length ≤ 512 := looseGo_length _ _ _ (by simp)
end Go.Proofs.YtceedgflpkaclaaDoor.P

/- Numbers, and texts that are bound, are read as they were. Conditions: as each lemma says. -/
namespace Go.Proofs.YtceedgflpkaclaaDoor.P
open Go.RowKit Go.Proofs.YtceedgflpkaclaaDoorW.PrintWords Go.Proofs.YtceedgflpkaclaaDoorW.PrintLast Go.Proofs.YtceedgflpkaclaaDoorW.PrintMore

/-- From place i on a text has a number's bytes. -/
def HasNum (s : ByteArray) (i n : Nat) : Prop := ∀ j, j < (numL n).length → bt s ((i + j : Nat) : Int) = (numL n).getD j 0
theorem HasNum.read : ∀ (n i d : Nat) (s : ByteArray), HasNum s i n → (numL n).length ≤ d →
    scan s d i = some (i + (numL n).length - 1) ∧ val s (i + (numL n).length) = val s i + (n : Int) * 128 ^ i ∧ (bt s ((i + (numL n).length - 1 : Nat) : Int) = 0 → n = 0) := by
  intro n
  induction n using Nat.strongRecOn with
  | _ n ih =>
    intro i d s h hd
    have hp := numL_length_pos n
    obtain ⟨d, rfl⟩ : ∃ m, d = m + 1 := ⟨d - 1, by omega⟩
    have h0 := h 0 hp
    by_cases hn : n < 128
    · have e : numL n = [(n : Int)] := by unfold numL; rw [dif_pos hn]
      rw [e] at h0
      simp at h0
      rw [e]
      simp only [scan, List.length_singleton, Nat.add_sub_cancel]
      rw [h0, if_pos (by omega)]
      refine ⟨rfl, ?_, fun h => by omega⟩
      simp only [val]
      rw [h0, show (n : Int) % 128 = n by omega]
    · have e : numL n = ((n % 128 + 128 : Nat) : Int) :: numL (n / 128) := by
        conv => lhs; unfold numL
        rw [dif_neg hn]
      have hq := numL_length_pos (n / 128)
      rw [e] at h0 hd
      simp only [Nat.add_zero, List.getD_cons_zero] at h0
      simp only [List.length_cons] at hd
      have ht : HasNum s (i + 1) (n / 128) := by
        intro j hj
        have := h (j + 1) (by rw [e]; simp; exact hj)
        rw [e, List.getD_cons_succ] at this
        rw [← this]
        congr 2
        omega
      obtain ⟨h1, h2, h3⟩ := ih (n / 128) (by omega) (i + 1) d s ht (by omega)
      rw [e]
      simp only [scan, List.length_cons]
      rw [h0, if_neg (by omega), h1]
      refine ⟨by congr 1; omega, ?_, ?_⟩
      · rw [show i + ((numL (n / 128)).length + 1) = i + 1 + (numL (n / 128)).length by omega, h2]
        simp only [val, h0, Int.pow_succ]
        have e2 : (((n % 128 + 128 : Nat) : Int) % 128) = ((n % 128 : Nat) : Int) := by omega
        have e3 : (n : Int) = ((n % 128 : Nat) : Int) + ((n / 128 : Nat) : Int) * 128 := by omega
        rw [e2]
        conv => rhs; rw [e3]
        rw [Int.add_mul, Int.mul_comm (128 ^ i) 128, ← Int.mul_assoc]
        omega
      · intro hz
        exfalso
        have := h3 (by rw [← hz]; congr 2; omega)
        omega

theorem numL_byte (n : Nat) : ∀ j, j < (numL n).length → 0 ≤ (numL n).getD j 0 ∧ (numL n).getD j 0 < 256 := by
  induction n using Nat.strongRecOn with
  | _ n ih =>
    intro j hj
    by_cases hn : n < 128
    · have e : numL n = [(n : Int)] := by unfold numL; rw [dif_pos hn]
      rw [e] at hj ⊢
      simp at hj
      subst hj
      simp
      omega
    · have e : numL n = ((n % 128 + 128 : Nat) : Int) :: numL (n / 128) := by
        conv => lhs; unfold numL
        rw [dif_neg hn]
      rw [e] at hj ⊢
      cases j with
      | zero => simp; omega
      | succ j =>
        rw [List.getD_cons_succ]
        exact ih (n / 128) (by omega) j (by simpa using hj)
theorem bt_data (s : ByteArray) (j : Nat) : bt s (j : Int) = ((s.data.toList.getD j 0).toNat : Int) := by
  unfold bt
  rw [Int.toNat_natCast]
  split
  · rename_i h
    rw [List.getD_eq_getElem?_getD, List.getElem?_eq_getElem (by rw [data_length]; exact h)]
    simp [ByteArray.getElem_eq_getElem_data]
  · rename_i h
    rw [List.getD_eq_getElem?_getD, List.getElem?_eq_none (by rw [data_length]; omega)]
    rfl
theorem hasNum_append (n : Nat) (rest : ByteArray) : HasNum (numB (n : Int) ++ rest) 0 n := by
  intro j hj
  have hb := numL_byte n j hj
  rw [bt_data, ByteArray.data_append, Array.toList_append]
  unfold numB
  rw [strOfNums_data, Int.toNat_natCast]
  rw [List.getD_eq_getElem?_getD, List.getElem?_append_left (by simp; exact hj), List.getElem?_map]
  rw [List.getD_eq_getElem?_getD] at hb ⊢
  rw [Nat.zero_add, List.getElem?_eq_getElem hj] at *
  simp at hb ⊢
  omega
theorem numL_length_eq (n : Nat) : (numL n).length = (numB (n : Int)).size := by
  unfold numB
  rw [strOfNums_size, Int.toNat_natCast]
theorem readB_back (n : Nat) (hn : n < 4611686018427387904) (rest : ByteArray) : readB (numB (n : Int) ++ rest) = ((n : Int), ((numB (n : Int)).size : Int), 0) := by
  have hp := numL_length_pos n
  have hle : (numL n).length ≤ 9 := numL_length_le n 8 (by omega)
  have hs : (numB (n : Int)).size ≤ (numB (n : Int) ++ rest).size := by rw [ByteArray.size_append]; omega
  rw [← numL_length_eq] at hs
  obtain ⟨h1, h2, h3⟩ := (HasNum.read n 0 (min (numB (n : Int) ++ rest).size 9) _ (hasNum_append n rest) (by omega))
  unfold readB
  rw [h1]
  simp only [readAt, Nat.zero_add] at *
  rw [show (numL n).length - 1 + 1 = (numL n).length by omega, h2, ← numL_length_eq]
  rw [if_neg]
  · simp [val]
    omega
  · intro hz
    have := h3 hz.1
    subst this
    have e : numL 0 = [((0 : Nat) : Int)] := by unfold numL; rw [dif_pos (by decide)]
    rw [e] at hz
    simp at hz

/-! ### texts that are bound -/
theorem extract_list (s : ByteArray) (a b : Nat) : (s.extract a b).data.toList = (s.data.toList.drop a).take (b - a) := by
  rw [ByteArray.data_extract, Array.toList_extract, List.extract_eq_take_drop]
theorem extract_mid (a b c : ByteArray) : (a ++ (b ++ c)).extract a.size (a.size + b.size) = b := by
  apply ByteArray.ext
  apply Array.ext'
  rw [extract_list, ByteArray.data_append, ByteArray.data_append, Array.toList_append, Array.toList_append, ← data_length a, List.drop_left, Nat.add_sub_cancel_left, ← data_length b, List.take_left]
theorem extract_tail (a b c : ByteArray) (n : Nat) (hn : n = (a ++ (b ++ c)).size) : (a ++ (b ++ c)).extract (a.size + b.size) n = c := by
  apply ByteArray.ext
  apply Array.ext'
  subst hn
  rw [extract_list, ByteArray.data_append, ByteArray.data_append, Array.toList_append, Array.toList_append, ← List.append_assoc, show a.size + b.size = (a.data.toList ++ b.data.toList).length by rw [List.length_append, data_length, data_length], List.drop_left]
  apply List.take_of_length_le
  rw [data_length, List.length_append, data_length, data_length, ByteArray.size_append, ByteArray.size_append]
  omega
theorem boundB_nil : boundB [] = ByteArray.empty := rfl
theorem boundB_cons (p : ByteArray) (ps : List ByteArray) : boundB (p :: ps) = numB (p.size : Int) ++ (p ++ boundB ps) := by
  apply ByteArray.ext
  apply Array.ext'
  simp [boundB, bound, ByteArray.data_append]
theorem boundB_append (l m : List ByteArray) : boundB (l ++ m) = boundB l ++ boundB m := by
  induction l with
  | nil =>
    rw [List.nil_append, boundB_nil]
    simp
  | cons p ps ih => rw [List.cons_append, boundB_cons, boundB_cons, ih]; simp only [ByteArray.append_assoc]
theorem looseGo_back : ∀ (l : List ByteArray) (d : Nat) (out : List ByteArray), (∀ p ∈ l, p.size ≤ 8192) → out.length + l.length ≤ 512 → (boundB l).size < d →
    looseGo d (boundB l) out = (out ++ l, 0)
  | [], d, out, _, _, hd => by
    obtain ⟨d, rfl⟩ : ∃ m, d = m + 1 := ⟨d - 1, by omega⟩
    unfold looseGo
    rw [boundB_nil, if_pos (by rfl), List.append_nil]
  | p :: ps, d, out, hp, hl, hd => by
    obtain ⟨d, rfl⟩ : ∃ m, d = m + 1 := ⟨d - 1, by omega⟩
    have h1 : p.size ≤ 8192 := hp p (by simp)
    have hb := readB_back p.size (by omega) (p ++ boundB ps)
    have hn : 0 < (numB (p.size : Int)).size := by rw [← numL_length_eq]; exact numL_length_pos _
    simp only [List.length_cons] at hl
    rw [boundB_cons] at hd ⊢
    have hs : (numB (p.size : Int) ++ (p ++ boundB ps)).size = (numB (p.size : Int)).size + (p.size + (boundB ps).size) := by rw [ByteArray.size_append, ByteArray.size_append]
    unfold looseGo
    rw [hb]
    simp only
    rw [if_neg (by omega), if_neg (by simp), if_neg (by omega), if_neg (by omega), Int.toNat_natCast, Int.toNat_natCast]
    have e1 : (numB (p.size : Int) ++ (p ++ boundB ps)).extract (numB (p.size : Int)).size ((numB (p.size : Int)).size + p.size) = p := by
      exact extract_mid _ _ _
    have e2 : (numB (p.size : Int) ++ (p ++ boundB ps)).extract ((numB (p.size : Int)).size + p.size) (numB (p.size : Int) ++ (p ++ boundB ps)).size = boundB ps := extract_tail _ _ _ _ rfl
    rw [e1, e2, looseGo_back ps d _ (fun q hq => hp q (by simp [hq])) (by simp only [List.length_append, List.length_singleton]; omega) (by omega)]
    simp
theorem looseB_back (l : List ByteArray) (h : mayB l) : looseB (boundB l) = (l, 0) := by
  unfold looseB
  rw [looseGo_back l _ [] h.2 (by simp; exact h.1) (by omega)]
  simp
theorem boundB_inj {l m : List ByteArray} (hl : mayB l) (hm : mayB m) (h : boundB l = boundB m) : l = m := by
  have h1 := looseB_back l hl
  rw [h, looseB_back m hm] at h1
  exact (Prod.mk.inj h1).1.symm
theorem bound_size (l : List ByteArray) (h : ∀ p ∈ l, p.size ≤ 8200) : (boundB l).size ≤ l.length * 9000 := by
  induction l with
  | nil => rw [boundB_nil]; simp
  | cons p ps ih =>
    have := ih (fun q hq => h q (by simp [hq]))
    have h1 := h p (by simp)
    have hn := numB_size (p.size : Int) (by omega) (by omega)
    rw [boundB_cons, ByteArray.size_append, ByteArray.size_append, List.length_cons]
    omega
end Go.Proofs.YtceedgflpkaclaaDoor.P

/- A number that is read was written so; what a text is taken apart to, bound again, is the text. Conditions: none. -/
namespace Go.Proofs.YtceedgflpkaclaaDoor.P
open Go.RowKit Go.Proofs.YtceedgflpkaclaaDoorW.PrintWords Go.Proofs.YtceedgflpkaclaaDoorW.PrintLast Go.Proofs.YtceedgflpkaclaaDoorW.PrintMore

/-- The number of so many bytes from a place on. -/
def vf (s : ByteArray) : Nat → Nat → Int
  | 0, _ => 0
  | d + 1, i => bt s (i : Int) % 128 + 128 * vf s d (i + 1)
theorem vf_nonneg (s : ByteArray) : ∀ d i : Nat, 0 ≤ vf s d i
  | 0, _ => by simp [vf]
  | d + 1, i => by
    have := vf_nonneg s d (i + 1)
    rw [vf]
    omega
theorem val_vf (s : ByteArray) : ∀ d i : Nat, val s (i + d) = val s i + 128 ^ i * vf s d i
  | 0, i => by simp [vf]
  | d + 1, i => by
    rw [show i + (d + 1) = (i + 1) + d by omega, val_vf s d (i + 1), val, vf, Int.pow_succ, Int.mul_add, ← Int.mul_assoc, Int.add_assoc, Int.mul_comm (bt s (i : Int) % 128)]
theorem vf_numL (s : ByteArray) : ∀ d i : Nat, (∀ j : Nat, i ≤ j → j < i + d → 128 ≤ bt s (j : Int)) → bt s ((i + d : Nat) : Int) < 128 → (0 < d → bt s ((i + d : Nat) : Int) ≠ 0) →
    numL (vf s (d + 1) i).toNat = (List.range (d + 1)).map (fun j => bt s ((i + j : Nat) : Int)) ∧ (bt s ((i + d : Nat) : Int) ≠ 0 → 0 < vf s (d + 1) i)
  | 0, i, _, h1, _ => by
    have hr := bt_range s ((i : Nat) : Int)
    simp only [Nat.add_zero] at h1 ⊢
    have e : vf s (0 + 1) i = bt s (i : Int) := by
      rw [Nat.zero_add, vf, vf]
      omega
    rw [e]
    refine ⟨?_, fun h => by omega⟩
    rw [numL, dif_pos (by omega)]
    simp
    omega
  | d + 1, i, h0, h1, h2 => by
    have hr := bt_range s ((i : Nat) : Int)
    have hi := h0 i (by omega) (by omega)
    rw [show i + (d + 1) = (i + 1) + d by omega] at h1 h2 ⊢
    have ih := vf_numL s d (i + 1) (fun j hj1 hj2 => h0 j (by omega) (by omega)) h1 (fun _ => h2 (by omega))
    have hp := ih.2 (h2 (by omega))
    have e : vf s (d + 1 + 1) i = bt s (i : Int) % 128 + 128 * vf s (d + 1) (i + 1) := by conv => lhs; rw [vf]
    rw [e]
    generalize vf s (d + 1) (i + 1) = V at *
    refine ⟨?_, fun _ => by omega⟩
    rw [numL, dif_neg (by omega)]
    have er : (List.range (d + 1 + 1)).map (fun j => bt s ((i + j : Nat) : Int)) = bt s (i : Int) :: (List.range (d + 1)).map (fun j => bt s ((i + 1 + j : Nat) : Int)) := by
      rw [List.range_succ_eq_map, List.map_cons, List.map_map]
      congr 1
      apply List.map_congr_left
      intro j _
      simp only [Function.comp_apply]
      rw [show i + 1 + j = i + (j + 1) by omega]
    rw [show (bt s (i : Int) % 128 + 128 * V).toNat / 128 = V.toNat by omega, ih.1, er]
    congr 1
    omega
theorem scan_before (s : ByteArray) : ∀ d i L : Nat, scan s d i = some L → ∀ j : Nat, i ≤ j → j < L → 128 ≤ bt s (j : Int)
  | 0, i, L, h => by simp [scan] at h
  | d + 1, i, L, h => by
    intro j hj1 hj2
    rw [scan] at h
    by_cases hb : bt s (i : Int) < 128
    · rw [if_pos hb] at h
      have := Option.some.inj h
      omega
    · rw [if_neg hb] at h
      by_cases e : j = i
      · subst e; omega
      · exact scan_before s d (i + 1) L h j (by omega) hj2
theorem strOfNums_range (s : ByteArray) (n : Nat) (hn : n ≤ s.size) : strOfNums ((List.range n).map fun j => bt s ((0 + j : Nat) : Int)) = s.extract 0 n := by
  apply ByteArray.ext
  apply Array.ext'
  rw [strOfNums_data, extract_list, List.drop_zero, List.map_map]
  apply List.ext_getElem
  · simp
    have := data_length s
    omega
  · intro j h1 h2
    simp only [List.getElem_map, List.getElem_range, Function.comp_apply, List.getElem_take]
    rw [Nat.zero_add, bt_data]
    simp at h1 h2
    rw [List.getD_eq_getElem?_getD, List.getElem?_eq_getElem (by have := data_length s; omega)]
    simp
theorem read_canon (s : ByteArray) (h : (readB s).2.2 = 0) : numB (readB s).1 = s.extract 0 (readB s).2.1.toNat := by
  have hok := readB_ok s h
  revert h hok
  unfold readB
  cases hs : scan s (min s.size 9) 0 with
  | none =>
    intro h
    unfold readAt at h
    simp only at h
    split at h <;> simp at h
  | some L =>
    intro h hok
    have hL := scan_lt s _ _ _ hs
    have hb := scan_before s _ _ _ hs
    unfold readAt at *
    simp only at *
    split at h
    · simp at h
    · rename_i hz
      rw [if_neg hz] at hok ⊢
      have hv := vf_numL s L 0 (fun j h1 h2 => hb j h1 (by omega)) (by rw [Nat.zero_add]; exact hL.2.2) (fun h0 => by rw [Nat.zero_add]; exact fun he => hz ⟨he, h0⟩)
      have hval : val s (L + 1) = vf s (L + 1) 0 := by
        have := val_vf s (L + 1) 0
        rw [Nat.zero_add] at this
        rw [this]
        simp [val]
      unfold numB
      simp only
      rw [hval, hv.1, show ((L : Int) + 1).toNat = L + 1 by omega]
      exact strOfNums_range s (L + 1) (by omega)
theorem boundB_one (p : ByteArray) : boundB [p] = numB (p.size : Int) ++ p := by
  rw [boundB_cons, boundB_nil]
  congr 1
  apply ByteArray.ext
  apply Array.ext'
  simp
theorem looseGo_bound : ∀ (d : Nat) (s : ByteArray) (out l : List ByteArray), s.size < d → looseGo d s out = (l, 0) → boundB l = boundB out ++ s
  | 0, s, out, l, hd, _ => by omega
  | d + 1, s, out, l, hd, h => by
    rw [looseGo] at h
    by_cases h0 : s.size = 0
    · rw [if_pos h0] at h
      obtain rfl : out = l := (Prod.mk.inj h).1
      apply ByteArray.ext
      apply Array.ext'
      have := data_length s
      rw [ByteArray.data_append, Array.toList_append, List.length_eq_zero_iff.1 (by omega : s.data.toList.length = 0), List.append_nil]
    · rw [if_neg h0] at h
      by_cases h1 : (readB s).2.2 ≠ 0
      · rw [if_pos h1] at h
        exact absurd (Prod.mk.inj h).2 h1
      · rw [if_neg h1] at h
        have h1' : (readB s).2.2 = 0 := Decidable.not_not.1 h1
        have hok := readB_ok s h1'
        have hc := read_canon s h1'
        by_cases h2 : (readB s).1 > 8192 ∨ out.length = 512
        · rw [if_pos h2] at h
          cases h
        · rw [if_neg h2] at h
          by_cases h3 : (readB s).1 > s.size - (readB s).2.1
          · rw [if_pos h3] at h
            cases h
          · rw [if_neg h3] at h
            obtain ⟨a, ha⟩ : ∃ a : Nat, (readB s).2.1 = (a : Int) := ⟨(readB s).2.1.toNat, by omega⟩
            obtain ⟨b, hb⟩ : ∃ b : Nat, (readB s).1 = (b : Int) := ⟨(readB s).1.toNat, by omega⟩
            rw [ha, hb] at h h3 hok
            rw [ha, hb] at hc
            rw [hb] at h2
            simp only [Int.toNat_natCast] at h hc
            have ih := looseGo_bound d _ _ l (by rw [ByteArray.size_extract]; omega) h
            rw [ih, boundB_append, boundB_one, ByteArray.size_extract, show min (a + b) s.size - a = b by omega, hc]
            apply ByteArray.ext
            apply Array.ext'
            simp only [ByteArray.data_append, Array.toList_append, extract_list, List.drop_zero, List.append_assoc]
            congr 1
            have hl := data_length s
            generalize s.data.toList = L at hl
            rw [List.take_of_length_le (l := List.drop (a + b) L) (by simp; omega), show a + b - a = b by omega, Nat.sub_zero, ← List.drop_drop, List.take_append_drop, List.take_append_drop]
theorem looseB_bound (s : ByteArray) (l : List ByteArray) (h : looseB s = (l, 0)) : boundB l = s := by
  have := looseGo_bound _ _ _ _ (by omega) h
  rw [this, boundB_nil]
  apply ByteArray.ext
  apply Array.ext'
  simp
theorem looseGo_sizes : ∀ (d : Nat) (s : ByteArray) (out : List ByteArray), (∀ p ∈ out, p.size ≤ 8192) → ∀ p ∈ (looseGo d s out).1, p.size ≤ 8192
  | 0, _, _, h => h
  | d + 1, s, out, h => by
    rw [looseGo]
    split
    · exact h
    · split
      · simp
      · split
        · simp
        · split
          · simp
          · rename_i h1 h2 h3
            refine looseGo_sizes d _ _ ?_
            intro p hp
            rcases List.mem_append.1 hp with hp | hp
            · exact h p hp
            · obtain rfl := List.mem_singleton.1 hp
              rw [ByteArray.size_extract]
              omega
theorem looseB_sizes (s : ByteArray) : ∀ p ∈ (looseB s).1, p.size ≤ 8192 := looseGo_sizes _ _ _ (by simp)
end Go.Proofs.YtceedgflpkaclaaDoor.P

/- The check, over words of 32 bits: linear, byte by byte, bit by bit; a burst of 32 bits or fewer changes it. Conditions: none. -/
namespace Go.Proofs.YtceedgflpkaclaaDoor.P
open Go.RowKit Go.Proofs.YtceedgflpkaclaaDoorW.PrintWords Go.Proofs.YtceedgflpkaclaaDoorW.PrintLast Go.Proofs.YtceedgflpkaclaaDoorW.PrintMore

def polB (b : Bool) : BitVec 32 := if b then 3988292384#32 else 0#32
def stepB (x : BitVec 32) : BitVec 32 := (x >>> 1) ^^^ polB (x.getLsbD 0)
theorem polB_xor (a b : Bool) : polB (a ^^ b) = polB a ^^^ polB b := by cases a <;> cases b <;> decide
theorem stepB_xor (x y : BitVec 32) : stepB (x ^^^ y) = stepB x ^^^ stepB y := by
  unfold stepB
  rw [BitVec.getLsbD_xor, polB_xor, BitVec.ushiftRight_xor_distrib]
  apply BitVec.eq_of_getLsbD_eq
  intro i hi
  simp only [BitVec.getLsbD_xor]
  cases (x >>> 1).getLsbD i <;> cases (y >>> 1).getLsbD i <;> cases (polB (x.getLsbD 0)).getLsbD i <;> cases (polB (y.getLsbD 0)).getLsbD i <;> rfl
theorem stepB_zero : stepB 0#32 = 0#32 := by decide
/-- A step loses nothing. -/
theorem stepB_eq_zero {x : BitVec 32} (h : stepB x = 0#32) : x = 0#32 := by
  have h31 : (stepB x).getLsbD 31 = false := by rw [h]; rfl
  have h0 : x.getLsbD 0 = false := by
    cases hx : x.getLsbD 0 with
    | false => rfl
    | true =>
      unfold stepB at h31
      rw [hx, BitVec.getLsbD_xor, BitVec.getLsbD_ushiftRight, BitVec.getLsbD_of_ge x (1 + 31) (by decide)] at h31
      exact absurd h31 (by decide)
  apply BitVec.eq_of_getLsbD_eq
  intro i hi
  cases i with
  | zero => rw [h0]; rfl
  | succ i =>
    have : (stepB x).getLsbD i = false := by rw [h]; simp
    unfold stepB at this
    rw [h0, BitVec.getLsbD_xor, BitVec.getLsbD_ushiftRight] at this
    have e : (polB false).getLsbD i = false := by simp [polB]
    rw [e, Bool.xor_false, Nat.add_comm] at this
    rw [this]
    simp

def stepsB : Nat → BitVec 32 → BitVec 32
  | 0, x => x
  | n + 1, x => stepB (stepsB n x)
theorem stepsB_xor (x y : BitVec 32) : ∀ n, stepsB n (x ^^^ y) = stepsB n x ^^^ stepsB n y
  | 0 => rfl
  | n + 1 => by rw [stepsB, stepsB_xor x y n, stepB_xor]; rfl
theorem stepsB_eq_zero {x : BitVec 32} : ∀ n, stepsB n x = 0#32 → x = 0#32
  | 0, h => h
  | n + 1, h => stepsB_eq_zero n (stepB_eq_zero h)

/-! ### bit by bit -/
def bitB (b : Bool) : BitVec 32 := if b then 1#32 else 0#32
def runB (m : Nat → Bool) (x : BitVec 32) : Nat → BitVec 32
  | 0 => x
  | j + 1 => stepB (runB m x j ^^^ bitB (m j))
theorem bitB_xor (a b : Bool) : bitB (a ^^ b) = bitB a ^^^ bitB b := by cases a <;> cases b <;> decide
theorem step_bit (g w : BitVec 32) : stepB (g ^^^ w) = stepB (g ^^^ bitB (w.getLsbD 0)) ^^^ (w >>> 1) := by
  have e : bitB (w.getLsbD 0) >>> 1 = 0#32 := by cases w.getLsbD 0 <;> decide
  have e2 : (bitB (w.getLsbD 0)).getLsbD 0 = w.getLsbD 0 := by cases w.getLsbD 0 <;> decide
  unfold stepB
  rw [BitVec.getLsbD_xor, BitVec.getLsbD_xor, e2, BitVec.ushiftRight_xor_distrib, BitVec.ushiftRight_xor_distrib, e]
  apply BitVec.eq_of_getLsbD_eq
  intro i hi
  simp only [BitVec.getLsbD_xor, BitVec.getLsbD_zero]
  cases (g >>> 1).getLsbD i <;> cases (w >>> 1).getLsbD i <;> cases (polB (g.getLsbD 0 ^^ w.getLsbD 0)).getLsbD i <;> rfl
theorem steps_bits (x y : BitVec 32) : ∀ n, stepsB n (x ^^^ y) = runB (fun i => y.getLsbD i) x n ^^^ (y >>> n)
  | 0 => by simp [stepsB, runB]
  | n + 1 => by
    rw [stepsB, steps_bits x y n, step_bit]
    rw [runB, BitVec.shiftRight_add, show (y >>> n).getLsbD 0 = y.getLsbD n by simp]
theorem runB_add (m : Nat → Bool) (x : BitVec 32) (a : Nat) : ∀ b, runB m x (a + b) = runB (fun i => m (a + i)) (runB m x a) b
  | 0 => rfl
  | b + 1 => by rw [← Nat.add_assoc, runB, runB_add m x a b]; rfl
theorem runB_congr {m m' : Nat → Bool} (x : BitVec 32) : ∀ n, (∀ i, i < n → m i = m' i) → runB m x n = runB m' x n
  | 0, _ => rfl
  | n + 1, h => by rw [runB, runB, runB_congr x n (fun i hi => h i (by omega)), h n (by omega)]
theorem runB_xor (m m' : Nat → Bool) (x y : BitVec 32) : ∀ n, runB (fun i => m i ^^ m' i) (x ^^^ y) n = runB m x n ^^^ runB m' y n
  | 0 => rfl
  | n + 1 => by
    rw [runB, runB_xor m m' x y n, bitB_xor, runB, runB, ← stepB_xor]
    congr 1
    apply BitVec.eq_of_getLsbD_eq
    intro i hi
    simp only [BitVec.getLsbD_xor]
    cases (runB m x n).getLsbD i <;> cases (runB m' y n).getLsbD i <;> cases (bitB (m n)).getLsbD i <;> cases (bitB (m' n)).getLsbD i <;> rfl

/-- What 32 bits that follow one another leave is never nothing. -/
theorem burst_ne (e : Nat → Bool) (at_ q N : Nat) (hq : q ≤ 32) (hN : at_ + q ≤ N) (y : BitVec 32) (hy : y ≠ 0#32) (hyq : ∀ i, q ≤ i → y.getLsbD i = false)
    (h : ∀ j, j < N → e j = (decide (at_ ≤ j) && decide (j < at_ + q) && y.getLsbD (j - at_))) : runB e 0#32 N ≠ 0#32 := by
  have h1 : ∀ j, j ≤ at_ → runB e 0#32 j = 0#32 := by
    intro j
    induction j with
    | zero => intro _; rfl
    | succ j ih =>
      intro hj
      rw [runB, ih (by omega), h j (by omega), decide_eq_false (by omega : ¬ at_ ≤ j)]
      simp only [Bool.false_and]
      rw [show bitB false = 0#32 from rfl, BitVec.xor_zero]
      exact stepB_zero
  have h2 : runB e 0#32 (at_ + q) = stepsB q y := by
    rw [runB_add, h1 at_ (Nat.le_refl _)]
    have := steps_bits 0#32 y q
    rw [show (0#32 ^^^ y) = y by simp] at this
    rw [this]
    have e0 : y >>> q = 0#32 := by
      apply BitVec.eq_of_getLsbD_eq
      intro i hi
      rw [BitVec.getLsbD_ushiftRight, hyq (q + i) (by omega)]
      simp
    rw [e0, BitVec.xor_zero]
    apply runB_congr
    intro i hi
    rw [h (at_ + i) (by omega), decide_eq_true (by omega : at_ ≤ at_ + i), decide_eq_true (by omega : at_ + i < at_ + q), Nat.add_sub_cancel_left]
    rfl
  have h3 : ∀ r, at_ + q + r ≤ N → runB e 0#32 (at_ + q + r) = stepsB (q + r) y := by
    intro r
    induction r with
    | zero => intro _; exact h2
    | succ r ih =>
      intro hr
      rw [← Nat.add_assoc, runB, ih (by omega), h (at_ + q + r) (by omega), decide_eq_false (by omega : ¬ at_ + q + r < at_ + q)]
      simp only [Bool.and_false, Bool.false_and]
      rw [show bitB false = 0#32 from rfl, BitVec.xor_zero, ← Nat.add_assoc]
      rfl
  have h4 := h3 (N - (at_ + q)) (by omega)
  rw [show at_ + q + (N - (at_ + q)) = N by omega] at h4
  rw [h4]
  intro hz
  exact hy (stepsB_eq_zero _ hz)

/-! ### the program's words -/
theorem ofInt_toNat (x : BitVec 32) : BitVec.ofInt 32 (x.toNat : Int) = x := by
  rw [BitVec.ofInt_natCast, BitVec.ofNat_toNat, BitVec.setWidth_eq]
theorem wrap_toNat (x : BitVec 32) : IntKind.u32.wrap (x.toNat : Int) = (x.toNat : Int) := by
  rw [IntKind.wrap_u32]
  have := x.isLt
  omega
theorem bits_xor_B (x y : BitVec 32) : Go.bits .xor .u32 (x.toNat : Int) (y.toNat : Int) = ((x ^^^ y).toNat : Int) := by
  have h : Go.bits .xor .u32 (x.toNat : Int) (y.toNat : Int) = IntKind.u32.wrap (((BitVec.ofInt 32 (x.toNat : Int)) ^^^ (BitVec.ofInt 32 (y.toNat : Int))).toNat : Int) := rfl
  rw [h, ofInt_toNat, ofInt_toNat, wrap_toNat]
theorem bits_and_B (x y : BitVec 32) : Go.bits .and .u32 (x.toNat : Int) (y.toNat : Int) = ((x &&& y).toNat : Int) := by
  have h : Go.bits .and .u32 (x.toNat : Int) (y.toNat : Int) = IntKind.u32.wrap (((BitVec.ofInt 32 (x.toNat : Int)) &&& (BitVec.ofInt 32 (y.toNat : Int))).toNat : Int) := rfl
  rw [h, ofInt_toNat, ofInt_toNat, wrap_toNat]
theorem half_B (x : BitVec 32) : (x.toNat : Int) / (2 : Int) = ((x >>> 1).toNat : Int) := by
  rw [BitVec.toNat_ushiftRight, Nat.shiftRight_eq_div_pow]
  omega
theorem low_B (x : BitVec 32) : x.getLsbD 0 = decide (x.toNat % 2 = 1) := by
  rw [BitVec.getLsbD, Nat.testBit_zero]
theorem crcStep_B (x : BitVec 32) : crcStep (x.toNat : Int) = ((stepB x).toNat : Int) := by
  unfold crcStep stepB
  have e1 : (1 : Int) = ((1#32).toNat : Int) := rfl
  have e2 : (3988292384 : Int) = ((3988292384#32).toNat : Int) := rfl
  have ha : Go.bits .and .u32 (x.toNat : Int) 1 = ((x.toNat % 2 : Nat) : Int) := by
    conv => lhs; rw [e1]
    rw [bits_and_B, BitVec.toNat_and]
    exact congrArg Int.ofNat (Nat.and_one_is_mod _)
  rw [ha, half_B, low_B]
  by_cases h : x.toNat % 2 = 1
  · rw [if_pos (by omega), decide_eq_true h, e2, bits_xor_B]
    rfl
  · rw [if_neg (by omega), decide_eq_false h]
    simp [polB]
theorem crcSteps_B (x : BitVec 32) : ∀ n, crcSteps n (x.toNat : Int) = ((stepsB n x).toNat : Int)
  | 0 => rfl
  | n + 1 => by rw [crcSteps, crcSteps_B x n, crcStep_B]; rfl
def byteB (x : BitVec 32) (b : Nat) : BitVec 32 := stepsB 8 (x ^^^ BitVec.ofNat 32 b)
theorem crcByte_B (x : BitVec 32) (b : Nat) (hb : b < 256) : crcByte (x.toNat : Int) (b : Int) = ((byteB x b).toNat : Int) := by
  unfold crcByte byteB
  have e : (b : Int) = ((BitVec.ofNat 32 b).toNat : Int) := by
    rw [BitVec.toNat_ofNat]
    congr 1
    omega
  rw [e, bits_xor_B, crcSteps_B]
/-- The bytes of a text. -/
def nat (s : ByteArray) (i : Nat) : Nat := (bt s (i : Int)).toNat
theorem nat_lt (s : ByteArray) (i : Nat) : nat s i < 256 := by have := bt_range s i; unfold nat; omega
theorem nat_cast (s : ByteArray) (i : Nat) : bt s (i : Int) = (nat s i : Int) := by have := bt_range s i; unfold nat; omega
def foldB (b : Nat → Nat) (x : BitVec 32) : Nat → BitVec 32
  | 0 => x
  | n + 1 => byteB (foldB b x n) (b n)
theorem crcFold_B (s : ByteArray) : ∀ n, crcFold s n = ((foldB (nat s) 4294967295#32 n).toNat : Int)
  | 0 => rfl
  | n + 1 => by rw [crcFold, crcFold_B s n, nat_cast, crcByte_B _ _ (nat_lt s n)]; rfl
/-- A text's bits, each byte's from the lowest on. -/
def mbits (b : Nat → Nat) (j : Nat) : Bool := (b (j / 8)).testBit (j % 8)
theorem foldB_bits (b : Nat → Nat) (hb : ∀ i, b i < 256) (x : BitVec 32) : ∀ n, foldB b x n = runB (mbits b) x (8 * n)
  | 0 => rfl
  | n + 1 => by
    rw [foldB, foldB_bits b hb x n, byteB, steps_bits, show 8 * (n + 1) = 8 * n + 8 by omega, runB_add]
    have e0 : BitVec.ofNat 32 (b n) >>> 8 = 0#32 := by
      apply BitVec.eq_of_toNat_eq
      rw [BitVec.toNat_ushiftRight, Nat.shiftRight_eq_div_pow, BitVec.toNat_ofNat]
      have := hb n
      simp
      omega
    rw [e0, BitVec.xor_zero]
    apply runB_congr
    intro i hi
    rw [BitVec.getLsbD, BitVec.toNat_ofNat, Nat.mod_eq_of_lt (by have := hb n; omega)]
    unfold mbits
    rw [show (8 * n + i) / 8 = n by omega, show (8 * n + i) % 8 = i by omega]

theorem foldB_add (b : Nat → Nat) (x : BitVec 32) (a : Nat) : ∀ c, foldB b x (a + c) = foldB (fun j => b (a + j)) (foldB b x a) c
  | 0 => rfl
  | c + 1 => by rw [← Nat.add_assoc, foldB, foldB_add b x a c]; rfl
theorem foldB_congr {b b' : Nat → Nat} (x : BitVec 32) : ∀ n, (∀ i, i < n → b i = b' i) → foldB b x n = foldB b' x n
  | 0, _ => rfl
  | n + 1, h => by rw [foldB, foldB, foldB_congr x n (fun i hi => h i (by omega)), h n (by omega)]
theorem foldB_first (b : Nat → Nat) (x : BitVec 32) (n : Nat) : foldB b x (n + 1) = foldB (fun j => b (1 + j)) (byteB x (b 0)) n := by
  rw [Nat.add_comm, foldB_add]; rfl
theorem stepsB_first (x : BitVec 32) : ∀ n, stepsB (n + 1) x = stepsB n (stepB x)
  | 0 => rfl
  | n + 1 => by rw [stepsB, stepsB_first x n]; rfl
theorem not_B (x : BitVec 32) : (4294967295 - (x.toNat : Int)) % (4294967296 : Int) = ((x ^^^ 4294967295#32).toNat : Int) := by
  have e : x ^^^ 4294967295#32 = ~~~x := BitVec.xor_allOnes
  have := x.isLt
  rw [e, BitVec.toNat_not]
  omega
theorem ones_ones (x : BitVec 32) : x ^^^ 4294967295#32 ^^^ 4294967295#32 = x := by rw [BitVec.xor_assoc, BitVec.xor_self, BitVec.xor_zero]
def crcB (s : ByteArray) : BitVec 32 := foldB (nat s) 4294967295#32 s.size
theorem frame_Crc_B (s : ByteArray) (h : s.size ≤ 9223372036854775807) : frame_Crc.f s = some ((crcB s ^^^ 4294967295#32).toNat : Int) := by
  unfold frame_Crc.f
  rw [if_pos h, crcFold_B]
  have e : (4294967295 : Int) = ((4294967295#32).toNat : Int) := rfl
  rw [e, bits_xor_B]
  rfl
theorem bt_list (s : ByteArray) (j : Nat) : bt s (j : Int) = ((s.data.toList.getD j 0).toNat : Int) := by
  unfold bt
  rw [Int.toNat_natCast]
  split
  · rename_i h
    rw [List.getD_eq_getElem?_getD, List.getElem?_eq_getElem (by rw [data_length]; exact h)]
    simp [ByteArray.getElem_eq_getElem_data]
  · rename_i h
    rw [List.getD_eq_getElem?_getD, List.getElem?_eq_none (by rw [data_length]; omega)]
    rfl
theorem nat_list (s : ByteArray) (i : Nat) : nat s i = (s.data.toList.getD i 0).toNat := by
  have h : bt s (i : Int) = ((s.data.toList.getD i 0).toNat : Int) := bt_list s i
  unfold nat
  rw [h]
  rfl
theorem nat_extract (s : ByteArray) (a b j : Nat) (h : a + j < b) : nat (s.extract a b) j = nat s (a + j) := by
  rw [nat_list, nat_list]
  have e : (s.extract a b).data.toList = (s.data.toList.drop a).take (b - a) := by
    rw [ByteArray.data_extract, Array.toList_extract, List.extract_eq_take_drop]
  rw [e, List.getD_eq_getElem?_getD, List.getD_eq_getElem?_getD, List.getElem?_take_of_lt (by omega), List.getElem?_drop]
end Go.Proofs.YtceedgflpkaclaaDoor.P

/- What one function of the program computes, as a Lean function, and a proof that its call comes to just that. Conditions: none. Written by wip/ownprint.py. -/
namespace Go.Proofs.YtceedgflpkaclaaDoor.P
open Go.RowKit Go.Proofs.YtceedgflpkaclaaDoorW.PrintWords Go.Proofs.YtceedgflpkaclaaDoorW.PrintLast Go.Proofs.YtceedgflpkaclaaDoorW.PrintMore
attribute [local go_sem] max2_int min2_int max_two min_two max_three min_three max_four min_four   -- for this text's walks alone
set_option linter.unusedVariables false
set_option linter.unusedSimpArgs false

/-! ### transhipmentref02_May: function 25 -/
def transhipmentref02_May.l0 : Nat → List ByteArray → List ByteArray → Int → Int → Option (Bool)
  | 0, _, _, _, _ => none
  | k + 1, x0, x5, x6, x7 => if x7 < x6 then (if 0 ≤ x7 then (if x7 < (x5.length : Int) then (if ((rdOf ByteArray.empty x5 x7).size : Int) > 4096 then (some false) else (transhipmentref02_May.l0 k x0 x5 x6 (wrap64 (x7 + 1)))) else (none)) else (none)) else (some (decide ((x0.length : Int) ≤ 64)))
def transhipmentref02_May.f (k : Nat) (l0 : List ByteArray) : Option (Bool) := transhipmentref02_May.l0 k l0 l0 (l0.length : Int) 0
theorem transhipmentref02_May.mono_l : ∀ k, (∀ y0 y1 y2 y3, LeO (transhipmentref02_May.l0 k y0 y1 y2 y3) (transhipmentref02_May.l0 (k + 1) y0 y1 y2 y3))
  | 0 => fun _ _ _ _ r h => by simp [transhipmentref02_May.l0] at h
  | k + 1 => by
    have ih0 := transhipmentref02_May.mono_l k
    · intro y0 y1 y2 y3
      unfold transhipmentref02_May.l0
      repeat' first
      | (with_reducible exact ih0 _ _ _ _)
      | (with_reducible exact LeO.refl _)
      | (with_reducible exact LeO.none _)
      | (with_reducible refine LeO.ite ?_ ?_)
      | (with_reducible refine LeO.bind ?_ (fun _ => ?_))
      | exact ih0 _ _ _ _
      | exact LeO.none _
      | refine LeO.ite ?_ ?_
      | refine LeO.bind ?_ (fun _ => ?_)
theorem transhipmentref02_May.mono : ∀ a0 k, LeO (transhipmentref02_May.f k a0) (transhipmentref02_May.f (k + 1) a0) := by
  intro a0 k
  have ih0 := transhipmentref02_May.mono_l k
  unfold transhipmentref02_May.f
  repeat' first
      | (with_reducible exact ih0 _ _ _ _)
      | (with_reducible exact LeO.refl _)
      | (with_reducible exact LeO.none _)
      | (with_reducible refine LeO.ite ?_ ?_)
      | (with_reducible refine LeO.bind ?_ (fun _ => ?_))
      | exact ih0 _ _ _ _
      | exact LeO.none _
      | refine LeO.ite ?_ ?_
      | refine LeO.bind ?_ (fun _ => ?_)
set_option maxHeartbeats 8000000 in
set_option maxRecDepth 100000 in
theorem transhipmentref02_May.calls (k : Nat) (A0 : Option Addr) (c0 : Nat) (l0 : List ByteArray) (r : Bool) (w : World) (hr0 : Kd.C Kd.string w A0 l0.length l0) (hc0 : l0.length ≤ c0) (h : transhipmentref02_May.f k l0 = some r) :
    Calls Tryd.prog 25 #[.slice A0 l0.length c0] w fun e w' => e = .returned (.bool r) ∧ Drawn0 w w' := by
  have HR0 := Aside0.mk hr0
  have HC0 := Aside0.mk hc0
  clear hr0 hc0
  have H : (transhipmentref02_May.l0 k l0 l0 (l0.length : Int) 0) = some r := h
  clear h
  have H' := Aside0.mk H
  clear H
  go_enter Tryd.func25, Tryd.ntmps25
  go_wp2
  go_loopg [7] k (fun kq v7 w' => ∃ (x7_1 : Int), v7 = .int .i64 x7_1 ∧ Aside0 (transhipmentref02_May.l0 kq l0 l0 (l0.length : Int) x7_1 = some r) ∧ Aside0 (kq ≤ k) ∧ Drawn0 w w')
  case atStart => exact ⟨(0), (by first | rfl | (simp; done) | (simp [*]; done)), H', ⟨Nat.le_refl _⟩, by repeat (first | exact Drawn0.refl _ | apply Drawn0.step)⟩
  case round =>
    clear H'
    obtain ⟨x7_1, rfl, HA, HK1, ⟨m1, rfl⟩⟩ := hrel
    cases gk with
    | zero => exact absurd HA.out (by simp [transhipmentref02_May.l0])
    | succ k1 =>
      have H := HA.out
      clear HA
      simp only [transhipmentref02_May.l0] at H
      by_cases c2 : x7_1 < (l0.length : Int)
      · rw [if_pos c2] at H
        have c2b0 : decide (x7_1 < (l0.length : Int)) = true := decide_eq_true c2
        clear c2
        by_cases c3 : 0 ≤ x7_1
        · rw [if_pos c3] at H
          have c3b0 : decide (0 ≤ x7_1) = true := decide_eq_true c3
          clear c3
          by_cases c4 : x7_1 < (l0.length : Int)
          · rw [if_pos c4] at H
            have c4b0 : decide (x7_1 < (l0.length : Int)) = true := decide_eq_true c4
            clear c4
            by_cases c5 : ((rdOf ByteArray.empty l0 x7_1).size : Int) > 4096
            · rw [if_pos c5] at H
              have c5b0 : decide (4096 < ((rdOf ByteArray.empty l0 x7_1).size : Int)) = true := decide_eq_true c5
              have c5b1 : decide (4096 < (rdOf ByteArray.empty l0 x7_1).size) = true := decide_eq_true (by omega)
              clear c5
              obtain rfl := Option.some.inj H
              have p393 : 0 ≤ (x7_1 : Int) := of_decide_eq_true (by first | (with_reducible assumption) | assumption)
              have q393 : x7_1 < (l0.length : Int) := of_decide_eq_true (by first | (with_reducible assumption) | assumption)
              obtain ⟨ad393, e393, hx393_0⟩ := Kd.at_string HR0.out x7_1 p393 q393
              cases e393
              replace p393 := eq_true p393
              replace q393 := eq_true q393
              go_wp2
              (first | go_ret | go_ret2)
              exact ⟨by first | rfl | (simp; done) | (simp [*]; done), by repeat (first | exact Drawn0.refl _ | apply Drawn0.step)⟩
            · rw [if_neg c5] at H
              have c5b0 : decide (4096 < ((rdOf ByteArray.empty l0 x7_1).size : Int)) = false := decide_eq_false c5
              have c5b1 : decide (4096 < (rdOf ByteArray.empty l0 x7_1).size) = false := decide_eq_false (by omega)
              clear c5
              have H' := Aside0.mk H
              clear H
              have p393 : 0 ≤ (x7_1 : Int) := of_decide_eq_true (by first | (with_reducible assumption) | assumption)
              have q393 : x7_1 < (l0.length : Int) := of_decide_eq_true (by first | (with_reducible assumption) | assumption)
              obtain ⟨ad393, e393, hx393_0⟩ := Kd.at_string HR0.out x7_1 p393 q393
              cases e393
              replace p393 := eq_true p393
              replace q393 := eq_true q393
              go_wp2
              go_roundg k1
              case measure => have := HK1.out; omega
              case rel => exact ⟨(wrap64 (x7_1 + 1)), (by first | rfl | (simp; done) | (simp [*]; done)), H', ⟨by have := HK1.out; omega⟩, by repeat (first | exact Drawn0.refl _ | apply Drawn0.step)⟩
          · rw [if_neg c4] at H
            exact absurd H (by simp)
        · rw [if_neg c3] at H
          exact absurd H (by simp)
      · rw [if_neg c2] at H
        have c2b0 : decide (x7_1 < (l0.length : Int)) = false := decide_eq_false c2
        clear c2
        obtain rfl := Option.some.inj H
        go_wp2
        (first | go_ret | go_ret2)
        exact ⟨by first | rfl | (simp; done) | (simp [*]; done), by repeat (first | exact Drawn0.refl _ | apply Drawn0.step)⟩

end Go.Proofs.YtceedgflpkaclaaDoor.P

/- What sections that are sealed, and bytes that are opened, come to: the program's functions, each as one plain Lean function. Conditions: as each lemma says. -/
namespace Go.Proofs.YtceedgflpkaclaaDoor.P
open Go.RowKit Go.Proofs.YtceedgflpkaclaaDoorW.PrintWords Go.Proofs.YtceedgflpkaclaaDoorW.PrintLast Go.Proofs.YtceedgflpkaclaaDoorW.PrintMore

theorem bytes_eq (a b : ByteArray) : a.toList = b.toList ↔ a = b := by
  rw [ByteArray.toList_eq, ByteArray.toList_eq]
  exact ⟨fun h => ByteArray.ext (Array.ext' h), fun h => by rw [h]⟩
/-! ### few -/
def cutS (p : ByteArray) : ByteArray := p.extract 0 (min p.size 4100)
def cutL (l : List ByteArray) : List ByteArray := (l.take 66).map cutS
theorem cutS_size (p : ByteArray) : (cutS p).size ≤ 4100 := by
  unfold cutS
  rw [ByteArray.size_extract]
  omega
theorem cutL_length (l : List ByteArray) : (cutL l).length ≤ 66 := by
  unfold cutL
  rw [List.length_map, List.length_take]
  omega
theorem cutL_size {l : List ByteArray} : ∀ p ∈ cutL l, p.size ≤ 4100 := by
  intro p hp
  obtain ⟨q, _, rfl⟩ := List.mem_map.1 hp
  exact cutS_size q
theorem cut_l0 (l : List ByteArray) (hl : l.length ≤ 66) : ∀ (d i k : Nat) (out : List ByteArray), i + d = l.length → d < k → out.length = i →
    transhipmentlaw02_few.l0 k out l (l.length : Int) (i : Int) = some (out ++ (l.drop i).map cutS) := by
  intro d
  induction d with
  | zero =>
    intro i k out hi hk ho
    obtain ⟨k, rfl⟩ : ∃ m, k = m + 1 := ⟨k - 1, by omega⟩
    simp only [transhipmentlaw02_few.l0]
    rw [if_neg (by omega), List.drop_of_length_le (by omega)]
    simp
  | succ d ih =>
    intro i k out hi hk ho
    obtain ⟨k, rfl⟩ : ∃ m, k = m + 1 := ⟨k - 1, by omega⟩
    have hlt : i < l.length := by omega
    have hx := rdOf_string l i hlt
    simp only [transhipmentlaw02_few.l0]
    rw [hx, show mn (l[i].size : Int) 4100 = ((min l[i].size 4100 : Nat) : Int) from mn_min _ 4100]
    rw [if_pos (by omega), if_pos (by omega), if_pos (by omega), if_pos (by omega), if_pos (by omega), if_pos (by omega), Int.toNat_natCast, wrap64_id (by omega) (by omega)]
    have h := ih (i + 1) k (out ++ [l[i].extract 0 (min l[i].size 4100)]) (by omega) (by omega) (by simp [ho])
    rw [show ((i : Int) + 1) = ((i + 1 : Nat) : Int) by omega, h, List.drop_eq_getElem_cons hlt]
    simp only [cutS, List.map_cons, List.append_assoc, List.singleton_append]
theorem cut_eq (k : Nat) (hk : 70 < k) (l : List ByteArray) : transhipmentlaw02_few.f k l = some (cutL l) := by
  unfold transhipmentlaw02_few.f
  rw [show mn (l.length : Int) 66 = ((min l.length 66 : Nat) : Int) from mn_min _ 66]
  rw [if_pos (by omega), if_pos (by omega), Int.toNat_natCast]
  simp only [Option.bind_some]
  have h : l.take (min l.length 66) = l.take 66 := by
    rw [Nat.min_comm, ← List.take_take, List.take_length]
  rw [h, show (0 : Int) = ((0 : Nat) : Int) from rfl, cut_l0 (l.take 66) (by simp; omega) (l.take 66).length 0 k [] (by omega) (by simp; omega) rfl]
  simp [cutL]

/-! ### a section's check, and its frame -/
def sealT : ByteArray := ⟨#[115, 101, 97, 108]⟩
def crcI (s : ByteArray) : Int := ((crcB s ^^^ 4294967295#32).toNat : Int)
def checkB (s : ByteArray) : ByteArray := strOfNums [crcI s % 256, crcI s / 256 % 256, crcI s / 65536 % 256, crcI s / 16777216 % 256]
theorem checkB_size (s : ByteArray) : (checkB s).size = 4 := by
  unfold checkB
  rw [strOfNums_size]
  rfl
theorem seal_checked_eq (s : ByteArray) (h : s.size ≤ 9223372036854775807) : seal_checked.f s = some (checkB s) := by
  unfold seal_checked.f
  rw [frame_Crc_B s h]
  rfl
def frameB (x : ByteArray) : ByteArray := boundB [x, checkB x]
theorem frameB_size (x : ByteArray) (h : x.size ≤ 4100) : (frameB x).size ≤ 4200 := by
  unfold frameB
  have h1 := numB_size (x.size : Int) (by omega) (by omega)
  have h2 := numB_size ((checkB x).size : Int) (by omega) (by rw [checkB_size]; omega)
  rw [boundB_cons, boundB_one]
  simp only [ByteArray.size_append]
  rw [checkB_size] at h2 ⊢
  omega
/-- May sections be sealed? -/
def mayS (l : List ByteArray) : Prop := l.length ≤ 64 ∧ ∀ p ∈ l, p.size ≤ 4096
instance (l : List ByteArray) : Decidable (mayS l) := by unfold mayS; exact inferInstance
def tailB (l : List ByteArray) : ByteArray := sealT ++ boundB (l.map frameB)
def closeB (l : List ByteArray) : ByteArray := tailB l ++ sumV (tailB l)
theorem sumV_32 (s : ByteArray) : (sumV s).size = 32 := by
  unfold sumV
  show (List.toArray _).size = 32
  rw [List.size_toArray, outB_length]
theorem frames_may (l : List ByteArray) (hl : l.length ≤ 66) (hs : ∀ p ∈ l, p.size ≤ 4100) : mayB (l.map frameB) := by
  refine ⟨by rw [List.length_map]; omega, ?_⟩
  intro p hp
  obtain ⟨q, hq, rfl⟩ := List.mem_map.1 hp
  have := frameB_size q (hs q hq)
  omega
theorem tailB_size (l : List ByteArray) (hl : l.length ≤ 66) (hs : ∀ p ∈ l, p.size ≤ 4100) : (tailB l).size ≤ 1000000 := by
  unfold tailB
  have h := bound_size (l.map frameB) (fun p hp => by have := (frames_may l hl hs).2 p hp; omega)
  rw [List.length_map] at h
  rw [ByteArray.size_append]
  have : sealT.size = 4 := rfl
  omega
theorem seal_Sum_eq (s : ByteArray) (h : s.size ≤ 70368744177664) : seal_Sum.f s = some (sumV s) := by
  unfold seal_Sum.f
  rw [if_pos h]
theorem seal_Close_l0 (l : List ByteArray) (hl : l.length ≤ 64) (hs : ∀ p ∈ l, p.size ≤ 4100) : ∀ (d i k : Nat) (out : List ByteArray), i + d = l.length → d + 30 < k → out = (l.take i).map frameB → (∀ p ∈ l.take i, p.size ≤ 4096) →
    seal_Close.l0 k out l (l.length : Int) (i : Int) = some (if mayS l then (closeB l, 0) else (⟨#[]⟩, 2)) := by
  intro d
  induction d with
  | zero =>
    intro i k out hi hk ho hp
    obtain ⟨k, rfl⟩ : ∃ m, k = m + 1 := ⟨k - 1, by omega⟩
    rw [List.take_of_length_le (by omega)] at ho hp
    subst ho
    have hm := frames_may l (by omega) hs
    have hz := tailB_size l (by omega) hs
    have hz2 : (boundB (l.map frameB)).size ≤ (tailB l).size := by unfold tailB; rw [ByteArray.size_append]; omega
    have hsv := sumV_32 (tailB l)
    simp only [seal_Close.l0]
    rw [if_neg (by omega), frame_Bind_eq k (by omega) _ (fun p hp => by have := hm.2 p hp; omega), if_pos hm, if_pos ⟨hl, hp⟩]
    simp only [Option.bind_some, if_true]
    rw [if_pos (by omega)]
    have e : (⟨#[115, 101, 97, 108]⟩ : ByteArray) ++ boundB (l.map frameB) = tailB l := rfl
    rw [e, seal_Sum_eq _ (by omega)]
    simp only [Option.bind_some]
    rw [if_pos (by omega)]
    rfl
  | succ d ih =>
    intro i k out hi hk ho hp
    obtain ⟨k, rfl⟩ : ∃ m, k = m + 1 := ⟨k - 1, by omega⟩
    have hlt : i < l.length := by omega
    have h1 : l[i].size ≤ 4100 := hs _ (List.getElem_mem hlt)
    simp only [seal_Close.l0]
    rw [rdOf_string l i hlt, if_pos (by omega), if_pos (by omega), if_pos (by omega)]
    by_cases h : l[i].size ≤ 4096
    · rw [if_neg (by omega), seal_checked_eq _ (by omega)]
      simp only [Option.bind_some]
      rw [frame_Bind_eq k (by omega) _ (by
        intro p hp2
        have hc := checkB_size l[i]
        simp only [List.mem_cons, List.not_mem_nil, or_false] at hp2
        rcases hp2 with rfl | rfl <;> omega)]
      rw [if_pos (show mayB [l[i], checkB l[i]] from ⟨by simp, by
        intro p hp2
        have hc := checkB_size l[i]
        simp only [List.mem_cons, List.not_mem_nil, or_false] at hp2
        rcases hp2 with rfl | rfl <;> omega⟩)]
      simp only [Option.bind_some]
      have hol : out.length ≤ 64 := by rw [ho, List.length_map, List.length_take]; omega
      rw [if_pos (by omega), wrap64_id (by omega) (by omega), show ((i : Int) + 1) = ((i + 1 : Nat) : Int) by omega]
      refine ih (i + 1) k _ (by omega) (by omega) ?_ ?_
      · rw [ho, List.take_succ_eq_append_getElem hlt, List.map_append]
        rfl
      · rw [List.take_succ_eq_append_getElem hlt]
        intro p hp2
        rcases List.mem_append.1 hp2 with hp2 | hp2
        · exact hp p hp2
        · rw [List.mem_singleton.1 hp2]
          exact h
    · rw [if_pos (by omega), if_neg (fun hm => h (hm.2 _ (List.getElem_mem hlt)))]
theorem seal_Close_eq (k : Nat) (hk : 100 < k) (l : List ByteArray) (hs : ∀ p ∈ l, p.size ≤ 4100) : seal_Close.f k l = some (if mayS l then (closeB l, 0) else (⟨#[]⟩, 2)) := by
  unfold seal_Close.f
  by_cases h : l.length > 64
  · rw [if_pos (by omega), if_neg (fun hm => by have := hm.1; omega)]
  · rw [if_neg (by omega), show (0 : Int) = ((0 : Nat) : Int) from rfl]
    exact seal_Close_l0 l (by omega) hs l.length 0 k [] (by omega) (by omega) rfl (by simp)
theorem ref02_May_l0 (l : List ByteArray) (hb : l.length < 9223372036854775807) : ∀ (d i k : Nat), i + d = l.length → d < k →
    transhipmentref02_May.l0 k l l (l.length : Int) (i : Int) = some (decide ((∀ p ∈ l.drop i, p.size ≤ 4096) ∧ l.length ≤ 64)) := by
  intro d
  induction d with
  | zero =>
    intro i k hi hk
    obtain ⟨k, rfl⟩ : ∃ m, k = m + 1 := ⟨k - 1, by omega⟩
    simp only [transhipmentref02_May.l0]
    rw [if_neg (by omega), List.drop_of_length_le (by omega)]
    simp
    omega
  | succ d ih =>
    intro i k hi hk
    obtain ⟨k, rfl⟩ : ∃ m, k = m + 1 := ⟨k - 1, by omega⟩
    have hlt : i < l.length := by omega
    simp only [transhipmentref02_May.l0]
    rw [rdOf_string l i hlt, if_pos (by omega), if_pos (by omega), if_pos (by omega), wrap64_id (by omega) (by omega), show ((i : Int) + 1) = ((i + 1 : Nat) : Int) by omega, ih (i + 1) k (by omega) (by omega), List.drop_eq_getElem_cons hlt]
    by_cases h : l[i].size ≤ 4096
    · rw [if_neg (by omega)]
      congr 1
      exact decide_eq_decide.2 (by rw [List.forall_mem_cons]; exact ⟨fun h' => ⟨⟨h, h'.1⟩, h'.2⟩, fun h' => ⟨h'.1.2, h'.2⟩⟩)
    · rw [if_pos (by omega)]
      congr 1
      symm
      exact decide_eq_false (fun h' => h (List.forall_mem_cons.1 h'.1).1)
theorem ref02_May_eq (l : List ByteArray) (hb : l.length < 5000) (k : Nat) (hk : 5000 < k) : transhipmentref02_May.f k l = some (decide (mayS l)) := by
  unfold transhipmentref02_May.f
  rw [show (0 : Int) = ((0 : Nat) : Int) from rfl, ref02_May_l0 l (by omega) l.length 0 k (by omega) (by omega)]
  congr 1
  rw [List.drop_zero]
  exact decide_eq_decide.2 ⟨fun h => ⟨h.2, h.1⟩, fun h => ⟨h.2, h.1⟩⟩

/-! ### open -/
/-- The section of a frame. -/
def sectionB (f : ByteArray) : ByteArray × Int :=
  match (looseB f).1 with
  | [x, c] => if c.size ≠ 4 then (⟨#[]⟩, 6) else if 4096 < x.size then (⟨#[]⟩, 2) else if c ≠ checkB x then (⟨#[]⟩, 4) else if boundB [x, c] ≠ f then (⟨#[]⟩, 6) else (x, 0)
  | _ => (⟨#[]⟩, 6)
theorem section_j0_true (k : Nat) (f : ByteArray) (l : List ByteArray) : seal_section.j0 (k + 1) f l true = some (⟨#[]⟩, 6) := by
  simp only [seal_section.j0, if_true]
theorem seal_section_eq (f : ByteArray) (hf : f.size < 100000000) (k : Nat) (hk : 2 * f.size + 1000 < k) : seal_section.f k f = some (sectionB f) := by
  obtain ⟨k, rfl⟩ : ∃ m, k = m + 1 := ⟨k - 1, by omega⟩
  unfold seal_section.f
  rw [frame_Loose_eq f (by omega) _ (by omega)]
  simp only [Option.bind_some]
  unfold sectionB
  match (looseB f).1 with
  | [] => exact section_j0_true k f []
  | [x] => exact section_j0_true k f [x]
  | x :: c :: y :: r =>
    have e : ((x :: c :: y :: r).length : Int) ≠ 2 := by simp; omega
    rw [if_neg e]
    exact section_j0_true k f (x :: c :: y :: r)
  | [x, c] =>
    have e1 : rdOf ByteArray.empty [x, c] 1 = c := rfl
    have e0 : rdOf ByteArray.empty [x, c] 0 = x := rfl
    have e2 : (([x, c] : List ByteArray).length : Int) = 2 := rfl
    rw [e1, e2, if_pos (by trivial), if_pos (by decide)]
    by_cases hc : c.size = 4
    · have hb : ((c.size : Int) != 4) = false := by simp; omega
      rw [hb]
      simp only [seal_section.j0]
      rw [e0, e1, e2, if_neg (by simp), if_pos (by decide), if_neg (by simp [hc] : ¬ c.size ≠ 4)]
      by_cases hx : 4096 < x.size
      · rw [if_pos (by omega), if_pos hx]
      · rw [if_neg (by omega), if_neg hx, if_pos (by decide), seal_checked_eq x (by omega)]
        simp only [Option.bind_some]
        by_cases hk2 : c = checkB x
        · rw [if_pos ((bytes_eq _ _).2 hk2), if_neg (not_not_intro hk2)]
          have hsz : ∀ p ∈ [x, c], p.size ≤ 8192 := by
            intro p hp2
            simp only [List.mem_cons, List.not_mem_nil, or_false] at hp2
            rcases hp2 with rfl | rfl <;> omega
          rw [frame_Bind_eq k (by omega) _ (fun p hp => by have := hsz p hp; omega), if_pos ⟨by simp, hsz⟩]
          simp only [Option.bind_some, if_true]
          by_cases hb2 : boundB [x, c] = f
          · rw [if_pos ((bytes_eq _ _).2 hb2), if_neg (not_not_intro hb2)]
          · rw [if_neg (fun h => hb2 ((bytes_eq _ _).1 h)), if_pos hb2]
        · rw [if_neg (fun h => hk2 ((bytes_eq _ _).1 h)), if_pos hk2]
    · have hb : ((c.size : Int) != 4) = true := by simp; omega
      rw [hb]
      dsimp only
      rw [if_pos hc]
      exact section_j0_true k f [x, c]
/-- The sections of frames, one behind the other. -/
def openGo : List ByteArray → List ByteArray → List ByteArray × Int
  | [], out => (out, 0)
  | f :: fs, out => if (sectionB f).2 = 0 then openGo fs (out ++ [(sectionB f).1]) else ([], (sectionB f).2)
/-- What bytes are opened to. -/
def openB (s : ByteArray) : List ByteArray × Int :=
  if s.size < 36 then ([], 3)
  else if s.extract 0 4 ≠ sealT then ([], 6)
  else if sumV (s.extract 0 (s.size - 32)) ≠ s.extract (s.size - 32) s.size then ([], 5)
  else if (looseB (s.extract 4 (s.size - 32))).2 ≠ 0 then ([], (looseB (s.extract 4 (s.size - 32))).2)
  else if (looseB (s.extract 4 (s.size - 32))).1.length > 64 then ([], 2)
  else openGo (looseB (s.extract 4 (s.size - 32))).1 []
theorem seal_Open_l0 (fs : List ByteArray) (hl : fs.length ≤ 512) (hs : ∀ f ∈ fs, f.size ≤ 8192) : ∀ (d i k : Nat) (out : List ByteArray), i + d = fs.length → d + 20000 < k → out.length = i →
    seal_Open.l0 k out fs (fs.length : Int) (i : Int) = some (openGo (fs.drop i) out) := by
  intro d
  induction d with
  | zero =>
    intro i k out hi hk ho
    obtain ⟨k, rfl⟩ : ∃ m, k = m + 1 := ⟨k - 1, by omega⟩
    simp only [seal_Open.l0]
    rw [if_neg (by omega), List.drop_of_length_le (by omega)]
    rfl
  | succ d ih =>
    intro i k out hi hk ho
    obtain ⟨k, rfl⟩ : ∃ m, k = m + 1 := ⟨k - 1, by omega⟩
    have hlt : i < fs.length := by omega
    have h1 : fs[i].size ≤ 8192 := hs _ (List.getElem_mem hlt)
    simp only [seal_Open.l0]
    rw [rdOf_string fs i hlt, if_pos (by omega), if_pos (by omega), if_pos (by omega), seal_section_eq _ (by omega) k (by omega), List.drop_eq_getElem_cons hlt, openGo]
    simp only [Option.bind_some]
    by_cases h : (sectionB fs[i]).2 = 0
    · rw [if_pos h, if_pos h, if_pos (by omega), wrap64_id (by omega) (by omega), show ((i : Int) + 1) = ((i + 1 : Nat) : Int) by omega]
      exact ih (i + 1) k _ (by omega) (by omega) (by simp [ho])
    · rw [if_neg h, if_neg h]
theorem prefix_eq (a b : ByteArray) (h : b.size ≤ a.size) : strings_HasPrefix.f a b = some (decide (a.extract 0 b.size = b)) := by
  unfold strings_HasPrefix.f stringslite_HasPrefix.f
  rw [if_pos (by omega), if_pos (by omega), if_pos (by omega), Int.toNat_natCast]
  simp only [Option.bind_some]
  congr 1
  by_cases he : a.extract 0 b.size = b
  · rw [decide_eq_true he, he]
    exact beq_iff_eq.2 rfl
  · rw [decide_eq_false he]
    exact beq_eq_false_iff_ne.2 (fun e => he ((bytes_eq _ _).1 e))
theorem seal_Open_eq (s : ByteArray) (hs : s.size < 10000000) (k : Nat) (hk : 100000000 < k) : seal_Open.f k s = some (openB s) := by
  unfold seal_Open.f openB
  rw [wrap64_id (by omega) (by omega)]
  by_cases h0 : s.size < 36
  · rw [if_pos (by omega), if_pos h0]
  · rw [if_neg (by omega), if_neg h0]
    have e : (s.size : Int) - 32 = ((s.size - 32 : Nat) : Int) := by omega
    have ep := prefix_eq s sealT (by show 4 ≤ _; omega)
    have es : sealT.size = 4 := rfl
    rw [es] at ep
    rw [show (⟨#[115, 101, 97, 108]⟩ : ByteArray) = sealT from rfl, ep, e]
    simp only [Option.bind_some, Int.toNat_natCast]
    by_cases h1 : s.extract 0 4 = sealT
    · rw [if_pos (decide_eq_true h1), if_neg (not_not_intro h1), if_pos (by omega), if_pos (by omega), seal_Sum_eq _ (by rw [ByteArray.size_extract]; omega)]
      simp only [Option.bind_some]
      by_cases h2 : sumV (s.extract 0 (s.size - 32)) = s.extract (s.size - 32) s.size
      · rw [if_pos ((bytes_eq _ _).2 h2), if_neg (not_not_intro h2), if_pos (by omega)]
        have hz : (s.extract 4 (s.size - 32)).size ≤ s.size := by rw [ByteArray.size_extract]; omega
        generalize s.extract 4 (s.size - 32) = t at hz ⊢
        rw [frame_Loose_eq t (by omega) k (by omega)]
        simp only [Option.bind_some]
        have hl := looseB_length t
        have hsz := looseB_sizes t
        generalize looseB t = q at hl hsz ⊢
        by_cases h3 : q.2 = 0
        · rw [if_pos h3, if_neg (not_not_intro h3)]
          by_cases h4 : q.1.length > 64
          · rw [if_pos (by omega), if_pos h4]
          · rw [if_neg (by omega), if_neg h4, show (0 : Int) = ((0 : Nat) : Int) from rfl, seal_Open_l0 q.1 hl hsz q.1.length 0 k [] (by omega) (by omega) rfl, List.drop_zero]
        · rw [if_neg h3, if_pos h3]
      · rw [if_neg (fun h => h2 ((bytes_eq _ _).1 h)), if_pos h2]
    · rw [if_neg (fun h => h1 (of_decide_eq_true h)), if_pos h1]
end Go.Proofs.YtceedgflpkaclaaDoor.P

/- What is sealed is opened as it was; what bytes are opened to, sealed again, is these bytes. Conditions: as each lemma says. -/
namespace Go.Proofs.YtceedgflpkaclaaDoor.P
open Go.RowKit Go.Proofs.YtceedgflpkaclaaDoorW.PrintWords Go.Proofs.YtceedgflpkaclaaDoorW.PrintLast Go.Proofs.YtceedgflpkaclaaDoorW.PrintMore

theorem section_back (x : ByteArray) (h : x.size ≤ 4096) : sectionB (frameB x) = (x, 0) := by
  have hc := checkB_size x
  have hm : mayB [x, checkB x] := ⟨by simp, by
    intro p hp2
    simp only [List.mem_cons, List.not_mem_nil, or_false] at hp2
    rcases hp2 with rfl | rfl <;> omega⟩
  unfold sectionB frameB
  rw [looseB_back _ hm]
  simp only
  rw [if_neg (by simp [hc]), if_neg (by omega), if_neg (by simp), if_neg (by simp)]
theorem openGo_back : ∀ (l out : List ByteArray), (∀ p ∈ l, p.size ≤ 4096) → openGo (l.map frameB) out = (out ++ l, 0)
  | [], out, _ => by simp [openGo]
  | x :: l, out, h => by
    rw [List.map_cons, openGo, section_back x (h x (by simp)), if_pos rfl, openGo_back l _ (fun p hp => h p (by simp [hp]))]
    simp
theorem extract_front (a b : ByteArray) : (a ++ b).extract 0 a.size = a := by
  apply ByteArray.ext
  apply Array.ext'
  rw [extract_list, List.drop_zero, ByteArray.data_append, Array.toList_append, Nat.sub_zero, ← data_length a, List.take_left]
theorem extract_back (a b : ByteArray) (n : Nat) (hn : n = a.size + b.size) : (a ++ b).extract a.size n = b := by
  apply ByteArray.ext
  apply Array.ext'
  subst hn
  rw [extract_list, ByteArray.data_append, Array.toList_append, ← data_length a, List.drop_left, Nat.add_sub_cancel_left, ← data_length b, List.take_length]
theorem closeB_size (l : List ByteArray) : (closeB l).size = (tailB l).size + 32 := by
  unfold closeB
  rw [ByteArray.size_append, sumV_32]
theorem tailB_four (l : List ByteArray) : (tailB l).size = 4 + (boundB (l.map frameB)).size := by
  unfold tailB
  rw [ByteArray.size_append]
  rfl
theorem open_close (l : List ByteArray) (h : mayS l) : openB (closeB l) = (l, 0) := by
  have hs : ∀ p ∈ l, p.size ≤ 4100 := fun p hp => by have := h.2 p hp; omega
  have hm := frames_may l (by have := h.1; omega) hs
  have hz := closeB_size l
  have h4 := tailB_four l
  have e32 : (closeB l).size - 32 = (tailB l).size := by omega
  unfold openB
  rw [if_neg (by omega), e32]
  have e1 : (closeB l).extract 0 4 = sealT := by
    unfold closeB tailB
    rw [show (4 : Nat) = sealT.size from rfl, ByteArray.append_assoc]
    exact extract_front _ _
  have e2 : (closeB l).extract 0 (tailB l).size = tailB l := by
    unfold closeB
    exact extract_front _ _
  have e3 : (closeB l).extract (tailB l).size (closeB l).size = sumV (tailB l) := by
    rw [hz]
    unfold closeB
    exact extract_back _ _ _ (by rw [sumV_32])
  have e4 : (closeB l).extract 4 (tailB l).size = boundB (l.map frameB) := by
    rw [h4]
    unfold closeB tailB
    rw [show (4 : Nat) = sealT.size from rfl, ByteArray.append_assoc]
    exact extract_mid _ _ _
  rw [e1, e2, e3, e4, looseB_back _ hm, if_neg (by simp), if_neg (by simp), if_neg (by simp)]
  simp only [List.length_map]
  rw [if_neg (by have := h.1; omega), openGo_back l [] h.2]
  simp
theorem section_ok (f : ByteArray) (h : (sectionB f).2 = 0) : (sectionB f).1.size ≤ 4096 ∧ frameB (sectionB f).1 = f := by
  revert h
  unfold sectionB
  match (looseB f).1 with
  | [] => intro h; simp at h
  | [x] => intro h; simp at h
  | x :: c :: y :: r => intro h; simp at h
  | [x, c] =>
    simp only
    by_cases h1 : c.size ≠ 4
    · rw [if_pos h1]; intro h; simp at h
    · rw [if_neg h1]
      by_cases h2 : 4096 < x.size
      · rw [if_pos h2]; intro h; simp at h
      · rw [if_neg h2]
        by_cases h3 : c ≠ checkB x
        · rw [if_pos h3]; intro h; simp at h
        · rw [if_neg h3]
          by_cases h4 : boundB [x, c] ≠ f
          · rw [if_pos h4]; intro h; simp at h
          · rw [if_neg h4]
            intro _
            have h3' := Decidable.not_not.1 h3
            have h4' := Decidable.not_not.1 h4
            subst h3'
            exact ⟨Nat.le_of_not_lt h2, h4'⟩
theorem openGo_ok : ∀ (fs out l : List ByteArray), openGo fs out = (l, 0) → ∃ xs, l = out ++ xs ∧ fs = xs.map frameB ∧ ∀ x ∈ xs, x.size ≤ 4096
  | [], out, l, h => by
    obtain rfl : out = l := (Prod.mk.inj h).1
    exact ⟨[], by simp, rfl, by simp⟩
  | f :: fs, out, l, h => by
    rw [openGo] at h
    by_cases h0 : (sectionB f).2 = 0
    · rw [if_pos h0] at h
      obtain ⟨xs, hl, hf, hx⟩ := openGo_ok fs _ l h
      have hs := section_ok f h0
      refine ⟨(sectionB f).1 :: xs, by rw [hl]; simp, by rw [List.map_cons, hs.2, hf], ?_⟩
      intro x hx2
      rcases List.mem_cons.1 hx2 with rfl | hx2
      · exact hs.1
      · exact hx x hx2
    · rw [if_neg h0] at h
      exact absurd (Prod.mk.inj h).2 h0
set_option maxHeartbeats 1000000 in
theorem openB_ok (s : ByteArray) (l : List ByteArray) (h : openB s = (l, 0)) : mayS l ∧ closeB l = s ∧ 36 ≤ s.size ∧ sumV (s.extract 0 (s.size - 32)) = s.extract (s.size - 32) s.size := by
  unfold openB at h
  by_cases h0 : s.size < 36
  · rw [if_pos h0] at h; exact absurd (Prod.mk.inj h).2 (by decide)
  rw [if_neg h0] at h
  by_cases h1 : s.extract 0 4 ≠ sealT
  · rw [if_pos h1] at h; exact absurd (Prod.mk.inj h).2 (by decide)
  rw [if_neg h1] at h
  by_cases h2 : sumV (s.extract 0 (s.size - 32)) ≠ s.extract (s.size - 32) s.size
  · rw [if_pos h2] at h; exact absurd (Prod.mk.inj h).2 (by decide)
  rw [if_neg h2] at h
  by_cases h3 : (looseB (s.extract 4 (s.size - 32))).2 ≠ 0
  · rw [if_pos h3] at h; exact absurd (Prod.mk.inj h).2 h3
  rw [if_neg h3] at h
  by_cases h4 : (looseB (s.extract 4 (s.size - 32))).1.length > 64
  · rw [if_pos h4] at h; exact absurd (Prod.mk.inj h).2 (by decide)
  rw [if_neg h4] at h
  have h1' := Decidable.not_not.1 h1
  have h2' := Decidable.not_not.1 h2
  have h3' := Decidable.not_not.1 h3
  obtain ⟨xs, hl, hf, hx⟩ := openGo_ok _ _ _ h
  rw [List.nil_append] at hl
  subst hl
  have hb := looseB_bound (s.extract 4 (s.size - 32)) (l.map frameB) (Prod.ext hf h3')
  rw [hf, List.length_map] at h4
  have ht : tailB l = s.extract 0 (s.size - 32) := by
    unfold tailB
    rw [hb, ← h1']
    apply ByteArray.ext
    apply Array.ext'
    have hl := data_length s
    rw [ByteArray.data_append, Array.toList_append, extract_list, extract_list, extract_list, List.drop_zero]
    generalize s.data.toList = L at hl
    obtain ⟨m, hm⟩ : ∃ m, s.size - 32 = 4 + m := ⟨s.size - 32 - 4, by omega⟩
    rw [hm, Nat.sub_zero, Nat.sub_zero, Nat.add_sub_cancel_left, List.take_add]
  refine ⟨⟨by omega, hx⟩, ?_, by omega, h2'⟩
  unfold closeB
  rw [ht, h2']
  apply ByteArray.ext
  apply Array.ext'
  have hl := data_length s
  rw [ByteArray.data_append, Array.toList_append, extract_list, extract_list, List.drop_zero]
  generalize s.data.toList = L at hl
  rw [Nat.sub_zero, List.take_of_length_le (l := List.drop _ L) (by simp; omega), List.take_append_drop]
theorem openB_ok' (s : ByteArray) (h : (openB s).2 = 0) : mayS (openB s).1 ∧ closeB (openB s).1 = s ∧ 36 ≤ s.size ∧ sumV (s.extract 0 (s.size - 32)) = s.extract (s.size - 32) s.size :=
  openB_ok s (openB s).1 (Prod.ext rfl h)
theorem openB_err (s : ByteArray) (h : (openB s).2 ≠ 0) : (openB s).1 = [] := by
  have hg : ∀ (fs out : List ByteArray), (openGo fs out).2 ≠ 0 → (openGo fs out).1 = [] := by
    intro fs
    induction fs with
    | nil => intro out h; exact absurd rfl h
    | cons f fs ih =>
      intro out
      rw [openGo]
      split
      · exact ih _
      · intro _; rfl
  revert h
  unfold openB
  split
  · intro _; rfl
  · split
    · intro _; rfl
    · split
      · intro _; rfl
      · split
        · intro _; rfl
        · split
          · intro _; rfl
          · exact hg _ _
theorem closeB_inj {l m : List ByteArray} (hl : mayS l) (hm : mayS m) (h : closeB l = closeB m) : l = m := by
  have h1 := open_close l hl
  rw [h, open_close m hm] at h1
  exact (Prod.mk.inj h1).1.symm
end Go.Proofs.YtceedgflpkaclaaDoor.P

/- A text's mark; the known text's is as it is known. Conditions: as each lemma says. -/
namespace Go.Proofs.YtceedgflpkaclaaDoor.P
open Go.RowKit Go.Proofs.YtceedgflpkaclaaDoorW.PrintWords Go.Proofs.YtceedgflpkaclaaDoorW.PrintLast Go.Proofs.YtceedgflpkaclaaDoorW.PrintMore

def markB (s : ByteArray) : ByteArray := ⟨(markL (bytesOf ((sumV s).extract 0 8)) 8).toArray⟩
theorem markB_size (s : ByteArray) : (markB s).size = 16 := by
  unfold markB
  show (List.toArray _).size = 16
  rw [List.size_toArray, markL_length]
theorem seal_Mark_eq (s : ByteArray) (h : s.size ≤ 70368744177664) : seal_Mark.f s = some (markB s) := by
  unfold seal_Mark.f
  rw [if_pos h]
  rfl
theorem known_mark : markB (⟨#[97, 98, 99]⟩ : ByteArray) = ⟨#[98, 97, 55, 56, 49, 54, 98, 102, 56, 102, 48, 49, 99, 102, 101, 97]⟩ := by decide +kernel
theorem alive_true : transhipmentlaw02_alive.f = some true := by
  unfold transhipmentlaw02_alive.f
  rw [seal_Mark_eq _ (by decide), known_mark]
  simp only [Option.bind_some, ByteArray.toList_eq]
  decide
theorem wf_i64 {n : Int} (h : (Lit.int .i64 n).wf = true) : -9223372036854775808 ≤ n ∧ n < 9223372036854775808 := by
  simp [Lit.wf, IntKind.min, IntKind.max, IntKind.signed, IntKind.bits] at h
  omega
theorem wf_u32 {n : Int} (h : (Lit.int .u32 n).wf = true) : 0 ≤ n ∧ n < 4294967296 := by
  simp [Lit.wf, IntKind.min, IntKind.max, IntKind.signed, IntKind.bits] at h
  omega
end Go.Proofs.YtceedgflpkaclaaDoor.P

/- Bytes that were sealed, cut anywhere, or with more behind them, are not opened as these sections. Conditions: none. -/
namespace Go.Proofs.YtceedgflpkaclaaDoor.Pure
open Go.RowKit Go.Proofs.YtceedgflpkaclaaDoor.P Go.Proofs.YtceedgflpkaclaaDoorW.PrintWords Go.Proofs.YtceedgflpkaclaaDoorW.PrintLast Go.Proofs.YtceedgflpkaclaaDoorW.PrintMore

theorem extract_twice (s : ByteArray) (n a b : Nat) (h : b ≤ n) : (s.extract 0 n).extract a b = s.extract a b := by
  apply ByteArray.ext
  apply Array.ext'
  rw [extract_list, extract_list, extract_list, List.drop_zero, Nat.sub_zero, List.drop_take, List.take_take, Nat.min_eq_left (by omega)]
theorem append_ne (s more : ByteArray) (h : more.toList ≠ []) : s ≠ s ++ more := by
  intro e
  have e2 := congrArg ByteArray.size e
  rw [ByteArray.size_append] at e2
  apply h
  rw [ByteArray.toList_eq]
  have := data_length more
  exact List.length_eq_zero_iff.1 (by omega)
theorem cut_j1 (m : List ByteArray) (s more : ByteArray) (at_ : Nat) (hs : closeB m = s) (hm : mayS m) (hz : s.size < 2000000) (hat : at_ < s.size) (k : Nat) (hk : 200000000 < k) :
    transhipmentlaw02_SealCut.j1 k m (at_ : Int) more s (openB (s.extract 0 at_)).1 (openB (s.extract 0 at_)).2 (openB (s ++ more)).1 (openB (s ++ more)).2 false = some true := by
  obtain ⟨k, rfl⟩ : ∃ m, k = m + 1 := ⟨k - 1, by omega⟩
  have hl := hm.1
  have last : (if more.toList = ([] : List UInt8) then (some true) else (if (openB (s ++ more)).2 = 0 then ((transhipmentref01_Same.f k (openB (s ++ more)).1 m).bind fun t462 => (some (!t462))) else (some true))) = some true := by
    by_cases h0 : more.toList = []
    · rw [if_pos h0]
    · rw [if_neg h0]
      by_cases h1 : (openB (s ++ more)).2 = 0
      · obtain ⟨h2, h3, _⟩ := openB_ok' (s ++ more) h1
        have h4 := h2.1
        have hne : (openB (s ++ more)).1 ≠ m := fun e => by
          rw [e, hs] at h3
          exact append_ne s more h0 h3
        rw [if_pos h1, ref_Same_eq _ _ (by omega) k (by omega), decide_eq_false hne]
        rfl
      · rw [if_neg h1]
  simp only [transhipmentlaw02_SealCut.j1]
  rw [if_neg (by simp)]
  by_cases h : (openB (s.extract 0 at_)).2 = 0
  · obtain ⟨_, _, h36, hsum⟩ := openB_ok' (s.extract 0 at_) h
    have hsz : (s.extract 0 at_).size = at_ := by rw [ByteArray.size_extract]; omega
    rw [hsz] at h36 hsum
    rw [extract_twice _ _ _ _ (by omega), extract_twice _ _ _ _ (by omega)] at hsum
    have hmx : mx (wrap64 ((at_ : Int) - 32)) 0 = ((at_ - 32 : Nat) : Int) := by
      rw [wrap64_id (by omega) (by omega)]
      unfold mx
      split <;> omega
    rw [if_pos h, hmx, if_pos (by omega), if_pos (by omega), Int.toNat_natCast, Int.toNat_natCast, seal_Sum_eq _ (by rw [ByteArray.size_extract]; omega)]
    simp only [Option.bind_some]
    rw [if_pos (by omega), if_pos (by omega), if_pos ((bytes_eq _ _).2 hsum)]
    exact last
  · rw [if_neg h, openB_err _ h]
    rw [if_pos (by simp)]
    exact last
theorem at_place (a : Int) (n : Nat) (hn : 0 < n) (h : n < 2000000) : ∃ b : Nat, b < n ∧ Int.tmod (wrap64 ((Int.tmod a (n : Int)) + (n : Int))) (n : Int) = (b : Int) := by
  have h1 := Int.tmod_lt_of_pos a (b := (n : Int)) (by omega)
  have h2 : -(n : Int) < Int.tmod a n := Int.lt_tmod_of_pos a (by omega)
  generalize Int.tmod a n = x at *
  rw [wrap64_id (by omega) (by omega), Int.tmod_eq_emod_of_nonneg (by omega)]
  have h3 := Int.emod_nonneg (x + n) (b := (n : Int)) (by omega)
  have h4 := Int.emod_lt_of_pos (x + n) (b := (n : Int)) (by omega)
  exact ⟨((x + n) % n).toNat, by omega, by omega⟩
theorem cut_j0 (m : List ByteArray) (s more : ByteArray) (a : Int) (hs : closeB m = s) (hm : mayS m) (hz : s.size < 2000000) (hz0 : 0 < s.size) (hmore : more.size ≤ 20) (k : Nat) (hk : 300000000 < k) :
    transhipmentlaw02_SealCut.j0 k m a more s 0 false = some true := by
  obtain ⟨k, rfl⟩ : ∃ m, k = m + 1 := ⟨k - 1, by omega⟩
  obtain ⟨b, hb, hab⟩ := at_place a s.size hz0 hz
  have hl := hm.1
  simp only [transhipmentlaw02_SealCut.j0]
  rw [if_neg (by simp), if_neg (by omega), hab, if_pos (by omega), if_pos (by omega), Int.toNat_natCast, seal_Open_eq _ (by rw [ByteArray.size_extract]; omega) k (by omega)]
  simp only [Option.bind_some]
  rw [if_pos (by omega), seal_Open_eq _ (by rw [ByteArray.size_append]; omega) k (by omega), alive_true]
  simp only [Option.bind_some]
  have go := cut_j1 m s more b hs hm hz hb k (by omega)
  by_cases h0 : more.toList = []
  · have e : s ++ more = s := by
      apply ByteArray.ext
      apply Array.ext'
      rw [ByteArray.data_append, Array.toList_append]
      rw [ByteArray.toList_eq] at h0
      rw [h0, List.append_nil]
    have ho := open_close m hm
    rw [hs] at ho
    rw [e, ho] at go
    rw [e, ho]
    dsimp only at go ⊢
    rw [if_pos h0, if_pos (by trivial), ref_Same_eq _ _ (by omega) k (by omega)]
    simp only [Option.bind_some, decide_true, if_true, Bool.not_true]
    exact go
  · rw [if_neg h0]
    simp only [Bool.not_true]
    exact go
theorem SealCut : transhipmentlaw02_SealCut.Pure := by
  intro l a more hl ha hmore
  refine ⟨400000000, ?_⟩
  unfold transhipmentlaw02_SealCut.f
  rw [cut_eq _ (by decide)]
  simp only [Option.bind_some]
  rw [show mn (more.size : Int) 20 = ((min more.size 20 : Nat) : Int) from mn_min _ 20, if_pos (by omega), if_pos (by omega), Int.toNat_natCast]
  have hz : (more.extract 0 (min more.size 20)).size ≤ 20 := by rw [ByteArray.size_extract]; omega
  generalize more.extract 0 (min more.size 20) = t at *
  have hl1 := cutL_length l
  have hl2 := @cutL_size l
  generalize cutL l = m at *
  rw [seal_Close_eq _ (by decide) m hl2]
  simp only [Option.bind_some]
  by_cases h : mayS m
  · have hc := closeB_size m
    have ht := tailB_size m hl1 hl2
    have hne : ((closeB m).toList == ([] : List UInt8)) = false := by
      apply beq_eq_false_iff_ne.2
      rw [ByteArray.toList_eq]
      intro e
      have := data_length (closeB m)
      rw [e] at this
      simp at this
      omega
    rw [if_pos h, if_pos (by trivial)]
    simp only
    rw [hne]
    exact cut_j0 m _ t a rfl h (by omega) (by omega) hz _ (by decide)
  · rw [if_neg h, if_neg (by decide)]
    simp only [transhipmentlaw02_SealCut.j0]
    rw [if_pos (by trivial), alive_true]
    rfl
end Go.Proofs.YtceedgflpkaclaaDoor.Pure

/- What a value that came in reads as: each reading of a type is one of its kind's values, within bounds. Conditions: none. -/
namespace Go.Proofs.YtceedgflpkaclaaDoor.P
open Go.RowKit Go.Proofs.YtceedgflpkaclaaDoorW.PrintWords Go.Proofs.YtceedgflpkaclaaDoorW.PrintLast Go.Proofs.YtceedgflpkaclaaDoorW.PrintMore

/-- Each reading of type t is one of kind d's values, and ok. -/
def Opens {H : Type} (enc : TypeId × Value → H) (P : Program) (w : World) (base : Nat) (spare : Nat → Bool) (held : Bool) {α : Type} (d : Kd α) (ok : α → Prop) (t : TypeId) : Prop :=
  ∀ fuel cs x, DataW.trod enc P w base spare held fuel t cs = some x → ∃ a, d.K w a cs ∧ ok a

section
variable {H : Type} {enc : TypeId × Value → H} {P : Program} {w : World} {base : Nat} {spare : Nat → Bool} {held : Bool} {t e : TypeId}
theorem opens_string (ht : P.underlying t = some .string) : Opens enc P w base spare held Kd.string (fun s => s.size ≤ maxLen) t := by
  intro fuel cs x h
  obtain ⟨s, rfl, _, hw⟩ := DataW.trod_string ht h
  exact ⟨s, rfl, hw⟩
theorem opens_int {k : IntKind} (ht : P.underlying t = some (.int k)) : Opens enc P w base spare held (Kd.int k) (fun n => (Lit.int k n).wf = true) t := by
  intro fuel cs x h
  obtain ⟨n, rfl, _, hw⟩ := DataW.trod_int ht h
  exact ⟨n, rfl, hw⟩
theorem opens_bool (ht : P.underlying t = some .bool) : Opens enc P w base spare held Kd.bool (fun _ => True) t := by
  intro fuel cs x h
  obtain ⟨b, rfl, _⟩ := DataW.trod_bool ht h
  exact ⟨b, rfl, trivial⟩

theorem list_of {α : Type} (p : Nat → α → Prop) : ∀ n, (∀ i, i < n → ∃ a, p i a) → ∃ l : List α, l.length = n ∧ ∀ i a, l[i]? = some a → p i a
  | 0, _ => ⟨[], rfl, fun i a h => by simp at h⟩
  | n + 1, h => by
    obtain ⟨l, hl, hp⟩ := list_of p n (fun i hi => h i (by omega))
    obtain ⟨a, ha⟩ := h n (by omega)
    refine ⟨l ++ [a], by simp [hl], fun i b hb => ?_⟩
    rw [List.getElem?_append] at hb
    split at hb
    · exact hp i b hb
    · rename_i hi
      have : i = n := by
        have := (List.getElem?_eq_some_iff.1 hb).1
        simp at this
        omega
      subst this
      simp [hl] at hb
      subst hb
      exact ha
theorem opens_slice {α : Type} {d : Kd α} {ok : α → Prop} (ht : P.underlying t = some (.slice e)) (hc : P.cellsOf e = d.sz) (he : Opens enc P w base spare held d ok e) :
    Opens enc P w base spare held (Kd.slice e d) (fun l => l.length ≤ maxLen ∧ ∀ a ∈ l, ok a) t := by
  intro fuel cs x h
  rcases DataW.trod_slice ht h with ⟨rfl, _⟩ | ⟨a, len, cap, elems, rest, n, _, rfl, _, hb, hl, hm, hlen, hel, _, _⟩
  · exact ⟨[], ⟨none, 0, rfl, Nat.le_refl _, Kd.C_nil d w⟩, by simp, fun a ha => by simp at ha⟩
  · obtain ⟨l, hll, hp⟩ := list_of (fun i (b : α) => ∃ c, c.length = d.sz ∧ d.K w b c ∧ ok b ∧ ∀ j u, c[j]? = some u → w.cell? (a.add (i * d.sz + j)) = some u) len (by
      intro i hi
      have h1 := hel i hi
      rw [hc] at h1
      have h2 : i < elems.length := by omega
      rw [List.getElem?_eq_getElem h2] at h1
      obtain ⟨c, hcs, hct⟩ := Option.bind_eq_some_iff.1 h1
      obtain ⟨b, hK, hok⟩ := he _ _ _ hct
      obtain ⟨_, hcl, hcell⟩ := World.cells?_some hcs
      refine ⟨b, c, hcl, hK, hok, fun j u hj => ?_⟩
      have hjl : j < d.sz := by rw [← hcl]; exact (List.getElem?_eq_some_iff.1 hj).1
      have h3 := hcell j hjl
      rw [hj] at h3
      rw [← h3, Addr.add_add])
    refine ⟨l, ⟨some a, cap, by rw [hll], by omega, ?_⟩, by omega, ?_⟩
    · refine ⟨rfl, by unfold maxLen at hm; omega, fun _ => ⟨a, rfl, fun j p hj => ?_⟩⟩
      obtain ⟨c, h1, h2, _, h3⟩ := hp j p hj
      exact ⟨c, h1, h2, h3⟩
    · intro b hb
      obtain ⟨i, hi⟩ := List.getElem?_of_mem hb
      obtain ⟨_, _, _, h3, _⟩ := hp i b hi
      exact h3
/-- A slice among a law's parameters. -/
theorem opened_slice {α : Type} {d : Kd α} {ok : List α → Prop} (hs : Opens enc P w base spare held (Kd.slice e d) ok t) {a : Option Addr} {len cap : Nat} {x : DataW H} {ps : List MemPlace}
    (h : DataW.Trod enc P w base spare held t (.slice a len cap) x ps) : ∃ l : List α, len = l.length ∧ d.C w a l.length l ∧ l.length ≤ cap ∧ ok l := by
  obtain ⟨fuel, hf⟩ := h
  obtain ⟨l, ⟨A, c, hcs, hle, hC⟩, ho⟩ := hs _ _ _ hf
  simp [Value.cells] at hcs
  obtain ⟨rfl, rfl, rfl⟩ := hcs
  exact ⟨l, rfl, hC, hle, ho⟩
end
end Go.Proofs.YtceedgflpkaclaaDoor.P
