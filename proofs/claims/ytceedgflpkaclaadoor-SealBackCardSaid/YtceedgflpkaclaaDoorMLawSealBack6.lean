/- What these functions of the program and of the plain reference compute, and plain lemmas on it: FrameLaw, Pref01Loose, Pref01Bind, FrameLawB, FrameLawC, FrameLawD, FrameLawE. Conditions: as each lemma says. -/
import Derived.Test.YtceedgflpkaclaaDoorMLawSealBack2
import Derived.Test.YtceedgflpkaclaaDoorMLawSealBack5
import Derived.Test.YtceedgflpkaclaaDoorMLawSealBack0
import Derived.Test.YtceedgflpkaclaaDoorMLawSealBack4
/- What the numbers of layer 1 come to: the program's functions and the document's, each as one plain Lean function. Conditions: as each lemma says. -/
namespace Go.Proofs.YtceedgflpkaclaaDoor.P
open Go.RowKit Go.Proofs.YtceedgflpkaclaaDoorW.PrintWords Go.Proofs.YtceedgflpkaclaaDoorW.PrintLast Go.Proofs.YtceedgflpkaclaaDoorW.PrintMore

/-! ### a number's bytes -/
def numL (n : Nat) : List Int := if h : n < 128 then [(n : Int)] else ((n % 128 + 128 : Nat) : Int) :: numL (n / 128)
termination_by n
decreasing_by omega

theorem numL_length_pos (n : Nat) : 0 < (numL n).length := by
  unfold numL
  split <;> simp
theorem numL_length_le (n : Nat) : ∀ d, n < 128 ^ (d + 1) → (numL n).length ≤ d + 1 := by
  induction n using Nat.strongRecOn with
  | _ n ih =>
    intro d hd
    unfold numL
    split
    · simp
    · rename_i h
      cases d with
      | zero => simp at hd; omega
      | succ d =>
        have := ih (n / 128) (by omega) d (by rw [Nat.pow_succ] at hd; omega)
        simp only [List.length_cons]
        omega

theorem wrap64_id {x : Int} (h0 : -9223372036854775808 ≤ x) (h1 : x < 9223372036854775808) : wrap64 x = x := by unfold wrap64; omega

theorem frame_Number_l0 : ∀ (d : Nat) (k n : Nat) (acc : List Int), n < 128 ^ (d + 1) → n < 9223372036854775808 → d < 100 → d < k → acc.length + d < 1000 →
    frame_Number.l0 k (n : Int) acc = some (strOfNums (acc ++ numL n), 0) := by
  intro d
  induction d with
  | zero =>
    intro k n acc hn hb hd hk ha
    obtain ⟨k, rfl⟩ : ∃ m, k = m + 1 := ⟨k - 1, by omega⟩
    have h128 : n < 128 := by simpa using hn
    simp only [frame_Number.l0]
    rw [if_neg (by omega), if_pos (by omega)]
    unfold numL
    rw [dif_pos h128, show (n : Int) % 256 = n by omega]
  | succ d ih =>
    intro k n acc hn hb hd hk ha
    obtain ⟨k, rfl⟩ : ∃ m, k = m + 1 := ⟨k - 1, by omega⟩
    simp only [frame_Number.l0]
    by_cases h : n < 128
    · rw [if_neg (by omega), if_pos (by omega)]
      unfold numL
      rw [dif_pos h, show (n : Int) % 256 = n by omega]
    · rw [if_pos (by omega), if_pos (by omega)]
      have e1 : wrap64 (Int.tdiv (n : Int) 128) = ((n / 128 : Nat) : Int) := by
        rw [Int.tdiv_eq_ediv_of_nonneg (by omega)]
        rw [wrap64_id (by omega) (by omega)]
        omega
      have e2 : wrap64 (Int.tmod (n : Int) 128 + 128) % 256 = ((n % 128 + 128 : Nat) : Int) := by
        rw [Int.tmod_eq_emod_of_nonneg (by omega)]
        rw [wrap64_id (by omega) (by omega)]
        omega
      rw [e1, e2, ih k (n / 128) _ (by rw [Nat.pow_succ] at hn; omega) (by omega) (by omega) (by omega) (by simp; omega)]
      conv => rhs; unfold numL
      rw [dif_neg h, List.append_assoc]
      rfl

def numB (n : Int) : ByteArray := strOfNums (numL n.toNat)
theorem frame_Number_eq (k : Nat) (hk : 20 < k) (n : Int) (h : -9223372036854775808 ≤ n ∧ n < 9223372036854775808) :
    frame_Number.f k n = some (if 0 ≤ n ∧ n < 4611686018427387904 then (numB n, 0) else (⟨#[]⟩, 1)) := by
  unfold frame_Number.f
  obtain ⟨k, rfl⟩ : ∃ m, k = m + 1 := ⟨k - 1, by omega⟩
  by_cases h0 : n < 0
  · rw [if_pos h0, if_neg (by omega)]
    simp only [frame_Number.j0]
    rfl
  · rw [if_neg h0]
    simp only [frame_Number.j0]
    by_cases h1 : n < 4611686018427387904
    · rw [if_neg (by simp; omega), if_pos (by omega)]
      obtain ⟨m, rfl⟩ := Int.eq_ofNat_of_zero_le (Int.not_lt.1 h0)
      rw [frame_Number_l0 10 k m [] (by omega) (by omega) (by omega) (by omega) (by simp)]
      simp [numB]
    · rw [if_pos (by simp; omega), if_neg (by omega)]

theorem ref_Number_l0 : ∀ (d : Nat) (k n : Nat) (acc : List Int), n < 128 ^ (d + 1) → n < 9223372036854775808 → d < 100 → d < k → acc.length + d < 1000 →
    transhipmentref01_Number.l0 k (n : Int) acc = some (strOfNums (acc ++ numL n)) := by
  intro d
  induction d with
  | zero =>
    intro k n acc hn hb hd hk ha
    obtain ⟨k, rfl⟩ : ∃ m, k = m + 1 := ⟨k - 1, by omega⟩
    have h128 : n < 128 := by simpa using hn
    simp only [transhipmentref01_Number.l0]
    rw [if_neg (by omega), if_pos (by omega)]
    unfold numL
    rw [dif_pos h128, show (n : Int) % 256 = n by omega]
  | succ d ih =>
    intro k n acc hn hb hd hk ha
    obtain ⟨k, rfl⟩ : ∃ m, k = m + 1 := ⟨k - 1, by omega⟩
    simp only [transhipmentref01_Number.l0]
    by_cases h : n < 128
    · rw [if_neg (by omega), if_pos (by omega)]
      unfold numL
      rw [dif_pos h, show (n : Int) % 256 = n by omega]
    · rw [if_pos (by omega), if_pos (by omega)]
      have e1 : wrap64 (Int.tdiv (n : Int) 128) = ((n / 128 : Nat) : Int) := by
        rw [Int.tdiv_eq_ediv_of_nonneg (by omega)]
        rw [wrap64_id (by omega) (by omega)]
        omega
      have e2 : wrap64 (128 + Int.tmod (n : Int) 128) % 256 = ((n % 128 + 128 : Nat) : Int) := by
        rw [Int.tmod_eq_emod_of_nonneg (by omega)]
        rw [wrap64_id (by omega) (by omega)]
        omega
      rw [e1, e2, ih k (n / 128) _ (by rw [Nat.pow_succ] at hn; omega) (by omega) (by omega) (by omega) (by simp; omega)]
      conv => rhs; unfold numL
      rw [dif_neg h, List.append_assoc]
      rfl
theorem ref_Number_eq (k : Nat) (hk : 20 < k) (n : Int) (h0 : 0 ≤ n) (h1 : n < 9223372036854775808) : transhipmentref01_Number.f k n = some (numB n) := by
  unfold transhipmentref01_Number.f
  obtain ⟨m, rfl⟩ := Int.eq_ofNat_of_zero_le h0
  rw [ref_Number_l0 10 k m [] (by omega) (by omega) (by omega) (by omega) (by simp)]
  simp [numB]

/-! ### a number at a text's beginning -/
/-- The number of the first bytes. -/
def val (s : ByteArray) : Nat → Int
  | 0 => 0
  | i + 1 => val s i + bt s i % 128 * 128 ^ i
theorem val_range (s : ByteArray) : ∀ i, 0 ≤ val s i ∧ val s i < 128 ^ i
  | 0 => by simp [val]
  | i + 1 => by
    obtain ⟨h0, h1⟩ := val_range s i
    have hp : (0 : Int) < 128 ^ i := Int.pow_pos (by decide)
    have hm0 : 0 ≤ bt s i % 128 := Int.emod_nonneg _ (by decide)
    have hm1 : bt s i % 128 ≤ 127 := by have := Int.emod_lt_of_pos (bt s i) (show (0 : Int) < 128 by decide); omega
    have h2 : 0 ≤ bt s i % 128 * 128 ^ i := Int.mul_nonneg hm0 (Int.le_of_lt hp)
    have h3 : bt s i % 128 * 128 ^ i ≤ 127 * 128 ^ i := Int.mul_le_mul_of_nonneg_right hm1 (Int.le_of_lt hp)
    simp only [val, Int.pow_succ]
    omega
/-- The first byte below 128, among d from i on. -/
def scan (s : ByteArray) : Nat → Nat → Option Nat
  | 0, _ => none
  | d + 1, i => if bt s i < 128 then some i else scan s d (i + 1)
def readAt (s : ByteArray) : Option Nat → Int × Int × Int
  | none => if 9 ≤ s.size then (0, 0, 2) else (0, 0, 3)
  | some L => if bt s L = 0 ∧ 0 < L then (0, 0, 6) else (val s (L + 1), (L : Int) + 1, 0)
def readB (s : ByteArray) : Int × Int × Int := readAt s (scan s (min s.size 9) 0)

theorem bits_or_comm (k : IntKind) (x y : Int) : Go.bits .or k x y = Go.bits .or k y x := by simp only [Go.bits, BitVec.or_comm]
theorem pow128 (i : Nat) : (128 : Int) ^ i = 2 ^ (7 * i) := by rw [Int.pow_mul]; rfl
theorem pow128_le (i : Nat) (hi : i ≤ 8) : (128 : Int) ^ i ≤ 72057594037927936 := by
  have h : 128 ^ i ≤ 128 ^ 8 := Nat.pow_le_pow_right (by decide) hi
  have h2 : ((128 ^ i : Nat) : Int) ≤ ((128 ^ 8 : Nat) : Int) := by exact_mod_cast h
  simpa using h2
theorem wrap_small {x : Int} (h0 : 0 ≤ x) (h1 : x < 2 ^ 63) : IntKind.i64.wrap x = x := by
  rw [IntKind.wrap_i64]
  omega
theorem or_low (x y : Int) (i : Nat) (hi : i ≤ 8) (hx0 : 0 ≤ x) (hx1 : x < 128 ^ i) (hy0 : 0 ≤ y) (hy1 : y < 128) : Go.bits .or .i64 x (y * 128 ^ i) = x + y * 128 ^ i := by
  have hp : (0 : Int) < 128 ^ i := Int.pow_pos (by decide)
  have hle := pow128_le i hi
  have h1 : 0 ≤ y * 128 ^ i := Int.mul_nonneg hy0 (Int.le_of_lt hp)
  have h2 : y * 128 ^ i ≤ 127 * 128 ^ i := Int.mul_le_mul_of_nonneg_right (by omega) (Int.le_of_lt hp)
  rw [bits_or_comm, bits_join .i64 63 (by decide) (fun n a b => wrap_small a b) (7 * i) (y * 128 ^ i) x h1 (by rw [← pow128]; exact Int.mul_emod_left _ _) (by omega) hx0 (by rw [← pow128]; exact hx1) (by omega)]
  omega
theorem shl7 (y : Int) (i : Nat) (hi : i ≤ 8) (hy0 : 0 ≤ y) (hy1 : y < 128) : shl .i64 y (7 * (i : Int)) = y * 128 ^ i := by
  have hp : (0 : Int) < 128 ^ i := Int.pow_pos (by decide)
  have hle := pow128_le i hi
  have h1 : 0 ≤ y * 128 ^ i := Int.mul_nonneg hy0 (Int.le_of_lt hp)
  have h2 : y * 128 ^ i ≤ 127 * 128 ^ i := Int.mul_le_mul_of_nonneg_right (by omega) (Int.le_of_lt hp)
  unfold shl
  rw [show min (7 * (i : Int)).toNat IntKind.i64.bits = 7 * i by simp [IntKind.bits]; omega, ← pow128]
  exact wrap_small h1 (by omega)

theorem or_step (s : ByteArray) (i : Nat) (hi : i ≤ 8) : Go.bits .or .i64 (val s i) (shl .i64 (bt s i % 128) (7 * (i : Int))) = val s (i + 1) := by
  have h0 : 0 ≤ bt s i % 128 := Int.emod_nonneg _ (by decide)
  have h1 : bt s i % 128 < 128 := Int.emod_lt_of_pos _ (by decide)
  rw [shl7 _ i hi h0 h1, or_low _ _ i hi (val_range s i).1 (val_range s i).2 h0 h1]
  rfl
theorem mn_min (a b : Nat) : mn (a : Int) (b : Int) = ((min a b : Nat) : Int) := by
  unfold mn
  split <;> omega

theorem frame_Read_l0 (s : ByteArray) (hs : s.size ≤ 9223372036854775807) : ∀ (d i k : Nat), i + d = min s.size 9 → d < k →
    frame_Read.l0 k s (val s i) ((min s.size 9 : Nat) : Int) i = some (readAt s (scan s d i)) := by
  intro d
  induction d with
  | zero =>
    intro i k hi hk
    obtain ⟨k, rfl⟩ : ∃ m, k = m + 1 := ⟨k - 1, by omega⟩
    simp only [frame_Read.l0, scan, readAt]
    rw [if_neg (by omega)]
    by_cases h : 9 ≤ s.size
    · rw [if_pos (by omega), if_pos h]
    · rw [if_neg (by omega), if_neg h]
  | succ d ih =>
    intro i k hi hk
    obtain ⟨k, rfl⟩ : ∃ m, k = m + 1 := ⟨k - 1, by omega⟩
    have hb := bt_range s i
    have hi9 : i ≤ 8 := by omega
    have his : i < s.size := by omega
    have e1 : wrap64 (7 * (i : Int)) = 7 * (i : Int) := wrap64_id (by omega) (by omega)
    have e2 : wrap64 (bt s (i : Int)) = bt s i := wrap64_id (by omega) (by omega)
    have e3 : wrap64 ((i : Int) + 1) = ((i + 1 : Nat) : Int) := wrap64_id (by omega) (by omega)
    have e4 : Int.tmod (bt s i) 128 = bt s i % 128 := Int.tmod_eq_emod_of_nonneg (by omega)
    have e5 : Go.bits .or .i64 (val s i) (shl .i64 (bt s i % 128) (7 * (i : Int))) = val s (i + 1) := or_step s i hi9
    simp only [frame_Read.l0, scan]
    rw [if_pos (by omega), if_pos (by omega), if_pos (by omega), e1, if_pos (by omega), e2, e3, e4, e5]
    by_cases hlow : bt s i < 128
    · rw [if_neg (by omega), if_pos hlow]
      simp only [readAt]
      by_cases hz : bt s i = 0
      · rw [if_pos hz]
        by_cases hi0 : 0 < i
        · rw [if_pos (by omega), if_pos ⟨hz, hi0⟩]
        · rw [if_neg (by omega), if_neg (by omega)]
          rfl
      · rw [if_neg hz, if_neg (fun h => hz h.1)]
        rfl
    · rw [if_pos (by omega), if_neg hlow]
      exact ih (i + 1) k (by omega) (by omega)
theorem frame_Read_eq (s : ByteArray) (hs : s.size ≤ 9223372036854775807) (k : Nat) (hk : 20 < k) : frame_Read.f k s = some (readB s) := by
  unfold frame_Read.f readB
  rw [show mn (s.size : Int) 9 = ((min s.size 9 : Nat) : Int) from mn_min _ 9]
  exact frame_Read_l0 s hs (min s.size 9) 0 k (by omega) (by omega)

/-! the document's -/
theorem scan_lt (s : ByteArray) : ∀ d i L, scan s d i = some L → i ≤ L ∧ L < i + d ∧ bt s L < 128 := by
  intro d
  induction d with
  | zero => intro i L h; simp [scan] at h
  | succ d ih =>
    intro i L h
    simp only [scan] at h
    split at h
    · rename_i hl
      obtain rfl := Option.some.inj h
      exact ⟨by omega, by omega, hl⟩
    · obtain ⟨h1, h2, h3⟩ := ih _ _ h
      exact ⟨by omega, by omega, h3⟩
theorem ref_Read_l1 (s : ByteArray) (L : Nat) (hL : L < 9) (hLs : L < s.size) : ∀ (i k : Nat) (n : Int), i ≤ L + 1 → i < k → 0 ≤ n → (n + 1) * 128 ^ i ≤ 9223372036854775808 →
    transhipmentref01_Read.l1 k s L n ((i : Int) - 1) = some (n * 128 ^ i + val s i, (L : Int) + 1, 0) := by
  intro i
  induction i with
  | zero =>
    intro k n hi hk h0 h1
    obtain ⟨k, rfl⟩ : ∃ m, k = m + 1 := ⟨k - 1, by omega⟩
    simp only [transhipmentref01_Read.l1]
    rw [if_neg (by omega), wrap64_id (x := (L : Int) + 1) (by omega) (by omega)]
    simp [val]
  | succ i ih =>
    intro k n hi hk h0 h1
    obtain ⟨k, rfl⟩ : ∃ m, k = m + 1 := ⟨k - 1, by omega⟩
    have hb := bt_range s i
    have hp : (1 : Int) ≤ 128 ^ i := Int.pow_pos (by decide)
    rw [Int.pow_succ] at h1
    have h2 : (n + 1) * (128 ^ i * 128) = 128 * ((n + 1) * 128 ^ i) := by rw [Int.mul_comm (128 ^ i) 128, ← Int.mul_assoc, Int.mul_comm (n + 1) 128, Int.mul_assoc]
    have h3 : n + 1 ≤ (n + 1) * 128 ^ i := by
      have := Int.mul_le_mul_of_nonneg_left hp (show 0 ≤ n + 1 by omega)
      omega
    have e0 : (((i + 1 : Nat) : Int) - 1) = (i : Int) := by omega
    have e1 : wrap64 (128 * n) = 128 * n := wrap64_id (by omega) (by omega)
    have e2 : wrap64 (Int.tmod (bt s i) 128) = bt s i % 128 := by rw [Int.tmod_eq_emod_of_nonneg (by omega)]; exact wrap64_id (by omega) (by omega)
    have e3 : wrap64 (128 * n + bt s i % 128) = 128 * n + bt s i % 128 := wrap64_id (by omega) (by omega)
    have e4 : wrap64 ((i : Int) - 1) = (i : Int) - 1 := wrap64_id (by omega) (by omega)
    simp only [transhipmentref01_Read.l1]
    rw [e0, if_pos (by omega), if_pos (by omega), if_pos (by omega), e1, e2, e3, e4]
    have hd0 : 0 ≤ bt s i % 128 := by omega
    have hd1 : bt s i % 128 ≤ 127 := by omega
    have h4 : (128 * n + bt s i % 128 + 1) * 128 ^ i ≤ (n + 1) * (128 ^ i * 128) := by
      rw [h2, ← Int.mul_assoc]
      exact Int.mul_le_mul_of_nonneg_right (by omega) (by omega)
    rw [ih k _ (by omega) (by omega) (by omega) (by omega)]
    simp only [val, Int.pow_succ, Option.some.injEq, Prod.mk.injEq, and_true]
    rw [Int.add_mul, Int.mul_comm 128 n, Int.mul_assoc n, Int.mul_comm 128 (128 ^ i)]
    omega

theorem ref_Read_found (s : ByteArray) (hs : s.size ≤ 9223372036854775807) (L : Nat) (hL : L < min s.size 9) (_ : bt s L < 128) : ∀ (d i k : Nat), i + d = min s.size 9 → 2 * d + 20 < k →
    transhipmentref01_Read.l0 k s L i = some (readAt s (some L)) := by
  have hb := bt_range s L
  have fin : ∀ k, 18 < k → transhipmentref01_Read.j1 k s L ((min s.size 9 : Nat) : Int) false = some (readAt s (some L)) := by
    intro k hk
    obtain ⟨k, rfl⟩ : ∃ m, k = m + 1 := ⟨k - 1, by omega⟩
    simp only [transhipmentref01_Read.j1]
    rw [if_neg (by simp), if_neg (by omega)]
    obtain ⟨k, rfl⟩ : ∃ m, k = m + 1 := ⟨k - 1, by omega⟩
    simp only [transhipmentref01_Read.j2]
    rw [if_neg (by simp), if_neg (by omega), if_pos (by omega), if_pos (by omega)]
    simp only [readAt]
    have go : ∀ k, 15 < k → transhipmentref01_Read.j3 k s L false = some (val s (L + 1), (L : Int) + 1, 0) := by
      intro k hk
      obtain ⟨k, rfl⟩ : ∃ m, k = m + 1 := ⟨k - 1, by omega⟩
      simp only [transhipmentref01_Read.j3]
      rw [if_neg (by simp)]
      have h := ref_Read_l1 s L (by omega) (by omega) (L + 1) k 0 (by omega) (by omega) (by omega) (by
        have : (128 : Int) ^ (L + 1) ≤ 128 ^ 9 := by
          have h : 128 ^ (L + 1) ≤ 128 ^ 9 := Nat.pow_le_pow_right (by decide) (by omega)
          exact_mod_cast h
        have e : (128 : Int) ^ 9 = 9223372036854775808 := by decide
        omega)
      rw [show (((L + 1 : Nat) : Int) - 1) = (L : Int) by omega] at h
      rw [h]
      simp
    by_cases hz : bt s L = 0
    · rw [if_pos hz]
      by_cases h0 : 0 < L
      · rw [if_pos ⟨hz, h0⟩, show decide ((L : Int) > 0) = true by simp; omega]
        obtain ⟨k, rfl⟩ : ∃ m, k = m + 1 := ⟨k - 1, by omega⟩
        simp only [transhipmentref01_Read.j3]
        rw [if_pos (by trivial)]
      · rw [if_neg (by omega), show decide ((L : Int) > 0) = false by simp; omega]
        exact go k (by omega)
    · rw [if_neg hz, if_neg (fun h => hz h.1)]
      exact go k (by omega)
  intro d
  induction d with
  | zero =>
    intro i k hi hk
    obtain ⟨k, rfl⟩ : ∃ m, k = m + 1 := ⟨k - 1, by omega⟩
    simp only [transhipmentref01_Read.l0]
    have e : (i : Int) = ((min s.size 9 : Nat) : Int) := by omega
    rw [e]
    by_cases h : ((min s.size 9 : Nat) : Int) < s.size
    · rw [if_pos h, show decide (((min s.size 9 : Nat) : Int) < 9) = false by simp; omega]
      exact fin k (by omega)
    · rw [if_neg h]
      exact fin k (by omega)
  | succ d ih =>
    intro i k hi hk
    obtain ⟨k, rfl⟩ : ∃ m, k = m + 1 := ⟨k - 1, by omega⟩
    simp only [transhipmentref01_Read.l0]
    rw [if_pos (by omega), show decide ((i : Int) < 9) = true by simp; omega]
    obtain ⟨k, rfl⟩ : ∃ m, k = m + 1 := ⟨k - 1, by omega⟩
    simp only [transhipmentref01_Read.j1]
    rw [if_pos (by trivial), if_neg (by omega), show wrap64 ((i : Int) + 1) = ((i + 1 : Nat) : Int) from wrap64_id (by omega) (by omega)]
    exact ih (i + 1) k (by omega) (by omega)
theorem ref_Read_l0 (s : ByteArray) (hs : s.size ≤ 9223372036854775807) : ∀ (d i k : Nat), i + d = min s.size 9 → 2 * d + 30 < k →
    transhipmentref01_Read.l0 k s (-1) i = some (readAt s (scan s d i)) := by
  have fin : ∀ k, 18 < k → transhipmentref01_Read.j1 k s (-1) ((min s.size 9 : Nat) : Int) false = some (readAt s none) := by
    intro k hk
    obtain ⟨k, rfl⟩ : ∃ m, k = m + 1 := ⟨k - 1, by omega⟩
    simp only [transhipmentref01_Read.j1]
    rw [if_neg (by simp), if_pos (by omega)]
    obtain ⟨k, rfl⟩ : ∃ m, k = m + 1 := ⟨k - 1, by omega⟩
    simp only [transhipmentref01_Read.j2, readAt]
    by_cases h : 9 ≤ s.size
    · rw [show decide ((s.size : Int) < 9) = false by simp; omega, if_neg (by simp), if_pos (by omega), if_pos h]
    · rw [show decide ((s.size : Int) < 9) = true by simp; omega, if_pos (by trivial), if_neg h]
  intro d
  induction d with
  | zero =>
    intro i k hi hk
    obtain ⟨k, rfl⟩ : ∃ m, k = m + 1 := ⟨k - 1, by omega⟩
    simp only [transhipmentref01_Read.l0, scan]
    have e : (i : Int) = ((min s.size 9 : Nat) : Int) := by omega
    rw [e]
    by_cases h : ((min s.size 9 : Nat) : Int) < s.size
    · rw [if_pos h, show decide (((min s.size 9 : Nat) : Int) < 9) = false by simp; omega]
      exact fin k (by omega)
    · rw [if_neg h]
      exact fin k (by omega)
  | succ d ih =>
    intro i k hi hk
    obtain ⟨k, rfl⟩ : ∃ m, k = m + 1 := ⟨k - 1, by omega⟩
    have e3 : wrap64 ((i : Int) + 1) = ((i + 1 : Nat) : Int) := wrap64_id (by omega) (by omega)
    simp only [transhipmentref01_Read.l0, scan]
    rw [if_pos (by omega), show decide ((i : Int) < 9) = true by simp; omega]
    obtain ⟨k, rfl⟩ : ∃ m, k = m + 1 := ⟨k - 1, by omega⟩
    simp only [transhipmentref01_Read.j1]
    rw [if_pos (by trivial), if_pos (by omega), if_pos (by omega), if_pos (by omega), e3]
    by_cases hlow : bt s i < 128
    · rw [if_pos hlow, if_pos hlow]
      exact ref_Read_found s hs i (by omega) hlow d (i + 1) k (by omega) (by omega)
    · rw [if_neg hlow, if_neg hlow]
      exact ih (i + 1) k (by omega) (by omega)
theorem ref_Read_eq (s : ByteArray) (hs : s.size ≤ 9223372036854775807) (k : Nat) (hk : 60 < k) : transhipmentref01_Read.f k s = some (readB s) := by
  unfold transhipmentref01_Read.f readB
  exact ref_Read_l0 s hs (min s.size 9) 0 k (by omega) (by omega)
end Go.Proofs.YtceedgflpkaclaaDoor.P

/- What one function of the program computes, as a Lean function, and a proof that its call comes to just that. Conditions: none. Written by wip/ownprint.py. -/
namespace Go.Proofs.YtceedgflpkaclaaDoor.P
open Go.RowKit Go.Proofs.YtceedgflpkaclaaDoorW.PrintWords Go.Proofs.YtceedgflpkaclaaDoorW.PrintLast Go.Proofs.YtceedgflpkaclaaDoorW.PrintMore
attribute [local go_sem] max2_int min2_int max_two min_two max_three min_three max_four min_four   -- for this text's walks alone
set_option linter.unusedVariables false
set_option linter.unusedSimpArgs false

/-! ### transhipmentref01_Loose: function 44 -/
mutual
def transhipmentref01_Loose.l0 : Nat → ByteArray → List ByteArray → Option (List ByteArray × Int)
  | 0, _, _ => none
  | k + 1, x0, x4 => if (x0.size : Int) > 0 then ((transhipmentref01_Read.f k x0).bind fun bt361 => (if bt361.2.2 = 0 then (if bt361.1 > 8192 then (transhipmentref01_Loose.j1 k x0 x4 true bt361.1 bt361.2.1 bt361.2.2) else (transhipmentref01_Loose.j1 k x0 x4 ((x4.length : Int) == 512) bt361.1 bt361.2.1 bt361.2.2)) else (some (([] : List ByteArray), bt361.2.2)))) else (some (x4, 0))
def transhipmentref01_Loose.j1 : Nat → ByteArray → List ByteArray → Bool → Int → Int → Int → Option (List ByteArray × Int)
  | 0, _, _, _, _, _, _ => none
  | k + 1, x0, x4, x24, x365000, x365001, x365002 => if x24 = true then (some (([] : List ByteArray), 2)) else (if 0 ≤ x365001 then (if x365001 ≤ (x0.size : Int) then (if x365000 > ((x0.size - (x365001 : Int).toNat : Nat) : Int) then (some (([] : List ByteArray), 3)) else (if 0 ≤ x365000 then (if x365000 ≤ ((x0.size - (x365001 : Int).toNat : Nat) : Int) then (if x4.length < 8796093022208 then (transhipmentref01_Loose.l0 k ((x0.extract (x365001 : Int).toNat x0.size).extract (x365000 : Int).toNat (x0.extract (x365001 : Int).toNat x0.size).size) (x4 ++ [(x0.extract (x365001 : Int).toNat x0.size).extract 0 (x365000 : Int).toNat])) else (none)) else (none)) else (none))) else (none)) else (none))
end
def transhipmentref01_Loose.f (k : Nat) (a0 : ByteArray) : Option (List ByteArray × Int) := transhipmentref01_Loose.l0 k a0 (([] : List ByteArray))
theorem transhipmentref01_Loose.mono_l : ∀ k, (∀ y0 y1, LeO (transhipmentref01_Loose.l0 k y0 y1) (transhipmentref01_Loose.l0 (k + 1) y0 y1)) ∧ (∀ y0 y1 y2 y3 y4 y5, LeO (transhipmentref01_Loose.j1 k y0 y1 y2 y3 y4 y5) (transhipmentref01_Loose.j1 (k + 1) y0 y1 y2 y3 y4 y5))
  | 0 => ⟨fun _ _ r h => by simp [transhipmentref01_Loose.l0] at h, fun _ _ _ _ _ _ r h => by simp [transhipmentref01_Loose.j1] at h⟩
  | k + 1 => by
    obtain ⟨ih0, ih1⟩ := transhipmentref01_Loose.mono_l k
    refine ⟨?_, ?_⟩
    · intro y0 y1
      unfold transhipmentref01_Loose.l0
      repeat' first
      | (with_reducible exact ih0 _ _)
      | (with_reducible exact ih1 _ _ _ _ _ _)
      | (with_reducible exact transhipmentref01_Read.mono _ _)
      | (with_reducible exact LeO.refl _)
      | (with_reducible exact LeO.none _)
      | (with_reducible refine LeO.ite ?_ ?_)
      | (with_reducible refine LeO.bind ?_ (fun _ => ?_))
      | exact ih0 _ _
      | exact ih1 _ _ _ _ _ _
      | exact transhipmentref01_Read.mono _ _
      | exact LeO.none _
      | refine LeO.ite ?_ ?_
      | refine LeO.bind ?_ (fun _ => ?_)
    · intro y0 y1 y2 y3 y4 y5
      unfold transhipmentref01_Loose.j1
      repeat' first
      | (with_reducible exact ih0 _ _)
      | (with_reducible exact ih1 _ _ _ _ _ _)
      | (with_reducible exact transhipmentref01_Read.mono _ _)
      | (with_reducible exact LeO.refl _)
      | (with_reducible exact LeO.none _)
      | (with_reducible refine LeO.ite ?_ ?_)
      | (with_reducible refine LeO.bind ?_ (fun _ => ?_))
      | exact ih0 _ _
      | exact ih1 _ _ _ _ _ _
      | exact transhipmentref01_Read.mono _ _
      | exact LeO.none _
      | refine LeO.ite ?_ ?_
      | refine LeO.bind ?_ (fun _ => ?_)
theorem transhipmentref01_Loose.mono : ∀ a0 k, LeO (transhipmentref01_Loose.f k a0) (transhipmentref01_Loose.f (k + 1) a0) := by
  intro a0 k
  obtain ⟨ih0, ih1⟩ := transhipmentref01_Loose.mono_l k
  unfold transhipmentref01_Loose.f
  repeat' first
      | (with_reducible exact ih0 _ _)
      | (with_reducible exact ih1 _ _ _ _ _ _)
      | (with_reducible exact transhipmentref01_Read.mono _ _)
      | (with_reducible exact LeO.refl _)
      | (with_reducible exact LeO.none _)
      | (with_reducible refine LeO.ite ?_ ?_)
      | (with_reducible refine LeO.bind ?_ (fun _ => ?_))
      | exact ih0 _ _
      | exact ih1 _ _ _ _ _ _
      | exact transhipmentref01_Read.mono _ _
      | exact LeO.none _
      | refine LeO.ite ?_ ?_
      | refine LeO.bind ?_ (fun _ => ?_)
set_option maxHeartbeats 8000000 in
set_option maxRecDepth 100000 in
theorem transhipmentref01_Loose.calls (k : Nat) (a0 : ByteArray) (r1 : List ByteArray) (r2 : Int) (w : World) (h : transhipmentref01_Loose.f k a0 = some (r1, r2)) :
    Calls Tryd.prog 44 #[.string a0] w fun e w' => ∃ v0_ : Value, e = .returned (.tuple #[v0_, .int .i64 r2]) ∧ Kd.R Kd.string 9 w' w.heap.size (fun _ => True) v0_ r1 ∧ Below w.heap.size w w' := by
  have hu85 := Tryd.underlying85
  have HB := Aside0.mk (Below.refl w.heap.size w)
  have H : (transhipmentref01_Loose.l0 k a0 (([] : List ByteArray))) = some (r1, r2) := h
  clear h
  obtain ⟨y358, hy358⟩ : ∃ y_ : List ByteArray, y_ = (([] : List ByteArray)) := ⟨_, rfl⟩
  replace H : (transhipmentref01_Loose.l0 k a0 y358) = some (r1, r2) := by first | (rw [hy358]; with_reducible exact H) | (have H2_ := (Option.bind_some _ _).symm.trans H; rw [hy358]; with_reducible exact H2_) | (have H2_ := (Option.bind_some _ _).symm.trans H; with_reducible exact H2_) | with_reducible exact H | (rw [hy358]; exact H) | exact H
  have Ny358 := Aside0.mk hy358
  clear hy358
  have H' := Aside0.mk H
  clear H
  go_enter Tryd.func44, Tryd.ntmps44
  go_wp2_with (first | ((with_reducible refine gate_dst (N := 6) rfl ?_); (try (refine gate_guard (by rfl) ?_; dsimp only)); refine Kd.R_lit Kd.string _ 9 ?hg (N := 6) ?hd (xs := ([] : List ByteArray)) (inner := []) (ok := fun _ => True) (okp := fun _ => True) ?hr ?hp (fun _ hk => hk) trivial (Below.refl _ _) (Nat.le_refl _) (by simp) ?_; (case hd => rfl); (case hg => rfl); (case hr => first | (go_simp; done) | (go_simp; rfl) | (go_simp; simp [IntKind.wrap_u32])); (case hp => exact (Reps.none _ _)); intro v359 w2 ho3 hb hg_ hnew_; clear hg_ hnew_; (first | rw [← Ny358.out] at ho3 | (simp only [Int.reduceToNat] at ho3; rw [← Ny358.out] at ho3)); have n0_ := Aside0.mk (Kd.R_lower ho3 (below_size (by repeat (first | (with_reducible first | exact HB.out | apply below_alloc | apply pw_below_drewN | apply below_drew1) | exact HB.out)))); have n1_ := Aside0.mk (below_step (by repeat (first | (with_reducible first | exact HB.out | apply below_alloc | apply pw_below_drewN | apply below_drew1) | exact HB.out)) hb); clear HB; have HO360 := n0_; have HB := n1_; clear n0_ n1_; clear hb ho3))
  repeat (go_quiet (first | ((with_reducible refine gate_dst (N := 6) rfl ?_); (try (refine gate_guard (by rfl) ?_; dsimp only)); refine Kd.R_lit Kd.string _ 9 ?hg (N := 6) ?hd (xs := ([] : List ByteArray)) (inner := []) (ok := fun _ => True) (okp := fun _ => True) ?hr ?hp (fun _ hk => hk) trivial (Below.refl _ _) (Nat.le_refl _) (by simp) ?_; (case hd => rfl); (case hg => rfl); (case hr => first | (go_simp; done) | (go_simp; rfl) | (go_simp; simp [IntKind.wrap_u32])); (case hp => exact (Reps.none _ _)); intro v359 w2 ho3 hb hg_ hnew_; clear hg_ hnew_; (first | rw [← Ny358.out] at ho3 | (simp only [Int.reduceToNat] at ho3; rw [← Ny358.out] at ho3)); have n0_ := Aside0.mk (Kd.R_lower ho3 (below_size (by repeat (first | (with_reducible first | exact HB.out | apply below_alloc | apply pw_below_drewN | apply below_drew1) | exact HB.out)))); have n1_ := Aside0.mk (below_step (by repeat (first | (with_reducible first | exact HB.out | apply below_alloc | apply pw_below_drewN | apply below_drew1) | exact HB.out)) hb); clear HB; have HO360 := n0_; have HB := n1_; clear n0_ n1_; clear hb ho3)); try go_wp2_with (first | ((with_reducible refine gate_dst (N := 6) rfl ?_); (try (refine gate_guard (by rfl) ?_; dsimp only)); refine Kd.R_lit Kd.string _ 9 ?hg (N := 6) ?hd (xs := ([] : List ByteArray)) (inner := []) (ok := fun _ => True) (okp := fun _ => True) ?hr ?hp (fun _ hk => hk) trivial (Below.refl _ _) (Nat.le_refl _) (by simp) ?_; (case hd => rfl); (case hg => rfl); (case hr => first | (go_simp; done) | (go_simp; rfl) | (go_simp; simp [IntKind.wrap_u32])); (case hp => exact (Reps.none _ _)); intro v359 w2 ho3 hb hg_ hnew_; clear hg_ hnew_; (first | rw [← Ny358.out] at ho3 | (simp only [Int.reduceToNat] at ho3; rw [← Ny358.out] at ho3)); have n0_ := Aside0.mk (Kd.R_lower ho3 (below_size (by repeat (first | (with_reducible first | exact HB.out | apply below_alloc | apply pw_below_drewN | apply below_drew1) | exact HB.out)))); have n1_ := Aside0.mk (below_step (by repeat (first | (with_reducible first | exact HB.out | apply below_alloc | apply pw_below_drewN | apply below_drew1) | exact HB.out)) hb); clear HB; have HO360 := n0_; have HB := n1_; clear n0_ n1_; clear hb ho3)))
  go_loopg [0, 4] k (fun kq v0 v4 w' => ∃ (x0_1 : ByteArray) (x4_1 : List ByteArray), v0 = .string x0_1 ∧ Aside0 (transhipmentref01_Loose.l0 kq x0_1 x4_1 = some (r1, r2)) ∧ Aside0 (kq ≤ k) ∧ Aside0 (Kd.R Kd.string 9 w' w.heap.size (fun _ => True) v4 x4_1) ∧ Aside0 (Below w.heap.size w w'))
  case atStart => exact ⟨(a0), (y358), (by first | rfl | (simp; done) | (simp [*]; done)), H', ⟨Nat.le_refl _⟩, ⟨by (with_reducible repeat (first | apply Kd.R_alloc | apply Kd.R_drewN | apply Kd.R_drew)); exact HO360.out⟩, ⟨by repeat (first | (with_reducible first | exact HB.out | apply below_alloc | apply pw_below_drewN | apply below_drew1) | exact HB.out)⟩⟩
  case round =>
    clear H'
    try clear p2
    obtain ⟨x0_1, x4_1, rfl, HA, HK1, HO_4, HB⟩ := hrel
    cases gk with
    | zero => exact absurd HA.out (by simp [transhipmentref01_Loose.l0])
    | succ k1 =>
      have H := HA.out
      clear HA
      simp only [transhipmentref01_Loose.l0] at H
      by_cases c4 : (x0_1.size : Int) > 0
      · rw [if_pos c4] at H
        have c4b0 : decide (0 < (x0_1.size : Int)) = true := decide_eq_true c4
        have c4b1 : decide (0 < x0_1.size) = true := decide_eq_true (by omega)
        clear c4
        replace H := Option.bind_eq_some_iff.mp H
        obtain ⟨⟨t361, t362, t363⟩, A50, H⟩ := H
        replace H : (if t363 = 0 then (if t361 > 8192 then (transhipmentref01_Loose.j1 k1 x0_1 x4_1 true t361 t362 t363) else (transhipmentref01_Loose.j1 k1 x0_1 x4_1 ((x4_1.length : Int) == 512) t361 t362 t363)) else (some (([] : List ByteArray), t363))) = some (r1, r2) := H
        have A5 := Aside0.mk A50
        clear A50
        by_cases c6 : t363 = 0
        · rw [if_pos c6] at H
          have c6b0 : (t363 == 0) = true := beq_iff_eq.mpr c6
          have c6b1 : (t363 != 0) = false := bne_eq_false_iff_eq.mpr c6
          clear c6
          have HC7 := Aside0.mk H
          clear H
          go_upto_region 6 with (first | (go_at_call 63; (with_reducible refine (transhipmentref01_Read.calls k1 x0_1 t361 t362 t363 _ A5.out).mono ?_); rintro e w8 ⟨rfl, hb⟩; have n0_ := Aside0.mk (Kd.R_below (by (with_reducible repeat (first | apply Kd.R_alloc | apply Kd.R_drewN | apply Kd.R_drew)); exact HO_4.out) hb); have n1_ := Aside0.mk (below_step (by repeat (first | (with_reducible first | exact HB.out | apply below_alloc | apply pw_below_drewN | apply below_drew1) | exact HB.out)) hb); clear HO_4; clear HB; have HO_4 := n0_; have HB := n1_; clear n0_ n1_; (try clear hb); (try clear hb2); (try clear hk); (try clear hi)) | ((with_reducible refine gate_dst (N := 5) rfl ?_); (try (refine gate_guard (by rfl) ?_; dsimp only)); refine box_event ?hg (N := 5) ?hd (cs := #[.int .i64 0, .int .i64 0, .int .i64 0]) (t := 85) ?hr ?_; (case hd => rfl); (case hg => rfl); (case hr => first | (go_simp; done) | (go_simp; rfl) | (go_simp; simp [IntKind.wrap_u32])); intro gb364 hg w9 hbox hb; have n0_ := Aside0.mk (Kd.R_below (by (with_reducible repeat (first | apply Kd.R_alloc | apply Kd.R_drewN | apply Kd.R_drew)); exact HO_4.out) hb); have n1_ := Aside0.mk (below_step (by repeat (first | (with_reducible first | exact HB.out | apply below_alloc | apply pw_below_drewN | apply below_drew1) | exact HB.out)) hb); have n2_ := Aside0.mk (hbox); have n3_ := Aside0.mk ((by rw [hg]; exact (below_size (by repeat (first | (with_reducible first | exact HB.out | apply below_alloc | apply pw_below_drewN | apply below_drew1) | exact HB.out))) : w.heap.size ≤ gb364)); have n4_ := Aside0.mk ((by rw [hg]; exact (below_size (by repeat (first | (with_reducible first | exact HB.out | apply below_alloc | apply pw_below_drewN | apply below_drew1) | exact HB.out))) : w.heap.size ≤ gb364)); clear HO_4; clear HB; have HO_4 := n0_; have HB := n1_; have BK364 := n2_; have GW364 := n3_; have GE364 := n4_; clear n0_ n1_ n2_ n3_ n4_; clear hb hbox hg; have hcz10_0 : w9.cell? ⟨gb364, 0, none⟩ = some (.int .i64 0) := (blk_cell BK364.out 0).trans rfl; have hcz10_1 : w9.cell? ⟨gb364, 1, none⟩ = some (.int .i64 0) := (blk_cell BK364.out 1).trans rfl; have hcz10_2 : w9.cell? ⟨gb364, 2, none⟩ = some (.int .i64 0) := (blk_cell BK364.out 2).trans rfl; have hfz10_0 := blk_frozen BK364.out 0; have hfz10_1 := blk_frozen BK364.out 1; have hfz10_2 := blk_frozen BK364.out 2))
          repeat (go_quiet (first | (go_at_call 63; (with_reducible refine (transhipmentref01_Read.calls k1 x0_1 t361 t362 t363 _ A5.out).mono ?_); rintro e w8 ⟨rfl, hb⟩; have n0_ := Aside0.mk (Kd.R_below (by (with_reducible repeat (first | apply Kd.R_alloc | apply Kd.R_drewN | apply Kd.R_drew)); exact HO_4.out) hb); have n1_ := Aside0.mk (below_step (by repeat (first | (with_reducible first | exact HB.out | apply below_alloc | apply pw_below_drewN | apply below_drew1) | exact HB.out)) hb); clear HO_4; clear HB; have HO_4 := n0_; have HB := n1_; clear n0_ n1_; (try clear hb); (try clear hb2); (try clear hk); (try clear hi)) | ((with_reducible refine gate_dst (N := 5) rfl ?_); (try (refine gate_guard (by rfl) ?_; dsimp only)); refine box_event ?hg (N := 5) ?hd (cs := #[.int .i64 0, .int .i64 0, .int .i64 0]) (t := 85) ?hr ?_; (case hd => rfl); (case hg => rfl); (case hr => first | (go_simp; done) | (go_simp; rfl) | (go_simp; simp [IntKind.wrap_u32])); intro gb364 hg w9 hbox hb; have n0_ := Aside0.mk (Kd.R_below (by (with_reducible repeat (first | apply Kd.R_alloc | apply Kd.R_drewN | apply Kd.R_drew)); exact HO_4.out) hb); have n1_ := Aside0.mk (below_step (by repeat (first | (with_reducible first | exact HB.out | apply below_alloc | apply pw_below_drewN | apply below_drew1) | exact HB.out)) hb); have n2_ := Aside0.mk (hbox); have n3_ := Aside0.mk ((by rw [hg]; exact (below_size (by repeat (first | (with_reducible first | exact HB.out | apply below_alloc | apply pw_below_drewN | apply below_drew1) | exact HB.out))) : w.heap.size ≤ gb364)); have n4_ := Aside0.mk ((by rw [hg]; exact (below_size (by repeat (first | (with_reducible first | exact HB.out | apply below_alloc | apply pw_below_drewN | apply below_drew1) | exact HB.out))) : w.heap.size ≤ gb364)); clear HO_4; clear HB; have HO_4 := n0_; have HB := n1_; have BK364 := n2_; have GW364 := n3_; have GE364 := n4_; clear n0_ n1_ n2_ n3_ n4_; clear hb hbox hg; have hcz10_0 : w9.cell? ⟨gb364, 0, none⟩ = some (.int .i64 0) := (blk_cell BK364.out 0).trans rfl; have hcz10_1 : w9.cell? ⟨gb364, 1, none⟩ = some (.int .i64 0) := (blk_cell BK364.out 1).trans rfl; have hcz10_2 : w9.cell? ⟨gb364, 2, none⟩ = some (.int .i64 0) := (blk_cell BK364.out 2).trans rfl; have hfz10_0 := blk_frozen BK364.out 0; have hfz10_1 := blk_frozen BK364.out 1; have hfz10_2 := blk_frozen BK364.out 2)); go_upto_region 6 with (first | (go_at_call 63; (with_reducible refine (transhipmentref01_Read.calls k1 x0_1 t361 t362 t363 _ A5.out).mono ?_); rintro e w8 ⟨rfl, hb⟩; have n0_ := Aside0.mk (Kd.R_below (by (with_reducible repeat (first | apply Kd.R_alloc | apply Kd.R_drewN | apply Kd.R_drew)); exact HO_4.out) hb); have n1_ := Aside0.mk (below_step (by repeat (first | (with_reducible first | exact HB.out | apply below_alloc | apply pw_below_drewN | apply below_drew1) | exact HB.out)) hb); clear HO_4; clear HB; have HO_4 := n0_; have HB := n1_; clear n0_ n1_; (try clear hb); (try clear hb2); (try clear hk); (try clear hi)) | ((with_reducible refine gate_dst (N := 5) rfl ?_); (try (refine gate_guard (by rfl) ?_; dsimp only)); refine box_event ?hg (N := 5) ?hd (cs := #[.int .i64 0, .int .i64 0, .int .i64 0]) (t := 85) ?hr ?_; (case hd => rfl); (case hg => rfl); (case hr => first | (go_simp; done) | (go_simp; rfl) | (go_simp; simp [IntKind.wrap_u32])); intro gb364 hg w9 hbox hb; have n0_ := Aside0.mk (Kd.R_below (by (with_reducible repeat (first | apply Kd.R_alloc | apply Kd.R_drewN | apply Kd.R_drew)); exact HO_4.out) hb); have n1_ := Aside0.mk (below_step (by repeat (first | (with_reducible first | exact HB.out | apply below_alloc | apply pw_below_drewN | apply below_drew1) | exact HB.out)) hb); have n2_ := Aside0.mk (hbox); have n3_ := Aside0.mk ((by rw [hg]; exact (below_size (by repeat (first | (with_reducible first | exact HB.out | apply below_alloc | apply pw_below_drewN | apply below_drew1) | exact HB.out))) : w.heap.size ≤ gb364)); have n4_ := Aside0.mk ((by rw [hg]; exact (below_size (by repeat (first | (with_reducible first | exact HB.out | apply below_alloc | apply pw_below_drewN | apply below_drew1) | exact HB.out))) : w.heap.size ≤ gb364)); clear HO_4; clear HB; have HO_4 := n0_; have HB := n1_; have BK364 := n2_; have GW364 := n3_; have GE364 := n4_; clear n0_ n1_ n2_ n3_ n4_; clear hb hbox hg; have hcz10_0 : w9.cell? ⟨gb364, 0, none⟩ = some (.int .i64 0) := (blk_cell BK364.out 0).trans rfl; have hcz10_1 : w9.cell? ⟨gb364, 1, none⟩ = some (.int .i64 0) := (blk_cell BK364.out 1).trans rfl; have hcz10_2 : w9.cell? ⟨gb364, 2, none⟩ = some (.int .i64 0) := (blk_cell BK364.out 2).trans rfl; have hfz10_0 := blk_frozen BK364.out 0; have hfz10_1 := blk_frozen BK364.out 1; have hfz10_2 := blk_frozen BK364.out 2)))
          (try simp only [Act.put, List.setIfInBounds_toArray, List.set_cons_zero, List.set_cons_succ])
          go_cut [24] (fun v24 wc => ∃ (kq : Nat) (x24_6 : Bool), v24 = .bool x24_6 ∧ Aside0 (transhipmentref01_Loose.j1 kq x0_1 x4_1 x24_6 t361 t362 t363 = some (r1, r2)) ∧ Aside0 (kq ≤ k1) ∧ Aside0 (Kd.R Kd.string 9 wc w.heap.size (fun _ => True) u4 x4_1) ∧ Aside0 (wc.heap[gb364]? = some (.cells #[.int .i64 t361, .int .i64 t362, .int .i64 t363] 85 (0, 0))) ∧ Aside0 (Below w.heap.size w wc))
          case first =>
            have H := HC7.out
            clear HC7
            by_cases c11 : t361 > 8192
            · rw [if_pos c11] at H
              have c11b0 : decide (8192 < t361) = true := decide_eq_true c11
              clear c11
              (first | rw [c11b0] | (simp only [i64_w, i32_w]; rw [c11b0]) | skip)
              have H' := Aside0.mk H
              clear H
              have hcz12_0 : w9.cell? ⟨gb364, 0, none⟩ = some (.int .i64 0) := (blk_cell BK364.out 0).trans rfl
              have hcz12_1 : w9.cell? ⟨gb364, 1, none⟩ = some (.int .i64 0) := (blk_cell BK364.out 1).trans rfl
              have hcz12_2 : w9.cell? ⟨gb364, 2, none⟩ = some (.int .i64 0) := (blk_cell BK364.out 2).trans rfl
              have hfz12_0 := blk_frozen BK364.out 0
              have hfz12_1 := blk_frozen BK364.out 1
              have hfz12_2 := blk_frozen BK364.out 2
              go_wp2
              repeat (go_quiet (fail); try go_wp2)
              go_meet
              case rel => exact ⟨_, (true), (by first | rfl | (simp; done) | (simp [*]; done)), H', ⟨by have := HK1.out; first | omega | exact Nat.le_refl _⟩, ⟨by (with_reducible repeat (first | apply Kd.R_alloc | apply Kd.R_drewN | apply Kd.R_drew)); exact Kd.R_mono (Kd.R_far (p := ⟨gb364, 2, none⟩) (Kd.R_far (p := ⟨gb364, 1, none⟩) (Kd.R_far (p := ⟨gb364, 0, none⟩) (Kd.R_types HO_4.out BK364.out (by decide)) (fun _ hk => hk.2) (.int .i64 t361)) (fun _ hk => hk.2) (.int .i64 t362)) (fun _ hk => hk.2) (.int .i64 t363)) (fun _ hk => trivial)⟩, ⟨by (with_reducible repeat (first | refine blk_drewN ?_ _ | refine blk_drew ?_ | refine blk_alloc ?_ _)); refine blk_put (cs := #[.int .i64 t361, .int .i64 t362, .int .i64 0]) ?_ 2 _ rfl; (with_reducible repeat (first | refine blk_drewN ?_ _ | refine blk_drew ?_ | refine blk_alloc ?_ _)); refine blk_put (cs := #[.int .i64 t361, .int .i64 0, .int .i64 0]) ?_ 1 _ rfl; (with_reducible repeat (first | refine blk_drewN ?_ _ | refine blk_drew ?_ | refine blk_alloc ?_ _)); refine blk_put (cs := #[.int .i64 0, .int .i64 0, .int .i64 0]) ?_ 0 _ rfl; (with_reducible repeat (first | refine blk_drewN ?_ _ | refine blk_drew ?_ | refine blk_alloc ?_ _)); exact BK364.out⟩, ⟨by repeat (first | (with_reducible first | exact HB.out | apply below_alloc | apply pw_below_drewN | apply below_drew1 | refine below_set ?_ GE364.out) | exact HB.out)⟩⟩
            · rw [if_neg c11] at H
              have c11b0 : decide (8192 < t361) = false := decide_eq_false c11
              clear c11
              (first | rw [c11b0] | (simp only [i64_w, i32_w]; rw [c11b0]) | skip)
              have H' := Aside0.mk H
              clear H
              have hcz13_0 : w9.cell? ⟨gb364, 0, none⟩ = some (.int .i64 0) := (blk_cell BK364.out 0).trans rfl
              have hcz13_1 : w9.cell? ⟨gb364, 1, none⟩ = some (.int .i64 0) := (blk_cell BK364.out 1).trans rfl
              have hcz13_2 : w9.cell? ⟨gb364, 2, none⟩ = some (.int .i64 0) := (blk_cell BK364.out 2).trans rfl
              have hfz13_0 := blk_frozen BK364.out 0
              have hfz13_1 := blk_frozen BK364.out 1
              have hfz13_2 := blk_frozen BK364.out 2
              obtain ⟨Ao14, co14, eo14⟩ := Kd.R_slice HO_4.out
              subst eo14
              go_wp2
              repeat (go_quiet (fail); try go_wp2)
              go_meet
              case rel => exact ⟨_, (((x4_1.length : Int) == 512)), (by first | rfl | (simp; done) | (simp [*]; done)), H', ⟨by have := HK1.out; first | omega | exact Nat.le_refl _⟩, ⟨by (with_reducible repeat (first | apply Kd.R_alloc | apply Kd.R_drewN | apply Kd.R_drew)); exact Kd.R_mono (Kd.R_far (p := ⟨gb364, 2, none⟩) (Kd.R_far (p := ⟨gb364, 1, none⟩) (Kd.R_far (p := ⟨gb364, 0, none⟩) (Kd.R_types HO_4.out BK364.out (by decide)) (fun _ hk => hk.2) (.int .i64 t361)) (fun _ hk => hk.2) (.int .i64 t362)) (fun _ hk => hk.2) (.int .i64 t363)) (fun _ hk => trivial)⟩, ⟨by (with_reducible repeat (first | refine blk_drewN ?_ _ | refine blk_drew ?_ | refine blk_alloc ?_ _)); refine blk_put (cs := #[.int .i64 t361, .int .i64 t362, .int .i64 0]) ?_ 2 _ rfl; (with_reducible repeat (first | refine blk_drewN ?_ _ | refine blk_drew ?_ | refine blk_alloc ?_ _)); refine blk_put (cs := #[.int .i64 t361, .int .i64 0, .int .i64 0]) ?_ 1 _ rfl; (with_reducible repeat (first | refine blk_drewN ?_ _ | refine blk_drew ?_ | refine blk_alloc ?_ _)); refine blk_put (cs := #[.int .i64 0, .int .i64 0, .int .i64 0]) ?_ 0 _ rfl; (with_reducible repeat (first | refine blk_drewN ?_ _ | refine blk_drew ?_ | refine blk_alloc ?_ _)); exact BK364.out⟩, ⟨by repeat (first | (with_reducible first | exact HB.out | apply below_alloc | apply pw_below_drewN | apply below_drew1 | refine below_set ?_ GE364.out) | exact HB.out)⟩⟩
          case rest =>
            clear HC7
            try clear c1
            try clear p2
            try clear c4
            try clear c4b0
            try clear c4b1
            try clear c6
            try clear c6b0
            try clear c6b1
            try clear c11
            try clear c11b0
            try clear hcz10_0
            try clear hcz10_1
            try clear hcz10_2
            try clear hcz12_0
            try clear hcz12_1
            try clear hcz12_2
            try clear hcz13_0
            try clear hcz13_1
            try clear hcz13_2
            try clear hfz10_0
            try clear hfz10_1
            try clear hfz10_2
            try clear hfz12_0
            try clear hfz12_1
            try clear hfz12_2
            try clear hfz13_0
            try clear hfz13_1
            try clear hfz13_2
            try clear p2
            obtain ⟨kq, x24_6, rfl, HA, HJ6, HO_4, BK364, HB⟩ := hcut
            cases kq with
            | zero => exact absurd HA.out (by simp [transhipmentref01_Loose.j1])
            | succ kj6 =>
              have H := HA.out
              clear HA
              simp only [transhipmentref01_Loose.j1] at H
              by_cases c15 : x24_6 = true
              · subst c15
                have H1 : (some (([] : List ByteArray), 2)) = some (r1, r2) := by rw [if_pos rfl] at H; exact H
                clear H
                have H := H1
                clear H1
                simp only [Option.some.injEq, Prod.mk.injEq] at H
                obtain ⟨rfl, rfl⟩ := H
                go_wp2
                repeat (go_quiet (fail); try go_wp2)
                go_ret2
                exact ⟨_, by first | rfl | (simp [errW_none, errW_some] <;> rfl) | (simp [*, errW_none, errW_some] <;> rfl), by first | exact Kd.R_nil _ _ _ _ _ | exact Kd.N_nil _ _ _ _ _ | exact Kd.V_nil _ _ _ _ _ | exact Kd.Q_nil _ _ _ _ _ | exact Kd.S_nil _ _ _ _ _, by repeat (first | (with_reducible first | exact HB.out | apply below_alloc | apply pw_below_drewN | apply below_drew1 | refine below_set ?_ GE364.out) | exact HB.out)⟩
              · replace c15 := Bool.eq_false_iff.mpr c15
                subst c15
                have H1 : (if 0 ≤ t362 then (if t362 ≤ (x0_1.size : Int) then (if t361 > ((x0_1.size - (t362 : Int).toNat : Nat) : Int) then (some (([] : List ByteArray), 3)) else (if 0 ≤ t361 then (if t361 ≤ ((x0_1.size - (t362 : Int).toNat : Nat) : Int) then (if x4_1.length < 8796093022208 then (transhipmentref01_Loose.l0 kj6 ((x0_1.extract (t362 : Int).toNat x0_1.size).extract (t361 : Int).toNat (x0_1.extract (t362 : Int).toNat x0_1.size).size) (x4_1 ++ [(x0_1.extract (t362 : Int).toNat x0_1.size).extract 0 (t361 : Int).toNat])) else (none)) else (none)) else (none))) else (none)) else (none)) = some (r1, r2) := by rw [if_neg (show ¬ (false = true) by decide)] at H; exact H
                clear H
                have H := H1
                clear H1
                by_cases c16 : 0 ≤ t362
                · rw [if_pos c16] at H
                  have c16b0 := eq_true c16
                  have c16b1 : decide (0 ≤ t362) = true := decide_eq_true c16
                  clear c16
                  by_cases c17 : t362 ≤ (x0_1.size : Int)
                  · rw [if_pos c17] at H
                    have c17b0 := eq_true c17
                    have c17b1 : decide (t362 ≤ (x0_1.size : Int)) = true := decide_eq_true c17
                    clear c17
                    by_cases c18 : t361 > ((x0_1.size - (t362 : Int).toNat : Nat) : Int)
                    · rw [if_pos c18] at H
                      have c18b0 : decide (((x0_1.size - (t362 : Int).toNat : Nat) : Int) < t361) = true := decide_eq_true c18
                      clear c18
                      simp only [Option.some.injEq, Prod.mk.injEq] at H
                      obtain ⟨rfl, rfl⟩ := H
                      have hcz19_0 : wc.cell? ⟨gb364, 0, none⟩ = some (.int .i64 t361) := (blk_cell BK364.out 0).trans rfl
                      have hcz19_1 : wc.cell? ⟨gb364, 1, none⟩ = some (.int .i64 t362) := (blk_cell BK364.out 1).trans rfl
                      have hcz19_2 : wc.cell? ⟨gb364, 2, none⟩ = some (.int .i64 t363) := (blk_cell BK364.out 2).trans rfl
                      have hfz19_0 := blk_frozen BK364.out 0
                      have hfz19_1 := blk_frozen BK364.out 1
                      have hfz19_2 := blk_frozen BK364.out 2
                      go_wp2
                      repeat (go_quiet (fail); try go_wp2)
                      go_ret2
                      exact ⟨_, by first | rfl | (simp [errW_none, errW_some] <;> rfl) | (simp [*, errW_none, errW_some] <;> rfl), by first | exact Kd.R_nil _ _ _ _ _ | exact Kd.N_nil _ _ _ _ _ | exact Kd.V_nil _ _ _ _ _ | exact Kd.Q_nil _ _ _ _ _ | exact Kd.S_nil _ _ _ _ _, by repeat (first | (with_reducible first | exact HB.out | apply below_alloc | apply pw_below_drewN | apply below_drew1 | refine below_set ?_ GE364.out) | exact HB.out)⟩
                    · rw [if_neg c18] at H
                      have c18b0 : decide (((x0_1.size - (t362 : Int).toNat : Nat) : Int) < t361) = false := decide_eq_false c18
                      clear c18
                      by_cases c20 : 0 ≤ t361
                      · rw [if_pos c20] at H
                        have c20b0 := eq_true c20
                        have c20b1 : decide (0 ≤ t361) = true := decide_eq_true c20
                        clear c20
                        by_cases c21 : t361 ≤ ((x0_1.size - (t362 : Int).toNat : Nat) : Int)
                        · rw [if_pos c21] at H
                          have c21b0 := eq_true c21
                          have c21b1 : decide (t361 ≤ ((x0_1.size - (t362 : Int).toNat : Nat) : Int)) = true := decide_eq_true c21
                          clear c21
                          by_cases c22 : x4_1.length < 8796093022208
                          · rw [if_pos c22] at H
                            have LMc22 := Aside0.mk c22
                            clear c22
                            obtain ⟨y365, hy365⟩ : ∃ y_ : List ByteArray, y_ = (x4_1 ++ [(x0_1.extract (t362 : Int).toNat x0_1.size).extract 0 (t361 : Int).toNat]) := ⟨_, rfl⟩
                            replace H : (transhipmentref01_Loose.l0 kj6 ((x0_1.extract (t362 : Int).toNat x0_1.size).extract (t361 : Int).toNat (x0_1.extract (t362 : Int).toNat x0_1.size).size) y365) = some (r1, r2) := by first | (rw [hy365]; with_reducible exact H) | (have H2_ := (Option.bind_some _ _).symm.trans H; rw [hy365]; with_reducible exact H2_) | (have H2_ := (Option.bind_some _ _).symm.trans H; with_reducible exact H2_) | with_reducible exact H | (rw [hy365]; exact H) | exact H
                            have Ny365 := Aside0.mk hy365
                            clear hy365
                            have c23b0 := eq_true (of_decide_eq_true (by first | (with_reducible assumption) | assumption) : 0 ≤ t361)
                            have c24b0 := eq_true (of_decide_eq_true (by first | (with_reducible assumption) | assumption) : t361 ≤ ((x0_1.size - (t362 : Int).toNat : Nat) : Int))
                            have H' := Aside0.mk H
                            clear H
                            have hcz25_0 : wc.cell? ⟨gb364, 0, none⟩ = some (.int .i64 t361) := (blk_cell BK364.out 0).trans rfl
                            have hcz25_1 : wc.cell? ⟨gb364, 1, none⟩ = some (.int .i64 t362) := (blk_cell BK364.out 1).trans rfl
                            have hcz25_2 : wc.cell? ⟨gb364, 2, none⟩ = some (.int .i64 t363) := (blk_cell BK364.out 2).trans rfl
                            have hfz25_0 := blk_frozen BK364.out 0
                            have hfz25_1 := blk_frozen BK364.out 1
                            have hfz25_2 := blk_frozen BK364.out 2
                            go_wp2_with (first | ((with_reducible refine gate_builtin (b := .append) (xs := #[.tmp 34, .tmp 39]) rfl ?_); (try (refine gate_guard (by rfl) ?_; dsimp only)); at_builtin; refine Kd.R_append Kd.string (w0 := w) w.heap.size rfl (.tmp 34) (.tmp 39) 29 9 (.string ⟨#[]⟩) 16 rfl Tryd.underlying29 info9 rfl (by decide) (by omega) u4 x4_1 ((x0_1.extract (t362 : Int).toNat x0_1.size).extract 0 (t361 : Int).toNat) [.string ((x0_1.extract (t362 : Int).toNat x0_1.size).extract 0 (t361 : Int).toNat)] (fun _ => True) (fun _ => False) rfl rfl ?aP (fun _ hk => hk.elim) ?aF ?aO ?aB ?aS ?aL ?_; (case aP => exact rfl); (case aB => exact (by repeat (first | (with_reducible first | exact HB.out | apply below_alloc | apply pw_below_drewN | apply below_drew1 | refine below_set ?_ GE364.out) | exact HB.out))); (case aF => exact (fun _ _ => trivial)); (case aO => exact (by (with_reducible repeat (first | apply Kd.R_alloc | apply Kd.R_drewN | apply Kd.R_drew)); exact HO_4.out)); (case aS => exact (below_size (by repeat (first | (with_reducible first | exact HB.out | apply below_alloc | apply pw_below_drewN | apply below_drew1 | refine below_set ?_ GE364.out) | exact HB.out)))); (case aL => have := LMc22.out; omega); intro v366 w26 ho hb hg hat; rw [← Ny365.out] at ho; have n0_ := Aside0.mk (blk_grown (g := gb364) (o := .cells #[.int .i64 t361, .int .i64 t362, .int .i64 t363] 85 (0, 0)) (by (with_reducible repeat (first | refine blk_drewN ?_ _ | refine blk_drew ?_ | refine blk_alloc ?_ _)); exact BK364.out) hg (Kd.R_ne HO_4.out BK364.out (by decide))); have n1_ := Aside0.mk (hb); have n2_ := Aside0.mk (ho); clear BK364; clear HB; clear HO_4; have BK364 := n0_; have HB := n1_; have HO367 := n2_; clear n0_ n1_ n2_; clear ho hb hg hat; have hcz27_0 : w26.cell? ⟨gb364, 0, none⟩ = some (.int .i64 t361) := (blk_cell BK364.out 0).trans rfl; have hcz27_1 : w26.cell? ⟨gb364, 1, none⟩ = some (.int .i64 t362) := (blk_cell BK364.out 1).trans rfl; have hcz27_2 : w26.cell? ⟨gb364, 2, none⟩ = some (.int .i64 t363) := (blk_cell BK364.out 2).trans rfl; have hfz27_0 := blk_frozen BK364.out 0; have hfz27_1 := blk_frozen BK364.out 1; have hfz27_2 := blk_frozen BK364.out 2))
                            repeat (go_quiet (first | ((with_reducible refine gate_builtin (b := .append) (xs := #[.tmp 34, .tmp 39]) rfl ?_); (try (refine gate_guard (by rfl) ?_; dsimp only)); at_builtin; refine Kd.R_append Kd.string (w0 := w) w.heap.size rfl (.tmp 34) (.tmp 39) 29 9 (.string ⟨#[]⟩) 16 rfl Tryd.underlying29 info9 rfl (by decide) (by omega) u4 x4_1 ((x0_1.extract (t362 : Int).toNat x0_1.size).extract 0 (t361 : Int).toNat) [.string ((x0_1.extract (t362 : Int).toNat x0_1.size).extract 0 (t361 : Int).toNat)] (fun _ => True) (fun _ => False) rfl rfl ?aP (fun _ hk => hk.elim) ?aF ?aO ?aB ?aS ?aL ?_; (case aP => exact rfl); (case aB => exact (by repeat (first | (with_reducible first | exact HB.out | apply below_alloc | apply pw_below_drewN | apply below_drew1 | refine below_set ?_ GE364.out) | exact HB.out))); (case aF => exact (fun _ _ => trivial)); (case aO => exact (by (with_reducible repeat (first | apply Kd.R_alloc | apply Kd.R_drewN | apply Kd.R_drew)); exact HO_4.out)); (case aS => exact (below_size (by repeat (first | (with_reducible first | exact HB.out | apply below_alloc | apply pw_below_drewN | apply below_drew1 | refine below_set ?_ GE364.out) | exact HB.out)))); (case aL => have := LMc22.out; omega); intro v366 w26 ho hb hg hat; rw [← Ny365.out] at ho; have n0_ := Aside0.mk (blk_grown (g := gb364) (o := .cells #[.int .i64 t361, .int .i64 t362, .int .i64 t363] 85 (0, 0)) (by (with_reducible repeat (first | refine blk_drewN ?_ _ | refine blk_drew ?_ | refine blk_alloc ?_ _)); exact BK364.out) hg (Kd.R_ne HO_4.out BK364.out (by decide))); have n1_ := Aside0.mk (hb); have n2_ := Aside0.mk (ho); clear BK364; clear HB; clear HO_4; have BK364 := n0_; have HB := n1_; have HO367 := n2_; clear n0_ n1_ n2_; clear ho hb hg hat; have hcz27_0 : w26.cell? ⟨gb364, 0, none⟩ = some (.int .i64 t361) := (blk_cell BK364.out 0).trans rfl; have hcz27_1 : w26.cell? ⟨gb364, 1, none⟩ = some (.int .i64 t362) := (blk_cell BK364.out 1).trans rfl; have hcz27_2 : w26.cell? ⟨gb364, 2, none⟩ = some (.int .i64 t363) := (blk_cell BK364.out 2).trans rfl; have hfz27_0 := blk_frozen BK364.out 0; have hfz27_1 := blk_frozen BK364.out 1; have hfz27_2 := blk_frozen BK364.out 2)); try go_wp2_with (first | ((with_reducible refine gate_builtin (b := .append) (xs := #[.tmp 34, .tmp 39]) rfl ?_); (try (refine gate_guard (by rfl) ?_; dsimp only)); at_builtin; refine Kd.R_append Kd.string (w0 := w) w.heap.size rfl (.tmp 34) (.tmp 39) 29 9 (.string ⟨#[]⟩) 16 rfl Tryd.underlying29 info9 rfl (by decide) (by omega) u4 x4_1 ((x0_1.extract (t362 : Int).toNat x0_1.size).extract 0 (t361 : Int).toNat) [.string ((x0_1.extract (t362 : Int).toNat x0_1.size).extract 0 (t361 : Int).toNat)] (fun _ => True) (fun _ => False) rfl rfl ?aP (fun _ hk => hk.elim) ?aF ?aO ?aB ?aS ?aL ?_; (case aP => exact rfl); (case aB => exact (by repeat (first | (with_reducible first | exact HB.out | apply below_alloc | apply pw_below_drewN | apply below_drew1 | refine below_set ?_ GE364.out) | exact HB.out))); (case aF => exact (fun _ _ => trivial)); (case aO => exact (by (with_reducible repeat (first | apply Kd.R_alloc | apply Kd.R_drewN | apply Kd.R_drew)); exact HO_4.out)); (case aS => exact (below_size (by repeat (first | (with_reducible first | exact HB.out | apply below_alloc | apply pw_below_drewN | apply below_drew1 | refine below_set ?_ GE364.out) | exact HB.out)))); (case aL => have := LMc22.out; omega); intro v366 w26 ho hb hg hat; rw [← Ny365.out] at ho; have n0_ := Aside0.mk (blk_grown (g := gb364) (o := .cells #[.int .i64 t361, .int .i64 t362, .int .i64 t363] 85 (0, 0)) (by (with_reducible repeat (first | refine blk_drewN ?_ _ | refine blk_drew ?_ | refine blk_alloc ?_ _)); exact BK364.out) hg (Kd.R_ne HO_4.out BK364.out (by decide))); have n1_ := Aside0.mk (hb); have n2_ := Aside0.mk (ho); clear BK364; clear HB; clear HO_4; have BK364 := n0_; have HB := n1_; have HO367 := n2_; clear n0_ n1_ n2_; clear ho hb hg hat; have hcz27_0 : w26.cell? ⟨gb364, 0, none⟩ = some (.int .i64 t361) := (blk_cell BK364.out 0).trans rfl; have hcz27_1 : w26.cell? ⟨gb364, 1, none⟩ = some (.int .i64 t362) := (blk_cell BK364.out 1).trans rfl; have hcz27_2 : w26.cell? ⟨gb364, 2, none⟩ = some (.int .i64 t363) := (blk_cell BK364.out 2).trans rfl; have hfz27_0 := blk_frozen BK364.out 0; have hfz27_1 := blk_frozen BK364.out 1; have hfz27_2 := blk_frozen BK364.out 2)))
                            go_roundg kj6
                            case measure => have := HK1.out; have := HJ6.out; omega
                            case rel => exact ⟨((x0_1.extract (t362 : Int).toNat x0_1.size).extract (t361 : Int).toNat (x0_1.extract (t362 : Int).toNat x0_1.size).size), (y365), (by first | rfl | (simp; done) | (simp [*]; done)), H', ⟨by have := HK1.out; have := HJ6.out; omega⟩, ⟨by (with_reducible repeat (first | apply Kd.R_alloc | apply Kd.R_drewN | apply Kd.R_drew)); exact HO367.out⟩, ⟨by repeat (first | (with_reducible first | exact HB.out | apply below_alloc | apply pw_below_drewN | apply below_drew1 | refine below_set ?_ GE364.out) | exact HB.out)⟩⟩
                          · rw [if_neg c22] at H
                            exact absurd H (by simp)
                        · rw [if_neg c21] at H
                          exact absurd H (by simp)
                      · rw [if_neg c20] at H
                        exact absurd H (by simp)
                  · rw [if_neg c17] at H
                    exact absurd H (by simp)
                · rw [if_neg c16] at H
                  exact absurd H (by simp)
        · rw [if_neg c6] at H
          have c6b0 : (t363 == 0) = false := beq_eq_false_iff_ne.mpr c6
          have c6b1 : (t363 != 0) = true := bne_iff_ne.mpr c6
          simp only [Option.some.injEq, Prod.mk.injEq] at H
          obtain ⟨rfl, rfl⟩ := H
          go_wp2_with (first | (go_at_call 63; (with_reducible refine (transhipmentref01_Read.calls k1 x0_1 t361 t362 t363 _ A5.out).mono ?_); rintro e w28 ⟨rfl, hb⟩; have n0_ := Aside0.mk (Kd.R_below (by (with_reducible repeat (first | apply Kd.R_alloc | apply Kd.R_drewN | apply Kd.R_drew)); exact HO_4.out) hb); have n1_ := Aside0.mk (below_step (by repeat (first | (with_reducible first | exact HB.out | apply below_alloc | apply pw_below_drewN | apply below_drew1) | exact HB.out)) hb); clear HO_4; clear HB; have HO_4 := n0_; have HB := n1_; clear n0_ n1_; (try clear hb); (try clear hb2); (try clear hk); (try clear hi)) | ((with_reducible refine gate_dst (N := 5) rfl ?_); (try (refine gate_guard (by rfl) ?_; dsimp only)); refine box_event ?hg (N := 5) ?hd (cs := #[.int .i64 0, .int .i64 0, .int .i64 0]) (t := 85) ?hr ?_; (case hd => rfl); (case hg => rfl); (case hr => first | (go_simp; done) | (go_simp; rfl) | (go_simp; simp [IntKind.wrap_u32])); intro gb364 hg w29 hbox hb; have n0_ := Aside0.mk (Kd.R_below (by (with_reducible repeat (first | apply Kd.R_alloc | apply Kd.R_drewN | apply Kd.R_drew)); exact HO_4.out) hb); have n1_ := Aside0.mk (below_step (by repeat (first | (with_reducible first | exact HB.out | apply below_alloc | apply pw_below_drewN | apply below_drew1) | exact HB.out)) hb); have n2_ := Aside0.mk (hbox); have n3_ := Aside0.mk ((by rw [hg]; exact (below_size (by repeat (first | (with_reducible first | exact HB.out | apply below_alloc | apply pw_below_drewN | apply below_drew1) | exact HB.out))) : w.heap.size ≤ gb364)); have n4_ := Aside0.mk ((by rw [hg]; exact (below_size (by repeat (first | (with_reducible first | exact HB.out | apply below_alloc | apply pw_below_drewN | apply below_drew1) | exact HB.out))) : w.heap.size ≤ gb364)); clear HO_4; clear HB; have HO_4 := n0_; have HB := n1_; have BK364 := n2_; have GW364 := n3_; have GE364 := n4_; clear n0_ n1_ n2_ n3_ n4_; clear hb hbox hg; have hcz30_0 : w29.cell? ⟨gb364, 0, none⟩ = some (.int .i64 0) := (blk_cell BK364.out 0).trans rfl; have hcz30_1 : w29.cell? ⟨gb364, 1, none⟩ = some (.int .i64 0) := (blk_cell BK364.out 1).trans rfl; have hcz30_2 : w29.cell? ⟨gb364, 2, none⟩ = some (.int .i64 0) := (blk_cell BK364.out 2).trans rfl; have hfz30_0 := blk_frozen BK364.out 0; have hfz30_1 := blk_frozen BK364.out 1; have hfz30_2 := blk_frozen BK364.out 2))
          repeat (go_quiet (first | (go_at_call 63; (with_reducible refine (transhipmentref01_Read.calls k1 x0_1 t361 t362 t363 _ A5.out).mono ?_); rintro e w28 ⟨rfl, hb⟩; have n0_ := Aside0.mk (Kd.R_below (by (with_reducible repeat (first | apply Kd.R_alloc | apply Kd.R_drewN | apply Kd.R_drew)); exact HO_4.out) hb); have n1_ := Aside0.mk (below_step (by repeat (first | (with_reducible first | exact HB.out | apply below_alloc | apply pw_below_drewN | apply below_drew1) | exact HB.out)) hb); clear HO_4; clear HB; have HO_4 := n0_; have HB := n1_; clear n0_ n1_; (try clear hb); (try clear hb2); (try clear hk); (try clear hi)) | ((with_reducible refine gate_dst (N := 5) rfl ?_); (try (refine gate_guard (by rfl) ?_; dsimp only)); refine box_event ?hg (N := 5) ?hd (cs := #[.int .i64 0, .int .i64 0, .int .i64 0]) (t := 85) ?hr ?_; (case hd => rfl); (case hg => rfl); (case hr => first | (go_simp; done) | (go_simp; rfl) | (go_simp; simp [IntKind.wrap_u32])); intro gb364 hg w29 hbox hb; have n0_ := Aside0.mk (Kd.R_below (by (with_reducible repeat (first | apply Kd.R_alloc | apply Kd.R_drewN | apply Kd.R_drew)); exact HO_4.out) hb); have n1_ := Aside0.mk (below_step (by repeat (first | (with_reducible first | exact HB.out | apply below_alloc | apply pw_below_drewN | apply below_drew1) | exact HB.out)) hb); have n2_ := Aside0.mk (hbox); have n3_ := Aside0.mk ((by rw [hg]; exact (below_size (by repeat (first | (with_reducible first | exact HB.out | apply below_alloc | apply pw_below_drewN | apply below_drew1) | exact HB.out))) : w.heap.size ≤ gb364)); have n4_ := Aside0.mk ((by rw [hg]; exact (below_size (by repeat (first | (with_reducible first | exact HB.out | apply below_alloc | apply pw_below_drewN | apply below_drew1) | exact HB.out))) : w.heap.size ≤ gb364)); clear HO_4; clear HB; have HO_4 := n0_; have HB := n1_; have BK364 := n2_; have GW364 := n3_; have GE364 := n4_; clear n0_ n1_ n2_ n3_ n4_; clear hb hbox hg; have hcz30_0 : w29.cell? ⟨gb364, 0, none⟩ = some (.int .i64 0) := (blk_cell BK364.out 0).trans rfl; have hcz30_1 : w29.cell? ⟨gb364, 1, none⟩ = some (.int .i64 0) := (blk_cell BK364.out 1).trans rfl; have hcz30_2 : w29.cell? ⟨gb364, 2, none⟩ = some (.int .i64 0) := (blk_cell BK364.out 2).trans rfl; have hfz30_0 := blk_frozen BK364.out 0; have hfz30_1 := blk_frozen BK364.out 1; have hfz30_2 := blk_frozen BK364.out 2)); try go_wp2_with (first | (go_at_call 63; (with_reducible refine (transhipmentref01_Read.calls k1 x0_1 t361 t362 t363 _ A5.out).mono ?_); rintro e w28 ⟨rfl, hb⟩; have n0_ := Aside0.mk (Kd.R_below (by (with_reducible repeat (first | apply Kd.R_alloc | apply Kd.R_drewN | apply Kd.R_drew)); exact HO_4.out) hb); have n1_ := Aside0.mk (below_step (by repeat (first | (with_reducible first | exact HB.out | apply below_alloc | apply pw_below_drewN | apply below_drew1) | exact HB.out)) hb); clear HO_4; clear HB; have HO_4 := n0_; have HB := n1_; clear n0_ n1_; (try clear hb); (try clear hb2); (try clear hk); (try clear hi)) | ((with_reducible refine gate_dst (N := 5) rfl ?_); (try (refine gate_guard (by rfl) ?_; dsimp only)); refine box_event ?hg (N := 5) ?hd (cs := #[.int .i64 0, .int .i64 0, .int .i64 0]) (t := 85) ?hr ?_; (case hd => rfl); (case hg => rfl); (case hr => first | (go_simp; done) | (go_simp; rfl) | (go_simp; simp [IntKind.wrap_u32])); intro gb364 hg w29 hbox hb; have n0_ := Aside0.mk (Kd.R_below (by (with_reducible repeat (first | apply Kd.R_alloc | apply Kd.R_drewN | apply Kd.R_drew)); exact HO_4.out) hb); have n1_ := Aside0.mk (below_step (by repeat (first | (with_reducible first | exact HB.out | apply below_alloc | apply pw_below_drewN | apply below_drew1) | exact HB.out)) hb); have n2_ := Aside0.mk (hbox); have n3_ := Aside0.mk ((by rw [hg]; exact (below_size (by repeat (first | (with_reducible first | exact HB.out | apply below_alloc | apply pw_below_drewN | apply below_drew1) | exact HB.out))) : w.heap.size ≤ gb364)); have n4_ := Aside0.mk ((by rw [hg]; exact (below_size (by repeat (first | (with_reducible first | exact HB.out | apply below_alloc | apply pw_below_drewN | apply below_drew1) | exact HB.out))) : w.heap.size ≤ gb364)); clear HO_4; clear HB; have HO_4 := n0_; have HB := n1_; have BK364 := n2_; have GW364 := n3_; have GE364 := n4_; clear n0_ n1_ n2_ n3_ n4_; clear hb hbox hg; have hcz30_0 : w29.cell? ⟨gb364, 0, none⟩ = some (.int .i64 0) := (blk_cell BK364.out 0).trans rfl; have hcz30_1 : w29.cell? ⟨gb364, 1, none⟩ = some (.int .i64 0) := (blk_cell BK364.out 1).trans rfl; have hcz30_2 : w29.cell? ⟨gb364, 2, none⟩ = some (.int .i64 0) := (blk_cell BK364.out 2).trans rfl; have hfz30_0 := blk_frozen BK364.out 0; have hfz30_1 := blk_frozen BK364.out 1; have hfz30_2 := blk_frozen BK364.out 2)))
          go_ret2
          exact ⟨_, by first | rfl | (simp [errW_none, errW_some] <;> rfl) | (simp [*, errW_none, errW_some] <;> rfl), by first | exact Kd.R_nil _ _ _ _ _ | exact Kd.N_nil _ _ _ _ _ | exact Kd.V_nil _ _ _ _ _ | exact Kd.Q_nil _ _ _ _ _ | exact Kd.S_nil _ _ _ _ _, by repeat (first | (with_reducible first | exact HB.out | apply below_alloc | apply pw_below_drewN | apply below_drew1 | refine below_set ?_ GE364.out) | exact HB.out)⟩
      · rw [if_neg c4] at H
        have c4b0 : decide (0 < (x0_1.size : Int)) = false := decide_eq_false c4
        have c4b1 : decide (0 < x0_1.size) = false := decide_eq_false (by omega)
        clear c4
        simp only [Option.some.injEq, Prod.mk.injEq] at H
        obtain ⟨rfl, rfl⟩ := H
        go_wp2
        repeat (go_quiet (fail); try go_wp2)
        go_ret2
        exact ⟨_, by first | rfl | (simp [errW_none, errW_some] <;> rfl) | (simp [*, errW_none, errW_some] <;> rfl), by (with_reducible repeat (first | apply Kd.R_alloc | apply Kd.R_drewN | apply Kd.R_drew)); exact HO_4.out, by repeat (first | (with_reducible first | exact HB.out | apply below_alloc | apply pw_below_drewN | apply below_drew1) | exact HB.out)⟩

end Go.Proofs.YtceedgflpkaclaaDoor.P

/- What one function of the program computes, as a Lean function, and a proof that its call comes to just that. Conditions: none. Written by wip/ownprint.py. -/
namespace Go.Proofs.YtceedgflpkaclaaDoor.P
open Go.RowKit Go.Proofs.YtceedgflpkaclaaDoorW.PrintWords Go.Proofs.YtceedgflpkaclaaDoorW.PrintLast Go.Proofs.YtceedgflpkaclaaDoorW.PrintMore
attribute [local go_sem] max2_int min2_int max_two min_two max_three min_three max_four min_four   -- for this text's walks alone
set_option linter.unusedVariables false
set_option linter.unusedSimpArgs false

/-! ### transhipmentref01_Bind: function 18 -/
def transhipmentref01_Bind.l0 : Nat → ByteArray → List ByteArray → Int → Int → Option (ByteArray)
  | 0, _, _, _, _ => none
  | k + 1, x3, x6, x7, x8 => if x8 < x7 then (if 0 ≤ x8 then (if x8 < (x6.length : Int) then ((transhipmentref01_Number.f k ((rdOf ByteArray.empty x6 x8).size : Int)).bind fun t249 => (if x3.size + t249.size ≤ 9223372036854775807 then (if (x3 ++ t249).size + (rdOf ByteArray.empty x6 x8).size ≤ 9223372036854775807 then (transhipmentref01_Bind.l0 k ((x3 ++ t249) ++ (rdOf ByteArray.empty x6 x8)) x6 x7 (wrap64 (x8 + 1))) else (none)) else (none))) else (none)) else (none)) else (some x3)
def transhipmentref01_Bind.f (k : Nat) (l0 : List ByteArray) : Option (ByteArray) := transhipmentref01_Bind.l0 k (⟨#[]⟩ : ByteArray) l0 (l0.length : Int) 0
theorem transhipmentref01_Bind.mono_l : ∀ k, (∀ y0 y1 y2 y3, LeO (transhipmentref01_Bind.l0 k y0 y1 y2 y3) (transhipmentref01_Bind.l0 (k + 1) y0 y1 y2 y3))
  | 0 => fun _ _ _ _ r h => by simp [transhipmentref01_Bind.l0] at h
  | k + 1 => by
    have ih0 := transhipmentref01_Bind.mono_l k
    · intro y0 y1 y2 y3
      unfold transhipmentref01_Bind.l0
      repeat' first
      | (with_reducible exact ih0 _ _ _ _)
      | (with_reducible exact transhipmentref01_Number.mono _ _)
      | (with_reducible exact LeO.refl _)
      | (with_reducible exact LeO.none _)
      | (with_reducible refine LeO.ite ?_ ?_)
      | (with_reducible refine LeO.bind ?_ (fun _ => ?_))
      | exact ih0 _ _ _ _
      | exact transhipmentref01_Number.mono _ _
      | exact LeO.none _
      | refine LeO.ite ?_ ?_
      | refine LeO.bind ?_ (fun _ => ?_)
theorem transhipmentref01_Bind.mono : ∀ a0 k, LeO (transhipmentref01_Bind.f k a0) (transhipmentref01_Bind.f (k + 1) a0) := by
  intro a0 k
  have ih0 := transhipmentref01_Bind.mono_l k
  unfold transhipmentref01_Bind.f
  repeat' first
      | (with_reducible exact ih0 _ _ _ _)
      | (with_reducible exact transhipmentref01_Number.mono _ _)
      | (with_reducible exact LeO.refl _)
      | (with_reducible exact LeO.none _)
      | (with_reducible refine LeO.ite ?_ ?_)
      | (with_reducible refine LeO.bind ?_ (fun _ => ?_))
      | exact ih0 _ _ _ _
      | exact transhipmentref01_Number.mono _ _
      | exact LeO.none _
      | refine LeO.ite ?_ ?_
      | refine LeO.bind ?_ (fun _ => ?_)
set_option maxHeartbeats 8000000 in
set_option maxRecDepth 100000 in
theorem transhipmentref01_Bind.calls (k : Nat) (A0 : Option Addr) (c0 : Nat) (l0 : List ByteArray) (r : ByteArray) (w : World) (hr0 : Kd.C Kd.string w A0 l0.length l0) (hc0 : l0.length ≤ c0) (h : transhipmentref01_Bind.f k l0 = some r) :
    Calls Tryd.prog 18 #[.slice A0 l0.length c0] w fun e w' => e = .returned (.string r) ∧ Below w.heap.size w w' := by
  have HR0 := Aside0.mk hr0
  have HC0 := Aside0.mk hc0
  clear hr0 hc0
  have HB := Aside0.mk (Below.refl w.heap.size w)
  have H : (transhipmentref01_Bind.l0 k (⟨#[]⟩ : ByteArray) l0 (l0.length : Int) 0) = some r := h
  clear h
  have H' := Aside0.mk H
  clear H
  go_enter Tryd.func18, Tryd.ntmps18
  go_wp2
  go_loopg [3, 8] k (fun kq v3 v8 w' => ∃ (x3_1 : ByteArray) (x8_1 : Int), v3 = .string x3_1 ∧ v8 = .int .i64 x8_1 ∧ Aside0 (transhipmentref01_Bind.l0 kq x3_1 l0 (l0.length : Int) x8_1 = some r) ∧ Aside0 (kq ≤ k) ∧ Aside0 (Below w.heap.size w w'))
  case atStart => exact ⟨((⟨#[]⟩ : ByteArray)), (0), (by first | rfl | (simp; done) | (simp [*]; done)), (by first | rfl | (simp; done) | (simp [*]; done)), H', ⟨Nat.le_refl _⟩, ⟨by repeat (first | (with_reducible first | exact HB.out | apply below_alloc | apply pw_below_drewN | apply below_drew1) | exact HB.out)⟩⟩
  case round =>
    clear H'
    try clear c1
    obtain ⟨x3_1, x8_1, rfl, rfl, HA, HK1, HB⟩ := hrel
    cases gk with
    | zero => exact absurd HA.out (by simp [transhipmentref01_Bind.l0])
    | succ k1 =>
      have H := HA.out
      clear HA
      simp only [transhipmentref01_Bind.l0] at H
      by_cases c2 : x8_1 < (l0.length : Int)
      · rw [if_pos c2] at H
        have c2b0 : decide (x8_1 < (l0.length : Int)) = true := decide_eq_true c2
        clear c2
        by_cases c3 : 0 ≤ x8_1
        · rw [if_pos c3] at H
          have c3b0 : decide (0 ≤ x8_1) = true := decide_eq_true c3
          clear c3
          by_cases c4 : x8_1 < (l0.length : Int)
          · rw [if_pos c4] at H
            have c4b0 : decide (x8_1 < (l0.length : Int)) = true := decide_eq_true c4
            clear c4
            replace H := Option.bind_eq_some_iff.mp H
            obtain ⟨t249, A50, H⟩ := H
            replace H : (if x3_1.size + t249.size ≤ 9223372036854775807 then (if (x3_1 ++ t249).size + (rdOf ByteArray.empty l0 x8_1).size ≤ 9223372036854775807 then (transhipmentref01_Bind.l0 k1 ((x3_1 ++ t249) ++ (rdOf ByteArray.empty l0 x8_1)) l0 (l0.length : Int) (wrap64 (x8_1 + 1))) else (none)) else (none)) = some r := H
            have A5 := Aside0.mk A50
            clear A50
            by_cases c6 : x3_1.size + t249.size ≤ 9223372036854775807
            · rw [if_pos c6] at H
              have c6b0 := eq_true c6
              have c6b1 : decide (x3_1.size + t249.size ≤ 9223372036854775807) = true := decide_eq_true c6
              try have c6b2 : (9223372036854775807 < x3_1.size + t249.size) = False := eq_false (Nat.not_lt.2 c6)
              by_cases c7 : (x3_1 ++ t249).size + (rdOf ByteArray.empty l0 x8_1).size ≤ 9223372036854775807
              · rw [if_pos c7] at H
                have c7b0 := eq_true c7
                have c7b1 : decide ((x3_1 ++ t249).size + (rdOf ByteArray.empty l0 x8_1).size ≤ 9223372036854775807) = true := decide_eq_true c7
                try have c7b2 : (9223372036854775807 < (x3_1 ++ t249).size + (rdOf ByteArray.empty l0 x8_1).size) = False := eq_false (Nat.not_lt.2 c7)
                try (have c7b3 := of_eq_false c7b2; simp only [ByteArray.size_append] at c7b3)
                have H' := Aside0.mk H
                clear H
                have p248 : 0 ≤ (x8_1 : Int) := of_decide_eq_true (by first | (with_reducible assumption) | assumption)
                have q248 : x8_1 < (l0.length : Int) := of_decide_eq_true (by first | (with_reducible assumption) | assumption)
                obtain ⟨ad248, e248, hx248_0⟩ := Kd.at_string HR0.out x8_1 p248 q248
                cases e248
                replace hx248_0 := (HB.out.cell (World.block_lt_of_cell? w _ hx248_0)).trans hx248_0
                replace p248 := eq_true p248
                replace q248 := eq_true q248
                go_wp2_with (first | ((with_reducible refine gate_callee (f := 38) rfl ?_); refine goesL_ (some 15) rfl rfl Tryd.func38 (by kernel_rfl) rfl #[.int .i64 ((rdOf ByteArray.empty l0 x8_1).size : Int)] rfl (by (try simp only [List.map_toArray, List.map_cons, List.map_nil]); first | done | rfl | (simp only [List.length_drop, List.length_take]; rfl)) ?_; (with_reducible refine (transhipmentref01_Number.calls k1 ((rdOf ByteArray.empty l0 x8_1).size : Int) t249 _ A5.out).mono ?_); rintro e w8 ⟨rfl, hb⟩; refine ⟨_, rfl, ?_⟩; have n0_ := Aside0.mk (below_step (by repeat (first | (with_reducible first | exact HB.out | apply below_alloc | apply pw_below_drewN | apply below_drew1) | exact HB.out)) hb); clear HB; have HB := n0_; clear n0_; (try clear hb); (try clear hb2); (try clear hk); (try clear hi)))
                go_roundg k1
                case measure => have := HK1.out; omega
                case rel => exact ⟨((x3_1 ++ t249) ++ (rdOf ByteArray.empty l0 x8_1)), (wrap64 (x8_1 + 1)), (by first | rfl | (simp; done) | (simp [*]; done)), (by first | rfl | (simp; done) | (simp [*]; done)), H', ⟨by have := HK1.out; omega⟩, ⟨by repeat (first | (with_reducible first | exact HB.out | apply below_alloc | apply pw_below_drewN | apply below_drew1) | exact HB.out)⟩⟩
              · rw [if_neg c7] at H
                exact absurd H (by simp)
            · rw [if_neg c6] at H
              exact absurd H (by simp)
          · rw [if_neg c4] at H
            exact absurd H (by simp)
        · rw [if_neg c3] at H
          exact absurd H (by simp)
      · rw [if_neg c2] at H
        have c2b0 : decide (x8_1 < (l0.length : Int)) = false := decide_eq_false c2
        clear c2
        obtain rfl := Option.some.inj H
        go_wp2
        (first | go_ret | go_ret2)
        exact ⟨by first | rfl | (simp [errW_none, errW_some] <;> rfl) | (simp [*, errW_none, errW_some] <;> rfl), by repeat (first | (with_reducible first | exact HB.out | apply below_alloc | apply pw_below_drewN | apply below_drew1) | exact HB.out)⟩

end Go.Proofs.YtceedgflpkaclaaDoor.P

/- What texts that are bound, and taken apart, come to: the program's functions and the document's, each as one plain Lean function; what is bound is read as it was. Conditions: as each lemma says. -/
namespace Go.Proofs.YtceedgflpkaclaaDoor.P
open Go.RowKit Go.Proofs.YtceedgflpkaclaaDoorW.PrintWords Go.Proofs.YtceedgflpkaclaaDoorW.PrintLast Go.Proofs.YtceedgflpkaclaaDoorW.PrintMore

/-! ### bind -/
def bound : List ByteArray → List UInt8
  | [] => []
  | p :: ps => (numB (p.size : Int)).data.toList ++ (p.data.toList ++ bound ps)
def boundB (l : List ByteArray) : ByteArray := ⟨(bound l).toArray⟩
/-- May texts be bound? -/
def mayB (l : List ByteArray) : Prop := l.length ≤ 512 ∧ ∀ p ∈ l, p.size ≤ 8192
instance (l : List ByteArray) : Decidable (mayB l) := by unfold mayB; exact inferInstance
theorem numB_size (n : Int) (h0 : 0 ≤ n) (h1 : n < 9223372036854775808) : (numB n).size ≤ 10 := by
  unfold numB
  rw [strOfNums_size]
  exact numL_length_le _ 9 (by omega)
theorem bindGo_eq (k : Nat) (hk : 20 < k) : ∀ (l : List ByteArray) (out : List UInt8), (∀ p ∈ l, p.size ≤ 8200) → out.length + l.length * 9000 ≤ 100000000000 →
    bindGo k l out = some (if ∀ p ∈ l, p.size ≤ 8192 then (⟨(out ++ bound l).toArray⟩, 0) else (⟨#[]⟩, 2))
  | [], out, _, _ => by simp [bindGo, bound]
  | p :: ps, out, hp, hl => by
    have h1 : p.size ≤ 8200 := hp p (by simp)
    simp only [List.length_cons] at hl
    unfold bindGo
    by_cases h : p.size > 8192
    · rw [if_pos h, if_neg]
      intro hh
      have := hh p (by simp)
      omega
    · have hn := numB_size (p.size : Int) (by omega) (by omega)
      rw [if_neg h, frame_Number_eq k hk _ (by omega), if_pos (by omega)]
      simp only [Option.bind_some]
      rw [if_pos (by omega), bindGo_eq k hk ps _ (fun q hq => hp q (by simp [hq])) (by
        simp only [List.length_append]
        have e1 := data_length (numB (p.size : Int))
        have e2 := data_length p
        omega)]
      have e : (∀ q ∈ p :: ps, q.size ≤ 8192) ↔ ∀ q ∈ ps, q.size ≤ 8192 := by
        constructor
        · intro hh q hq
          exact hh q (by simp [hq])
        · intro hh q hq
          rcases List.mem_cons.1 hq with rfl | hq
          · omega
          · exact hh q hq
      by_cases hq : ∀ q ∈ ps, q.size ≤ 8192
      · rw [if_pos hq, if_pos (e.2 hq)]
        simp [bound]
      · rw [if_neg hq, if_neg (fun hh => hq (e.1 hh))]
theorem frame_Bind_eq (k : Nat) (hk : 20 < k) (l : List ByteArray) (hp : ∀ p ∈ l, p.size ≤ 8200) : frame_Bind.f k l = some (if mayB l then (boundB l, 0) else (⟨#[]⟩, 2)) := by
  unfold frame_Bind.f
  by_cases h : l.length > 512
  · rw [if_pos h, if_neg (fun hm => by have := hm.1; omega)]
  · rw [if_neg h, bindGo_eq k hk l [] hp (by simp; omega)]
    by_cases hq : ∀ p ∈ l, p.size ≤ 8192
    · rw [if_pos hq, if_pos ⟨by omega, hq⟩]
      rfl
    · rw [if_neg hq, if_neg (fun hm => hq hm.2)]

theorem ref_Bind_l0 (l : List ByteArray) (hb : l.length < 5000) (hs : ∀ p ∈ l, p.size ≤ 8200) : ∀ (d i k : Nat) (out : ByteArray), i + d = l.length → d + 30 < k → out.size + d * 9000 ≤ 100000000000 →
    transhipmentref01_Bind.l0 k out l (l.length : Int) (i : Int) = some (out ++ boundB (l.drop i)) := by
  intro d
  induction d with
  | zero =>
    intro i k out hi hk ho
    obtain ⟨k, rfl⟩ : ∃ m, k = m + 1 := ⟨k - 1, by omega⟩
    simp only [transhipmentref01_Bind.l0]
    rw [if_neg (by omega), List.drop_of_length_le (by omega)]
    congr 1
    apply ByteArray.ext
    simp [boundB, bound]
  | succ d ih =>
    intro i k out hi hk ho
    obtain ⟨k, rfl⟩ : ∃ m, k = m + 1 := ⟨k - 1, by omega⟩
    have hlt : i < l.length := by omega
    have h1 : l[i].size ≤ 8200 := hs _ (List.getElem_mem hlt)
    have hn := numB_size (l[i].size : Int) (by omega) (by omega)
    simp only [transhipmentref01_Bind.l0]
    rw [rdOf_string l i hlt, if_pos (by omega), if_pos (by omega), if_pos (by omega), ref_Number_eq k (by omega) _ (by omega) (by omega)]
    simp only [Option.bind_some]
    rw [if_pos (by omega), if_pos (by rw [ByteArray.size_append]; omega), wrap64_id (by omega) (by omega), show ((i : Int) + 1) = ((i + 1 : Nat) : Int) by omega,
      ih (i + 1) k _ (by omega) (by omega) (by simp only [ByteArray.size_append]; omega), List.drop_eq_getElem_cons hlt]
    congr 1
    apply ByteArray.ext
    apply Array.ext'
    simp [boundB, bound, ByteArray.data_append]
theorem ref_Bind_eq (l : List ByteArray) (hb : l.length < 5000) (hs : ∀ p ∈ l, p.size ≤ 8200) (k : Nat) (hk : 5100 < k) : transhipmentref01_Bind.f k l = some (boundB l) := by
  unfold transhipmentref01_Bind.f
  rw [show (0 : Int) = ((0 : Nat) : Int) from rfl, ref_Bind_l0 l hb hs l.length 0 k _ (by omega) (by omega) (by show 0 + _ ≤ _; omega)]
  congr 1

/-! ### same -/
theorem ref_Same_l0 (l m : List ByteArray) (hb : l.length < 9223372036854775807) (he : l.length = m.length) : ∀ (d i k : Nat), i + d = l.length → d < k →
    transhipmentref01_Same.l0 k l m (l.length : Int) (i : Int) = some (decide (l.drop i = m.drop i)) := by
  intro d
  induction d with
  | zero =>
    intro i k hi hk
    obtain ⟨k, rfl⟩ : ∃ m, k = m + 1 := ⟨k - 1, by omega⟩
    simp only [transhipmentref01_Same.l0]
    rw [if_neg (by omega), List.drop_of_length_le (by omega), List.drop_of_length_le (by omega)]
    simp
  | succ d ih =>
    intro i k hi hk
    obtain ⟨k, rfl⟩ : ∃ m, k = m + 1 := ⟨k - 1, by omega⟩
    have hl : i < l.length := by omega
    have hm : i < m.length := by omega
    simp only [transhipmentref01_Same.l0]
    rw [rdOf_string l i hl, rdOf_string m i hm, if_pos (by omega), if_pos (by omega), if_pos (by omega), if_pos (by omega), wrap64_id (by omega) (by omega), show ((i : Int) + 1) = ((i + 1 : Nat) : Int) by omega,
      ih (i + 1) k (by omega) (by omega), List.drop_eq_getElem_cons hl, List.drop_eq_getElem_cons hm]
    have e : (l[i].toList = m[i].toList) ↔ l[i] = m[i] := by
      rw [ByteArray.toList_eq, ByteArray.toList_eq]
      exact ⟨fun h => ByteArray.ext (Array.ext' h), fun h => by rw [h]⟩
    by_cases h : l[i] = m[i]
    · rw [if_pos (e.2 h)]
      congr 1
      exact decide_eq_decide.2 ⟨fun h' => by rw [h, h'], fun h' => (List.cons.inj h').2⟩
    · rw [if_neg (fun hh => h (e.1 hh))]
      congr 1
      symm
      exact decide_eq_false (fun h' => h (List.cons.inj h').1)
theorem ref_Same_eq (l m : List ByteArray) (hb : l.length < 5000) (k : Nat) (hk : 5000 < k) : transhipmentref01_Same.f k l m = some (decide (l = m)) := by
  unfold transhipmentref01_Same.f
  by_cases h : l.length = m.length
  · rw [if_pos (by omega), show (0 : Int) = ((0 : Nat) : Int) from rfl, ref_Same_l0 l m (by omega) h l.length 0 k (by omega) (by omega)]
    simp
  · rw [if_neg (by omega)]
    congr 1
    symm
    apply decide_eq_false
    intro e
    exact h (by rw [e])
end Go.Proofs.YtceedgflpkaclaaDoor.P

/- What a text that is taken apart comes to, by the program and by the document; what is bound is read as it was. Conditions: as each lemma says. -/
namespace Go.Proofs.YtceedgflpkaclaaDoor.P
open Go.RowKit Go.Proofs.YtceedgflpkaclaaDoorW.PrintWords Go.Proofs.YtceedgflpkaclaaDoorW.PrintLast Go.Proofs.YtceedgflpkaclaaDoorW.PrintMore

theorem readB_ok (s : ByteArray) (h : (readB s).2.2 = 0) : 0 ≤ (readB s).1 ∧ (readB s).1 < 9223372036854775808 ∧ 1 ≤ (readB s).2.1 ∧ (readB s).2.1 ≤ s.size ∧ (readB s).2.1 ≤ 9 := by
  unfold readB at *
  cases hs : scan s (min s.size 9) 0 with
  | none =>
    rw [hs] at h
    unfold readAt at h
    simp only at h
    split at h <;> simp at h
  | some L =>
    rw [hs] at h
    have hL := scan_lt s _ _ _ hs
    unfold readAt at *
    simp only at *
    split at h
    · simp at h
    · rename_i hz
      rw [if_neg hz]
      have hv := val_range s (L + 1)
      have h9 : (128 : Int) ^ (L + 1) ≤ 128 ^ 9 := by
        have h : 128 ^ (L + 1) ≤ 128 ^ 9 := Nat.pow_le_pow_right (by decide) (by omega)
        exact_mod_cast h
      have e : (128 : Int) ^ 9 = 9223372036854775808 := by decide
      generalize (128 : Int) ^ (L + 1) = a at *
      rw [e] at h9
      refine ⟨hv.1, by omega, ?_, ?_, ?_⟩ <;> dsimp only <;> omega
theorem readB_err (s : ByteArray) : (readB s).2.2 = 0 ∨ (readB s).2.2 = 2 ∨ (readB s).2.2 = 3 ∨ (readB s).2.2 = 6 := by
  unfold readB
  cases scan s (min s.size 9) 0 with
  | none => unfold readAt; simp only; split <;> simp
  | some L => unfold readAt; simp only; split <;> simp

/-- A text, taken apart (so many steps at the most). -/
def looseGo : Nat → ByteArray → List ByteArray → List ByteArray × Int
  | 0, _, out => (out, 0)
  | d + 1, s, out =>
    if s.size = 0 then (out, 0)
    else if (readB s).2.2 ≠ 0 then ([], (readB s).2.2)
    else if (readB s).1 > 8192 ∨ out.length = 512 then ([], 2)
    else if (readB s).1 > s.size - (readB s).2.1 then ([], 3)
    else looseGo d (s.extract ((readB s).2.1.toNat + (readB s).1.toNat) s.size) (out ++ [s.extract (readB s).2.1.toNat ((readB s).2.1.toNat + (readB s).1.toNat)])
def looseB (s : ByteArray) : List ByteArray × Int := looseGo (s.size + 1) s []

theorem size_zero_iff (s : ByteArray) : s.toList = [] ↔ s.size = 0 := by
  rw [ByteArray.toList_eq, ← data_length, List.length_eq_zero_iff]

theorem frame_Loose_l0 : ∀ (d k : Nat) (s : ByteArray) (out : List ByteArray), s.size < d → s.size < 100000000000 → 2 * d + 100 < k → out.length ≤ 512 →
    frame_Loose.l0 k s out = some (looseGo d s out) := by
  intro d
  induction d with
  | zero => intro k s out h; omega
  | succ d ih =>
    intro k s out hd hs hk ho
    obtain ⟨k, rfl⟩ : ∃ m, k = m + 1 := ⟨k - 1, by omega⟩
    simp only [frame_Loose.l0, looseGo]
    by_cases h0 : s.size = 0
    · rw [if_pos ((size_zero_iff s).2 h0), if_pos h0]
    · rw [if_neg (fun h => h0 ((size_zero_iff s).1 h)), if_neg h0, frame_Read_eq s (by omega) k (by omega)]
      simp only [Option.bind_some]
      by_cases he : (readB s).2.2 = 0
      · have hr := readB_ok s he
        rw [if_pos he, if_neg (show ¬ ((readB s).2.2 ≠ 0) from fun h => h he)]
        have go : ∀ b : Bool, b = decide ((readB s).1 > 8192 ∨ out.length = 512) → frame_Loose.j1 k s out (readB s).1 (readB s).2.1 b = some (if (readB s).1 > 8192 ∨ out.length = 512 then ([], 2) else if (readB s).1 > s.size - (readB s).2.1 then ([], 3) else looseGo d (s.extract ((readB s).2.1.toNat + (readB s).1.toNat) s.size) (out ++ [s.extract (readB s).2.1.toNat ((readB s).2.1.toNat + (readB s).1.toNat)])) := by
          intro b hb
          generalize (readB s).1 = n at *
          generalize (readB s).2.1 = u at *
          obtain ⟨k, rfl⟩ : ∃ m, k = m + 1 := ⟨k - 1, by omega⟩
          simp only [frame_Loose.j1]
          by_cases hbig : n > 8192 ∨ out.length = 512
          · rw [hb, if_pos hbig, if_pos (by simp [hbig])]
          · rw [hb, if_neg hbig, if_neg (by simp [hbig])]
            rw [wrap64_id (x := (s.size : Int) - u) (by omega) (by omega)]
            by_cases hshort : n > s.size - u
            · rw [if_pos hshort, if_pos hshort]
            · rw [if_neg hshort, if_neg hshort, wrap64_id (x := u + n) (by omega) (by omega), if_pos (by omega), if_pos (by omega), if_pos (by omega), if_pos (by omega), if_pos (by omega)]
              rw [show (u + n).toNat = u.toNat + n.toNat by omega]
              exact ih k _ _ (by rw [ByteArray.size_extract]; omega) (by rw [ByteArray.size_extract]; omega) (by omega) (by simp only [List.length_append, List.length_singleton]; omega)
        by_cases hbig : (readB s).1 > 8192
        · rw [if_pos hbig]
          exact go true (by simp [hbig])
        · rw [if_neg hbig]
          refine go _ ?_
          by_cases h5 : out.length = 512
          · simp [h5]
          · rw [show ((out.length : Int) == 512) = false from beq_eq_false_iff_ne.2 (by omega)]
            symm
            exact decide_eq_false (by omega)
      · rw [if_neg he, if_pos he]
theorem frame_Loose_eq (s : ByteArray) (hs : s.size < 100000000000) (k : Nat) (hk : 2 * s.size + 200 < k) : frame_Loose.f k s = some (looseB s) := by
  unfold frame_Loose.f looseB
  exact frame_Loose_l0 (s.size + 1) k s [] (by omega) hs (by omega) (by simp)

theorem ref_Loose_l0 : ∀ (d k : Nat) (s : ByteArray) (out : List ByteArray), s.size < d → s.size < 100000000000 → 2 * d + 100 < k → out.length ≤ 512 →
    transhipmentref01_Loose.l0 k s out = some (looseGo d s out) := by
  intro d
  induction d with
  | zero => intro k s out h; omega
  | succ d ih =>
    intro k s out hd hs hk ho
    obtain ⟨k, rfl⟩ : ∃ m, k = m + 1 := ⟨k - 1, by omega⟩
    simp only [transhipmentref01_Loose.l0, looseGo]
    by_cases h0 : s.size = 0
    · rw [if_neg (by omega), if_pos h0]
    · rw [if_pos (by omega), if_neg h0, ref_Read_eq s (by omega) k (by omega)]
      simp only [Option.bind_some]
      by_cases he : (readB s).2.2 = 0
      · have hr := readB_ok s he
        rw [if_pos he, if_neg (show ¬ ((readB s).2.2 ≠ 0) from fun h => h he)]
        have go : ∀ b : Bool, b = decide ((readB s).1 > 8192 ∨ out.length = 512) → transhipmentref01_Loose.j1 k s out b (readB s).1 (readB s).2.1 (readB s).2.2 = some (if (readB s).1 > 8192 ∨ out.length = 512 then ([], 2) else if (readB s).1 > s.size - (readB s).2.1 then ([], 3) else looseGo d (s.extract ((readB s).2.1.toNat + (readB s).1.toNat) s.size) (out ++ [s.extract (readB s).2.1.toNat ((readB s).2.1.toNat + (readB s).1.toNat)])) := by
          intro b hb
          generalize (readB s).2.2 = e at *
          generalize (readB s).1 = n at *
          generalize (readB s).2.1 = u at *
          obtain ⟨k, rfl⟩ : ∃ m, k = m + 1 := ⟨k - 1, by omega⟩
          simp only [transhipmentref01_Loose.j1]
          by_cases hbig : n > 8192 ∨ out.length = 512
          · rw [hb, if_pos hbig, if_pos (by simp [hbig])]
          · rw [hb, if_neg hbig, if_neg (by simp [hbig]), if_pos (by omega), if_pos (by omega)]
            by_cases hshort : n > s.size - u
            · rw [if_pos hshort, if_pos (by omega)]
            · rw [if_neg hshort, if_neg (by omega), if_pos (by omega), if_pos (by omega), if_pos (by omega)]
              have e1 : (s.extract u.toNat s.size).extract n.toNat (s.extract u.toNat s.size).size = s.extract (u.toNat + n.toNat) s.size := by
                rw [ByteArray.extract_extract, ByteArray.size_extract]
                congr 1
                omega
              have e2 : (s.extract u.toNat s.size).extract 0 n.toNat = s.extract u.toNat (u.toNat + n.toNat) := by
                rw [ByteArray.extract_extract]
                congr 1
                omega
              first
                | rw [e1, e2]
                | (rw [show (s.size - u.toNat) = (s.extract u.toNat s.size).size by rw [ByteArray.size_extract]; omega, e1, e2])
              exact ih k _ _ (by rw [ByteArray.size_extract]; omega) (by rw [ByteArray.size_extract]; omega) (by omega) (by simp only [List.length_append, List.length_singleton]; omega)
        by_cases hbig : (readB s).1 > 8192
        · rw [if_pos hbig]
          exact go true (by simp [hbig])
        · rw [if_neg hbig]
          refine go _ ?_
          by_cases h5 : out.length = 512
          · simp [h5]
          · rw [show ((out.length : Int) == 512) = false from beq_eq_false_iff_ne.2 (by omega)]
            symm
            exact decide_eq_false (by omega)
      · rw [if_neg he, if_pos he]
theorem ref_Loose_eq (s : ByteArray) (hs : s.size < 100000000000) (k : Nat) (hk : 2 * s.size + 200 < k) : transhipmentref01_Loose.f k s = some (looseB s) := by
  unfold transhipmentref01_Loose.f looseB
  exact ref_Loose_l0 (s.size + 1) k s [] (by omega) hs (by omega) (by simp)
theorem looseGo_length : ∀ (d : Nat) (s : ByteArray) (out : List ByteArray), out.length ≤ 512 → (looseGo d s out).1.length ≤ 512
  | 0, _, _, h => h
  | d + 1, s, out, h => by
    unfold looseGo
    split
    · exact h
    · split
      · simp
      · split
        · simp
        · rename_i h1
          split
          · simp
          · exact looseGo_length d _ _ (by simp only [List.length_append, List.length_singleton]; omega)
theorem looseB_length (s : ByteArray) : (looseB s).1.length ≤ 512 := looseGo_length _ _ _ (by simp)
end Go.Proofs.YtceedgflpkaclaaDoor.P

/- Numbers, and texts that are bound, are read as they were. Conditions: as each lemma says. -/
namespace Go.Proofs.YtceedgflpkaclaaDoor.P
open Go.RowKit Go.Proofs.YtceedgflpkaclaaDoorW.PrintWords Go.Proofs.YtceedgflpkaclaaDoorW.PrintLast Go.Proofs.YtceedgflpkaclaaDoorW.PrintMore

/-- From place i on a text has a number's bytes. -/
def HasNum (s : ByteArray) (i n : Nat) : Prop := ∀ j, j < (numL n).length → bt s ((i + j : Nat) : Int) = (numL n).getD j 0
theorem HasNum.read : ∀ (n i d : Nat) (s : ByteArray), HasNum s i n → (numL n).length ≤ d →
    scan s d i = some (i + (numL n).length - 1) ∧ val s (i + (numL n).length) = val s i + (n : Int) * 128 ^ i ∧ (bt s ((i + (numL n).length - 1 : Nat) : Int) = 0 → n = 0) := by
  intro n
  induction n using Nat.strongRecOn with
  | _ n ih =>
    intro i d s h hd
    have hp := numL_length_pos n
    obtain ⟨d, rfl⟩ : ∃ m, d = m + 1 := ⟨d - 1, by omega⟩
    have h0 := h 0 hp
    by_cases hn : n < 128
    · have e : numL n = [(n : Int)] := by unfold numL; rw [dif_pos hn]
      rw [e] at h0
      simp at h0
      rw [e]
      simp only [scan, List.length_singleton, Nat.add_sub_cancel]
      rw [h0, if_pos (by omega)]
      refine ⟨rfl, ?_, fun h => by omega⟩
      simp only [val]
      rw [h0, show (n : Int) % 128 = n by omega]
    · have e : numL n = ((n % 128 + 128 : Nat) : Int) :: numL (n / 128) := by
        conv => lhs; unfold numL
        rw [dif_neg hn]
      have hq := numL_length_pos (n / 128)
      rw [e] at h0 hd
      simp only [Nat.add_zero, List.getD_cons_zero] at h0
      simp only [List.length_cons] at hd
      have ht : HasNum s (i + 1) (n / 128) := by
        intro j hj
        have := h (j + 1) (by rw [e]; simp; exact hj)
        rw [e, List.getD_cons_succ] at this
        rw [← this]
        congr 2
        omega
      obtain ⟨h1, h2, h3⟩ := ih (n / 128) (by omega) (i + 1) d s ht (by omega)
      rw [e]
      simp only [scan, List.length_cons]
      rw [h0, if_neg (by omega), h1]
      refine ⟨by congr 1; omega, ?_, ?_⟩
      · rw [show i + ((numL (n / 128)).length + 1) = i + 1 + (numL (n / 128)).length by omega, h2]
        simp only [val, h0, Int.pow_succ]
        have e2 : (((n % 128 + 128 : Nat) : Int) % 128) = ((n % 128 : Nat) : Int) := by omega
        have e3 : (n : Int) = ((n % 128 : Nat) : Int) + ((n / 128 : Nat) : Int) * 128 := by omega
        rw [e2]
        conv => rhs; rw [e3]
        rw [Int.add_mul, Int.mul_comm (128 ^ i) 128, ← Int.mul_assoc]
        omega
      · intro hz
        exfalso
        have := h3 (by rw [← hz]; congr 2; omega)
        omega

theorem numL_byte (n : Nat) : ∀ j, j < (numL n).length → 0 ≤ (numL n).getD j 0 ∧ (numL n).getD j 0 < 256 := by
  induction n using Nat.strongRecOn with
  | _ n ih =>
    intro j hj
    by_cases hn : n < 128
    · have e : numL n = [(n : Int)] := by unfold numL; rw [dif_pos hn]
      rw [e] at hj ⊢
      simp at hj
      subst hj
      simp
      omega
    · have e : numL n = ((n % 128 + 128 : Nat) : Int) :: numL (n / 128) := by
        conv => lhs; unfold numL
        rw [dif_neg hn]
      rw [e] at hj ⊢
      cases j with
      | zero => simp; omega
      | succ j =>
        rw [List.getD_cons_succ]
        exact ih (n / 128) (by omega) j (by simpa using hj)
theorem bt_data (s : ByteArray) (j : Nat) : bt s (j : Int) = ((s.data.toList.getD j 0).toNat : Int) := by
  unfold bt
  rw [Int.toNat_natCast]
  split
  · rename_i h
    rw [List.getD_eq_getElem?_getD, List.getElem?_eq_getElem (by rw [data_length]; exact h)]
    simp [ByteArray.getElem_eq_getElem_data]
  · rename_i h
    rw [List.getD_eq_getElem?_getD, List.getElem?_eq_none (by rw [data_length]; omega)]
    rfl
theorem hasNum_append (n : Nat) (rest : ByteArray) : HasNum (numB (n : Int) ++ rest) 0 n := by
  intro j hj
  have hb := numL_byte n j hj
  rw [bt_data, ByteArray.data_append, Array.toList_append]
  unfold numB
  rw [strOfNums_data, Int.toNat_natCast]
  rw [List.getD_eq_getElem?_getD, List.getElem?_append_left (by simp; exact hj), List.getElem?_map]
  rw [List.getD_eq_getElem?_getD] at hb ⊢
  rw [Nat.zero_add, List.getElem?_eq_getElem hj] at *
  simp at hb ⊢
  omega
theorem numL_length_eq (n : Nat) : (numL n).length = (numB (n : Int)).size := by
  unfold numB
  rw [strOfNums_size, Int.toNat_natCast]
theorem readB_back (n : Nat) (hn : n < 4611686018427387904) (rest : ByteArray) : readB (numB (n : Int) ++ rest) = ((n : Int), ((numB (n : Int)).size : Int), 0) := by
  have hp := numL_length_pos n
  have hle : (numL n).length ≤ 9 := numL_length_le n 8 (by omega)
  have hs : (numB (n : Int)).size ≤ (numB (n : Int) ++ rest).size := by rw [ByteArray.size_append]; omega
  rw [← numL_length_eq] at hs
  obtain ⟨h1, h2, h3⟩ := (HasNum.read n 0 (min (numB (n : Int) ++ rest).size 9) _ (hasNum_append n rest) (by omega))
  unfold readB
  rw [h1]
  simp only [readAt, Nat.zero_add] at *
  rw [show (numL n).length - 1 + 1 = (numL n).length by omega, h2, ← numL_length_eq]
  rw [if_neg]
  · simp [val]
    omega
  · intro hz
    have := h3 hz.1
    subst this
    have e : numL 0 = [((0 : Nat) : Int)] := by unfold numL; rw [dif_pos (by decide)]
    rw [e] at hz
    simp at hz

/-! ### texts that are bound -/
theorem extract_list (s : ByteArray) (a b : Nat) : (s.extract a b).data.toList = (s.data.toList.drop a).take (b - a) := by
  rw [ByteArray.data_extract, Array.toList_extract, List.extract_eq_take_drop]
theorem extract_mid (a b c : ByteArray) : (a ++ (b ++ c)).extract a.size (a.size + b.size) = b := by
  apply ByteArray.ext
  apply Array.ext'
  rw [extract_list, ByteArray.data_append, ByteArray.data_append, Array.toList_append, Array.toList_append, ← data_length a, List.drop_left, Nat.add_sub_cancel_left, ← data_length b, List.take_left]
theorem extract_tail (a b c : ByteArray) (n : Nat) (hn : n = (a ++ (b ++ c)).size) : (a ++ (b ++ c)).extract (a.size + b.size) n = c := by
  apply ByteArray.ext
  apply Array.ext'
  subst hn
  rw [extract_list, ByteArray.data_append, ByteArray.data_append, Array.toList_append, Array.toList_append, ← List.append_assoc, show a.size + b.size = (a.data.toList ++ b.data.toList).length by rw [List.length_append, data_length, data_length], List.drop_left]
  apply List.take_of_length_le
  rw [data_length, List.length_append, data_length, data_length, ByteArray.size_append, ByteArray.size_append]
  omega
theorem boundB_nil : boundB [] = ByteArray.empty := rfl
theorem boundB_cons (p : ByteArray) (ps : List ByteArray) : boundB (p :: ps) = numB (p.size : Int) ++ (p ++ boundB ps) := by
  apply ByteArray.ext
  apply Array.ext'
  simp [boundB, bound, ByteArray.data_append]
theorem boundB_append (l m : List ByteArray) : boundB (l ++ m) = boundB l ++ boundB m := by
  induction l with
  | nil =>
    rw [List.nil_append, boundB_nil]
    simp
  | cons p ps ih => rw [List.cons_append, boundB_cons, boundB_cons, ih]; simp only [ByteArray.append_assoc]
theorem looseGo_back : ∀ (l : List ByteArray) (d : Nat) (out : List ByteArray), (∀ p ∈ l, p.size ≤ 8192) → out.length + l.length ≤ 512 → (boundB l).size < d →
    looseGo d (boundB l) out = (out ++ l, 0)
  | [], d, out, _, _, hd => by
    obtain ⟨d, rfl⟩ : ∃ m, d = m + 1 := ⟨d - 1, by omega⟩
    unfold looseGo
    rw [boundB_nil, if_pos (by rfl), List.append_nil]
  | p :: ps, d, out, hp, hl, hd => by
    obtain ⟨d, rfl⟩ : ∃ m, d = m + 1 := ⟨d - 1, by omega⟩
    have h1 : p.size ≤ 8192 := hp p (by simp)
    have hb := readB_back p.size (by omega) (p ++ boundB ps)
    have hn : 0 < (numB (p.size : Int)).size := by rw [← numL_length_eq]; exact numL_length_pos _
    simp only [List.length_cons] at hl
    rw [boundB_cons] at hd ⊢
    have hs : (numB (p.size : Int) ++ (p ++ boundB ps)).size = (numB (p.size : Int)).size + (p.size + (boundB ps).size) := by rw [ByteArray.size_append, ByteArray.size_append]
    unfold looseGo
    rw [hb]
    simp only
    rw [if_neg (by omega), if_neg (by simp), if_neg (by omega), if_neg (by omega), Int.toNat_natCast, Int.toNat_natCast]
    have e1 : (numB (p.size : Int) ++ (p ++ boundB ps)).extract (numB (p.size : Int)).size ((numB (p.size : Int)).size + p.size) = p := by
      exact extract_mid _ _ _
    have e2 : (numB (p.size : Int) ++ (p ++ boundB ps)).extract ((numB (p.size : Int)).size + p.size) (numB (p.size : Int) ++ (p ++ boundB ps)).size = boundB ps := extract_tail _ _ _ _ rfl
    rw [e1, e2, looseGo_back ps d _ (fun q hq => hp q (by simp [hq])) (by simp only [List.length_append, List.length_singleton]; omega) (by omega)]
    simp
theorem looseB_back (l : List ByteArray) (h : mayB l) : looseB (boundB l) = (l, 0) := by
  unfold looseB
  rw [looseGo_back l _ [] h.2 (by simp; exact h.1) (by omega)]
  simp
theorem boundB_inj {l m : List ByteArray} (hl : mayB l) (hm : mayB m) (h : boundB l = boundB m) : l = m := by
  have h1 := looseB_back l hl
  rw [h, looseB_back m hm] at h1
  exact (Prod.mk.inj h1).1.symm
theorem bound_size (l : List ByteArray) (h : ∀ p ∈ l, p.size ≤ 8200) : (boundB l).size ≤ l.length * 9000 := by
  induction l with
  | nil => rw [boundB_nil]; simp
  | cons p ps ih =>
    have := ih (fun q hq => h q (by simp [hq]))
    have h1 := h p (by simp)
    have hn := numB_size (p.size : Int) (by omega) (by omega)
    rw [boundB_cons, ByteArray.size_append, ByteArray.size_append, List.length_cons]
    omega
end Go.Proofs.YtceedgflpkaclaaDoor.P

/- A number that is read was written so; what a text is taken apart to, bound again, is the text. Conditions: none. -/
namespace Go.Proofs.YtceedgflpkaclaaDoor.P
open Go.RowKit Go.Proofs.YtceedgflpkaclaaDoorW.PrintWords Go.Proofs.YtceedgflpkaclaaDoorW.PrintLast Go.Proofs.YtceedgflpkaclaaDoorW.PrintMore

/-- The number of so many bytes from a place on. -/
def vf (s : ByteArray) : Nat → Nat → Int
  | 0, _ => 0
  | d + 1, i => bt s (i : Int) % 128 + 128 * vf s d (i + 1)
theorem vf_nonneg (s : ByteArray) : ∀ d i : Nat, 0 ≤ vf s d i
  | 0, _ => by simp [vf]
  | d + 1, i => by
    have := vf_nonneg s d (i + 1)
    rw [vf]
    omega
theorem val_vf (s : ByteArray) : ∀ d i : Nat, val s (i + d) = val s i + 128 ^ i * vf s d i
  | 0, i => by simp [vf]
  | d + 1, i => by
    rw [show i + (d + 1) = (i + 1) + d by omega, val_vf s d (i + 1), val, vf, Int.pow_succ, Int.mul_add, ← Int.mul_assoc, Int.add_assoc, Int.mul_comm (bt s (i : Int) % 128)]
theorem vf_numL (s : ByteArray) : ∀ d i : Nat, (∀ j : Nat, i ≤ j → j < i + d → 128 ≤ bt s (j : Int)) → bt s ((i + d : Nat) : Int) < 128 → (0 < d → bt s ((i + d : Nat) : Int) ≠ 0) →
    numL (vf s (d + 1) i).toNat = (List.range (d + 1)).map (fun j => bt s ((i + j : Nat) : Int)) ∧ (bt s ((i + d : Nat) : Int) ≠ 0 → 0 < vf s (d + 1) i)
  | 0, i, _, h1, _ => by
    have hr := bt_range s ((i : Nat) : Int)
    simp only [Nat.add_zero] at h1 ⊢
    have e : vf s (0 + 1) i = bt s (i : Int) := by
      rw [Nat.zero_add, vf, vf]
      omega
    rw [e]
    refine ⟨?_, fun h => by omega⟩
    rw [numL, dif_pos (by omega)]
    simp
    omega
  | d + 1, i, h0, h1, h2 => by
    have hr := bt_range s ((i : Nat) : Int)
    have hi := h0 i (by omega) (by omega)
    rw [show i + (d + 1) = (i + 1) + d by omega] at h1 h2 ⊢
    have ih := vf_numL s d (i + 1) (fun j hj1 hj2 => h0 j (by omega) (by omega)) h1 (fun _ => h2 (by omega))
    have hp := ih.2 (h2 (by omega))
    have e : vf s (d + 1 + 1) i = bt s (i : Int) % 128 + 128 * vf s (d + 1) (i + 1) := by conv => lhs; rw [vf]
    rw [e]
    generalize vf s (d + 1) (i + 1) = V at *
    refine ⟨?_, fun _ => by omega⟩
    rw [numL, dif_neg (by omega)]
    have er : (List.range (d + 1 + 1)).map (fun j => bt s ((i + j : Nat) : Int)) = bt s (i : Int) :: (List.range (d + 1)).map (fun j => bt s ((i + 1 + j : Nat) : Int)) := by
      rw [List.range_succ_eq_map, List.map_cons, List.map_map]
      congr 1
      apply List.map_congr_left
      intro j _
      simp only [Function.comp_apply]
      rw [show i + 1 + j = i + (j + 1) by omega]
    rw [show (bt s (i : Int) % 128 + 128 * V).toNat / 128 = V.toNat by omega, ih.1, er]
    congr 1
    omega
theorem scan_before (s : ByteArray) : ∀ d i L : Nat, scan s d i = some L → ∀ j : Nat, i ≤ j → j < L → 128 ≤ bt s (j : Int)
  | 0, i, L, h => by simp [scan] at h
  | d + 1, i, L, h => by
    intro j hj1 hj2
    rw [scan] at h
    by_cases hb : bt s (i : Int) < 128
    · rw [if_pos hb] at h
      have := Option.some.inj h
      omega
    · rw [if_neg hb] at h
      by_cases e : j = i
      · subst e; omega
      · exact scan_before s d (i + 1) L h j (by omega) hj2
theorem strOfNums_range (s : ByteArray) (n : Nat) (hn : n ≤ s.size) : strOfNums ((List.range n).map fun j => bt s ((0 + j : Nat) : Int)) = s.extract 0 n := by
  apply ByteArray.ext
  apply Array.ext'
  rw [strOfNums_data, extract_list, List.drop_zero, List.map_map]
  apply List.ext_getElem
  · simp
    have := data_length s
    omega
  · intro j h1 h2
    simp only [List.getElem_map, List.getElem_range, Function.comp_apply, List.getElem_take]
    rw [Nat.zero_add, bt_data]
    simp at h1 h2
    rw [List.getD_eq_getElem?_getD, List.getElem?_eq_getElem (by have := data_length s; omega)]
    simp
theorem read_canon (s : ByteArray) (h : (readB s).2.2 = 0) : numB (readB s).1 = s.extract 0 (readB s).2.1.toNat := by
  have hok := readB_ok s h
  revert h hok
  unfold readB
  cases hs : scan s (min s.size 9) 0 with
  | none =>
    intro h
    unfold readAt at h
    simp only at h
    split at h <;> simp at h
  | some L =>
    intro h hok
    have hL := scan_lt s _ _ _ hs
    have hb := scan_before s _ _ _ hs
    unfold readAt at *
    simp only at *
    split at h
    · simp at h
    · rename_i hz
      rw [if_neg hz] at hok ⊢
      have hv := vf_numL s L 0 (fun j h1 h2 => hb j h1 (by omega)) (by rw [Nat.zero_add]; exact hL.2.2) (fun h0 => by rw [Nat.zero_add]; exact fun he => hz ⟨he, h0⟩)
      have hval : val s (L + 1) = vf s (L + 1) 0 := by
        have := val_vf s (L + 1) 0
        rw [Nat.zero_add] at this
        rw [this]
        simp [val]
      unfold numB
      simp only
      rw [hval, hv.1, show ((L : Int) + 1).toNat = L + 1 by omega]
      exact strOfNums_range s (L + 1) (by omega)
theorem boundB_one (p : ByteArray) : boundB [p] = numB (p.size : Int) ++ p := by
  rw [boundB_cons, boundB_nil]
  congr 1
  apply ByteArray.ext
  apply Array.ext'
  simp
theorem looseGo_bound : ∀ (d : Nat) (s : ByteArray) (out l : List ByteArray), s.size < d → looseGo d s out = (l, 0) → boundB l = boundB out ++ s
  | 0, s, out, l, hd, _ => by omega
  | d + 1, s, out, l, hd, h => by
    rw [looseGo] at h
    by_cases h0 : s.size = 0
    · rw [if_pos h0] at h
      obtain rfl : out = l := (Prod.mk.inj h).1
      apply ByteArray.ext
      apply Array.ext'
      have := data_length s
      rw [ByteArray.data_append, Array.toList_append, List.length_eq_zero_iff.1 (by omega : s.data.toList.length = 0), List.append_nil]
    · rw [if_neg h0] at h
      by_cases h1 : (readB s).2.2 ≠ 0
      · rw [if_pos h1] at h
        exact absurd (Prod.mk.inj h).2 h1
      · rw [if_neg h1] at h
        have h1' : (readB s).2.2 = 0 := Decidable.not_not.1 h1
        have hok := readB_ok s h1'
        have hc := read_canon s h1'
        by_cases h2 : (readB s).1 > 8192 ∨ out.length = 512
        · rw [if_pos h2] at h
          cases h
        · rw [if_neg h2] at h
          by_cases h3 : (readB s).1 > s.size - (readB s).2.1
          · rw [if_pos h3] at h
            cases h
          · rw [if_neg h3] at h
            obtain ⟨a, ha⟩ : ∃ a : Nat, (readB s).2.1 = (a : Int) := ⟨(readB s).2.1.toNat, by omega⟩
            obtain ⟨b, hb⟩ : ∃ b : Nat, (readB s).1 = (b : Int) := ⟨(readB s).1.toNat, by omega⟩
            rw [ha, hb] at h h3 hok
            rw [ha, hb] at hc
            rw [hb] at h2
            simp only [Int.toNat_natCast] at h hc
            have ih := looseGo_bound d _ _ l (by rw [ByteArray.size_extract]; omega) h
            rw [ih, boundB_append, boundB_one, ByteArray.size_extract, show min (a + b) s.size - a = b by omega, hc]
            apply ByteArray.ext
            apply Array.ext'
            simp only [ByteArray.data_append, Array.toList_append, extract_list, List.drop_zero, List.append_assoc]
            congr 1
            have hl := data_length s
            generalize s.data.toList = L at hl
            rw [List.take_of_length_le (l := List.drop (a + b) L) (by simp; omega), show a + b - a = b by omega, Nat.sub_zero, ← List.drop_drop, List.take_append_drop, List.take_append_drop]
theorem looseB_bound (s : ByteArray) (l : List ByteArray) (h : looseB s = (l, 0)) : boundB l = s := by
  have := looseGo_bound _ _ _ _ (by omega) h
  rw [this, boundB_nil]
  apply ByteArray.ext
  apply Array.ext'
  simp
theorem looseGo_sizes : ∀ (d : Nat) (s : ByteArray) (out : List ByteArray), (∀ p ∈ out, p.size ≤ 8192) → ∀ p ∈ (looseGo d s out).1, p.size ≤ 8192
  | 0, _, _, h => h
  | d + 1, s, out, h => by
    rw [looseGo]
    split
    · exact h
    · split
      · simp
      · split
        · simp
        · split
          · simp
          · rename_i h1 h2 h3
            refine looseGo_sizes d _ _ ?_
            intro p hp
            rcases List.mem_append.1 hp with hp | hp
            · exact h p hp
            · obtain rfl := List.mem_singleton.1 hp
              rw [ByteArray.size_extract]
              omega
theorem looseB_sizes (s : ByteArray) : ∀ p ∈ (looseB s).1, p.size ≤ 8192 := looseGo_sizes _ _ _ (by simp)
end Go.Proofs.YtceedgflpkaclaaDoor.P
