/- What the numbers of layer 1 come to: the program's functions and the document's, each as one plain Lean function. Conditions: as each lemma says. -/
import Derived.Test.YtmngigklmgoibaaPFrameNumber
import Derived.Test.YtmngigklmgoibaaPref01Number
import Derived.Test.YtmngigklmgoibaaPFrameRead
import Derived.Test.YtmngigklmgoibaaPref01Read
namespace Go.Proofs.Ytmngigklmgoibaa.P
open Go.RowKit Go.Proofs.YtmngigklmgoibaaW.PrintWords Go.Proofs.YtmngigklmgoibaaW.PrintLast Go.Proofs.YtmngigklmgoibaaW.PrintMore

/-! ### a number's bytes -/
def numL (n : Nat) : List Int := if h : n < 128 then [(n : Int)] else ((n % 128 + 128 : Nat) : Int) :: numL (n / 128)
termination_by n
decreasing_by omega

theorem numL_length_pos (n : Nat) : 0 < (numL n).length := by
  unfold numL
  split <;> simp
theorem numL_length_le (n : Nat) : ∀ d, n < 128 ^ (d + 1) → (numL n).length ≤ d + 1 := by
  induction n using Nat.strongRecOn with
  | _ n ih =>
    intro d hd
    unfold numL
    split
    · simp
    · rename_i h
      cases d with
      | zero => simp at hd; omega
      | succ d =>
        have := ih (n / 128) (by omega) d (by rw [Nat.pow_succ] at hd; omega)
        simp only [List.length_cons]
        omega

theorem wrap64_id {x : Int} (h0 : -9223372036854775808 ≤ x) (h1 : x < 9223372036854775808) : wrap64 x = x := by unfold wrap64; omega

theorem frame_Number_l0 : ∀ (d : Nat) (k n : Nat) (acc : List Int), n < 128 ^ (d + 1) → n < 9223372036854775808 → d < 100 → d < k → acc.length + d < 1000 →
    frame_Number.l0 k (n : Int) acc = some (strOfNums (acc ++ numL n), 0) := by
  intro d
  induction d with
  | zero =>
    intro k n acc hn hb hd hk ha
    obtain ⟨k, rfl⟩ : ∃ m, k = m + 1 := ⟨k - 1, by omega⟩
    have h128 : n < 128 := by simpa using hn
    simp only [frame_Number.l0]
    rw [if_neg (by omega), if_pos (by omega)]
    unfold numL
    rw [dif_pos h128, show (n : Int) % 256 = n by omega]
  | succ d ih =>
    intro k n acc hn hb hd hk ha
    obtain ⟨k, rfl⟩ : ∃ m, k = m + 1 := ⟨k - 1, by omega⟩
    simp only [frame_Number.l0]
    by_cases h : n < 128
    · rw [if_neg (by omega), if_pos (by omega)]
      unfold numL
      rw [dif_pos h, show (n : Int) % 256 = n by omega]
    · rw [if_pos (by omega), if_pos (by omega)]
      have e1 : wrap64 (Int.tdiv (n : Int) 128) = ((n / 128 : Nat) : Int) := by
        rw [Int.tdiv_eq_ediv_of_nonneg (by omega)]
        rw [wrap64_id (by omega) (by omega)]
        omega
      have e2 : wrap64 (Int.tmod (n : Int) 128 + 128) % 256 = ((n % 128 + 128 : Nat) : Int) := by
        rw [Int.tmod_eq_emod_of_nonneg (by omega)]
        rw [wrap64_id (by omega) (by omega)]
        omega
      rw [e1, e2, ih k (n / 128) _ (by rw [Nat.pow_succ] at hn; omega) (by omega) (by omega) (by omega) (by simp; omega)]
      conv => rhs; unfold numL
      rw [dif_neg h, List.append_assoc]
      rfl

def numB (n : Int) : ByteArray := strOfNums (numL n.toNat)
theorem frame_Number_eq (k : Nat) (hk : 20 < k) (n : Int) (h : -9223372036854775808 ≤ n ∧ n < 9223372036854775808) :
    frame_Number.f k n = some (if 0 ≤ n ∧ n < 4611686018427387904 then (numB n, 0) else (⟨#[]⟩, 1)) := by
  unfold frame_Number.f
  obtain ⟨k, rfl⟩ : ∃ m, k = m + 1 := ⟨k - 1, by omega⟩
  by_cases h0 : n < 0
  · rw [if_pos h0, if_neg (by omega)]
    simp only [frame_Number.j0]
    rfl
  · rw [if_neg h0]
    simp only [frame_Number.j0]
    by_cases h1 : n < 4611686018427387904
    · rw [if_neg (by simp; omega), if_pos (by omega)]
      obtain ⟨m, rfl⟩ := Int.eq_ofNat_of_zero_le (Int.not_lt.1 h0)
      rw [frame_Number_l0 10 k m [] (by omega) (by omega) (by omega) (by omega) (by simp)]
      simp [numB]
    · rw [if_pos (by simp; omega), if_neg (by omega)]

theorem ref_Number_l0 : ∀ (d : Nat) (k n : Nat) (acc : List Int), n < 128 ^ (d + 1) → n < 9223372036854775808 → d < 100 → d < k → acc.length + d < 1000 →
    transhipmentref01_Number.l0 k (n : Int) acc = some (strOfNums (acc ++ numL n)) := by
  intro d
  induction d with
  | zero =>
    intro k n acc hn hb hd hk ha
    obtain ⟨k, rfl⟩ : ∃ m, k = m + 1 := ⟨k - 1, by omega⟩
    have h128 : n < 128 := by simpa using hn
    simp only [transhipmentref01_Number.l0]
    rw [if_neg (by omega), if_pos (by omega)]
    unfold numL
    rw [dif_pos h128, show (n : Int) % 256 = n by omega]
  | succ d ih =>
    intro k n acc hn hb hd hk ha
    obtain ⟨k, rfl⟩ : ∃ m, k = m + 1 := ⟨k - 1, by omega⟩
    simp only [transhipmentref01_Number.l0]
    by_cases h : n < 128
    · rw [if_neg (by omega), if_pos (by omega)]
      unfold numL
      rw [dif_pos h, show (n : Int) % 256 = n by omega]
    · rw [if_pos (by omega), if_pos (by omega)]
      have e1 : wrap64 (Int.tdiv (n : Int) 128) = ((n / 128 : Nat) : Int) := by
        rw [Int.tdiv_eq_ediv_of_nonneg (by omega)]
        rw [wrap64_id (by omega) (by omega)]
        omega
      have e2 : wrap64 (128 + Int.tmod (n : Int) 128) % 256 = ((n % 128 + 128 : Nat) : Int) := by
        rw [Int.tmod_eq_emod_of_nonneg (by omega)]
        rw [wrap64_id (by omega) (by omega)]
        omega
      rw [e1, e2, ih k (n / 128) _ (by rw [Nat.pow_succ] at hn; omega) (by omega) (by omega) (by omega) (by simp; omega)]
      conv => rhs; unfold numL
      rw [dif_neg h, List.append_assoc]
      rfl
theorem ref_Number_eq (k : Nat) (hk : 20 < k) (n : Int) (h0 : 0 ≤ n) (h1 : n < 9223372036854775808) : transhipmentref01_Number.f k n = some (numB n) := by
  unfold transhipmentref01_Number.f
  obtain ⟨m, rfl⟩ := Int.eq_ofNat_of_zero_le h0
  rw [ref_Number_l0 10 k m [] (by omega) (by omega) (by omega) (by omega) (by simp)]
  simp [numB]

/-! ### a number at a text's beginning -/
/-- The number of the first bytes. -/
def val (s : ByteArray) : Nat → Int
  | 0 => 0
  | i + 1 => val s i + bt s i % 128 * 128 ^ i
theorem val_range (s : ByteArray) : ∀ i, 0 ≤ val s i ∧ val s i < 128 ^ i
  | 0 => by simp [val]
  | i + 1 => by
    obtain ⟨h0, h1⟩ := val_range s i
    have hp : (0 : Int) < 128 ^ i := Int.pow_pos (by decide)
    have hm0 : 0 ≤ bt s i % 128 := Int.emod_nonneg _ (by decide)
    have hm1 : bt s i % 128 ≤ 127 := by have := Int.emod_lt_of_pos (bt s i) (show (0 : Int) < 128 by decide); omega
    have h2 : 0 ≤ bt s i % 128 * 128 ^ i := Int.mul_nonneg hm0 (Int.le_of_lt hp)
    have h3 : bt s i % 128 * 128 ^ i ≤ 127 * 128 ^ i := Int.mul_le_mul_of_nonneg_right hm1 (Int.le_of_lt hp)
    simp only [val, Int.pow_succ]
    omega
/-- The first byte below 128, among d from i on. -/
def scan (s : ByteArray) : Nat → Nat → Option Nat
  | 0, _ => none
  | d + 1, i => if bt s i < 128 then some i else scan s d (i + 1)
def readAt (s : ByteArray) : Option Nat → Int × Int × Int
  | none => if 9 ≤ s.size then (0, 0, 2) else (0, 0, 3)
  | some L => if bt s L = 0 ∧ 0 < L then (0, 0, 6) else (val s (L + 1), (L : Int) + 1, 0)
def readB (s : ByteArray) : Int × Int × Int := readAt s (scan s (min s.size 9) 0)

theorem bits_or_comm (k : IntKind) (x y : Int) : Go.bits .or k x y = Go.bits .or k y x := by simp only [Go.bits, BitVec.or_comm]
theorem pow128 (i : Nat) : (128 : Int) ^ i = 2 ^ (7 * i) := by rw [Int.pow_mul]; rfl
theorem pow128_le (i : Nat) (hi : i ≤ 8) : (128 : Int) ^ i ≤ 72057594037927936 := by
  have h : 128 ^ i ≤ 128 ^ 8 := Nat.pow_le_pow_right (by decide) hi
  have h2 : ((128 ^ i : Nat) : Int) ≤ ((128 ^ 8 : Nat) : Int) := by exact_mod_cast h
  simpa using h2
theorem wrap_small {x : Int} (h0 : 0 ≤ x) (h1 : x < 2 ^ 63) : IntKind.i64.wrap x = x := by
  rw [IntKind.wrap_i64]
  omega
theorem or_low (x y : Int) (i : Nat) (hi : i ≤ 8) (hx0 : 0 ≤ x) (hx1 : x < 128 ^ i) (hy0 : 0 ≤ y) (hy1 : y < 128) : Go.bits .or .i64 x (y * 128 ^ i) = x + y * 128 ^ i := by
  have hp : (0 : Int) < 128 ^ i := Int.pow_pos (by decide)
  have hle := pow128_le i hi
  have h1 : 0 ≤ y * 128 ^ i := Int.mul_nonneg hy0 (Int.le_of_lt hp)
  have h2 : y * 128 ^ i ≤ 127 * 128 ^ i := Int.mul_le_mul_of_nonneg_right (by omega) (Int.le_of_lt hp)
  rw [bits_or_comm, bits_join .i64 63 (by decide) (fun n a b => wrap_small a b) (7 * i) (y * 128 ^ i) x h1 (by rw [← pow128]; exact Int.mul_emod_left _ _) (by omega) hx0 (by rw [← pow128]; exact hx1) (by omega)]
  omega
theorem shl7 (y : Int) (i : Nat) (hi : i ≤ 8) (hy0 : 0 ≤ y) (hy1 : y < 128) : shl .i64 y (7 * (i : Int)) = y * 128 ^ i := by
  have hp : (0 : Int) < 128 ^ i := Int.pow_pos (by decide)
  have hle := pow128_le i hi
  have h1 : 0 ≤ y * 128 ^ i := Int.mul_nonneg hy0 (Int.le_of_lt hp)
  have h2 : y * 128 ^ i ≤ 127 * 128 ^ i := Int.mul_le_mul_of_nonneg_right (by omega) (Int.le_of_lt hp)
  unfold shl
  rw [show min (7 * (i : Int)).toNat IntKind.i64.bits = 7 * i by simp [IntKind.bits]; omega, ← pow128]
  exact wrap_small h1 (by omega)

theorem or_step (s : ByteArray) (i : Nat) (hi : i ≤ 8) : Go.bits .or .i64 (val s i) (shl .i64 (bt s i % 128) (7 * (i : Int))) = val s (i + 1) := by
  have h0 : 0 ≤ bt s i % 128 := Int.emod_nonneg _ (by decide)
  have h1 : bt s i % 128 < 128 := Int.emod_lt_of_pos _ (by decide)
  rw [shl7 _ i hi h0 h1, or_low _ _ i hi (val_range s i).1 (val_range s i).2 h0 h1]
  rfl
theorem mn_min (a b : Nat) : mn (a : Int) (b : Int) = ((min a b : Nat) : Int) := by
  unfold mn
  split <;> omega

theorem frame_Read_l0 (s : ByteArray) (hs : s.size ≤ 9223372036854775807) : ∀ (d i k : Nat), i + d = min s.size 9 → d < k →
    frame_Read.l0 k s (val s i) ((min s.size 9 : Nat) : Int) i = some (readAt s (scan s d i)) := by
  intro d
  induction d with
  | zero =>
    intro i k hi hk
    obtain ⟨k, rfl⟩ : ∃ m, k = m + 1 := ⟨k - 1, by omega⟩
    simp only [frame_Read.l0, scan, readAt]
    rw [if_neg (by omega)]
    by_cases h : 9 ≤ s.size
    · rw [if_pos (by omega), if_pos h]
    · rw [if_neg (by omega), if_neg h]
  | succ d ih =>
    intro i k hi hk
    obtain ⟨k, rfl⟩ : ∃ m, k = m + 1 := ⟨k - 1, by omega⟩
    have hb := bt_range s i
    have hi9 : i ≤ 8 := by omega
    have his : i < s.size := by omega
    have e1 : wrap64 (7 * (i : Int)) = 7 * (i : Int) := wrap64_id (by omega) (by omega)
    have e2 : wrap64 (bt s (i : Int)) = bt s i := wrap64_id (by omega) (by omega)
    have e3 : wrap64 ((i : Int) + 1) = ((i + 1 : Nat) : Int) := wrap64_id (by omega) (by omega)
    have e4 : Int.tmod (bt s i) 128 = bt s i % 128 := Int.tmod_eq_emod_of_nonneg (by omega)
    have e5 : Go.bits .or .i64 (val s i) (shl .i64 (bt s i % 128) (7 * (i : Int))) = val s (i + 1) := or_step s i hi9
    simp only [frame_Read.l0, scan]
    rw [if_pos (by omega), if_pos (by omega), if_pos (by omega), e1, if_pos (by omega), e2, e3, e4, e5]
    by_cases hlow : bt s i < 128
    · rw [if_neg (by omega), if_pos hlow]
      simp only [readAt]
      by_cases hz : bt s i = 0
      · rw [if_pos hz]
        by_cases hi0 : 0 < i
        · rw [if_pos (by omega), if_pos ⟨hz, hi0⟩]
        · rw [if_neg (by omega), if_neg (by omega)]
          rfl
      · rw [if_neg hz, if_neg (fun h => hz h.1)]
        rfl
    · rw [if_pos (by omega), if_neg hlow]
      exact ih (i + 1) k (by omega) (by omega)
theorem frame_Read_eq (s : ByteArray) (hs : s.size ≤ 9223372036854775807) (k : Nat) (hk : 20 < k) : frame_Read.f k s = some (readB s) := by
  unfold frame_Read.f readB
  rw [show mn (s.size : Int) 9 = ((min s.size 9 : Nat) : Int) from mn_min _ 9]
  exact frame_Read_l0 s hs (min s.size 9) 0 k (by omega) (by omega)

/-! the document's -/
theorem scan_lt (s : ByteArray) : ∀ d i L, scan s d i = some L → i ≤ L ∧ L < i + d ∧ bt s L < 128 := by
  intro d
  induction d with
  | zero => intro i L h; simp [scan] at h
  | succ d ih =>
    intro i L h
    simp only [scan] at h
    split at h
    · rename_i hl
      obtain rfl := Option.some.inj h
      exact ⟨by omega, by omega, hl⟩
    · obtain ⟨h1, h2, h3⟩ := ih _ _ h
      exact ⟨by omega, by omega, h3⟩
theorem ref_Read_l1 (s : ByteArray) (L : Nat) (hL : L < 9) (hLs : L < s.size) : ∀ (i k : Nat) (n : Int), i ≤ L + 1 → i < k → 0 ≤ n → (n + 1) * 128 ^ i ≤ 9223372036854775808 →
    transhipmentref01_Read.l1 k s L n ((i : Int) - 1) = some (n * 128 ^ i + val s i, (L : Int) + 1, 0) := by
  intro i
  induction i with
  | zero =>
    intro k n hi hk h0 h1
    obtain ⟨k, rfl⟩ : ∃ m, k = m + 1 := ⟨k - 1, by omega⟩
    simp only [transhipmentref01_Read.l1]
    rw [if_neg (by omega), wrap64_id (x := (L : Int) + 1) (by omega) (by omega)]
    simp [val]
  | succ i ih =>
    intro k n hi hk h0 h1
    obtain ⟨k, rfl⟩ : ∃ m, k = m + 1 := ⟨k - 1, by omega⟩
    have hb := bt_range s i
    have hp : (1 : Int) ≤ 128 ^ i := Int.pow_pos (by decide)
    rw [Int.pow_succ] at h1
    have h2 : (n + 1) * (128 ^ i * 128) = 128 * ((n + 1) * 128 ^ i) := by rw [Int.mul_comm (128 ^ i) 128, ← Int.mul_assoc, Int.mul_comm (n + 1) 128, Int.mul_assoc]
    have h3 : n + 1 ≤ (n + 1) * 128 ^ i := by
      have := Int.mul_le_mul_of_nonneg_left hp (show 0 ≤ n + 1 by omega)
      omega
    have e0 : (((i + 1 : Nat) : Int) - 1) = (i : Int) := by omega
    have e1 : wrap64 (128 * n) = 128 * n := wrap64_id (by omega) (by omega)
    have e2 : wrap64 (Int.tmod (bt s i) 128) = bt s i % 128 := by rw [Int.tmod_eq_emod_of_nonneg (by omega)]; exact wrap64_id (by omega) (by omega)
    have e3 : wrap64 (128 * n + bt s i % 128) = 128 * n + bt s i % 128 := wrap64_id (by omega) (by omega)
    have e4 : wrap64 ((i : Int) - 1) = (i : Int) - 1 := wrap64_id (by omega) (by omega)
    simp only [transhipmentref01_Read.l1]
    rw [e0, if_pos (by omega), if_pos (by omega), if_pos (by omega), e1, e2, e3, e4]
    have hd0 : 0 ≤ bt s i % 128 := by omega
    have hd1 : bt s i % 128 ≤ 127 := by omega
    have h4 : (128 * n + bt s i % 128 + 1) * 128 ^ i ≤ (n + 1) * (128 ^ i * 128) := by
      rw [h2, ← Int.mul_assoc]
      exact Int.mul_le_mul_of_nonneg_right (by omega) (by omega)
    rw [ih k _ (by omega) (by omega) (by omega) (by omega)]
    simp only [val, Int.pow_succ, Option.some.injEq, Prod.mk.injEq, and_true]
    rw [Int.add_mul, Int.mul_comm 128 n, Int.mul_assoc n, Int.mul_comm 128 (128 ^ i)]
    omega

theorem ref_Read_found (s : ByteArray) (hs : s.size ≤ 9223372036854775807) (L : Nat) (hL : L < min s.size 9) (_ : bt s L < 128) : ∀ (d i k : Nat), i + d = min s.size 9 → 2 * d + 20 < k →
    transhipmentref01_Read.l0 k s L i = some (readAt s (some L)) := by
  have hb := bt_range s L
  have fin : ∀ k, 18 < k → transhipmentref01_Read.j1 k s L ((min s.size 9 : Nat) : Int) false = some (readAt s (some L)) := by
    intro k hk
    obtain ⟨k, rfl⟩ : ∃ m, k = m + 1 := ⟨k - 1, by omega⟩
    simp only [transhipmentref01_Read.j1]
    rw [if_neg (by simp), if_neg (by omega)]
    obtain ⟨k, rfl⟩ : ∃ m, k = m + 1 := ⟨k - 1, by omega⟩
    simp only [transhipmentref01_Read.j2]
    rw [if_neg (by simp), if_neg (by omega), if_pos (by omega), if_pos (by omega)]
    simp only [readAt]
    have go : ∀ k, 15 < k → transhipmentref01_Read.j3 k s L false = some (val s (L + 1), (L : Int) + 1, 0) := by
      intro k hk
      obtain ⟨k, rfl⟩ : ∃ m, k = m + 1 := ⟨k - 1, by omega⟩
      simp only [transhipmentref01_Read.j3]
      rw [if_neg (by simp)]
      have h := ref_Read_l1 s L (by omega) (by omega) (L + 1) k 0 (by omega) (by omega) (by omega) (by
        have : (128 : Int) ^ (L + 1) ≤ 128 ^ 9 := by
          have h : 128 ^ (L + 1) ≤ 128 ^ 9 := Nat.pow_le_pow_right (by decide) (by omega)
          exact_mod_cast h
        have e : (128 : Int) ^ 9 = 9223372036854775808 := by decide
        omega)
      rw [show (((L + 1 : Nat) : Int) - 1) = (L : Int) by omega] at h
      rw [h]
      simp
    by_cases hz : bt s L = 0
    · rw [if_pos hz]
      by_cases h0 : 0 < L
      · rw [if_pos ⟨hz, h0⟩, show decide ((L : Int) > 0) = true by simp; omega]
        obtain ⟨k, rfl⟩ : ∃ m, k = m + 1 := ⟨k - 1, by omega⟩
        simp only [transhipmentref01_Read.j3]
        rw [if_pos (by trivial)]
      · rw [if_neg (by omega), show decide ((L : Int) > 0) = false by simp; omega]
        exact go k (by omega)
    · rw [if_neg hz, if_neg (fun h => hz h.1)]
      exact go k (by omega)
  intro d
  induction d with
  | zero =>
    intro i k hi hk
    obtain ⟨k, rfl⟩ : ∃ m, k = m + 1 := ⟨k - 1, by omega⟩
    simp only [transhipmentref01_Read.l0]
    have e : (i : Int) = ((min s.size 9 : Nat) : Int) := by omega
    rw [e]
    by_cases h : ((min s.size 9 : Nat) : Int) < s.size
    · rw [if_pos h, show decide (((min s.size 9 : Nat) : Int) < 9) = false by simp; omega]
      exact fin k (by omega)
    · rw [if_neg h]
      exact fin k (by omega)
  | succ d ih =>
    intro i k hi hk
    obtain ⟨k, rfl⟩ : ∃ m, k = m + 1 := ⟨k - 1, by omega⟩
    simp only [transhipmentref01_Read.l0]
    rw [if_pos (by omega), show decide ((i : Int) < 9) = true by simp; omega]
    obtain ⟨k, rfl⟩ : ∃ m, k = m + 1 := ⟨k - 1, by omega⟩
    simp only [transhipmentref01_Read.j1]
    rw [if_pos (by trivial), if_neg (by omega), show wrap64 ((i : Int) + 1) = ((i + 1 : Nat) : Int) from wrap64_id (by omega) (by omega)]
    exact ih (i + 1) k (by omega) (by omega)
theorem ref_Read_l0 (s : ByteArray) (hs : s.size ≤ 9223372036854775807) : ∀ (d i k : Nat), i + d = min s.size 9 → 2 * d + 30 < k →
    transhipmentref01_Read.l0 k s (-1) i = some (readAt s (scan s d i)) := by
  have fin : ∀ k, 18 < k → transhipmentref01_Read.j1 k s (-1) ((min s.size 9 : Nat) : Int) false = some (readAt s none) := by
    intro k hk
    obtain ⟨k, rfl⟩ : ∃ m, k = m + 1 := ⟨k - 1, by omega⟩
    simp only [transhipmentref01_Read.j1]
    rw [if_neg (by simp), if_pos (by omega)]
    obtain ⟨k, rfl⟩ : ∃ m, k = m + 1 := ⟨k - 1, by omega⟩
    simp only [transhipmentref01_Read.j2, readAt]
    by_cases h : 9 ≤ s.size
    · rw [show decide ((s.size : Int) < 9) = false by simp; omega, if_neg (by simp), if_pos (by omega), if_pos h]
    · rw [show decide ((s.size : Int) < 9) = true by simp; omega, if_pos (by trivial), if_neg h]
  intro d
  induction d with
  | zero =>
    intro i k hi hk
    obtain ⟨k, rfl⟩ : ∃ m, k = m + 1 := ⟨k - 1, by omega⟩
    simp only [transhipmentref01_Read.l0, scan]
    have e : (i : Int) = ((min s.size 9 : Nat) : Int) := by omega
    rw [e]
    by_cases h : ((min s.size 9 : Nat) : Int) < s.size
    · rw [if_pos h, show decide (((min s.size 9 : Nat) : Int) < 9) = false by simp; omega]
      exact fin k (by omega)
    · rw [if_neg h]
      exact fin k (by omega)
  | succ d ih =>
    intro i k hi hk
    obtain ⟨k, rfl⟩ : ∃ m, k = m + 1 := ⟨k - 1, by omega⟩
    have e3 : wrap64 ((i : Int) + 1) = ((i + 1 : Nat) : Int) := wrap64_id (by omega) (by omega)
    simp only [transhipmentref01_Read.l0, scan]
    rw [if_pos (by omega), show decide ((i : Int) < 9) = true by simp; omega]
    obtain ⟨k, rfl⟩ : ∃ m, k = m + 1 := ⟨k - 1, by omega⟩
    simp only [transhipmentref01_Read.j1]
    rw [if_pos (by trivial), if_pos (by omega), if_pos (by omega), if_pos (by omega), e3]
    by_cases hlow : bt s i < 128
    · rw [if_pos hlow, if_pos hlow]
      exact ref_Read_found s hs i (by omega) hlow d (i + 1) k (by omega) (by omega)
    · rw [if_neg hlow, if_neg hlow]
      exact ih (i + 1) k (by omega) (by omega)
theorem ref_Read_eq (s : ByteArray) (hs : s.size ≤ 9223372036854775807) (k : Nat) (hk : 60 < k) : transhipmentref01_Read.f k s = some (readB s) := by
  unfold transhipmentref01_Read.f readB
  exact ref_Read_l0 s hs (min s.size 9) 0 k (by omega) (by omega)
end Go.Proofs.Ytmngigklmgoibaa.P
