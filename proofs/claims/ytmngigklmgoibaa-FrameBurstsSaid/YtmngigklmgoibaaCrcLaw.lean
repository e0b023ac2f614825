/- The check, over words of 32 bits: linear, byte by byte, bit by bit; a burst of 32 bits or fewer changes it. Conditions: none. -/
import Derived.Test.YtmngigklmgoibaaFrameCrc
import Derived.Test.YtmngigklmgoibaaFrameLaw
import Derived.Laws.BitsLemmas
namespace Go.Proofs.Ytmngigklmgoibaa.P
open Go.RowKit Go.Proofs.YtmngigklmgoibaaW.PrintWords Go.Proofs.YtmngigklmgoibaaW.PrintLast Go.Proofs.YtmngigklmgoibaaW.PrintMore

def polB (b : Bool) : BitVec 32 := if b then 3988292384#32 else 0#32
def stepB (x : BitVec 32) : BitVec 32 := (x >>> 1) ^^^ polB (x.getLsbD 0)
theorem polB_xor (a b : Bool) : polB (a ^^ b) = polB a ^^^ polB b := by cases a <;> cases b <;> decide
theorem stepB_xor (x y : BitVec 32) : stepB (x ^^^ y) = stepB x ^^^ stepB y := by
  unfold stepB
  rw [BitVec.getLsbD_xor, polB_xor, BitVec.ushiftRight_xor_distrib]
  apply BitVec.eq_of_getLsbD_eq
  intro i hi
  simp only [BitVec.getLsbD_xor]
  cases (x >>> 1).getLsbD i <;> cases (y >>> 1).getLsbD i <;> cases (polB (x.getLsbD 0)).getLsbD i <;> cases (polB (y.getLsbD 0)).getLsbD i <;> rfl
theorem stepB_zero : stepB 0#32 = 0#32 := by decide
/-- A step loses nothing. -/
theorem stepB_eq_zero {x : BitVec 32} (h : stepB x = 0#32) : x = 0#32 := by
  have h31 : (stepB x).getLsbD 31 = false := by rw [h]; rfl
  have h0 : x.getLsbD 0 = false := by
    cases hx : x.getLsbD 0 with
    | false => rfl
    | true =>
      unfold stepB at h31
      rw [hx, BitVec.getLsbD_xor, BitVec.getLsbD_ushiftRight, BitVec.getLsbD_of_ge x (1 + 31) (by decide)] at h31
      exact absurd h31 (by decide)
  apply BitVec.eq_of_getLsbD_eq
  intro i hi
  cases i with
  | zero => rw [h0]; rfl
  | succ i =>
    have : (stepB x).getLsbD i = false := by rw [h]; simp
    unfold stepB at this
    rw [h0, BitVec.getLsbD_xor, BitVec.getLsbD_ushiftRight] at this
    have e : (polB false).getLsbD i = false := by simp [polB]
    rw [e, Bool.xor_false, Nat.add_comm] at this
    rw [this]
    simp

def stepsB : Nat → BitVec 32 → BitVec 32
  | 0, x => x
  | n + 1, x => stepB (stepsB n x)
theorem stepsB_xor (x y : BitVec 32) : ∀ n, stepsB n (x ^^^ y) = stepsB n x ^^^ stepsB n y
  | 0 => rfl
  | n + 1 => by rw [stepsB, stepsB_xor x y n, stepB_xor]; rfl
theorem stepsB_eq_zero {x : BitVec 32} : ∀ n, stepsB n x = 0#32 → x = 0#32
  | 0, h => h
  | n + 1, h => stepsB_eq_zero n (stepB_eq_zero h)

/-! ### bit by bit -/
def bitB (b : Bool) : BitVec 32 := if b then 1#32 else 0#32
def runB (m : Nat → Bool) (x : BitVec 32) : Nat → BitVec 32
  | 0 => x
  | j + 1 => stepB (runB m x j ^^^ bitB (m j))
theorem bitB_xor (a b : Bool) : bitB (a ^^ b) = bitB a ^^^ bitB b := by cases a <;> cases b <;> decide
theorem step_bit (g w : BitVec 32) : stepB (g ^^^ w) = stepB (g ^^^ bitB (w.getLsbD 0)) ^^^ (w >>> 1) := by
  have e : bitB (w.getLsbD 0) >>> 1 = 0#32 := by cases w.getLsbD 0 <;> decide
  have e2 : (bitB (w.getLsbD 0)).getLsbD 0 = w.getLsbD 0 := by cases w.getLsbD 0 <;> decide
  unfold stepB
  rw [BitVec.getLsbD_xor, BitVec.getLsbD_xor, e2, BitVec.ushiftRight_xor_distrib, BitVec.ushiftRight_xor_distrib, e]
  apply BitVec.eq_of_getLsbD_eq
  intro i hi
  simp only [BitVec.getLsbD_xor, BitVec.getLsbD_zero]
  cases (g >>> 1).getLsbD i <;> cases (w >>> 1).getLsbD i <;> cases (polB (g.getLsbD 0 ^^ w.getLsbD 0)).getLsbD i <;> rfl
theorem steps_bits (x y : BitVec 32) : ∀ n, stepsB n (x ^^^ y) = runB (fun i => y.getLsbD i) x n ^^^ (y >>> n)
  | 0 => by simp [stepsB, runB]
  | n + 1 => by
    rw [stepsB, steps_bits x y n, step_bit]
    rw [runB, BitVec.shiftRight_add, show (y >>> n).getLsbD 0 = y.getLsbD n by simp]
theorem runB_add (m : Nat → Bool) (x : BitVec 32) (a : Nat) : ∀ b, runB m x (a + b) = runB (fun i => m (a + i)) (runB m x a) b
  | 0 => rfl
  | b + 1 => by rw [← Nat.add_assoc, runB, runB_add m x a b]; rfl
theorem runB_congr {m m' : Nat → Bool} (x : BitVec 32) : ∀ n, (∀ i, i < n → m i = m' i) → runB m x n = runB m' x n
  | 0, _ => rfl
  | n + 1, h => by rw [runB, runB, runB_congr x n (fun i hi => h i (by omega)), h n (by omega)]
theorem runB_xor (m m' : Nat → Bool) (x y : BitVec 32) : ∀ n, runB (fun i => m i ^^ m' i) (x ^^^ y) n = runB m x n ^^^ runB m' y n
  | 0 => rfl
  | n + 1 => by
    rw [runB, runB_xor m m' x y n, bitB_xor, runB, runB, ← stepB_xor]
    congr 1
    apply BitVec.eq_of_getLsbD_eq
    intro i hi
    simp only [BitVec.getLsbD_xor]
    cases (runB m x n).getLsbD i <;> cases (runB m' y n).getLsbD i <;> cases (bitB (m n)).getLsbD i <;> cases (bitB (m' n)).getLsbD i <;> rfl

/-- What 32 bits that follow one another leave is never nothing. -/
theorem burst_ne (e : Nat → Bool) (at_ q N : Nat) (hq : q ≤ 32) (hN : at_ + q ≤ N) (y : BitVec 32) (hy : y ≠ 0#32) (hyq : ∀ i, q ≤ i → y.getLsbD i = false)
    (h : ∀ j, j < N → e j = (decide (at_ ≤ j) && decide (j < at_ + q) && y.getLsbD (j - at_))) : runB e 0#32 N ≠ 0#32 := by
  have h1 : ∀ j, j ≤ at_ → runB e 0#32 j = 0#32 := by
    intro j
    induction j with
    | zero => intro _; rfl
    | succ j ih =>
      intro hj
      rw [runB, ih (by omega), h j (by omega), decide_eq_false (by omega : ¬ at_ ≤ j)]
      simp only [Bool.false_and]
      rw [show bitB false = 0#32 from rfl, BitVec.xor_zero]
      exact stepB_zero
  have h2 : runB e 0#32 (at_ + q) = stepsB q y := by
    rw [runB_add, h1 at_ (Nat.le_refl _)]
    have := steps_bits 0#32 y q
    rw [show (0#32 ^^^ y) = y by simp] at this
    rw [this]
    have e0 : y >>> q = 0#32 := by
      apply BitVec.eq_of_getLsbD_eq
      intro i hi
      rw [BitVec.getLsbD_ushiftRight, hyq (q + i) (by omega)]
      simp
    rw [e0, BitVec.xor_zero]
    apply runB_congr
    intro i hi
    rw [h (at_ + i) (by omega), decide_eq_true (by omega : at_ ≤ at_ + i), decide_eq_true (by omega : at_ + i < at_ + q), Nat.add_sub_cancel_left]
    rfl
  have h3 : ∀ r, at_ + q + r ≤ N → runB e 0#32 (at_ + q + r) = stepsB (q + r) y := by
    intro r
    induction r with
    | zero => intro _; exact h2
    | succ r ih =>
      intro hr
      rw [← Nat.add_assoc, runB, ih (by omega), h (at_ + q + r) (by omega), decide_eq_false (by omega : ¬ at_ + q + r < at_ + q)]
      simp only [Bool.and_false, Bool.false_and]
      rw [show bitB false = 0#32 from rfl, BitVec.xor_zero, ← Nat.add_assoc]
      rfl
  have h4 := h3 (N - (at_ + q)) (by omega)
  rw [show at_ + q + (N - (at_ + q)) = N by omega] at h4
  rw [h4]
  intro hz
  exact hy (stepsB_eq_zero _ hz)

/-! ### the program's words -/
theorem ofInt_toNat (x : BitVec 32) : BitVec.ofInt 32 (x.toNat : Int) = x := by
  rw [BitVec.ofInt_natCast, BitVec.ofNat_toNat, BitVec.setWidth_eq]
theorem wrap_toNat (x : BitVec 32) : IntKind.u32.wrap (x.toNat : Int) = (x.toNat : Int) := by
  rw [IntKind.wrap_u32]
  have := x.isLt
  omega
theorem bits_xor_B (x y : BitVec 32) : Go.bits .xor .u32 (x.toNat : Int) (y.toNat : Int) = ((x ^^^ y).toNat : Int) := by
  have h : Go.bits .xor .u32 (x.toNat : Int) (y.toNat : Int) = IntKind.u32.wrap (((BitVec.ofInt 32 (x.toNat : Int)) ^^^ (BitVec.ofInt 32 (y.toNat : Int))).toNat : Int) := rfl
  rw [h, ofInt_toNat, ofInt_toNat, wrap_toNat]
theorem bits_and_B (x y : BitVec 32) : Go.bits .and .u32 (x.toNat : Int) (y.toNat : Int) = ((x &&& y).toNat : Int) := by
  have h : Go.bits .and .u32 (x.toNat : Int) (y.toNat : Int) = IntKind.u32.wrap (((BitVec.ofInt 32 (x.toNat : Int)) &&& (BitVec.ofInt 32 (y.toNat : Int))).toNat : Int) := rfl
  rw [h, ofInt_toNat, ofInt_toNat, wrap_toNat]
theorem half_B (x : BitVec 32) : (x.toNat : Int) / (2 : Int) = ((x >>> 1).toNat : Int) := by
  rw [BitVec.toNat_ushiftRight, Nat.shiftRight_eq_div_pow]
  omega
theorem low_B (x : BitVec 32) : x.getLsbD 0 = decide (x.toNat % 2 = 1) := by
  rw [BitVec.getLsbD, Nat.testBit_zero]
theorem crcStep_B (x : BitVec 32) : crcStep (x.toNat : Int) = ((stepB x).toNat : Int) := by
  unfold crcStep stepB
  have e1 : (1 : Int) = ((1#32).toNat : Int) := rfl
  have e2 : (3988292384 : Int) = ((3988292384#32).toNat : Int) := rfl
  have ha : Go.bits .and .u32 (x.toNat : Int) 1 = ((x.toNat % 2 : Nat) : Int) := by
    conv => lhs; rw [e1]
    rw [bits_and_B, BitVec.toNat_and]
    exact congrArg Int.ofNat (Nat.and_one_is_mod _)
  rw [ha, half_B, low_B]
  by_cases h : x.toNat % 2 = 1
  · rw [if_pos (by omega), decide_eq_true h, e2, bits_xor_B]
    rfl
  · rw [if_neg (by omega), decide_eq_false h]
    simp [polB]
theorem crcSteps_B (x : BitVec 32) : ∀ n, crcSteps n (x.toNat : Int) = ((stepsB n x).toNat : Int)
  | 0 => rfl
  | n + 1 => by rw [crcSteps, crcSteps_B x n, crcStep_B]; rfl
def byteB (x : BitVec 32) (b : Nat) : BitVec 32 := stepsB 8 (x ^^^ BitVec.ofNat 32 b)
theorem crcByte_B (x : BitVec 32) (b : Nat) (hb : b < 256) : crcByte (x.toNat : Int) (b : Int) = ((byteB x b).toNat : Int) := by
  unfold crcByte byteB
  have e : (b : Int) = ((BitVec.ofNat 32 b).toNat : Int) := by
    rw [BitVec.toNat_ofNat]
    congr 1
    omega
  rw [e, bits_xor_B, crcSteps_B]
/-- The bytes of a text. -/
def nat (s : ByteArray) (i : Nat) : Nat := (bt s (i : Int)).toNat
theorem nat_lt (s : ByteArray) (i : Nat) : nat s i < 256 := by have := bt_range s i; unfold nat; omega
theorem nat_cast (s : ByteArray) (i : Nat) : bt s (i : Int) = (nat s i : Int) := by have := bt_range s i; unfold nat; omega
def foldB (b : Nat → Nat) (x : BitVec 32) : Nat → BitVec 32
  | 0 => x
  | n + 1 => byteB (foldB b x n) (b n)
theorem crcFold_B (s : ByteArray) : ∀ n, crcFold s n = ((foldB (nat s) 4294967295#32 n).toNat : Int)
  | 0 => rfl
  | n + 1 => by rw [crcFold, crcFold_B s n, nat_cast, crcByte_B _ _ (nat_lt s n)]; rfl
/-- A text's bits, each byte's from the lowest on. -/
def mbits (b : Nat → Nat) (j : Nat) : Bool := (b (j / 8)).testBit (j % 8)
theorem foldB_bits (b : Nat → Nat) (hb : ∀ i, b i < 256) (x : BitVec 32) : ∀ n, foldB b x n = runB (mbits b) x (8 * n)
  | 0 => rfl
  | n + 1 => by
    rw [foldB, foldB_bits b hb x n, byteB, steps_bits, show 8 * (n + 1) = 8 * n + 8 by omega, runB_add]
    have e0 : BitVec.ofNat 32 (b n) >>> 8 = 0#32 := by
      apply BitVec.eq_of_toNat_eq
      rw [BitVec.toNat_ushiftRight, Nat.shiftRight_eq_div_pow, BitVec.toNat_ofNat]
      have := hb n
      simp
      omega
    rw [e0, BitVec.xor_zero]
    apply runB_congr
    intro i hi
    rw [BitVec.getLsbD, BitVec.toNat_ofNat, Nat.mod_eq_of_lt (by have := hb n; omega)]
    unfold mbits
    rw [show (8 * n + i) / 8 = n by omega, show (8 * n + i) % 8 = i by omega]

theorem foldB_add (b : Nat → Nat) (x : BitVec 32) (a : Nat) : ∀ c, foldB b x (a + c) = foldB (fun j => b (a + j)) (foldB b x a) c
  | 0 => rfl
  | c + 1 => by rw [← Nat.add_assoc, foldB, foldB_add b x a c]; rfl
theorem foldB_congr {b b' : Nat → Nat} (x : BitVec 32) : ∀ n, (∀ i, i < n → b i = b' i) → foldB b x n = foldB b' x n
  | 0, _ => rfl
  | n + 1, h => by rw [foldB, foldB, foldB_congr x n (fun i hi => h i (by omega)), h n (by omega)]
theorem foldB_first (b : Nat → Nat) (x : BitVec 32) (n : Nat) : foldB b x (n + 1) = foldB (fun j => b (1 + j)) (byteB x (b 0)) n := by
  rw [Nat.add_comm, foldB_add]; rfl
theorem stepsB_first (x : BitVec 32) : ∀ n, stepsB (n + 1) x = stepsB n (stepB x)
  | 0 => rfl
  | n + 1 => by rw [stepsB, stepsB_first x n]; rfl
theorem not_B (x : BitVec 32) : (4294967295 - (x.toNat : Int)) % (4294967296 : Int) = ((x ^^^ 4294967295#32).toNat : Int) := by
  have e : x ^^^ 4294967295#32 = ~~~x := BitVec.xor_allOnes
  have := x.isLt
  rw [e, BitVec.toNat_not]
  omega
theorem ones_ones (x : BitVec 32) : x ^^^ 4294967295#32 ^^^ 4294967295#32 = x := by rw [BitVec.xor_assoc, BitVec.xor_self, BitVec.xor_zero]
def crcB (s : ByteArray) : BitVec 32 := foldB (nat s) 4294967295#32 s.size
theorem frame_Crc_B (s : ByteArray) (h : s.size ≤ 9223372036854775807) : frame_Crc.f s = some ((crcB s ^^^ 4294967295#32).toNat : Int) := by
  unfold frame_Crc.f
  rw [if_pos h, crcFold_B]
  have e : (4294967295 : Int) = ((4294967295#32).toNat : Int) := rfl
  rw [e, bits_xor_B]
  rfl
theorem bt_list (s : ByteArray) (j : Nat) : bt s (j : Int) = ((s.data.toList.getD j 0).toNat : Int) := by
  unfold bt
  rw [Int.toNat_natCast]
  split
  · rename_i h
    rw [List.getD_eq_getElem?_getD, List.getElem?_eq_getElem (by rw [data_length]; exact h)]
    simp [ByteArray.getElem_eq_getElem_data]
  · rename_i h
    rw [List.getD_eq_getElem?_getD, List.getElem?_eq_none (by rw [data_length]; omega)]
    rfl
theorem nat_list (s : ByteArray) (i : Nat) : nat s i = (s.data.toList.getD i 0).toNat := by
  have h : bt s (i : Int) = ((s.data.toList.getD i 0).toNat : Int) := bt_list s i
  unfold nat
  rw [h]
  rfl
theorem nat_extract (s : ByteArray) (a b j : Nat) (h : a + j < b) : nat (s.extract a b) j = nat s (a + j) := by
  rw [nat_list, nat_list]
  have e : (s.extract a b).data.toList = (s.data.toList.drop a).take (b - a) := by
    rw [ByteArray.data_extract, Array.toList_extract, List.extract_eq_take_drop]
  rw [e, List.getD_eq_getElem?_getD, List.getD_eq_getElem?_getD, List.getElem?_take_of_lt (by omega), List.getElem?_drop]
end Go.Proofs.Ytmngigklmgoibaa.P
