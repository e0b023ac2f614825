/- The check of a text, bit by bit; a list of bytes as a text. Conditions: none. -/
import Derived.Test.YtmngigklmgoibaaCrcLaw
import Derived.Laws.BytesArg
namespace Go.Proofs.Ytmngigklmgoibaa.P
open Go.RowKit Go.Proofs.YtmngigklmgoibaaW.PrintWords Go.Proofs.YtmngigklmgoibaaW.PrintLast Go.Proofs.YtmngigklmgoibaaW.PrintMore

def lnat (L : List Int) (j : Nat) : Nat := (rd L (j : Int)).toNat
def Bytes (L : List Int) : Prop := ∀ j : Nat, 0 ≤ rd L (j : Int) ∧ rd L (j : Int) < 256
theorem Bytes.cast {L : List Int} (h : Bytes L) (j : Nat) : rd L (j : Int) = (lnat L j : Int) := by have := (h j).1; unfold lnat; omega
theorem Bytes.lt {L : List Int} (h : Bytes L) (j : Nat) : lnat L j < 256 := by have := h j; unfold lnat; omega
theorem rd_nat (t : ByteArray) (i : Nat) : rd (bytesOf t) (i : Int) = (nat t i : Int) := by rw [rd_bytesOf, nat_cast]
theorem bytesOf_Bytes (t : ByteArray) : Bytes (bytesOf t) := by
  intro j
  rw [rd_nat]
  have := nat_lt t j
  omega
theorem lnat_bytesOf (t : ByteArray) (j : Nat) : lnat (bytesOf t) j = nat t j := by unfold lnat; rw [rd_nat]; rfl
theorem rd_set (L : List Int) (i j : Nat) (v : Int) (hi : i < L.length) : rd (L.set i v) (j : Int) = if j = i then v else rd L (j : Int) := by
  unfold rd
  rw [Int.toNat_natCast, List.getD_eq_getElem?_getD, List.getD_eq_getElem?_getD, List.getElem?_set]
  by_cases h : i = j
  · rw [if_pos h, if_pos (by omega), if_pos h.symm]
    rfl
  · rw [if_neg h, if_neg (by omega)]
theorem nat_strOfNums (L : List Int) (h : Bytes L) (j : Nat) (hj : j < L.length) : nat (strOfNums L) j = lnat L j := by
  have hh := h j
  rw [nat_list, strOfNums_data]
  unfold lnat rd at *
  rw [Int.toNat_natCast] at *
  rw [List.getD_eq_getElem?_getD, List.getElem?_map]
  rw [List.getD_eq_getElem?_getD] at hh ⊢
  rw [List.getElem?_eq_getElem hj] at hh ⊢
  simp only [Option.getD_some, Option.map_some] at hh ⊢
  rw [UInt8.toNat_ofNat']
  omega
theorem bits8 (a b : Nat) (ha : a < 256) (hb : b < 256) : Go.bits .xor .u8 (a : Int) (b : Int) = ((a ^^^ b : Nat) : Int) := by
  have h : Go.bits .xor .u8 (a : Int) (b : Int) = IntKind.u8.wrap (((BitVec.ofInt 8 (a : Int)) ^^^ (BitVec.ofInt 8 (b : Int))).toNat : Int) := rfl
  have hx : a ^^^ b < 2 ^ 8 := Nat.xor_lt_two_pow ha hb
  rw [h, BitVec.toNat_xor, BitVec.ofInt_natCast, BitVec.ofInt_natCast, BitVec.toNat_ofNat, BitVec.toNat_ofNat, Nat.mod_eq_of_lt ha, Nat.mod_eq_of_lt hb]
  generalize a ^^^ b = c at *
  have e : IntKind.u8.wrap (c : Int) = (c : Int) % 256 := rfl
  rw [e]
  omega
theorem xor_lt8 {a b : Nat} (ha : a < 256) (hb : b < 256) : a ^^^ b < 256 := Nat.xor_lt_two_pow (n := 8) ha hb
theorem mbits_xor (f g h : Nat → Nat) (j : Nat) (e : h (j / 8) = f (j / 8) ^^^ g (j / 8)) : mbits h j = (mbits f j ^^ mbits g j) := by
  unfold mbits
  rw [e, Nat.testBit_xor]
theorem crcB_bits (s : ByteArray) : crcB s = runB (mbits (nat s)) 4294967295#32 (8 * s.size) := by
  unfold crcB
  exact foldB_bits _ (fun i => nat_lt s i) _ _
/-- The check of three texts' exclusive or. -/
theorem crcB_three (x a b c : ByteArray) (n : Nat) (hx : x.size = n) (ha : a.size = n) (hb : b.size = n) (hc : c.size = n)
    (h : ∀ i, i < n → nat x i = nat a i ^^^ (nat b i ^^^ nat c i)) : crcB x = crcB a ^^^ (crcB b ^^^ crcB c) := by
  rw [crcB_bits, crcB_bits, crcB_bits, crcB_bits, hx, ha, hb, hc]
  have e : runB (mbits (nat x)) 4294967295#32 (8 * n) = runB (fun i => mbits (nat a) i ^^ (mbits (nat b) i ^^ mbits (nat c) i)) 4294967295#32 (8 * n) := by
    apply runB_congr
    intro i hi
    unfold mbits
    rw [h _ (by omega), Nat.testBit_xor, Nat.testBit_xor]
  have o : (4294967295#32 : BitVec 32) = 4294967295#32 ^^^ (4294967295#32 ^^^ 4294967295#32) := by decide
  rw [e]
  conv => lhs; rw [o]
  rw [runB_xor (mbits (nat a)) (fun i => mbits (nat b) i ^^ mbits (nat c) i), runB_xor]
/-- A burst of 32 bits or fewer changes the check. -/
theorem crcB_burst (x s : ByteArray) (hx : x.size = s.size) (at_ q : Nat) (hq : q ≤ 32) (hN : at_ + q ≤ 8 * s.size) (y : BitVec 32) (hy : y ≠ 0#32) (hyq : ∀ i, q ≤ i → y.getLsbD i = false)
    (h : ∀ j, j < 8 * s.size → mbits (nat x) j = (mbits (nat s) j ^^ (decide (at_ ≤ j) && decide (j < at_ + q) && y.getLsbD (j - at_)))) : crcB x ≠ crcB s := by
  intro he
  rw [crcB_bits, crcB_bits, hx] at he
  have e : runB (mbits (nat x)) 4294967295#32 (8 * s.size) = runB (fun j => mbits (nat s) j ^^ (decide (at_ ≤ j) && decide (j < at_ + q) && y.getLsbD (j - at_))) (4294967295#32 ^^^ 0#32) (8 * s.size) := by
    rw [BitVec.xor_zero]
    exact runB_congr _ _ (fun i hi => h i hi)
  rw [e, runB_xor] at he
  have h0 : runB (fun j => decide (at_ ≤ j) && decide (j < at_ + q) && y.getLsbD (j - at_)) 0#32 (8 * s.size) = 0#32 := by
    have := congrArg (fun z => runB (mbits (nat s)) 4294967295#32 (8 * s.size) ^^^ z) he
    simp only [BitVec.xor_self] at this
    rwa [← BitVec.xor_assoc, BitVec.xor_self, BitVec.zero_xor] at this
  exact burst_ne _ at_ q (8 * s.size) hq hN y hy hyq (fun j _ => rfl) h0
/-- Texts of the same bits are the same. -/
theorem same_bits (x s : ByteArray) (hx : x.size = s.size) (h : ∀ j, j < 8 * s.size → mbits (nat x) j = mbits (nat s) j) : x.toList = s.toList := by
  have hb : ∀ i, i < s.size → nat x i = nat s i := by
    intro i hi
    apply Nat.eq_of_testBit_eq
    intro r
    by_cases hr : r < 8
    · have := h (8 * i + r) (by omega)
      unfold mbits at this
      rwa [show (8 * i + r) / 8 = i by omega, show (8 * i + r) % 8 = r by omega] at this
    · have hp : 256 ≤ 2 ^ r := by
        have : 2 ^ 8 ≤ 2 ^ r := Nat.pow_le_pow_right (by decide) (by omega)
        simpa using this
      rw [Nat.testBit_lt_two_pow (Nat.lt_of_lt_of_le (nat_lt x i) hp), Nat.testBit_lt_two_pow (Nat.lt_of_lt_of_le (nat_lt s i) hp)]
  rw [ByteArray.toList_eq, ByteArray.toList_eq]
  apply List.ext_getElem
  · rw [data_length, data_length, hx]
  · intro i h1 h2
    have h3 : i < s.size := by rw [data_length] at h2; exact h2
    have := hb i h3
    rw [nat_list, nat_list, List.getD_eq_getElem?_getD, List.getD_eq_getElem?_getD, List.getElem?_eq_getElem h1, List.getElem?_eq_getElem h2] at this
    simp only [Option.getD_some] at this
    exact UInt8.toNat_inj.1 this
end Go.Proofs.Ytmngigklmgoibaa.P
