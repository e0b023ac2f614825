/- What these functions of the program and of the plain reference compute, and plain lemmas on it: CrcLaw, SealLaw1, SealLaw2, SealLaw3, PureSealBack, Opens. Conditions: as each lemma says. -/
import Derived.Test.YtceedgflpkaclaaDoorMLawSealBack2
import Derived.Test.YtceedgflpkaclaaDoorMLawSealBack6
import Derived.Laws.BitsLemmas
import Derived.Test.YtceedgflpkaclaaDoorMLawSealBack1
import Derived.Test.YtceedgflpkaclaaDoorMLawSealBack4
import Derived.Test.YtceedgflpkaclaaDoorMLawSealBack5
import Derived.Test.YtceedgflpkaclaaDoorMLawSealBack0
import Derived.ChangeArms
import Derived.ChangeSlices
import Derived.DataReads
import Derived.ChangeShapes
/- The check, over words of 32 bits: linear, byte by byte, bit by bit; a burst of 32 bits or fewer changes it. Conditions: none. -/
namespace Go.Proofs.YtceedgflpkaclaaDoor.P
open Go.RowKit Go.Proofs.YtceedgflpkaclaaDoorW.PrintWords Go.Proofs.YtceedgflpkaclaaDoorW.PrintLast Go.Proofs.YtceedgflpkaclaaDoorW.PrintMore

def polB (b : Bool) : BitVec 32 := if b then 3988292384#32 else 0#32
def stepB (x : BitVec 32) : BitVec 32 := (x >>> 1) ^^^ polB (x.getLsbD 0)
theorem polB_xor (a b : Bool) : polB (a ^^ b) = polB a ^^^ polB b := by cases a <;> cases b <;> decide
theorem stepB_xor (x y : BitVec 32) : stepB (x ^^^ y) = stepB x ^^^ stepB y := by
  unfold stepB
  rw [BitVec.getLsbD_xor, polB_xor, BitVec.ushiftRight_xor_distrib]
  apply BitVec.eq_of_getLsbD_eq
  intro i hi
  simp only [BitVec.getLsbD_xor]
  cases (x >>> 1).getLsbD i <;> cases (y >>> 1).getLsbD i <;> cases (polB (x.getLsbD 0)).getLsbD i <;> cases (polB (y.getLsbD 0)).getLsbD i <;> rfl
theorem stepB_zero : stepB 0#32 = 0#32 := by decide
/-- A step loses nothing. -/
theorem stepB_eq_zero {x : BitVec 32} (h : stepB x = 0#32) : x = 0#32 := by
  have h31 : (stepB x).getLsbD 31 = false := by rw [h]; rfl
  have h0 : x.getLsbD 0 = false := by
    cases hx : x.getLsbD 0 with
    | false => rfl
    | true =>
      unfold stepB at h31
      rw [hx, BitVec.getLsbD_xor, BitVec.getLsbD_ushiftRight, BitVec.getLsbD_of_ge x (1 + 31) (by decide)] at h31
      exact absurd h31 (by decide)
  apply BitVec.eq_of_getLsbD_eq
  intro i hi
  cases i with
  | zero => rw [h0]; rfl
  | succ i =>
    have : (stepB x).getLsbD i = false := by rw [h]; simp
    unfold stepB at this
    rw [h0, BitVec.getLsbD_xor, BitVec.getLsbD_ushiftRight] at this
    have e : (polB false).getLsbD i = false := by simp [polB]
    rw [e, Bool.xor_false, Nat.add_comm] at this
    rw [this]
    simp

def stepsB : Nat → BitVec 32 → BitVec 32
  | 0, x => x
  | n + 1, x => stepB (stepsB n x)
theorem stepsB_xor (x y : BitVec 32) : ∀ n, stepsB n (x ^^^ y) = stepsB n x ^^^ stepsB n y
  | 0 => rfl
  | n + 1 => by rw [stepsB, stepsB_xor x y n, stepB_xor]; rfl
theorem stepsB_eq_zero {x : BitVec 32} : ∀ n, stepsB n x = 0#32 → x = 0#32
  | 0, h => h
  | n + 1, h => stepsB_eq_zero n (stepB_eq_zero h)

/-! ### bit by bit -/
def bitB (b : Bool) : BitVec 32 := if b then 1#32 else 0#32
def runB (m : Nat → Bool) (x : BitVec 32) : Nat → BitVec 32
  | 0 => x
  | j + 1 => stepB (runB m x j ^^^ bitB (m j))
theorem bitB_xor (a b : Bool) : bitB (a ^^ b) = bitB a ^^^ bitB b := by cases a <;> cases b <;> decide
theorem step_bit (g w : BitVec 32) : stepB (g ^^^ w) = stepB (g ^^^ bitB (w.getLsbD 0)) ^^^ (w >>> 1) := by
  have e : bitB (w.getLsbD 0) >>> 1 = 0#32 := by cases w.getLsbD 0 <;> decide
  have e2 : (bitB (w.getLsbD 0)).getLsbD 0 = w.getLsbD 0 := by cases w.getLsbD 0 <;> decide
  unfold stepB
  rw [BitVec.getLsbD_xor, BitVec.getLsbD_xor, e2, BitVec.ushiftRight_xor_distrib, BitVec.ushiftRight_xor_distrib, e]
  apply BitVec.eq_of_getLsbD_eq
  intro i hi
  simp only [BitVec.getLsbD_xor, BitVec.getLsbD_zero]
  cases (g >>> 1).getLsbD i <;> cases (w >>> 1).getLsbD i <;> cases (polB (g.getLsbD 0 ^^ w.getLsbD 0)).getLsbD i <;> rfl
theorem steps_bits (x y : BitVec 32) : ∀ n, stepsB n (x ^^^ y) = runB (fun i => y.getLsbD i) x n ^^^ (y >>> n)
  | 0 => by simp [stepsB, runB]
  | n + 1 => by
    rw [stepsB, steps_bits x y n, step_bit]
    rw [runB, BitVec.shiftRight_add, show (y >>> n).getLsbD 0 = y.getLsbD n by simp]
theorem runB_add (m : Nat → Bool) (x : BitVec 32) (a : Nat) : ∀ b, runB m x (a + b) = runB (fun i => m (a + i)) (runB m x a) b
  | 0 => rfl
  | b + 1 => by rw [← Nat.add_assoc, runB, runB_add m x a b]; rfl
theorem runB_congr {m m' : Nat → Bool} (x : BitVec 32) : ∀ n, (∀ i, i < n → m i = m' i) → runB m x n = runB m' x n
  | 0, _ => rfl
  | n + 1, h => by rw [runB, runB, runB_congr x n (fun i hi => h i (by omega)), h n (by omega)]
theorem runB_xor (m m' : Nat → Bool) (x y : BitVec 32) : ∀ n, runB (fun i => m i ^^ m' i) (x ^^^ y) n = runB m x n ^^^ runB m' y n
  | 0 => rfl
  | n + 1 => by
    rw [runB, runB_xor m m' x y n, bitB_xor, runB, runB, ← stepB_xor]
    congr 1
    apply BitVec.eq_of_getLsbD_eq
    intro i hi
    simp only [BitVec.getLsbD_xor]
    cases (runB m x n).getLsbD i <;> cases (runB m' y n).getLsbD i <;> cases (bitB (m n)).getLsbD i <;> cases (bitB (m' n)).getLsbD i <;> rfl

/-- What 32 bits that follow one another leave is never nothing. -/
theorem burst_ne (e : Nat → Bool) (at_ q N : Nat) (hq : q ≤ 32) (hN : at_ + q ≤ N) (y : BitVec 32) (hy : y ≠ 0#32) (hyq : ∀ i, q ≤ i → y.getLsbD i = false)
    (h : ∀ j, j < N → e j = (decide (at_ ≤ j) && decide (j < at_ + q) && y.getLsbD (j - at_))) : runB e 0#32 N ≠ 0#32 := by
  have h1 : ∀ j, j ≤ at_ → runB e 0#32 j = 0#32 := by
    intro j
    induction j with
    | zero => intro _; rfl
    | succ j ih =>
      intro hj
      rw [runB, ih (by omega), h j (by omega), decide_eq_false (by omega : ¬ at_ ≤ j)]
      simp only [Bool.false_and]
      rw [show bitB false = 0#32 from rfl, BitVec.xor_zero]
      exact stepB_zero
  have h2 : runB e 0#32 (at_ + q) = stepsB q y := by
    rw [runB_add, h1 at_ (Nat.le_refl _)]
    have := steps_bits 0#32 y q
    rw [show (0#32 ^^^ y) = y by simp] at this
    rw [this]
    have e0 : y >>> q = 0#32 := by
      apply BitVec.eq_of_getLsbD_eq
      intro i hi
      rw [BitVec.getLsbD_ushiftRight, hyq (q + i) (by omega)]
      simp
    rw [e0, BitVec.xor_zero]
    apply runB_congr
    intro i hi
    rw [h (at_ + i) (by omega), decide_eq_true (by omega : at_ ≤ at_ + i), decide_eq_true (by omega : at_ + i < at_ + q), Nat.add_sub_cancel_left]
    rfl
  have h3 : ∀ r, at_ + q + r ≤ N → runB e 0#32 (at_ + q + r) = stepsB (q + r) y := by
    intro r
    induction r with
    | zero => intro _; exact h2
    | succ r ih =>
      intro hr
      rw [← Nat.add_assoc, runB, ih (by omega), h (at_ + q + r) (by omega), decide_eq_false (by omega : ¬ at_ + q + r < at_ + q)]
      simp only [Bool.and_false, Bool.false_and]
      rw [show bitB false = 0#32 from rfl, BitVec.xor_zero, ← Nat.add_assoc]
      rfl
  have h4 := h3 (N - (at_ + q)) (by omega)
  rw [show at_ + q + (N - (at_ + q)) = N by omega] at h4
  rw [h4]
  intro hz
  exact hy (stepsB_eq_zero _ hz)

/-! ### the program's words -/
theorem ofInt_toNat (x : BitVec 32) : BitVec.ofInt 32 (x.toNat : Int) = x := by
  rw [BitVec.ofInt_natCast, BitVec.ofNat_toNat, BitVec.setWidth_eq]
theorem wrap_toNat (x : BitVec 32) : IntKind.u32.wrap (x.toNat : Int) = (x.toNat : Int) := by
  rw [IntKind.wrap_u32]
  have := x.isLt
  omega
theorem bits_xor_B (x y : BitVec 32) : Go.bits .xor .u32 (x.toNat : Int) (y.toNat : Int) = ((x ^^^ y).toNat : Int) := by
  have h : Go.bits .xor .u32 (x.toNat : Int) (y.toNat : Int) = IntKind.u32.wrap (((BitVec.ofInt 32 (x.toNat : Int)) ^^^ (BitVec.ofInt 32 (y.toNat : Int))).toNat : Int) := rfl
  rw [h, ofInt_toNat, ofInt_toNat, wrap_toNat]
theorem bits_and_B (x y : BitVec 32) : Go.bits .and .u32 (x.toNat : Int) (y.toNat : Int) = ((x &&& y).toNat : Int) := by
  have h : Go.bits .and .u32 (x.toNat : Int) (y.toNat : Int) = IntKind.u32.wrap (((BitVec.ofInt 32 (x.toNat : Int)) &&& (BitVec.ofInt 32 (y.toNat : Int))).toNat : Int) := rfl
  rw [h, ofInt_toNat, ofInt_toNat, wrap_toNat]
theorem half_B (x : BitVec 32) : (x.toNat : Int) / (2 : Int) = ((x >>> 1).toNat : Int) := by
  rw [BitVec.toNat_ushiftRight, Nat.shiftRight_eq_div_pow]
  omega
theorem low_B (x : BitVec 32) : x.getLsbD 0 = decide (x.toNat % 2 = 1) := by
  rw [BitVec.getLsbD, Nat.testBit_zero]
theorem crcStep_B (x : BitVec 32) : crcStep (x.toNat : Int) = ((stepB x).toNat : Int) := by
  unfold crcStep stepB
  have e1 : (1 : Int) = ((1#32).toNat : Int) := rfl
  have e2 : (3988292384 : Int) = ((3988292384#32).toNat : Int) := rfl
  have ha : Go.bits .and .u32 (x.toNat : Int) 1 = ((x.toNat % 2 : Nat) : Int) := by
    conv => lhs; rw [e1]
    rw [bits_and_B, BitVec.toNat_and]
    exact congrArg Int.ofNat (Nat.and_one_is_mod _)
  rw [ha, half_B, low_B]
  by_cases h : x.toNat % 2 = 1
  · rw [if_pos (by omega), decide_eq_true h, e2, bits_xor_B]
    rfl
  · rw [if_neg (by omega), decide_eq_false h]
    simp [polB]
theorem crcSteps_B (x : BitVec 32) : ∀ n, crcSteps n (x.toNat : Int) = ((stepsB n x).toNat : Int)
  | 0 => rfl
  | n + 1 => by rw [crcSteps, crcSteps_B x n, crcStep_B]; rfl
def byteB (x : BitVec 32) (b : Nat) : BitVec 32 := stepsB 8 (x ^^^ BitVec.ofNat 32 b)
theorem crcByte_B (x : BitVec 32) (b : Nat) (hb : b < 256) : crcByte (x.toNat : Int) (b : Int) = ((byteB x b).toNat : Int) := by
  unfold crcByte byteB
  have e : (b : Int) = ((BitVec.ofNat 32 b).toNat : Int) := by
    rw [BitVec.toNat_ofNat]
    congr 1
    omega
  rw [e, bits_xor_B, crcSteps_B]
/-- The bytes of a text. -/
def nat (s : ByteArray) (i : Nat) : Nat := (bt s (i : Int)).toNat
theorem nat_lt (s : ByteArray) (i : Nat) : nat s i < 256 := by have := bt_range s i; unfold nat; omega
theorem nat_cast (s : ByteArray) (i : Nat) : bt s (i : Int) = (nat s i : Int) := by have := bt_range s i; unfold nat; omega
def foldB (b : Nat → Nat) (x : BitVec 32) : Nat → BitVec 32
  | 0 => x
  | n + 1 => byteB (foldB b x n) (b n)
theorem crcFold_B (s : ByteArray) : ∀ n, crcFold s n = ((foldB (nat s) 4294967295#32 n).toNat : Int)
  | 0 => rfl
  | n + 1 => by rw [crcFold, crcFold_B s n, nat_cast, crcByte_B _ _ (nat_lt s n)]; rfl
/-- A text's bits, each byte's from the lowest on. -/
def mbits (b : Nat → Nat) (j : Nat) : Bool := (b (j / 8)).testBit (j % 8)
theorem foldB_bits (b : Nat → Nat) (hb : ∀ i, b i < 256) (x : BitVec 32) : ∀ n, foldB b x n = runB (mbits b) x (8 * n)
  | 0 => rfl
  | n + 1 => by
    rw [foldB, foldB_bits b hb x n, byteB, steps_bits, show 8 * (n + 1) = 8 * n + 8 by omega, runB_add]
    have e0 : BitVec.ofNat 32 (b n) >>> 8 = 0#32 := by
      apply BitVec.eq_of_toNat_eq
      rw [BitVec.toNat_ushiftRight, Nat.shiftRight_eq_div_pow, BitVec.toNat_ofNat]
      have := hb n
      simp
      omega
    rw [e0, BitVec.xor_zero]
    apply runB_congr
    intro i hi
    rw [BitVec.getLsbD, BitVec.toNat_ofNat, Nat.mod_eq_of_lt (by have := hb n; omega)]
    unfold mbits
    rw [show (8 * n + i) / 8 = n by omega, show (8 * n + i) % 8 = i by omega]

theorem foldB_add (b : Nat → Nat) (x : BitVec 32) (a : Nat) : ∀ c, foldB b x (a + c) = foldB (fun j => b (a + j)) (foldB b x a) c
  | 0 => rfl
  | c + 1 => by rw [← Nat.add_assoc, foldB, foldB_add b x a c]; rfl
theorem foldB_congr {b b' : Nat → Nat} (x : BitVec 32) : ∀ n, (∀ i, i < n → b i = b' i) → foldB b x n = foldB b' x n
  | 0, _ => rfl
  | n + 1, h => by rw [foldB, foldB, foldB_congr x n (fun i hi => h i (by omega)), h n (by omega)]
theorem foldB_first (b : Nat → Nat) (x : BitVec 32) (n : Nat) : foldB b x (n + 1) = foldB (fun j => b (1 + j)) (byteB x (b 0)) n := by
  rw [Nat.add_comm, foldB_add]; rfl
theorem stepsB_first (x : BitVec 32) : ∀ n, stepsB (n + 1) x = stepsB n (stepB x)
  | 0 => rfl
  | n + 1 => by rw [stepsB, stepsB_first x n]; rfl
theorem not_B (x : BitVec 32) : (4294967295 - (x.toNat : Int)) % (4294967296 : Int) = ((x ^^^ 4294967295#32).toNat : Int) := by
  have e : x ^^^ 4294967295#32 = ~~~x := BitVec.xor_allOnes
  have := x.isLt
  rw [e, BitVec.toNat_not]
  omega
theorem ones_ones (x : BitVec 32) : x ^^^ 4294967295#32 ^^^ 4294967295#32 = x := by rw [BitVec.xor_assoc, BitVec.xor_self, BitVec.xor_zero]
def crcB (s : ByteArray) : BitVec 32 := foldB (nat s) 4294967295#32 s.size
theorem frame_Crc_B (s : ByteArray) (h : s.size ≤ 9223372036854775807) : frame_Crc.f s = some ((crcB s ^^^ 4294967295#32).toNat : Int) := by
  unfold frame_Crc.f
  rw [if_pos h, crcFold_B]
  have e : (4294967295 : Int) = ((4294967295#32).toNat : Int) := rfl
  rw [e, bits_xor_B]
  rfl
theorem bt_list (s : ByteArray) (j : Nat) : bt s (j : Int) = ((s.data.toList.getD j 0).toNat : Int) := by
  unfold bt
  rw [Int.toNat_natCast]
  split
  · rename_i h
    rw [List.getD_eq_getElem?_getD, List.getElem?_eq_getElem (by rw [data_length]; exact h)]
    simp [ByteArray.getElem_eq_getElem_data]
  · rename_i h
    rw [List.getD_eq_getElem?_getD, List.getElem?_eq_none (by rw [data_length]; omega)]
    rfl
theorem nat_list (s : ByteArray) (i : Nat) : nat s i = (s.data.toList.getD i 0).toNat := by
  have h : bt s (i : Int) = ((s.data.toList.getD i 0).toNat : Int) := bt_list s i
  unfold nat
  rw [h]
  rfl
theorem nat_extract (s : ByteArray) (a b j : Nat) (h : a + j < b) : nat (s.extract a b) j = nat s (a + j) := by
  rw [nat_list, nat_list]
  have e : (s.extract a b).data.toList = (s.data.toList.drop a).take (b - a) := by
    rw [ByteArray.data_extract, Array.toList_extract, List.extract_eq_take_drop]
  rw [e, List.getD_eq_getElem?_getD, List.getD_eq_getElem?_getD, List.getElem?_take_of_lt (by omega), List.getElem?_drop]
end Go.Proofs.YtceedgflpkaclaaDoor.P

/- What sections that are sealed, and bytes that are opened, come to: the program's functions, each as one plain Lean function. Conditions: as each lemma says. -/
namespace Go.Proofs.YtceedgflpkaclaaDoor.P
open Go.RowKit Go.Proofs.YtceedgflpkaclaaDoorW.PrintWords Go.Proofs.YtceedgflpkaclaaDoorW.PrintLast Go.Proofs.YtceedgflpkaclaaDoorW.PrintMore

theorem bytes_eq (a b : ByteArray) : a.toList = b.toList ↔ a = b := by
  rw [ByteArray.toList_eq, ByteArray.toList_eq]
  exact ⟨fun h => ByteArray.ext (Array.ext' h), fun h => by rw [h]⟩
/-! ### few -/
def cutS (p : ByteArray) : ByteArray := p.extract 0 (min p.size 4100)
def cutL (l : List ByteArray) : List ByteArray := (l.take 66).map cutS
theorem cutS_size (p : ByteArray) : (cutS p).size ≤ 4100 := by
  unfold cutS
  rw [ByteArray.size_extract]
  omega
theorem cutL_length (l : List ByteArray) : (cutL l).length ≤ 66 := by
  unfold cutL
  rw [List.length_map, List.length_take]
  omega
theorem cutL_size {l : List ByteArray} : ∀ p ∈ cutL l, p.size ≤ 4100 := by
  intro p hp
  obtain ⟨q, _, rfl⟩ := List.mem_map.1 hp
  exact cutS_size q
theorem cut_l0 (l : List ByteArray) (hl : l.length ≤ 66) : ∀ (d i k : Nat) (out : List ByteArray), i + d = l.length → d < k → out.length = i →
    transhipmentlaw02_few.l0 k out l (l.length : Int) (i : Int) = some (out ++ (l.drop i).map cutS) := by
  intro d
  induction d with
  | zero =>
    intro i k out hi hk ho
    obtain ⟨k, rfl⟩ : ∃ m, k = m + 1 := ⟨k - 1, by omega⟩
    simp only [transhipmentlaw02_few.l0]
    rw [if_neg (by omega), List.drop_of_length_le (by omega)]
    simp
  | succ d ih =>
    intro i k out hi hk ho
    obtain ⟨k, rfl⟩ : ∃ m, k = m + 1 := ⟨k - 1, by omega⟩
    have hlt : i < l.length := by omega
    have hx := rdOf_string l i hlt
    simp only [transhipmentlaw02_few.l0]
    rw [hx, show mn (l[i].size : Int) 4100 = ((min l[i].size 4100 : Nat) : Int) from mn_min _ 4100]
    rw [if_pos (by omega), if_pos (by omega), if_pos (by omega), if_pos (by omega), if_pos (by omega), if_pos (by omega), Int.toNat_natCast, wrap64_id (by omega) (by omega)]
    have h := ih (i + 1) k (out ++ [l[i].extract 0 (min l[i].size 4100)]) (by omega) (by omega) (by simp [ho])
    rw [show ((i : Int) + 1) = ((i + 1 : Nat) : Int) by omega, h, List.drop_eq_getElem_cons hlt]
    simp only [cutS, List.map_cons, List.append_assoc, List.singleton_append]
theorem cut_eq (k : Nat) (hk : 70 < k) (l : List ByteArray) : transhipmentlaw02_few.f k l = some (cutL l) := by
  unfold transhipmentlaw02_few.f
  rw [show mn (l.length : Int) 66 = ((min l.length 66 : Nat) : Int) from mn_min _ 66]
  rw [if_pos (by omega), if_pos (by omega), Int.toNat_natCast]
  simp only [Option.bind_some]
  have h : l.take (min l.length 66) = l.take 66 := by
    rw [Nat.min_comm, ← List.take_take, List.take_length]
  rw [h, show (0 : Int) = ((0 : Nat) : Int) from rfl, cut_l0 (l.take 66) (by simp; omega) (l.take 66).length 0 k [] (by omega) (by simp; omega) rfl]
  simp [cutL]

/-! ### a section's check, and its frame -/
def sealT : ByteArray := ⟨#[115, 101, 97, 108]⟩
def crcI (s : ByteArray) : Int := ((crcB s ^^^ 4294967295#32).toNat : Int)
def checkB (s : ByteArray) : ByteArray := strOfNums [crcI s % 256, crcI s / 256 % 256, crcI s / 65536 % 256, crcI s / 16777216 % 256]
theorem checkB_size (s : ByteArray) : (checkB s).size = 4 := by
  unfold checkB
  rw [strOfNums_size]
  rfl
theorem seal_checked_eq (s : ByteArray) (h : s.size ≤ 9223372036854775807) : seal_checked.f s = some (checkB s) := by
  unfold seal_checked.f
  rw [frame_Crc_B s h]
  rfl
def frameB (x : ByteArray) : ByteArray := boundB [x, checkB x]
theorem frameB_size (x : ByteArray) (h : x.size ≤ 4100) : (frameB x).size ≤ 4200 := by
  unfold frameB
  have h1 := numB_size (x.size : Int) (by omega) (by omega)
  have h2 := numB_size ((checkB x).size : Int) (by omega) (by rw [checkB_size]; omega)
  rw [boundB_cons, boundB_one]
  simp only [ByteArray.size_append]
  rw [checkB_size] at h2 ⊢
  omega
/-- May sections be sealed? -/
def mayS (l : List ByteArray) : Prop := l.length ≤ 64 ∧ ∀ p ∈ l, p.size ≤ 4096
instance (l : List ByteArray) : Decidable (mayS l) := by unfold mayS; exact inferInstance
def tailB (l : List ByteArray) : ByteArray := sealT ++ boundB (l.map frameB)
def closeB (l : List ByteArray) : ByteArray := tailB l ++ sumV (tailB l)
theorem sumV_32 (s : ByteArray) : (sumV s).size = 32 := by
  unfold sumV
  show (List.toArray _).size = 32
  rw [List.size_toArray, outB_length]
theorem frames_may (l : List ByteArray) (hl : l.length ≤ 66) (hs : ∀ p ∈ l, p.size ≤ 4100) : mayB (l.map frameB) := by
  refine ⟨by rw [List.length_map]; omega, ?_⟩
  intro p hp
  obtain ⟨q, hq, rfl⟩ := List.mem_map.1 hp
  have := frameB_size q (hs q hq)
  omega
theorem tailB_size (l : List ByteArray) (hl : l.length ≤ 66) (hs : ∀ p ∈ l, p.size ≤ 4100) : (tailB l).size ≤ 1000000 := by
  unfold tailB
  have h := bound_size (l.map frameB) (fun p hp => by have := (frames_may l hl hs).2 p hp; omega)
  rw [List.length_map] at h
  rw [ByteArray.size_append]
  have : sealT.size = 4 := rfl
  omega
theorem seal_Sum_eq (s : ByteArray) (h : s.size ≤ 70368744177664) : seal_Sum.f s = some (sumV s) := by
  unfold seal_Sum.f
  rw [if_pos h]
theorem seal_Close_l0 (l : List ByteArray) (hl : l.length ≤ 64) (hs : ∀ p ∈ l, p.size ≤ 4100) : ∀ (d i k : Nat) (out : List ByteArray), i + d = l.length → d + 30 < k → out = (l.take i).map frameB → (∀ p ∈ l.take i, p.size ≤ 4096) →
    seal_Close.l0 k out l (l.length : Int) (i : Int) = some (if mayS l then (closeB l, 0) else (⟨#[]⟩, 2)) := by
  intro d
  induction d with
  | zero =>
    intro i k out hi hk ho hp
    obtain ⟨k, rfl⟩ : ∃ m, k = m + 1 := ⟨k - 1, by omega⟩
    rw [List.take_of_length_le (by omega)] at ho hp
    subst ho
    have hm := frames_may l (by omega) hs
    have hz := tailB_size l (by omega) hs
    have hz2 : (boundB (l.map frameB)).size ≤ (tailB l).size := by unfold tailB; rw [ByteArray.size_append]; omega
    have hsv := sumV_32 (tailB l)
    simp only [seal_Close.l0]
    rw [if_neg (by omega), frame_Bind_eq k (by omega) _ (fun p hp => by have := hm.2 p hp; omega), if_pos hm, if_pos ⟨hl, hp⟩]
    simp only [Option.bind_some, if_true]
    rw [if_pos (by omega)]
    have e : (⟨#[115, 101, 97, 108]⟩ : ByteArray) ++ boundB (l.map frameB) = tailB l := rfl
    rw [e, seal_Sum_eq _ (by omega)]
    simp only [Option.bind_some]
    rw [if_pos (by omega)]
    rfl
  | succ d ih =>
    intro i k out hi hk ho hp
    obtain ⟨k, rfl⟩ : ∃ m, k = m + 1 := ⟨k - 1, by omega⟩
    have hlt : i < l.length := by omega
    have h1 : l[i].size ≤ 4100 := hs _ (List.getElem_mem hlt)
    simp only [seal_Close.l0]
    rw [rdOf_string l i hlt, if_pos (by omega), if_pos (by omega), if_pos (by omega)]
    by_cases h : l[i].size ≤ 4096
    · rw [if_neg (by omega), seal_checked_eq _ (by omega)]
      simp only [Option.bind_some]
      rw [frame_Bind_eq k (by omega) _ (by
        intro p hp2
        have hc := checkB_size l[i]
        simp only [List.mem_cons, List.not_mem_nil, or_false] at hp2
        rcases hp2 with rfl | rfl <;> omega)]
      rw [if_pos (show mayB [l[i], checkB l[i]] from ⟨by simp, by
        intro p hp2
        have hc := checkB_size l[i]
        simp only [List.mem_cons, List.not_mem_nil, or_false] at hp2
        rcases hp2 with rfl | rfl <;> omega⟩)]
      simp only [Option.bind_some]
      have hol : out.length ≤ 64 := by rw [ho, List.length_map, List.length_take]; omega
      rw [if_pos (by omega), wrap64_id (by omega) (by omega), show ((i : Int) + 1) = ((i + 1 : Nat) : Int) by omega]
      refine ih (i + 1) k _ (by omega) (by omega) ?_ ?_
      · rw [ho, List.take_succ_eq_append_getElem hlt, List.map_append]
        rfl
      · rw [List.take_succ_eq_append_getElem hlt]
        intro p hp2
        rcases List.mem_append.1 hp2 with hp2 | hp2
        · exact hp p hp2
        · rw [List.mem_singleton.1 hp2]
          exact h
    · rw [if_pos (by omega), if_neg (fun hm => h (hm.2 _ (List.getElem_mem hlt)))]
theorem seal_Close_eq (k : Nat) (hk : 100 < k) (l : List ByteArray) (hs : ∀ p ∈ l, p.size ≤ 4100) : seal_Close.f k l = some (if mayS l then (closeB l, 0) else (⟨#[]⟩, 2)) := by
  unfold seal_Close.f
  by_cases h : l.length > 64
  · rw [if_pos (by omega), if_neg (fun hm => by have := hm.1; omega)]
  · rw [if_neg (by omega), show (0 : Int) = ((0 : Nat) : Int) from rfl]
    exact seal_Close_l0 l (by omega) hs l.length 0 k [] (by omega) (by omega) rfl (by simp)
theorem ref02_May_l0 (l : List ByteArray) (hb : l.length < 9223372036854775807) : ∀ (d i k : Nat), i + d = l.length → d < k →
    transhipmentref02_May.l0 k l l (l.length : Int) (i : Int) = some (decide ((∀ p ∈ l.drop i, p.size ≤ 4096) ∧ l.length ≤ 64)) := by
  intro d
  induction d with
  | zero =>
    intro i k hi hk
    obtain ⟨k, rfl⟩ : ∃ m, k = m + 1 := ⟨k - 1, by omega⟩
    simp only [transhipmentref02_May.l0]
    rw [if_neg (by omega), List.drop_of_length_le (by omega)]
    simp
    omega
  | succ d ih =>
    intro i k hi hk
    obtain ⟨k, rfl⟩ : ∃ m, k = m + 1 := ⟨k - 1, by omega⟩
    have hlt : i < l.length := by omega
    simp only [transhipmentref02_May.l0]
    rw [rdOf_string l i hlt, if_pos (by omega), if_pos (by omega), if_pos (by omega), wrap64_id (by omega) (by omega), show ((i : Int) + 1) = ((i + 1 : Nat) : Int) by omega, ih (i + 1) k (by omega) (by omega), List.drop_eq_getElem_cons hlt]
    by_cases h : l[i].size ≤ 4096
    · rw [if_neg (by omega)]
      congr 1
      exact decide_eq_decide.2 (by rw [List.forall_mem_cons]; exact ⟨fun h' => ⟨⟨h, h'.1⟩, h'.2⟩, fun h' => ⟨h'.1.2, h'.2⟩⟩)
    · rw [if_pos (by omega)]
      congr 1
      symm
      exact decide_eq_false (fun h' => h (List.forall_mem_cons.1 h'.1).1)
theorem ref02_May_eq (l : List ByteArray) (hb : l.length < 5000) (k : Nat) (hk : 5000 < k) : transhipmentref02_May.f k l = some (decide (mayS l)) := by
  unfold transhipmentref02_May.f
  rw [show (0 : Int) = ((0 : Nat) : Int) from rfl, ref02_May_l0 l (by omega) l.length 0 k (by omega) (by omega)]
  congr 1
  rw [List.drop_zero]
  exact decide_eq_decide.2 ⟨fun h => ⟨h.2, h.1⟩, fun h => ⟨h.2, h.1⟩⟩

/-! ### open -/
/-- The section of a frame. -/
def sectionB (f : ByteArray) : ByteArray × Int :=
  match (looseB f).1 with
  | [x, c] => if c.size ≠ 4 then (⟨#[]⟩, 6) else if 4096 < x.size then (⟨#[]⟩, 2) else if c ≠ checkB x then (⟨#[]⟩, 4) else if boundB [x, c] ≠ f then (⟨#[]⟩, 6) else (x, 0)
  | _ => (⟨#[]⟩, 6)
theorem section_j0_true (k : Nat) (f : ByteArray) (l : List ByteArray) : seal_section.j0 (k + 1) f l true = some (⟨#[]⟩, 6) := by
  simp only [seal_section.j0, if_true]
theorem seal_section_eq (f : ByteArray) (hf : f.size < 100000000) (k : Nat) (hk : 2 * f.size + 1000 < k) : seal_section.f k f = some (sectionB f) := by
  obtain ⟨k, rfl⟩ : ∃ m, k = m + 1 := ⟨k - 1, by omega⟩
  unfold seal_section.f
  rw [frame_Loose_eq f (by omega) _ (by omega)]
  simp only [Option.bind_some]
  unfold sectionB
  match (looseB f).1 with
  | [] => exact section_j0_true k f []
  | [x] => exact section_j0_true k f [x]
  | x :: c :: y :: r =>
    have e : ((x :: c :: y :: r).length : Int) ≠ 2 := by simp; omega
    rw [if_neg e]
    exact section_j0_true k f (x :: c :: y :: r)
  | [x, c] =>
    have e1 : rdOf ByteArray.empty [x, c] 1 = c := rfl
    have e0 : rdOf ByteArray.empty [x, c] 0 = x := rfl
    have e2 : (([x, c] : List ByteArray).length : Int) = 2 := rfl
    rw [e1, e2, if_pos (by trivial), if_pos (by decide)]
    by_cases hc : c.size = 4
    · have hb : ((c.size : Int) != 4) = false := by simp; omega
      rw [hb]
      simp only [seal_section.j0]
      rw [e0, e1, e2, if_neg (by simp), if_pos (by decide), if_neg (by simp [hc] : ¬ c.size ≠ 4)]
      by_cases hx : 4096 < x.size
      · rw [if_pos (by omega), if_pos hx]
      · rw [if_neg (by omega), if_neg hx, if_pos (by decide), seal_checked_eq x (by omega)]
        simp only [Option.bind_some]
        by_cases hk2 : c = checkB x
        · rw [if_pos ((bytes_eq _ _).2 hk2), if_neg (not_not_intro hk2)]
          have hsz : ∀ p ∈ [x, c], p.size ≤ 8192 := by
            intro p hp2
            simp only [List.mem_cons, List.not_mem_nil, or_false] at hp2
            rcases hp2 with rfl | rfl <;> omega
          rw [frame_Bind_eq k (by omega) _ (fun p hp => by have := hsz p hp; omega), if_pos ⟨by simp, hsz⟩]
          simp only [Option.bind_some, if_true]
          by_cases hb2 : boundB [x, c] = f
          · rw [if_pos ((bytes_eq _ _).2 hb2), if_neg (not_not_intro hb2)]
          · rw [if_neg (fun h => hb2 ((bytes_eq _ _).1 h)), if_pos hb2]
        · rw [if_neg (fun h => hk2 ((bytes_eq _ _).1 h)), if_pos hk2]
    · have hb : ((c.size : Int) != 4) = true := by simp; omega
      rw [hb]
      dsimp only
      rw [if_pos hc]
      exact section_j0_true k f [x, c]
/-- The sections of frames, one behind the other. -/
def openGo : List ByteArray → List ByteArray → List ByteArray × Int
  | [], out => (out, 0)
  | f :: fs, out => if (sectionB f).2 = 0 then openGo fs (out ++ [(sectionB f).1]) else ([], (sectionB f).2)
/-- What bytes are opened to. -/
def openB (s : ByteArray) : List ByteArray × Int :=
  if s.size < 36 then ([], 3)
  else if s.extract 0 4 ≠ sealT then ([], 6)
  else if sumV (s.extract 0 (s.size - 32)) ≠ s.extract (s.size - 32) s.size then ([], 5)
  else if (looseB (s.extract 4 (s.size - 32))).2 ≠ 0 then ([], (looseB (s.extract 4 (s.size - 32))).2)
  else if (looseB (s.extract 4 (s.size - 32))).1.length > 64 then ([], 2)
  else openGo (looseB (s.extract 4 (s.size - 32))).1 []
theorem seal_Open_l0 (fs : List ByteArray) (hl : fs.length ≤ 512) (hs : ∀ f ∈ fs, f.size ≤ 8192) : ∀ (d i k : Nat) (out : List ByteArray), i + d = fs.length → d + 20000 < k → out.length = i →
    seal_Open.l0 k out fs (fs.length : Int) (i : Int) = some (openGo (fs.drop i) out) := by
  intro d
  induction d with
  | zero =>
    intro i k out hi hk ho
    obtain ⟨k, rfl⟩ : ∃ m, k = m + 1 := ⟨k - 1, by omega⟩
    simp only [seal_Open.l0]
    rw [if_neg (by omega), List.drop_of_length_le (by omega)]
    rfl
  | succ d ih =>
    intro i k out hi hk ho
    obtain ⟨k, rfl⟩ : ∃ m, k = m + 1 := ⟨k - 1, by omega⟩
    have hlt : i < fs.length := by omega
    have h1 : fs[i].size ≤ 8192 := hs _ (List.getElem_mem hlt)
    simp only [seal_Open.l0]
    rw [rdOf_string fs i hlt, if_pos (by omega), if_pos (by omega), if_pos (by omega), seal_section_eq _ (by omega) k (by omega), List.drop_eq_getElem_cons hlt, openGo]
    simp only [Option.bind_some]
    by_cases h : (sectionB fs[i]).2 = 0
    · rw [if_pos h, if_pos h, if_pos (by omega), wrap64_id (by omega) (by omega), show ((i : Int) + 1) = ((i + 1 : Nat) : Int) by omega]
      exact ih (i + 1) k _ (by omega) (by omega) (by simp [ho])
    · rw [if_neg h, if_neg h]
theorem prefix_eq (a b : ByteArray) (h : b.size ≤ a.size) : strings_HasPrefix.f a b = some (decide (a.extract 0 b.size = b)) := by
  unfold strings_HasPrefix.f stringslite_HasPrefix.f
  rw [if_pos (by omega), if_pos (by omega), if_pos (by omega), Int.toNat_natCast]
  simp only [Option.bind_some]
  congr 1
  by_cases he : a.extract 0 b.size = b
  · rw [decide_eq_true he, he]
    exact beq_iff_eq.2 rfl
  · rw [decide_eq_false he]
    exact beq_eq_false_iff_ne.2 (fun e => he ((bytes_eq _ _).1 e))
theorem seal_Open_eq (s : ByteArray) (hs : s.size < 10000000) (k : Nat) (hk : 100000000 < k) : seal_Open.f k s = some (openB s) := by
  unfold seal_Open.f openB
  rw [wrap64_id (by omega) (by omega)]
  by_cases h0 : s.size < 36
  · rw [if_pos (by omega), if_pos h0]
  · rw [if_neg (by omega), if_neg h0]
    have e : (s.size : Int) - 32 = ((s.size - 32 : Nat) : Int) := by omega
    have ep := prefix_eq s sealT (by show 4 ≤ _; omega)
    have es : sealT.size = 4 := rfl
    rw [es] at ep
    rw [show (⟨#[115, 101, 97, 108]⟩ : ByteArray) = sealT from rfl, ep, e]
    simp only [Option.bind_some, Int.toNat_natCast]
    by_cases h1 : s.extract 0 4 = sealT
    · rw [if_pos (decide_eq_true h1), if_neg (not_not_intro h1), if_pos (by omega), if_pos (by omega), seal_Sum_eq _ (by rw [ByteArray.size_extract]; omega)]
      simp only [Option.bind_some]
      by_cases h2 : sumV (s.extract 0 (s.size - 32)) = s.extract (s.size - 32) s.size
      · rw [if_pos ((bytes_eq _ _).2 h2), if_neg (not_not_intro h2), if_pos (by omega)]
        have hz : (s.extract 4 (s.size - 32)).size ≤ s.size := by rw [ByteArray.size_extract]; omega
        generalize s.extract 4 (s.size - 32) = t at hz ⊢
        rw [frame_Loose_eq t (by omega) k (by omega)]
        simp only [Option.bind_some]
        have hl := looseB_length t
        have hsz := looseB_sizes t
        generalize looseB t = q at hl hsz ⊢
        by_cases h3 : q.2 = 0
        · rw [if_pos h3, if_neg (not_not_intro h3)]
          by_cases h4 : q.1.length > 64
          · rw [if_pos (by omega), if_pos h4]
          · rw [if_neg (by omega), if_neg h4, show (0 : Int) = ((0 : Nat) : Int) from rfl, seal_Open_l0 q.1 hl hsz q.1.length 0 k [] (by omega) (by omega) rfl, List.drop_zero]
        · rw [if_neg h3, if_pos h3]
      · rw [if_neg (fun h => h2 ((bytes_eq _ _).1 h)), if_pos h2]
    · rw [if_neg (fun h => h1 (of_decide_eq_true h)), if_pos h1]
end Go.Proofs.YtceedgflpkaclaaDoor.P

/- What is sealed is opened as it was; what bytes are opened to, sealed again, is these bytes. Conditions: as each lemma says. -/
namespace Go.Proofs.YtceedgflpkaclaaDoor.P
open Go.RowKit Go.Proofs.YtceedgflpkaclaaDoorW.PrintWords Go.Proofs.YtceedgflpkaclaaDoorW.PrintLast Go.Proofs.YtceedgflpkaclaaDoorW.PrintMore

theorem section_back (x : ByteArray) (h : x.size ≤ 4096) : sectionB (frameB x) = (x, 0) := by
  have hc := checkB_size x
  have hm : mayB [x, checkB x] := ⟨by simp, by
    intro p hp2
    simp only [List.mem_cons, List.not_mem_nil, or_false] at hp2
    rcases hp2 with rfl | rfl <;> omega⟩
  unfold sectionB frameB
  rw [looseB_back _ hm]
  simp only
  rw [if_neg (by simp [hc]), if_neg (by omega), if_neg (by simp), if_neg (by simp)]
theorem openGo_back : ∀ (l out : List ByteArray), (∀ p ∈ l, p.size ≤ 4096) → openGo (l.map frameB) out = (out ++ l, 0)
  | [], out, _ => by simp [openGo]
  | x :: l, out, h => by
    rw [List.map_cons, openGo, section_back x (h x (by simp)), if_pos rfl, openGo_back l _ (fun p hp => h p (by simp [hp]))]
    simp
theorem extract_front (a b : ByteArray) : (a ++ b).extract 0 a.size = a := by
  apply ByteArray.ext
  apply Array.ext'
  rw [extract_list, List.drop_zero, ByteArray.data_append, Array.toList_append, Nat.sub_zero, ← data_length a, List.take_left]
theorem extract_back (a b : ByteArray) (n : Nat) (hn : n = a.size + b.size) : (a ++ b).extract a.size n = b := by
  apply ByteArray.ext
  apply Array.ext'
  subst hn
  rw [extract_list, ByteArray.data_append, Array.toList_append, ← data_length a, List.drop_left, Nat.add_sub_cancel_left, ← data_length b, List.take_length]
theorem closeB_size (l : List ByteArray) : (closeB l).size = (tailB l).size + 32 := by
  unfold closeB
  rw [ByteArray.size_append, sumV_32]
theorem tailB_four (l : List ByteArray) : (tailB l).size = 4 + (boundB (l.map frameB)).size := by
  unfold tailB
  rw [ByteArray.size_append]
  rfl
theorem open_close (l : List ByteArray) (h : mayS l) : openB (closeB l) = (l, 0) := by
  have hs : ∀ p ∈ l, p.size ≤ 4100 := fun p hp => by have := h.2 p hp; omega
  have hm := frames_may l (by have := h.1; omega) hs
  have hz := closeB_size l
  have h4 := tailB_four l
  have e32 : (closeB l).size - 32 = (tailB l).size := by omega
  unfold openB
  rw [if_neg (by omega), e32]
  have e1 : (closeB l).extract 0 4 = sealT := by
    unfold closeB tailB
    rw [show (4 : Nat) = sealT.size from rfl, ByteArray.append_assoc]
    exact extract_front _ _
  have e2 : (closeB l).extract 0 (tailB l).size = tailB l := by
    unfold closeB
    exact extract_front _ _
  have e3 : (closeB l).extract (tailB l).size (closeB l).size = sumV (tailB l) := by
    rw [hz]
    unfold closeB
    exact extract_back _ _ _ (by rw [sumV_32])
  have e4 : (closeB l).extract 4 (tailB l).size = boundB (l.map frameB) := by
    rw [h4]
    unfold closeB tailB
    rw [show (4 : Nat) = sealT.size from rfl, ByteArray.append_assoc]
    exact extract_mid _ _ _
  rw [e1, e2, e3, e4, looseB_back _ hm, if_neg (by simp), if_neg (by simp), if_neg (by simp)]
  simp only [List.length_map]
  rw [if_neg (by have := h.1; omega), openGo_back l [] h.2]
  simp
theorem section_ok (f : ByteArray) (h : (sectionB f).2 = 0) : (sectionB f).1.size ≤ 4096 ∧ frameB (sectionB f).1 = f := by
  revert h
  unfold sectionB
  match (looseB f).1 with
  | [] => intro h; simp at h
  | [x] => intro h; simp at h
  | x :: c :: y :: r => intro h; simp at h
  | [x, c] =>
    simp only
    by_cases h1 : c.size ≠ 4
    · rw [if_pos h1]; intro h; simp at h
    · rw [if_neg h1]
      by_cases h2 : 4096 < x.size
      · rw [if_pos h2]; intro h; simp at h
      · rw [if_neg h2]
        by_cases h3 : c ≠ checkB x
        · rw [if_pos h3]; intro h; simp at h
        · rw [if_neg h3]
          by_cases h4 : boundB [x, c] ≠ f
          · rw [if_pos h4]; intro h; simp at h
          · rw [if_neg h4]
            intro _
            have h3' := Decidable.not_not.1 h3
            have h4' := Decidable.not_not.1 h4
            subst h3'
            exact ⟨Nat.le_of_not_lt h2, h4'⟩
theorem openGo_ok : ∀ (fs out l : List ByteArray), openGo fs out = (l, 0) → ∃ xs, l = out ++ xs ∧ fs = xs.map frameB ∧ ∀ x ∈ xs, x.size ≤ 4096
  | [], out, l, h => by
    obtain rfl : out = l := (Prod.mk.inj h).1
    exact ⟨[], by simp, rfl, by simp⟩
  | f :: fs, out, l, h => by
    rw [openGo] at h
    by_cases h0 : (sectionB f).2 = 0
    · rw [if_pos h0] at h
      obtain ⟨xs, hl, hf, hx⟩ := openGo_ok fs _ l h
      have hs := section_ok f h0
      refine ⟨(sectionB f).1 :: xs, by rw [hl]; simp, by rw [List.map_cons, hs.2, hf], ?_⟩
      intro x hx2
      rcases List.mem_cons.1 hx2 with rfl | hx2
      · exact hs.1
      · exact hx x hx2
    · rw [if_neg h0] at h
      exact absurd (Prod.mk.inj h).2 h0
set_option maxHeartbeats 1000000 in
theorem openB_ok (s : ByteArray) (l : List ByteArray) (h : openB s = (l, 0)) : mayS l ∧ closeB l = s ∧ 36 ≤ s.size ∧ sumV (s.extract 0 (s.size - 32)) = s.extract (s.size - 32) s.size := by
  unfold openB at h
  by_cases h0 : s.size < 36
  · rw [if_pos h0] at h; exact absurd (Prod.mk.inj h).2 (by decide)
  rw [if_neg h0] at h
  by_cases h1 : s.extract 0 4 ≠ sealT
  · rw [if_pos h1] at h; exact absurd (Prod.mk.inj h).2 (by decide)
  rw [if_neg h1] at h
  by_cases h2 : sumV (s.extract 0 (s.size - 32)) ≠ s.extract (s.size - 32) s.size
  · rw [if_pos h2] at h; exact absurd (Prod.mk.inj h).2 (by decide)
  rw [if_neg h2] at h
  by_cases h3 : (looseB (s.extract 4 (s.size - 32))).2 ≠ 0
  · rw [if_pos h3] at h; exact absurd (Prod.mk.inj h).2 h3
  rw [if_neg h3] at h
  by_cases h4 : (looseB (s.extract 4 (s.size - 32))).1.length > 64
  · rw [if_pos h4] at h; exact absurd (Prod.mk.inj h).2 (by decide)
  rw [if_neg h4] at h
  have h1' := Decidable.not_not.1 h1
  have h2' := Decidable.not_not.1 h2
  have h3' := Decidable.not_not.1 h3
  obtain ⟨xs, hl, hf, hx⟩ := openGo_ok _ _ _ h
  rw [List.nil_append] at hl
  subst hl
  have hb := looseB_bound (s.extract 4 (s.size - 32)) (l.map frameB) (Prod.ext hf h3')
  rw [hf, List.length_map] at h4
  have ht : tailB l = s.extract 0 (s.size - 32) := by
    unfold tailB
    rw [hb, ← h1']
    apply ByteArray.ext
    apply Array.ext'
    have hl := data_length s
    rw [ByteArray.data_append, Array.toList_append, extract_list, extract_list, extract_list, List.drop_zero]
    generalize s.data.toList = L at hl
    obtain ⟨m, hm⟩ : ∃ m, s.size - 32 = 4 + m := ⟨s.size - 32 - 4, by omega⟩
    rw [hm, Nat.sub_zero, Nat.sub_zero, Nat.add_sub_cancel_left, List.take_add]
  refine ⟨⟨by omega, hx⟩, ?_, by omega, h2'⟩
  unfold closeB
  rw [ht, h2']
  apply ByteArray.ext
  apply Array.ext'
  have hl := data_length s
  rw [ByteArray.data_append, Array.toList_append, extract_list, extract_list, List.drop_zero]
  generalize s.data.toList = L at hl
  rw [Nat.sub_zero, List.take_of_length_le (l := List.drop _ L) (by simp; omega), List.take_append_drop]
theorem openB_err (s : ByteArray) (h : (openB s).2 ≠ 0) : (openB s).1 = [] := by
  have hg : ∀ (fs out : List ByteArray), (openGo fs out).2 ≠ 0 → (openGo fs out).1 = [] := by
    intro fs
    induction fs with
    | nil => intro out h; exact absurd rfl h
    | cons f fs ih =>
      intro out
      rw [openGo]
      split
      · exact ih _
      · intro _; rfl
  revert h
  unfold openB
  split
  · intro _; rfl
  · split
    · intro _; rfl
    · split
      · intro _; rfl
      · split
        · intro _; rfl
        · split
          · intro _; rfl
          · exact hg _ _
theorem closeB_inj {l m : List ByteArray} (hl : mayS l) (hm : mayS m) (h : closeB l = closeB m) : l = m := by
  have h1 := open_close l hl
  rw [h, open_close m hm] at h1
  exact (Prod.mk.inj h1).1.symm
end Go.Proofs.YtceedgflpkaclaaDoor.P

/- A text's mark; the known text's is as it is known. Conditions: as each lemma says. -/
namespace Go.Proofs.YtceedgflpkaclaaDoor.P
open Go.RowKit Go.Proofs.YtceedgflpkaclaaDoorW.PrintWords Go.Proofs.YtceedgflpkaclaaDoorW.PrintLast Go.Proofs.YtceedgflpkaclaaDoorW.PrintMore

def markB (s : ByteArray) : ByteArray := ⟨(markL (bytesOf ((sumV s).extract 0 8)) 8).toArray⟩
theorem markB_size (s : ByteArray) : (markB s).size = 16 := by
  unfold markB
  show (List.toArray _).size = 16
  rw [List.size_toArray, markL_length]
theorem seal_Mark_eq (s : ByteArray) (h : s.size ≤ 70368744177664) : seal_Mark.f s = some (markB s) := by
  unfold seal_Mark.f
  rw [if_pos h]
  rfl
theorem known_mark : markB (⟨#[97, 98, 99]⟩ : ByteArray) = ⟨#[98, 97, 55, 56, 49, 54, 98, 102, 56, 102, 48, 49, 99, 102, 101, 97]⟩ := by decide +kernel
theorem alive_true : transhipmentlaw02_alive.f = some true := by
  unfold transhipmentlaw02_alive.f
  rw [seal_Mark_eq _ (by decide), known_mark]
  simp only [Option.bind_some, ByteArray.toList_eq]
  decide
theorem wf_i64 {n : Int} (h : (Lit.int .i64 n).wf = true) : -9223372036854775808 ≤ n ∧ n < 9223372036854775808 := by
  simp [Lit.wf, IntKind.min, IntKind.max, IntKind.signed, IntKind.bits] at h
  omega
theorem wf_u32 {n : Int} (h : (Lit.int .u32 n).wf = true) : 0 ≤ n ∧ n < 4294967296 := by
  simp [Lit.wf, IntKind.min, IntKind.max, IntKind.signed, IntKind.bits] at h
  omega
end Go.Proofs.YtceedgflpkaclaaDoor.P

/- What is sealed is opened as it was; what any bytes open to, sealed again, is these bytes. Conditions: none. -/
namespace Go.Proofs.YtceedgflpkaclaaDoor.Pure
open Go.RowKit Go.Proofs.YtceedgflpkaclaaDoor.P Go.Proofs.YtceedgflpkaclaaDoorW.PrintWords Go.Proofs.YtceedgflpkaclaaDoorW.PrintLast Go.Proofs.YtceedgflpkaclaaDoorW.PrintMore

theorem back_j0 (s : ByteArray) (hs : s.size ≤ 3000) (k : Nat) (hk : 200000000 < k) : transhipmentlaw02_SealBack.j0 k s = some true := by
  obtain ⟨k, rfl⟩ : ∃ m, k = m + 1 := ⟨k - 1, by omega⟩
  simp only [transhipmentlaw02_SealBack.j0]
  rw [seal_Open_eq s (by omega) k (by omega), alive_true]
  simp only [Option.bind_some, if_true]
  by_cases h : (openB s).2 = 0
  · obtain ⟨h1, h2, _⟩ := openB_ok s (openB s).1 (Prod.ext rfl h)
    rw [if_pos h, seal_Close_eq k (by omega) _ (fun p hp => by have := h1.2 p hp; omega), if_pos h1, h2]
    simp
  · rw [if_neg h, openB_err s h]
    simp
theorem SealBack : transhipmentlaw02_SealBack.Pure := by
  intro l a hl ha
  refine ⟨300000000, ?_⟩
  unfold transhipmentlaw02_SealBack.f
  rw [cut_eq _ (by decide)]
  simp only [Option.bind_some]
  rw [show mn (a.size : Int) 3000 = ((min a.size 3000 : Nat) : Int) from mn_min _ 3000, if_pos (by omega), if_pos (by omega), Int.toNat_natCast]
  have hz : (a.extract 0 (min a.size 3000)).size ≤ 3000 := by rw [ByteArray.size_extract]; omega
  generalize a.extract 0 (min a.size 3000) = s at *
  have go := back_j0 s hz 300000000 (by decide)
  have hl1 := cutL_length l
  have hl2 := @cutL_size l
  generalize cutL l = m at *
  rw [seal_Close_eq _ (by decide) m hl2]
  simp only [Option.bind_some]
  by_cases h : mayS m
  · have hc := closeB_size m
    have ht := tailB_size m hl1 hl2
    rw [if_pos h, if_pos (by trivial), seal_Open_eq (closeB m) (by omega) _ (by decide), open_close m h]
    simp only [Option.bind_some, if_true]
    rw [ref_Same_eq _ _ (by omega) _ (by decide)]
    simp only [Option.bind_some, decide_true, if_true]
    exact go
  · rw [if_neg h, if_neg (by decide), ref02_May_eq m (by omega) _ (by decide)]
    simp only [Option.bind_some, decide_eq_false h]
    exact go
end Go.Proofs.YtceedgflpkaclaaDoor.Pure

/- What a value that came in reads as: each reading of a type is one of its kind's values, within bounds. Conditions: none. -/
namespace Go.Proofs.YtceedgflpkaclaaDoor.P
open Go.RowKit Go.Proofs.YtceedgflpkaclaaDoorW.PrintWords Go.Proofs.YtceedgflpkaclaaDoorW.PrintLast Go.Proofs.YtceedgflpkaclaaDoorW.PrintMore

/-- Each reading of type t is one of kind d's values, and ok. -/
def Opens {H : Type} (enc : TypeId × Value → H) (P : Program) (w : World) (base : Nat) (spare : Nat → Bool) (held : Bool) {α : Type} (d : Kd α) (ok : α → Prop) (t : TypeId) : Prop :=
  ∀ fuel cs x, DataW.trod enc P w base spare held fuel t cs = some x → ∃ a, d.K w a cs ∧ ok a

section
variable {H : Type} {enc : TypeId × Value → H} {P : Program} {w : World} {base : Nat} {spare : Nat → Bool} {held : Bool} {t e : TypeId}
theorem opens_string (ht : P.underlying t = some .string) : Opens enc P w base spare held Kd.string (fun s => s.size ≤ maxLen) t := by
  intro fuel cs x h
  obtain ⟨s, rfl, _, hw⟩ := DataW.trod_string ht h
  exact ⟨s, rfl, hw⟩
theorem opens_int {k : IntKind} (ht : P.underlying t = some (.int k)) : Opens enc P w base spare held (Kd.int k) (fun n => (Lit.int k n).wf = true) t := by
  intro fuel cs x h
  obtain ⟨n, rfl, _, hw⟩ := DataW.trod_int ht h
  exact ⟨n, rfl, hw⟩
theorem opens_bool (ht : P.underlying t = some .bool) : Opens enc P w base spare held Kd.bool (fun _ => True) t := by
  intro fuel cs x h
  obtain ⟨b, rfl, _⟩ := DataW.trod_bool ht h
  exact ⟨b, rfl, trivial⟩

theorem list_of {α : Type} (p : Nat → α → Prop) : ∀ n, (∀ i, i < n → ∃ a, p i a) → ∃ l : List α, l.length = n ∧ ∀ i a, l[i]? = some a → p i a
  | 0, _ => ⟨[], rfl, fun i a h => by simp at h⟩
  | n + 1, h => by
    obtain ⟨l, hl, hp⟩ := list_of p n (fun i hi => h i (by omega))
    obtain ⟨a, ha⟩ := h n (by omega)
    refine ⟨l ++ [a], by simp [hl], fun i b hb => ?_⟩
    rw [List.getElem?_append] at hb
    split at hb
    · exact hp i b hb
    · rename_i hi
      have : i = n := by
        have := (List.getElem?_eq_some_iff.1 hb).1
        simp at this
        omega
      subst this
      simp [hl] at hb
      subst hb
      exact ha
theorem opens_slice {α : Type} {d : Kd α} {ok : α → Prop} (ht : P.underlying t = some (.slice e)) (hc : P.cellsOf e = d.sz) (he : Opens enc P w base spare held d ok e) :
    Opens enc P w base spare held (Kd.slice e d) (fun l => l.length ≤ maxLen ∧ ∀ a ∈ l, ok a) t := by
  intro fuel cs x h
  rcases DataW.trod_slice ht h with ⟨rfl, _⟩ | ⟨a, len, cap, elems, rest, n, _, rfl, _, hb, hl, hm, hlen, hel, _, _⟩
  · exact ⟨[], ⟨none, 0, rfl, Nat.le_refl _, Kd.C_nil d w⟩, by simp, fun a ha => by simp at ha⟩
  · obtain ⟨l, hll, hp⟩ := list_of (fun i (b : α) => ∃ c, c.length = d.sz ∧ d.K w b c ∧ ok b ∧ ∀ j u, c[j]? = some u → w.cell? (a.add (i * d.sz + j)) = some u) len (by
      intro i hi
      have h1 := hel i hi
      rw [hc] at h1
      have h2 : i < elems.length := by omega
      rw [List.getElem?_eq_getElem h2] at h1
      obtain ⟨c, hcs, hct⟩ := Option.bind_eq_some_iff.1 h1
      obtain ⟨b, hK, hok⟩ := he _ _ _ hct
      obtain ⟨_, hcl, hcell⟩ := World.cells?_some hcs
      refine ⟨b, c, hcl, hK, hok, fun j u hj => ?_⟩
      have hjl : j < d.sz := by rw [← hcl]; exact (List.getElem?_eq_some_iff.1 hj).1
      have h3 := hcell j hjl
      rw [hj] at h3
      rw [← h3, Addr.add_add])
    refine ⟨l, ⟨some a, cap, by rw [hll], by omega, ?_⟩, by omega, ?_⟩
    · refine ⟨rfl, by unfold maxLen at hm; omega, fun _ => ⟨a, rfl, fun j p hj => ?_⟩⟩
      obtain ⟨c, h1, h2, _, h3⟩ := hp j p hj
      exact ⟨c, h1, h2, h3⟩
    · intro b hb
      obtain ⟨i, hi⟩ := List.getElem?_of_mem hb
      obtain ⟨_, _, _, h3, _⟩ := hp i b hi
      exact h3
/-- A slice among a law's parameters. -/
theorem opened_slice {α : Type} {d : Kd α} {ok : List α → Prop} (hs : Opens enc P w base spare held (Kd.slice e d) ok t) {a : Option Addr} {len cap : Nat} {x : DataW H} {ps : List MemPlace}
    (h : DataW.Trod enc P w base spare held t (.slice a len cap) x ps) : ∃ l : List α, len = l.length ∧ d.C w a l.length l ∧ l.length ≤ cap ∧ ok l := by
  obtain ⟨fuel, hf⟩ := h
  obtain ⟨l, ⟨A, c, hcs, hle, hC⟩, ho⟩ := hs _ _ _ hf
  simp [Value.cells] at hcs
  obtain ⟨rfl, rfl, rfl⟩ := hcs
  exact ⟨l, rfl, hC, hle, ho⟩
end
end Go.Proofs.YtceedgflpkaclaaDoor.P
