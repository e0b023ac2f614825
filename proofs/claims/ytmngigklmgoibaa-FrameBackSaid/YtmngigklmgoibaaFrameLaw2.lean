/- What texts that are bound, and taken apart, come to: the program's functions and the document's, each as one plain Lean function; what is bound is read as it was. Conditions: as each lemma says. -/
import Derived.Test.YtmngigklmgoibaaFrameLaw
import Derived.Test.YtmngigklmgoibaaFrameBind
import Derived.Test.YtmngigklmgoibaaPlaw01Few
import Derived.Test.YtmngigklmgoibaaPFrameLoose
import Derived.Test.YtmngigklmgoibaaPref01Loose
import Derived.Test.YtmngigklmgoibaaPref01Same
import Derived.Test.YtmngigklmgoibaaPref01May
import Derived.Test.YtmngigklmgoibaaPref01Bind
namespace Go.Proofs.Ytmngigklmgoibaa.P
open Go.RowKit Go.Proofs.YtmngigklmgoibaaW.PrintWords Go.Proofs.YtmngigklmgoibaaW.PrintLast Go.Proofs.YtmngigklmgoibaaW.PrintMore

/-! ### few -/
def fewS (p : ByteArray) : ByteArray := p.extract 0 (min p.size 8200)
def fewL (l : List ByteArray) : List ByteArray := (l.take 515).map fewS
theorem fewS_size (p : ByteArray) : (fewS p).size ≤ 8200 := by
  unfold fewS
  rw [ByteArray.size_extract]
  omega
theorem fewL_length (l : List ByteArray) : (fewL l).length ≤ 515 := by
  unfold fewL
  rw [List.length_map, List.length_take]
  omega
theorem fewL_size {l : List ByteArray} : ∀ p ∈ fewL l, p.size ≤ 8200 := by
  intro p hp
  obtain ⟨q, _, rfl⟩ := List.mem_map.1 hp
  exact fewS_size q
theorem few_l0 (l : List ByteArray) (hl : l.length ≤ 515) : ∀ (d i k : Nat) (out : List ByteArray), i + d = l.length → d < k → out.length = i →
    transhipmentlaw01_few.l0 k out l (l.length : Int) (i : Int) = some (out ++ (l.drop i).map fewS) := by
  intro d
  induction d with
  | zero =>
    intro i k out hi hk ho
    obtain ⟨k, rfl⟩ : ∃ m, k = m + 1 := ⟨k - 1, by omega⟩
    simp only [transhipmentlaw01_few.l0]
    rw [if_neg (by omega), List.drop_of_length_le (by omega)]
    simp
  | succ d ih =>
    intro i k out hi hk ho
    obtain ⟨k, rfl⟩ : ∃ m, k = m + 1 := ⟨k - 1, by omega⟩
    have hlt : i < l.length := by omega
    have hx := rdOf_string l i hlt
    simp only [transhipmentlaw01_few.l0]
    rw [hx, show mn (l[i].size : Int) 8200 = ((min l[i].size 8200 : Nat) : Int) from mn_min _ 8200]
    rw [if_pos (by omega), if_pos (by omega), if_pos (by omega), if_pos (by omega), if_pos (by omega), if_pos (by omega), Int.toNat_natCast, wrap64_id (by omega) (by omega)]
    have h := ih (i + 1) k (out ++ [l[i].extract 0 (min l[i].size 8200)]) (by omega) (by omega) (by simp [ho])
    rw [show ((i : Int) + 1) = ((i + 1 : Nat) : Int) by omega, h, List.drop_eq_getElem_cons hlt]
    simp only [fewS, List.map_cons, List.append_assoc, List.singleton_append]
theorem few_eq (k : Nat) (hk : 520 < k) (l : List ByteArray) : transhipmentlaw01_few.f k l = some (fewL l) := by
  unfold transhipmentlaw01_few.f
  rw [show mn (l.length : Int) 515 = ((min l.length 515 : Nat) : Int) from mn_min _ 515]
  rw [if_pos (by omega), if_pos (by omega), Int.toNat_natCast]
  simp only [Option.bind_some]
  have h : l.take (min l.length 515) = l.take 515 := by
    rw [Nat.min_comm, ← List.take_take, List.take_length]
  rw [h, show (0 : Int) = ((0 : Nat) : Int) from rfl, few_l0 (l.take 515) (by simp; omega) (l.take 515).length 0 k [] (by omega) (by simp; omega) rfl]
  simp [fewL]

/-! ### bind -/
def bound : List ByteArray → List UInt8
  | [] => []
  | p :: ps => (numB (p.size : Int)).data.toList ++ (p.data.toList ++ bound ps)
def boundB (l : List ByteArray) : ByteArray := ⟨(bound l).toArray⟩
/-- May texts be bound? -/
def mayB (l : List ByteArray) : Prop := l.length ≤ 512 ∧ ∀ p ∈ l, p.size ≤ 8192
instance (l : List ByteArray) : Decidable (mayB l) := by unfold mayB; exact inferInstance
theorem numB_size (n : Int) (h0 : 0 ≤ n) (h1 : n < 9223372036854775808) : (numB n).size ≤ 10 := by
  unfold numB
  rw [strOfNums_size]
  exact numL_length_le _ 9 (by omega)
theorem bindGo_eq (k : Nat) (hk : 20 < k) : ∀ (l : List ByteArray) (out : List UInt8), (∀ p ∈ l, p.size ≤ 8200) → out.length + l.length * 9000 ≤ 100000000000 →
    bindGo k l out = some (if ∀ p ∈ l, p.size ≤ 8192 then (⟨(out ++ bound l).toArray⟩, 0) else (⟨#[]⟩, 2))
  | [], out, _, _ => by simp [bindGo, bound]
  | p :: ps, out, hp, hl => by
    have h1 : p.size ≤ 8200 := hp p (by simp)
    simp only [List.length_cons] at hl
    unfold bindGo
    by_cases h : p.size > 8192
    · rw [if_pos h, if_neg]
      intro hh
      have := hh p (by simp)
      omega
    · have hn := numB_size (p.size : Int) (by omega) (by omega)
      rw [if_neg h, frame_Number_eq k hk _ (by omega), if_pos (by omega)]
      simp only [Option.bind_some]
      rw [if_pos (by omega), bindGo_eq k hk ps _ (fun q hq => hp q (by simp [hq])) (by
        simp only [List.length_append]
        have e1 := data_length (numB (p.size : Int))
        have e2 := data_length p
        omega)]
      have e : (∀ q ∈ p :: ps, q.size ≤ 8192) ↔ ∀ q ∈ ps, q.size ≤ 8192 := by
        constructor
        · intro hh q hq
          exact hh q (by simp [hq])
        · intro hh q hq
          rcases List.mem_cons.1 hq with rfl | hq
          · omega
          · exact hh q hq
      by_cases hq : ∀ q ∈ ps, q.size ≤ 8192
      · rw [if_pos hq, if_pos (e.2 hq)]
        simp [bound]
      · rw [if_neg hq, if_neg (fun hh => hq (e.1 hh))]
theorem frame_Bind_eq (k : Nat) (hk : 20 < k) (l : List ByteArray) (hp : ∀ p ∈ l, p.size ≤ 8200) : frame_Bind.f k l = some (if mayB l then (boundB l, 0) else (⟨#[]⟩, 2)) := by
  unfold frame_Bind.f
  by_cases h : l.length > 512
  · rw [if_pos h, if_neg (fun hm => by have := hm.1; omega)]
  · rw [if_neg h, bindGo_eq k hk l [] hp (by simp; omega)]
    by_cases hq : ∀ p ∈ l, p.size ≤ 8192
    · rw [if_pos hq, if_pos ⟨by omega, hq⟩]
      rfl
    · rw [if_neg hq, if_neg (fun hm => hq hm.2)]

theorem ref_May_l0 (l : List ByteArray) (hb : l.length < 9223372036854775807) : ∀ (d i k : Nat), i + d = l.length → d < k →
    transhipmentref01_May.l0 k l l (l.length : Int) (i : Int) = some (decide ((∀ p ∈ l.drop i, p.size ≤ 8192) ∧ l.length ≤ 512)) := by
  intro d
  induction d with
  | zero =>
    intro i k hi hk
    obtain ⟨k, rfl⟩ : ∃ m, k = m + 1 := ⟨k - 1, by omega⟩
    simp only [transhipmentref01_May.l0]
    rw [if_neg (by omega), List.drop_of_length_le (by omega)]
    simp
    omega
  | succ d ih =>
    intro i k hi hk
    obtain ⟨k, rfl⟩ : ∃ m, k = m + 1 := ⟨k - 1, by omega⟩
    have hlt : i < l.length := by omega
    simp only [transhipmentref01_May.l0]
    rw [rdOf_string l i hlt, if_pos (by omega), if_pos (by omega), if_pos (by omega), wrap64_id (by omega) (by omega), show ((i : Int) + 1) = ((i + 1 : Nat) : Int) by omega, ih (i + 1) k (by omega) (by omega), List.drop_eq_getElem_cons hlt]
    by_cases h : l[i].size ≤ 8192
    · rw [if_neg (by omega)]
      congr 1
      exact decide_eq_decide.2 (by rw [List.forall_mem_cons]; exact ⟨fun h' => ⟨⟨h, h'.1⟩, h'.2⟩, fun h' => ⟨h'.1.2, h'.2⟩⟩)
    · rw [if_pos (by omega)]
      congr 1
      symm
      exact decide_eq_false (fun h' => h (List.forall_mem_cons.1 h'.1).1)
theorem ref_May_eq (l : List ByteArray) (hb : l.length < 5000) (k : Nat) (hk : 5000 < k) : transhipmentref01_May.f k l = some (decide (mayB l)) := by
  unfold transhipmentref01_May.f
  rw [show (0 : Int) = ((0 : Nat) : Int) from rfl, ref_May_l0 l (by omega) l.length 0 k (by omega) (by omega)]
  congr 1
  rw [List.drop_zero]
  exact decide_eq_decide.2 ⟨fun h => ⟨h.2, h.1⟩, fun h => ⟨h.2, h.1⟩⟩
theorem ref_Bind_l0 (l : List ByteArray) (hb : l.length < 5000) (hs : ∀ p ∈ l, p.size ≤ 8200) : ∀ (d i k : Nat) (out : ByteArray), i + d = l.length → d + 30 < k → out.size + d * 9000 ≤ 100000000000 →
    transhipmentref01_Bind.l0 k out l (l.length : Int) (i : Int) = some (out ++ boundB (l.drop i)) := by
  intro d
  induction d with
  | zero =>
    intro i k out hi hk ho
    obtain ⟨k, rfl⟩ : ∃ m, k = m + 1 := ⟨k - 1, by omega⟩
    simp only [transhipmentref01_Bind.l0]
    rw [if_neg (by omega), List.drop_of_length_le (by omega)]
    congr 1
    apply ByteArray.ext
    simp [boundB, bound]
  | succ d ih =>
    intro i k out hi hk ho
    obtain ⟨k, rfl⟩ : ∃ m, k = m + 1 := ⟨k - 1, by omega⟩
    have hlt : i < l.length := by omega
    have h1 : l[i].size ≤ 8200 := hs _ (List.getElem_mem hlt)
    have hn := numB_size (l[i].size : Int) (by omega) (by omega)
    simp only [transhipmentref01_Bind.l0]
    rw [rdOf_string l i hlt, if_pos (by omega), if_pos (by omega), if_pos (by omega), ref_Number_eq k (by omega) _ (by omega) (by omega)]
    simp only [Option.bind_some]
    rw [if_pos (by omega), if_pos (by rw [ByteArray.size_append]; omega), wrap64_id (by omega) (by omega), show ((i : Int) + 1) = ((i + 1 : Nat) : Int) by omega,
      ih (i + 1) k _ (by omega) (by omega) (by simp only [ByteArray.size_append]; omega), List.drop_eq_getElem_cons hlt]
    congr 1
    apply ByteArray.ext
    apply Array.ext'
    simp [boundB, bound, ByteArray.data_append]
theorem ref_Bind_eq (l : List ByteArray) (hb : l.length < 5000) (hs : ∀ p ∈ l, p.size ≤ 8200) (k : Nat) (hk : 5100 < k) : transhipmentref01_Bind.f k l = some (boundB l) := by
  unfold transhipmentref01_Bind.f
  rw [show (0 : Int) = ((0 : Nat) : Int) from rfl, ref_Bind_l0 l hb hs l.length 0 k _ (by omega) (by omega) (by show 0 + _ ≤ _; omega)]
  congr 1

/-! ### same -/
theorem ref_Same_l0 (l m : List ByteArray) (hb : l.length < 9223372036854775807) (he : l.length = m.length) : ∀ (d i k : Nat), i + d = l.length → d < k →
    transhipmentref01_Same.l0 k l m (l.length : Int) (i : Int) = some (decide (l.drop i = m.drop i)) := by
  intro d
  induction d with
  | zero =>
    intro i k hi hk
    obtain ⟨k, rfl⟩ : ∃ m, k = m + 1 := ⟨k - 1, by omega⟩
    simp only [transhipmentref01_Same.l0]
    rw [if_neg (by omega), List.drop_of_length_le (by omega), List.drop_of_length_le (by omega)]
    simp
  | succ d ih =>
    intro i k hi hk
    obtain ⟨k, rfl⟩ : ∃ m, k = m + 1 := ⟨k - 1, by omega⟩
    have hl : i < l.length := by omega
    have hm : i < m.length := by omega
    simp only [transhipmentref01_Same.l0]
    rw [rdOf_string l i hl, rdOf_string m i hm, if_pos (by omega), if_pos (by omega), if_pos (by omega), if_pos (by omega), wrap64_id (by omega) (by omega), show ((i : Int) + 1) = ((i + 1 : Nat) : Int) by omega,
      ih (i + 1) k (by omega) (by omega), List.drop_eq_getElem_cons hl, List.drop_eq_getElem_cons hm]
    have e : (l[i].toList = m[i].toList) ↔ l[i] = m[i] := by
      rw [ByteArray.toList_eq, ByteArray.toList_eq]
      exact ⟨fun h => ByteArray.ext (Array.ext' h), fun h => by rw [h]⟩
    by_cases h : l[i] = m[i]
    · rw [if_pos (e.2 h)]
      congr 1
      exact decide_eq_decide.2 ⟨fun h' => by rw [h, h'], fun h' => (List.cons.inj h').2⟩
    · rw [if_neg (fun hh => h (e.1 hh))]
      congr 1
      symm
      exact decide_eq_false (fun h' => h (List.cons.inj h').1)
theorem ref_Same_eq (l m : List ByteArray) (hb : l.length < 5000) (k : Nat) (hk : 5000 < k) : transhipmentref01_Same.f k l m = some (decide (l = m)) := by
  unfold transhipmentref01_Same.f
  by_cases h : l.length = m.length
  · rw [if_pos (by omega), show (0 : Int) = ((0 : Nat) : Int) from rfl, ref_Same_l0 l m (by omega) h l.length 0 k (by omega) (by omega)]
    simp
  · rw [if_neg (by omega)]
    congr 1
    symm
    apply decide_eq_false
    intro e
    exact h (by rw [e])
end Go.Proofs.Ytmngigklmgoibaa.P
