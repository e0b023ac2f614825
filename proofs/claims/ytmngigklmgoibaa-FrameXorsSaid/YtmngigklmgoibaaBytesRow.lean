/- A row of bytes that a conversion of a text has made: the words 'Kd.R..' of the printed walks for such a row (the model marks its block, so the kit's own words for a row don't hold of it). Conditions: none. Import it only into walks whose rows are all such. -/
import Derived.Test.YtmngigklmgoibaaP0
import Derived.Lib.ConvBytes
import Derived.Laws.BytesArg
namespace Go.Proofs.Ytmngigklmgoibaa.P
open Go.RowKit Go.Proofs.YtmngigklmgoibaaW.PrintWords Go.Proofs.YtmngigklmgoibaaW.PrintLast Go.Proofs.YtmngigklmgoibaaW.PrintMore

/-- A row of bytes from base on, whose block may bear a mark behind its cells. -/
structure RowF (w : World) (base e : Nat) (v : Value) (xs : List Int) : Prop where
  is_ : ∃ g cap cur fr, v = .slice (some ⟨g, 0, none⟩) xs.length cap ∧ base ≤ g ∧ w.heap[g]? = some (.cells cur e fr) ∧ cur.size ≤ fr.1 ∧ xs.length ≤ cap ∧ xs.length ≤ 9223372036854775807 ∧ xs.length ≤ cur.size ∧ cur.toList.take xs.length = nums .u8 xs

theorem RowF.cell {w : World} {base e g n cap : Nat} {xs : List Int} (h : RowF w base e (.slice (some ⟨g, 0, none⟩) n cap) xs) (j : Nat) (hj : j < xs.length) :
    w.cell? ⟨g, j, none⟩ = some (.int .u8 (xs.getD j 0)) ∧ w.frozen? ⟨g, j, none⟩ = false := by
  obtain ⟨g', cap', cur, fr, hv, _, hb, hm, _, _, hc, ht⟩ := h.is_
  injection hv with h1 h2 h3
  injection h1 with h1
  injection h1 with h1
  subst h1
  constructor
  · have h4 : (cur.toList.take xs.length)[j]? = some (.int .u8 (xs.getD j 0)) := by
      rw [ht]
      simp [nums, List.getD_eq_getElem?_getD, List.getElem?_eq_getElem hj]
    rw [List.getElem?_take_of_lt hj, Array.getElem?_toList] at h4
    simp [World.cell?, hb, h4]
  · have : ¬ fr.1 ≤ j := by omega
    simp [World.frozen?, hb, this]

theorem own_string {P : Program} {w : World} {base : Nat} {e' src dst e : TypeId} {v : Value} {xs : List Int} (hs : P.underlying src = some (.slice e)) (he : P.underlying e = some (.int .u8)) (hd : P.underlying dst = some .string)
    (h : RowF w base e' v xs) : (convert src dst v).run P w = .ok (.string (strOfNums xs)) w := by
  have h' := h
  obtain ⟨g, cap, cur, fr, rfl, _⟩ := h.is_
  refine run_convert_bytes_arg w src e hs he g 0 xs.length cap xs rfl (fun i hi => ?_) dst hd
  rw [Nat.zero_add]
  exact (h'.cell i hi).1

namespace Kd
def R (d : Go.Proofs.YtmngigklmgoibaaW.PrintWords.Kd Int) (e : Nat) (w : World) (base : Nat) (ok : Nat → Prop) (v : Value) (xs : List Int) : Prop :=
  d = Kd.int .u8 ∧ (∀ k, v.ownBlock = some k → ok k) ∧ RowF w base e v xs
section
variable {d : Go.Proofs.YtmngigklmgoibaaW.PrintWords.Kd Int} {e : Nat} {w w1 : World} {base : Nat} {ok ok' : Nat → Prop} {v : Value} {xs : List Int}
theorem own_of_R (h : R d e w base ok v xs) : RowF w base e v xs := h.2.2
theorem R_below (h : R d e w base ok v xs) (hb : Below w.heap.size w w1) : R d e w1 base ok v xs := by
  obtain ⟨hd, hok, g, cap, cur, fr, hv, h1, h2, h3⟩ := h
  exact ⟨hd, hok, g, cap, cur, fr, hv, h1, blk_below h2 hb, h3⟩
theorem R_alloc (h : R d e w base ok v xs) (o : Obj) : R d e (w.alloc o) base ok v xs := R_below h (below_alloc (Below.refl _ _) o)
theorem R_drew (h : R d e w base ok v xs) : R d e w.drew base ok v xs := R_below h (below_drew (Below.refl _ _))
theorem R_drewN (h : R d e w base ok v xs) (m : Nat) : R d e (w.drewN m) base ok v xs := R_below h (pw_below_drewN (Below.refl _ _) m)
theorem R_lower {base' : Nat} (h : R d e w base ok v xs) (hb : base' ≤ base) : R d e w base' ok v xs := by
  obtain ⟨hd, hok, g, cap, cur, fr, hv, h1, h2, h3⟩ := h
  exact ⟨hd, hok, g, cap, cur, fr, hv, by omega, h2, h3⟩
theorem R_slice (h : R d e w base ok v xs) : ∃ A c, v = .slice A xs.length c := by
  obtain ⟨_, _, g, cap, cur, fr, hv, _⟩ := h
  exact ⟨_, _, hv⟩
theorem R_form (h : R d e w base ok v xs) (_ : 0 < xs.length) : ∃ g cap, v = .slice (some ⟨g, 0, none⟩) xs.length cap ∧ base ≤ g ∧ g < w.heap.size ∧ ∃ cells, w.heap[g]? = some (.cells cells e (0, 0)) ∨ True := by
  obtain ⟨_, _, g, cap, cur, fr, hv, h1, h2, _⟩ := h
  exact ⟨g, cap, hv, h1, blk_lt h2, #[], .inr trivial⟩
theorem R_reads' {A : Option Addr} {n c : Nat} (h : R d e w base ok (.slice A n c) xs) : n = xs.length ∧ n ≤ c ∧ d.C w A xs.length xs := by
  obtain ⟨rfl, _, hr⟩ := h
  have hr' := hr
  obtain ⟨g, cap, cur, fr, hv, h1, h2, h3, h4, h5, h6⟩ := hr.is_
  injection hv with e1 e2 e3
  subst e1 e2 e3
  refine ⟨rfl, h4, Go.Proofs.YtmngigklmgoibaaW.PrintWords.Kd.C_of_reads (d := (0 : Int)) (h1 := fun _ => rfl) ⟨rfl, h5, fun _ => ⟨⟨g, 0, none⟩, rfl, fun i hi => ?_⟩⟩⟩
  rw [add_plain]
  exact (hr'.cell i hi).1
theorem R_celln {g n cap : Nat} (z : Int) (h : R d e w base ok (.slice (some ⟨g, 0, none⟩) n cap) xs) (i : Int) (h0 : 0 ≤ i) (hi : i < n) : w.cell? ⟨g, i.toNat, none⟩ = some (.int .u8 (rdOf z xs i)) ∧ w.frozen? ⟨g, i.toNat, none⟩ = false := by
  obtain ⟨hn, _⟩ := R_reads' h
  have hj : i.toNat < xs.length := by omega
  have h1 := h.2.2.cell i.toNat hj
  refine ⟨h1.1.trans ?_, h1.2⟩
  simp [rdOf, List.getD_eq_getElem?_getD, List.getElem?_eq_getElem hj]
theorem R_putn {g n cap : Nat} (h : R d e w base ok (.slice (some ⟨g, 0, none⟩) n cap) xs) (i : Int) (x : Int) : R d e (w.setCell ⟨g, i.toNat, none⟩ (.int .u8 x)) base ok (.slice (some ⟨g, 0, none⟩) n cap) (xs.set i.toNat x) := by
  obtain ⟨hd, hok, g', cap', cur, fr, hv, h1, h2, h3, h4, h5, h6, h7⟩ := h
  injection hv with e1 e2 e3
  injection e1 with e1
  injection e1 with e1
  subst e1 e2 e3
  refine ⟨hd, hok, g, cap, cur.setIfInBounds i.toNat (.int .u8 x), fr, by rw [List.length_set], h1, ?_, by simpa using h3, by simpa using h4, by simpa using h5, by simpa using h6, ?_⟩
  · simp [World.setCell, Array.getElem?_modify, h2]
  · rw [Array.toList_setIfInBounds, List.take_set, List.length_set, h7]
    simp [nums, List.map_set]
end
section
variable {Pr : Program} {ops : Array Oper} {rest : List Oper} {o : Oper} {a : Act} {Q : Exit → Act → World → Prop}
theorem R_bytes {w0 W : World} (base e : Nat) (hgd : o.guard = none) {N : Tmp} (_hd : o.dst = some N) {s : ByteArray} {ok okp : Nat → Prop}
    {src dst : TypeId} {x : Operand} (ho : o.op = .convert src dst x) (hx : a.eval x = .string s) {u : TypeDesc} (hs : Pr.underlying src = some u) (hd : Pr.underlying dst = some (.slice e)) (he : Pr.underlying e = some (.int .u8))
    (hm : s.size ≤ 9223372036854775807) (hfresh : ok W.heap.size) (_hp : okp W.heap.size) (HB : Below base w0 W) (hbase : base ≤ W.heap.size)
    (h : ∀ v1 w1, R (Kd.int .u8) e w1 base ok v1 (bytesOf s) → Below base w0 w1 → wpList Pr ops Q rest (a.put o.dst v1) w1) : wpList Pr ops Q (o :: rest) a W := by
  have hc := Lib.run_convert_string_bytes (P := Pr) W src dst e s hs hd he
  have hrun : (execOp a.eval o).run Pr W = .ok (.value (.slice (some ⟨W.heap.size, 0, none⟩) s.size (grownCap W s.size 0 e))) (Lib.bytesWorld W e s) := by
    simp [execOp, ho, hx, hc, Result.andThen]
  refine Go.Proofs.YtmngigklmgoibaaW.PrintWords.Kd.event_run hgd hrun (h _ _ ⟨rfl, fun k hk => ?_, ⟨W.heap.size, grownCap W s.size 0 e, Lib.bytesCells W e s, ((Lib.bytesCells W e s).size, (Lib.bytesCells W e s).size + 1), by rw [bytesOf_length], hbase, Lib.bytesWorld_at_new W e s, Nat.le_refl _, ?_, ?_, ?_, ?_⟩⟩ (bytes_below HB hbase e s))
  · have : W.heap.size = k := by simpa [Value.ownBlock] using hk
    subst this
    exact hfresh
  · rw [bytesOf_length]
    exact grownCap_ge W s.size 0 e
  · rw [bytesOf_length]
    exact hm
  · rw [bytesOf_length]
    simp [Lib.bytesCells]
  · rw [bytesOf_length]
    have h1 : (s.data.toList.map fun b => Value.int .u8 b.toNat).length = s.size := by rw [List.length_map, data_length]
    simp only [Lib.bytesCells, Array.toList_append, Array.toList_map]
    rw [← h1, List.take_left]
    simp [nums, bytesOf]
end
end Kd
end Go.Proofs.Ytmngigklmgoibaa.P
