/- What a value that came in reads as: each reading of a type is one of its kind's values, within bounds. Conditions: none. -/
import Derived.Test.YtmngigklmgoibaaP0
import Derived.ChangeArms
import Derived.ChangeSlices
import Derived.DataReads
import Derived.ChangeShapes
namespace Go.Proofs.Ytmngigklmgoibaa.P
open Go.RowKit Go.Proofs.YtmngigklmgoibaaW.PrintWords Go.Proofs.YtmngigklmgoibaaW.PrintLast Go.Proofs.YtmngigklmgoibaaW.PrintMore

/-- Each reading of type t is one of kind d's values, and ok. -/
def Opens {H : Type} (enc : TypeId × Value → H) (P : Program) (w : World) (base : Nat) (spare : Nat → Bool) (held : Bool) {α : Type} (d : Kd α) (ok : α → Prop) (t : TypeId) : Prop :=
  ∀ fuel cs x, DataW.trod enc P w base spare held fuel t cs = some x → ∃ a, d.K w a cs ∧ ok a

section
variable {H : Type} {enc : TypeId × Value → H} {P : Program} {w : World} {base : Nat} {spare : Nat → Bool} {held : Bool} {t e : TypeId}
theorem opens_string (ht : P.underlying t = some .string) : Opens enc P w base spare held Kd.string (fun s => s.size ≤ maxLen) t := by
  intro fuel cs x h
  obtain ⟨s, rfl, _, hw⟩ := DataW.trod_string ht h
  exact ⟨s, rfl, hw⟩
theorem opens_int {k : IntKind} (ht : P.underlying t = some (.int k)) : Opens enc P w base spare held (Kd.int k) (fun n => (Lit.int k n).wf = true) t := by
  intro fuel cs x h
  obtain ⟨n, rfl, _, hw⟩ := DataW.trod_int ht h
  exact ⟨n, rfl, hw⟩
theorem opens_bool (ht : P.underlying t = some .bool) : Opens enc P w base spare held Kd.bool (fun _ => True) t := by
  intro fuel cs x h
  obtain ⟨b, rfl, _⟩ := DataW.trod_bool ht h
  exact ⟨b, rfl, trivial⟩

theorem list_of {α : Type} (p : Nat → α → Prop) : ∀ n, (∀ i, i < n → ∃ a, p i a) → ∃ l : List α, l.length = n ∧ ∀ i a, l[i]? = some a → p i a
  | 0, _ => ⟨[], rfl, fun i a h => by simp at h⟩
  | n + 1, h => by
    obtain ⟨l, hl, hp⟩ := list_of p n (fun i hi => h i (by omega))
    obtain ⟨a, ha⟩ := h n (by omega)
    refine ⟨l ++ [a], by simp [hl], fun i b hb => ?_⟩
    rw [List.getElem?_append] at hb
    split at hb
    · exact hp i b hb
    · rename_i hi
      have : i = n := by
        have := (List.getElem?_eq_some_iff.1 hb).1
        simp at this
        omega
      subst this
      simp [hl] at hb
      subst hb
      exact ha
theorem opens_slice {α : Type} {d : Kd α} {ok : α → Prop} (ht : P.underlying t = some (.slice e)) (hc : P.cellsOf e = d.sz) (he : Opens enc P w base spare held d ok e) :
    Opens enc P w base spare held (Kd.slice e d) (fun l => l.length ≤ maxLen ∧ ∀ a ∈ l, ok a) t := by
  intro fuel cs x h
  rcases DataW.trod_slice ht h with ⟨rfl, _⟩ | ⟨a, len, cap, elems, rest, n, _, rfl, _, hb, hl, hm, hlen, hel, _, _⟩
  · exact ⟨[], ⟨none, 0, rfl, Nat.le_refl _, Kd.C_nil d w⟩, by simp, fun a ha => by simp at ha⟩
  · obtain ⟨l, hll, hp⟩ := list_of (fun i (b : α) => ∃ c, c.length = d.sz ∧ d.K w b c ∧ ok b ∧ ∀ j u, c[j]? = some u → w.cell? (a.add (i * d.sz + j)) = some u) len (by
      intro i hi
      have h1 := hel i hi
      rw [hc] at h1
      have h2 : i < elems.length := by omega
      rw [List.getElem?_eq_getElem h2] at h1
      obtain ⟨c, hcs, hct⟩ := Option.bind_eq_some_iff.1 h1
      obtain ⟨b, hK, hok⟩ := he _ _ _ hct
      obtain ⟨_, hcl, hcell⟩ := World.cells?_some hcs
      refine ⟨b, c, hcl, hK, hok, fun j u hj => ?_⟩
      have hjl : j < d.sz := by rw [← hcl]; exact (List.getElem?_eq_some_iff.1 hj).1
      have h3 := hcell j hjl
      rw [hj] at h3
      rw [← h3, Addr.add_add])
    refine ⟨l, ⟨some a, cap, by rw [hll], by omega, ?_⟩, by omega, ?_⟩
    · refine ⟨rfl, by unfold maxLen at hm; omega, fun _ => ⟨a, rfl, fun j p hj => ?_⟩⟩
      obtain ⟨c, h1, h2, _, h3⟩ := hp j p hj
      exact ⟨c, h1, h2, h3⟩
    · intro b hb
      obtain ⟨i, hi⟩ := List.getElem?_of_mem hb
      obtain ⟨_, _, _, h3, _⟩ := hp i b hi
      exact h3
/-- A slice among a law's parameters. -/
theorem opened_slice {α : Type} {d : Kd α} {ok : List α → Prop} (hs : Opens enc P w base spare held (Kd.slice e d) ok t) {a : Option Addr} {len cap : Nat} {x : DataW H} {ps : List MemPlace}
    (h : DataW.Trod enc P w base spare held t (.slice a len cap) x ps) : ∃ l : List α, len = l.length ∧ d.C w a l.length l ∧ l.length ≤ cap ∧ ok l := by
  obtain ⟨fuel, hf⟩ := h
  obtain ⟨l, ⟨A, c, hcs, hle, hC⟩, ho⟩ := hs _ _ _ hf
  simp [Value.cells] at hcs
  obtain ⟨rfl, rfl, rfl⟩ := hcs
  exact ⟨l, rfl, hC, hle, ho⟩
end
end Go.Proofs.Ytmngigklmgoibaa.P
