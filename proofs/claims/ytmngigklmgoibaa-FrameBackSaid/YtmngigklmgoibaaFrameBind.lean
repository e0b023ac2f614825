/- frame.Bind comes to the bound texts, as a Lean function. Conditions: none (where the whole would pass 2^47 bytes the Lean function says nothing). -/
import Derived.Test.YtmngigklmgoibaaPFrameNumber
import Derived.Test.YtmngigklmgoibaaBuilder
namespace Go.Proofs.Ytmngigklmgoibaa.P
open Go.RowKit Go.Proofs.YtmngigklmgoibaaW.PrintWords Go.Proofs.YtmngigklmgoibaaW.PrintLast Go.Proofs.YtmngigklmgoibaaW.PrintMore

def bindGo (k : Nat) : List ByteArray → List UInt8 → Option (ByteArray × Int)
  | [], out => some (⟨out.toArray⟩, 0)
  | p :: ps, out => if p.size > 8192 then some (⟨#[]⟩, 2) else (frame_Number.f k (p.size : Int)).bind fun n => if out.length + n.1.size + p.size ≤ 140737488355328 then bindGo k ps (out ++ n.1.data.toList ++ p.data.toList) else none
def frame_Bind.f (k : Nat) (l : List ByteArray) : Option (ByteArray × Int) := if l.length > 512 then some (⟨#[]⟩, 2) else bindGo k l []

theorem bindGo_mono (k : Nat) : ∀ l out, LeO (bindGo k l out) (bindGo (k + 1) l out)
  | [], _ => LeO.refl _
  | p :: ps, out => by
    unfold bindGo
    refine LeO.ite (LeO.refl (α := ByteArray × Int) _) ?_
    intro r hr
    obtain ⟨n, hn, hr⟩ := Option.bind_eq_some_iff.1 hr
    refine Option.bind_eq_some_iff.2 ⟨n, frame_Number.mono _ _ _ hn, ?_⟩
    exact (LeO.ite (c := out.length + n.1.size + p.size ≤ 140737488355328) (bindGo_mono k ps _) (LeO.refl (α := ByteArray × Int) _)) r hr
theorem frame_Bind.mono : ∀ a0 k, LeO (frame_Bind.f k a0) (frame_Bind.f (k + 1) a0) := fun l k => LeO.ite (LeO.refl (α := ByteArray × Int) _) (bindGo_mono k l [])

theorem rdOf_string (l : List ByteArray) (i : Nat) (h : i < l.length) : rdOf ByteArray.empty l (i : Int) = l[i] := by
  simp [rdOf, List.getD, h]

set_option maxHeartbeats 2000000 in
set_option maxRecDepth 100000 in
theorem frame_Bind.calls (k : Nat) (A0 : Option Addr) (c0 : Nat) (l0 : List ByteArray) (r1 : ByteArray) (r2 : Int) (w : World) (hr0 : Kd.C Kd.string w A0 l0.length l0) (_hc0 : l0.length ≤ c0) (h : frame_Bind.f k l0 = some (r1, r2)) :
    Calls Try.prog 19 #[.slice A0 l0.length c0] w fun e w' => e = .returned (.tuple #[.string r1, .int .i64 r2]) ∧ Below w.heap.size w w' := by
  have HR := Aside0.mk hr0
  clear hr0 _hc0
  unfold frame_Bind.f at h
  by_cases hl : l0.length > 512
  · rw [if_pos hl] at h
    simp only [Option.some.injEq, Prod.mk.injEq] at h
    obtain ⟨rfl, rfl⟩ := h
    go_enter Try.func19, Try.ntmps19
    go_wp2
    go_ret2
    exact ⟨rfl, Below.refl _ _⟩
  · rw [if_neg hl] at h
    have H := Aside0.mk h
    clear h
    go_enter Try.func19, Try.ntmps19
    go_wp2
    go_loopw [14] (fun v wr => ∃ (i : Nat) (out : List UInt8), i ≤ l0.length ∧ v = .int .i64 i ∧ Aside0 (bindGo k (l0.drop i) out = some (r1, r2)) ∧ Aside0 (Bld w.heap.size w.heap.size out wr) ∧ Aside0 (Below w.heap.size w wr)) (fun v _ => l0.length - (intOf v).toNat)
    case atStart => exact ⟨0, [], Nat.zero_le _, rfl, H, ⟨Bld.fresh w⟩, ⟨(Below.refl _ _).alloc (Nat.le_refl _) _⟩⟩
    case round =>
      clear H
      obtain ⟨i, out, hi, rfl, HA, HB, HW⟩ := hrel
      by_cases hlt : i < l0.length
      · have hd := HA.out
        rw [List.drop_eq_getElem_cons hlt] at hd
        unfold bindGo at hd
        have hx := rdOf_string l0 i hlt
        obtain ⟨ad, ead, hcell⟩ := Kd.at_string HR.out i (by omega) (by omega)
        cases ead
        rw [hx, Int.toNat_natCast] at hcell
        have hcw := pw_cell_below HW.out hcell
        clear hcell hx
        generalize l0[i] = p at *
        by_cases hbig : p.size > 8192
        · rw [if_pos hbig] at hd
          simp only [Option.some.injEq, Prod.mk.injEq] at hd
          obtain ⟨rfl, rfl⟩ := hd
          go_wp2
          go_ret2
          exact ⟨rfl, HW.out⟩
        · rw [if_neg hbig] at hd
          obtain ⟨n, hn, hd⟩ := Option.bind_eq_some_iff.1 hd
          obtain ⟨n1, n2⟩ := n
          by_cases hroom : out.length + n1.size + p.size ≤ 140737488355328
          · simp only [if_pos hroom] at hd
            have HD := Aside0.mk hd
            have HN := Aside0.mk hn
            clear hd hn
            go_wp2_with (first | (go_at_call 14; refine (frame_Number.calls k _ n1 n2 _ HN.out).mono ?_; rintro e w1 ⟨rfl, hb1⟩) | fail)
            have hb2 := (HB.out).below hb1
            refine (bld_write _ _ _ _ _ hb2 (by omega)).mono ?_
            rintro e w2 ⟨rfl, hb3, hw2⟩
            go_wp2_with fail
            refine (bld_write _ _ _ _ _ hb3 (by rw [List.length_append, data_length]; omega)).mono ?_
            rintro e w3 ⟨rfl, hb4, hw3⟩
            go_wp2_with fail
            go_roundw
            case rel => exact ⟨i + 1, _, by omega, by go_num, HD, ⟨hb4⟩, ⟨((below_then HW.out (by have := HW.out.size; omega) hb1).trans hw2).trans hw3⟩⟩
            case measure => simp [intOf]; omega
          · simp only [if_neg hroom] at hd
            cases hd
      · obtain rfl : i = l0.length := by omega
        have hd := HA.out
        rw [List.drop_length] at hd
        unfold bindGo at hd
        simp only [Option.some.injEq, Prod.mk.injEq] at hd
        obtain ⟨rfl, rfl⟩ := hd
        go_wp2_with (first | (go_at_call 27; refine (bld_string _ _ _ _ HB.out).mono ?_; rintro e w1 ⟨rfl, hb1⟩) | fail)
        go_ret2
        exact ⟨rfl, HW.out.trans hb1⟩
end Go.Proofs.Ytmngigklmgoibaa.P
