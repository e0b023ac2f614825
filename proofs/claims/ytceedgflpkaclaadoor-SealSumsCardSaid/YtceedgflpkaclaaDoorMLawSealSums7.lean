/- What these functions of the program and of the plain reference compute, and plain lemmas on it: RefSum, RefMark, Plaw02SealSums, FrameLawA, FrameLawB, FrameCrc, SealLaw1, SealLaw3, ShaLaw, ShaLaw2, RootsA, RootsB, Roots. Conditions: as each lemma says. -/
import Derived.Test.YtceedgflpkaclaaDoorMLawSealSums0
import Derived.Test.YtceedgflpkaclaaDoorMLawSealSums6
import Derived.Test.YtceedgflpkaclaaDoorMLawSealSums1
import Derived.Maps.AppendAt
import Derived.Test.YtceedgflpkaclaaDoorMLawSealSums4
import Derived.OneCell
import Derived.RegionTactic
import Derived.ChangeAlike
import Derived.Laws.BitsLemmas
/- The plain reference's sum. Conditions: the text has at most 2^46 bytes. -/
namespace Go.Proofs.YtceedgflpkaclaaDoor.P
open Go.RowKit Go.Proofs.YtceedgflpkaclaaDoorW.PrintWords Go.Proofs.YtceedgflpkaclaaDoorW.PrintLast Go.Proofs.YtceedgflpkaclaaDoorW.PrintMore

def padL (s : ByteArray) (j : Nat) : List Int := bytesOf s ++ 128 :: List.replicate j 0
theorem padL_length (s : ByteArray) (j : Nat) : (padL s j).length = s.size + 1 + j := by
  unfold padL
  rw [List.length_append, bytesOf_length, List.length_cons, List.length_replicate]
  omega
theorem padL_next (s : ByteArray) (j : Nat) : padL s j ++ [0] = padL s (j + 1) := by
  unfold padL
  rw [List.replicate_succ', List.append_assoc]
  rfl
def pw : Nat → Int
  | 0 => 72057594037927936
  | q + 1 => pw q / 256
theorem pw_pos : ∀ q, q < 8 → 0 < pw q ∧ pw q ≤ 72057594037927936 := by decide
def lenB (n : Nat) : Nat → List Int
  | 0 => []
  | q + 1 => lenB n q ++ [(n : Int) * 8 / pw q % 256]
theorem lenB_length (n : Nat) : ∀ q, (lenB n q).length = q
  | 0 => rfl
  | q + 1 => by rw [lenB, List.length_append, lenB_length n q]; rfl
theorem byte_eq (a P : Int) (ha : 0 ≤ a) (ha2 : a < 18446744073709551616) (hP : 0 < P) : Int.tmod (IntKind.u64.wrap (Int.tdiv a P)) 256 % 256 = a / P % 256 := by
  have h1 : 0 ≤ a / P := Int.ediv_nonneg ha (by omega)
  have h2 : a / P ≤ a := Int.ediv_le_self _ ha
  rw [Int.tdiv_eq_ediv_of_nonneg ha, IntKind.wrap_u64, Int.emod_eq_of_lt h1 (by omega), Int.tmod_eq_emod_of_nonneg h1]
  omega
def sumBytes (s : ByteArray) : List Int := padL s (padZ s.size) ++ lenB s.size 8
theorem sumBytes_length (s : ByteArray) : (sumBytes s).length = 64 * ((s.size + 9 + padZ s.size) / 64) := by
  unfold sumBytes
  rw [List.length_append, padL_length, lenB_length]
  unfold padZ
  omega
def blocksGo (k : Nat) (B : List Int) : Nat → Nat → List Int → Option (List Int)
  | 0, _, h => some h
  | d + 1, t, h => (transhipmentref02_Block.f k h (strOfNums ((B.take (64 * t + 64)).drop (64 * t)))).bind fun h1 => blocksGo k B d (t + 1) h1
def out4 (x : Int) : List Int := [x.tdiv 16777216 % 256, x.tdiv 65536 % 256, x.tdiv 256 % 256, x.tmod 256 % 256]
def outL (xs : List Int) : List Int := xs.flatMap out4
theorem outL_length : ∀ xs : List Int, (outL xs).length = 4 * xs.length
  | [] => rfl
  | x :: xs => by
    have := outL_length xs
    unfold outL at *
    rw [List.flatMap_cons, List.length_append, this]
    simp [out4]
    omega
def firstW : List Int := [1779033703, 3144134277, 1013904242, 2773480762, 1359893119, 2600822924, 528734635, 1541459225]
set_option maxHeartbeats 4000000 in
set_option maxRecDepth 100000 in
theorem refSum_any (k : Nat) (s : ByteArray) (w : World) (hs : s.size ≤ 70368744177664) (hf : List Int) (hgo : blocksGo k (sumBytes s) ((s.size + 9 + padZ s.size) / 64) 0 firstW = some hf) (hf8 : hf.length = 8) :
    Calls Tryd.prog 11 #[.string s] w fun e w' => e = .returned (.string (strOfNums (outL hf))) ∧ Below w.heap.size w w' := by
  have HF8 := Aside0.mk hf8
  clear hf8
  have hconv := fun W => Lib.run_convert_string_bytes (P := Tryd.prog) W 9 31 5 s Tryd.underlying9 Tryd.underlying31 Tryd.underlying5
  obtain ⟨i0, hi, hz0, hz1, hz2⟩ := info_parts infoByte
  have HGO := Aside0.mk hgo
  clear hgo
  go_enter Tryd.func11, Tryd.ntmps11
  go_upto_region 2 with (fail)
  have hG : RowG (Lib.bytesWorld w 5 s) w.heap.size (.slice (some ⟨w.heap.size, 0, none⟩) s.size (grownCap w s.size 0 5)) (bytesOf s) := RowG.of_text w w.heap.size s (by omega) (Nat.le_refl _)
  have hB : Below w.heap.size w (Lib.bytesWorld w 5 s) := bytes_below (Below.refl _ _) (Nat.le_refl _) _ _
  generalize Lib.bytesWorld w 5 s = w1 at hG hB ⊢
  generalize (Value.slice (some ⟨w.heap.size, 0, none⟩) s.size (grownCap w s.size 0 5)) = v1 at hG ⊢
  have HG := Aside0.mk hG
  have HB := Aside0.mk hB
  have hle : w.heap.size ≤ w1.heap.size := hB.size
  clear hG hB hconv
  go_wp2_with (at_builtin; refine wpList_append_byte w.heap.size rfl (.tmp 14) (.tmp 15) rfl v1 (bytesOf s) 128 rfl rfl HG.out HB.out hle (by rw [bytesOf_length]; omega) ?_; intro v2 w2 hG2 hB2)
  clear HG HB hle
  have HG2 := Aside0.mk hG2
  clear hG2
  go_loopw [3] (fun v wr => ∃ j : Nat, j ≤ padZ s.size ∧ RowG wr w.heap.size v (padL s j) ∧ Aside0 (Below w.heap.size w wr)) (fun v _ => s.size + 1 + padZ s.size - sliceLen v)
  case atStart => exact ⟨0, Nat.zero_le _, HG2.out, ⟨hB2⟩⟩
  case round =>
    obtain ⟨j, hj, hg, hb⟩ := hrel
    obtain ⟨g, cap, rfl, hg1, hc, hm⟩ := hg.slice
    obtain ⟨n, hn⟩ : ∃ n, (padL s j).length = n := ⟨_, rfl⟩
    have hn2 := padL_length s j
    rw [hn] at hg hc hn2
    have HN := Aside0.mk hn
    have HN2 := Aside0.mk hn2
    have hz : padZ s.size < 64 := Nat.mod_lt _ (by decide)
    rw [hn]
    by_cases hlt : j < padZ s.size
    · have hd : ((n : Int) % 64 != 56) = true := by unfold padZ at *; simp; omega
      have hd2 : (Int.tmod (n : Int) 64 != 56) = true := by rw [Int.tmod_eq_emod_of_nonneg (by omega)]; exact hd
      have hg' := Aside0.mk hg
      have hle : w.heap.size ≤ wr.heap.size := hb.out.size
      clear hg hn hn2
      go_wp2_with (at_builtin; refine wpList_append_byte w.heap.size rfl (.tmp 21) (.tmp 22) rfl (.slice (some ⟨g, 0, none⟩) n cap) (padL s j) 0 rfl rfl hg'.out hb.out hle (by have := HN.out; have := HN2.out; omega) ?_; intro v3 w3 hG3 hB3; have HG3 := Aside0.mk hG3; have HB3 := Aside0.mk hB3; clear hG3 hB3)
      go_roundw
      case rel => exact ⟨j + 1, by omega, by rw [← padL_next]; exact HG3.out, HB3⟩
      case measure =>
        obtain ⟨g3, cap3, rfl, _⟩ := HG3.out.slice
        have := HN2.out
        simp only [sliceLen, List.length_append, List.length_singleton, HN.out]
        omega
    · have hjz : j = padZ s.size := by omega
      have hd : ((n : Int) % 64 != 56) = false := by unfold padZ at *; simp; omega
      have hg' := Aside0.mk hg
      have hle : w.heap.size ≤ wr.heap.size := hb.out.size
      have hw1 : IntKind.u64.wrap (s.size : Int) = (s.size : Int) := by rw [IntKind.wrap_u64]; omega
      have hw2 : IntKind.u64.wrap ((s.size : Int) * 8) = (s.size : Int) * 8 := by rw [IntKind.wrap_u64]; omega
      rw [hjz] at hg'
      have HZ := Aside0.mk hjz
      clear hg hn hn2 hjz
      go_wp2
      have hg2 : RowG wr w.heap.size (.slice (some ⟨g, 0, none⟩) n cap) (padL s (padZ s.size) ++ lenB s.size 0) := by rw [lenB, List.append_nil]; exact hg'.out
      have HG4 := Aside0.mk hg2
      clear hg2 hg'
      go_loopw [3, 5, 6] (fun v p i wr => ∃ q : Nat, q ≤ 8 ∧ i = .int .i64 q ∧ p = .int .u64 (pw q) ∧ RowG wr w.heap.size v (padL s (padZ s.size) ++ lenB s.size q) ∧ Aside0 (Below w.heap.size w wr)) (fun _ _ i _ => 8 - (intOf i).toNat)
      case atStart => exact ⟨0, by omega, rfl, rfl, HG4.out, hb⟩
      case round =>
        clear HG4 hb hle HG2 hB2
        obtain ⟨q, hq, rfl, rfl, hg, hb⟩ := hrel
        obtain ⟨g, cap, rfl, hg1, hc, hm⟩ := hg.slice
        obtain ⟨n, hn⟩ : ∃ n, (padL s (padZ s.size) ++ lenB s.size q).length = n := ⟨_, rfl⟩
        have hn2 : n = s.size + 1 + padZ s.size + q := by rw [← hn, List.length_append, padL_length, lenB_length]
        rw [hn] at hg hc
        have HN := Aside0.mk hn
        have HN2 := Aside0.mk hn2
        have hg' := Aside0.mk hg
        have hle : w.heap.size ≤ wr.heap.size := hb.out.size
        by_cases hq8 : q < 8
        · obtain ⟨P, hP⟩ : ∃ P, pw q = P := ⟨_, rfl⟩
          have hpp := pw_pos q hq8
          rw [hP] at hpp
          have hp0 : ¬ P = 0 := by omega
          rw [hP]
          have HP := Aside0.mk hP
          have HPP := Aside0.mk hpp
          clear hg hn hn2 hP hpp
          rw [HN.out]
          go_wp2_with (at_builtin; refine wpList_append_byte w.heap.size rfl (.tmp 32) (.tmp 38) rfl (.slice (some ⟨g, 0, none⟩) n cap) (padL s (padZ s.size) ++ lenB s.size q) _ rfl rfl hg'.out hb.out hle (by have := HN.out; have := HN2.out; omega) ?_; intro v3 w3 hG3 hB3; have HG3 := Aside0.mk hG3; have HB3 := Aside0.mk hB3; clear hG3 hB3)
          go_roundw
          case rel =>
            refine ⟨q + 1, by omega, by go_num, ?_, ?_, HB3⟩
            · have := HPP.out
              rw [pw, HP.out, Int.tdiv_eq_ediv_of_nonneg (by omega), IntKind.wrap_u64, Int.emod_eq_of_lt (by omega) (by omega)]
            · have := HG3.out
              rw [byte_eq _ _ (by omega) (by omega) HPP.out.1, List.append_assoc] at this
              rw [lenB, HP.out]
              exact this
          case measure => simp [intOf]; omega
        · have hq8' : q = 8 := by omega
          have hgB : RowG wr w.heap.size (.slice (some ⟨g, 0, none⟩) n cap) (sumBytes s) := by rw [hq8'] at hg; exact hg
          have hnB : n = 64 * ((s.size + 9 + padZ s.size) / 64) := by rw [← sumBytes_length, ← hn, hq8']; rfl
          have HGB := Aside0.mk hgB
          have HNB := Aside0.mk hnB
          rw [HN.out]
          clear hg hg' hn hn2 hq8' HN HN2 hgB hnB
          go_wp2_with (go_at_call 17; refine (transhipmentref02_First.calls firstW _ rfl).mono ?_; rintro e w4 ⟨v4, rfl, hR4, hb4⟩)
          have HB4 := Aside0.mk (below_step hb.out hb4)
          have HG4 := Aside0.mk (HGB.out.below hb4)
          have HR4 := Aside0.mk (Kd.R_lower hR4 hle)
          obtain ⟨N, hN⟩ : ∃ N, (s.size + 9 + padZ s.size) / 64 = N := ⟨_, rfl⟩
          have hnN : n = 64 * N := by rw [HNB.out, hN]
          have HGO2 := HGO.out
          rw [hN] at HGO2
          have HLB := Aside0.mk ((sumBytes_length s).trans HNB.out.symm)
          have HGO3 := Aside0.mk HGO2
          have HN := Aside0.mk hnN
          have hNs : n ≤ 140737488355328 := by unfold padZ at *; omega
          clear hb hb4 hR4 hle HGB HNB hN hnN HGO HGO2
          go_loopw [7, 8] (fun h at_ wr => ∃ (t u : Nat) (xs : List Int), t ≤ N ∧ u = 64 * t ∧ at_ = .int .i64 u ∧ Aside0 (Kd.R (Kd.int .u32) 30 wr w.heap.size (fun _ => True) h xs) ∧ Aside0 (RowG wr w.heap.size (.slice (some ⟨g, 0, none⟩) n cap) (sumBytes s)) ∧ Aside0 (blocksGo k (sumBytes s) (N - t) t xs = some hf) ∧ Aside0 (Below w.heap.size w wr)) (fun _ at_ _ => n - (intOf at_).toNat)
          case atStart => exact ⟨0, 0, firstW, Nat.zero_le _, rfl, rfl, HR4, HG4, HGO3, HB4⟩
          case round =>
            clear HR4 HG4 HGO3 HB4
            obtain ⟨t, u, xs, ht, hu, rfl, hR, hG, hgo, hb⟩ := hrel
            obtain ⟨A, c, rfl⟩ := Kd.R_slice hR.out
            have hle : w.heap.size ≤ wr.heap.size := hb.out.size
            by_cases hlt : u < n
            · have hnN := HN.out
              obtain ⟨u2, hu2⟩ : ∃ u2, u2 = u + 64 := ⟨_, rfl⟩
              have w64 : IntKind.i64.wrap ((u : Int) + 64) = (u2 : Int) := (i64_w _).trans (by unfold wrap64; omega)
              have i0 : (u : Int) ≤ (u2 : Int) := by omega
              have i1 : (u2 : Int) ≤ (n : Int) := by omega
              have i2 : (u2 : Int) ≤ (cap : Int) := by omega
              have i3 : ¬ (u : Int) = (cap : Int) := by omega
              have i4 : ¬ u = cap := by omega
              have i5 : u ≤ cap := by omega
              have i6 : u2 ≤ cap := by omega
              have i7 : u2 - u = 64 := by omega
              have hlB := HLB.out
              obtain ⟨d, hd⟩ : ∃ d, N - t = d + 1 := ⟨N - t - 1, by omega⟩
              have hgo2 := hgo.out
              rw [hd, blocksGo, Option.bind_eq_some_iff] at hgo2
              obtain ⟨ys, hys, hgo3⟩ := hgo2
              obtain ⟨T, hT⟩ : ∃ T, ((sumBytes s).take (64 * t + 64)).drop (64 * t) = T := ⟨_, rfl⟩
              rw [hT] at hys
              have hTl : T.length = 64 := by rw [← hT]; simp; omega
              have hcv := run_convert_bytes_arg (P := Tryd.prog) wr 31 5 Tryd.underlying31 Tryd.underlying5 g u 64 (cap - u) T hTl (fun i hi => by
                rw [hG.out.cell (u + i) (by omega), ← hT]
                simp [List.getD_eq_getElem?_getD, hu, hi]) 9 Tryd.underlying9
              have HD := Aside0.mk (⟨hd, hgo3, hys, hu, hu2, hnN⟩ : N - t = d + 1 ∧ blocksGo k (sumBytes s) d (t + 1) ys = some hf ∧ transhipmentref02_Block.f k xs (strOfNums T) = some ys ∧ u = 64 * t ∧ u2 = u + 64 ∧ n = 64 * N)
              clear hd hgo hgo3 hys hT hTl hlB hnN hu hu2
              go_wp2_with (go_at_call 35; refine (transhipmentref02_Block.calls k (fun k_ => some k_ = (.slice A xs.length c : Value).ownBlock) _ _ xs (strOfNums T) ys _ (Kd.R_V (Kd.R_tight rfl hR.out)) HD.out.2.2.1).mono ?_; rintro e w5 ⟨v5, rfl, hR5, hb5⟩; have HR5 := Aside0.mk (Kd.R_lower (Kd.R_mono (ok' := fun _ => True) hR5 (fun _ _ => trivial)) hle); have HB5 := Aside0.mk (below_step hb.out hb5); have HG5 := Aside0.mk (hG.out.below hb5); clear hR5 hb5)
              go_roundw
              case rel =>
                obtain ⟨hd, hgo3, _, hu, hu2, hnN⟩ := HD.out
                exact ⟨t + 1, u2, ys, by omega, by omega, rfl, HR5, HG5, ⟨by rw [show N - (t + 1) = d by omega]; exact hgo3⟩, HB5⟩
              case measure =>
                obtain ⟨hd, hgo3, _, hu, hu2, hnN⟩ := HD.out
                simp [intOf]
                omega
            · have hxs : xs = hf := by
                have hh := hgo.out
                rw [show N - t = 0 by have := HN.out; omega, blocksGo] at hh
                exact Option.some.inj hh
              subst hxs
              clear hgo hG ht hu
              have hown0 : (wr.alloc (.cells #[] 5)).ownsRow w.heap.size 5 1 (.slice (some ⟨wr.heap.size, 0, none⟩) 0 0) ([] : List Int).length (nums .u8 []) :=
                ⟨rfl, .inr ⟨wr.heap.size, 0, #[], rfl, hle, heap_alloc_new wr _, Nat.le_refl _, Nat.zero_le _, rfl, rfl⟩⟩
              have HOW := Aside0.mk hown0
              have HR2 := Aside0.mk (Kd.R_alloc hR.out (.cells #[] 5))
              have HB2 := Aside0.mk (below_alloc' hb.out hle (.cells #[] 5))
              clear hown0 hR hb
              go_wp2
              go_loopw [9, 60] (fun v i wr => ∃ r : Nat, r ≤ xs.length ∧ i = .int .i64 r ∧ Aside0 (wr.ownsRow w.heap.size 5 1 v (outL (xs.take r)).length (nums .u8 (outL (xs.take r)))) ∧ Aside0 (Kd.R (Kd.int .u32) 30 wr w.heap.size (fun _ => True) (.slice A xs.length c) xs) ∧ Aside0 (Below w.heap.size w wr)) (fun _ i _ => xs.length - (intOf i).toNat)
              case atStart => exact ⟨0, Nat.zero_le _, rfl, HOW, HR2, HB2⟩
              case round =>
                clear HOW HR2 HB2
                obtain ⟨r, hr, rfl, hO, hR, hb⟩ := hrel
                by_cases hlt2 : r < xs.length
                · obtain ⟨ad, rfl, hx⟩ := Kd.at_int (Kd.R_reads' hR.out).2.2 (r : Int) (by omega) (by omega)
                  rw [Int.toNat_natCast] at hx
                  obtain ⟨x, hxx⟩ : ∃ x, rd xs (r : Int) = x := ⟨_, rfl⟩
                  rw [hxx] at hx
                  have HX := Aside0.mk hxx
                  have HT := Aside0.mk hlt2
                  clear hxx
                  have hle2 : w.heap.size ≤ wr.heap.size := hb.out.size
                  have hlen : (outL (xs.take r)).length ≤ 32 := by
                    have h1 := outL_length (xs.take r)
                    rw [List.length_take] at h1
                    have := HF8.out
                    omega
                  have HLEN := Aside0.mk hlen
                  clear hlen
                  go_wp2_with (at_builtin; refine wpList_append_own _ rfl _ _ 31 rfl w.heap.size 5 i0 (.int .u8 0) 1 1 Tryd.underlying31 hi hz0 hz1 hz2 rfl (by decide) _ _ _ rfl (hO.out.alloc _) ⟨wr.heap.size, 0, none⟩ 4 4 (nums .u8 (out4 x)) rfl rfl ?c1 ?c2 ?c3 ?c4 ?c5 ?_)
                  case c1 =>
                    intro j u hj
                    match j, hj with
                    | 0, hj => simp [nums, out4] at hj; subst hj; simp [Addr.add]
                    | 1, hj => simp [nums, out4] at hj; subst hj; simp [Addr.add]
                    | 2, hj => simp [nums, out4] at hj; subst hj; simp [Addr.add]
                    | 3, hj => simp [nums, out4] at hj; subst hj; simp [Addr.add]
                    | j + 4, hj => simp [nums, out4] at hj
                  case c2 => intro u hu; simp [nums, out4] at hu; rcases hu with rfl | rfl | rfl | rfl <;> rfl
                  case c3 => have := HLEN.out; unfold maxLen; omega
                  case c4 => have := HLEN.out; omega
                  case c5 => simp; omega
                  intro v5 w5 hO5 hg5 _
                  have HO5 := Aside0.mk hO5
                  have HB5 := Aside0.mk ((below_alloc' hb.out hle2 _).grown hg5 (by simp; omega) (fun k hk => (own_base hO.out k hk)))
                  have HR5 := Aside0.mk (Kd.R_over' (Kd.R_alloc hR.out _) (fun k hk => own_typed (hO.out.alloc _) k hk) (by decide) hg5)
                  clear hO5 hg5
                  go_wp2
                  go_roundw
                  case rel =>
                    have h8 := HF8.out
                    have hT := HT.out
                    refine ⟨r + 1, (by omega), (by rw [show wrap64 ((r : Int) + 1) = ((r + 1 : Nat) : Int) by unfold wrap64; omega]), ?_, HR5, HB5⟩
                    have e1 : outL (xs.take (r + 1)) = outL (xs.take r) ++ out4 x := by
                      have hd : xs.take (r + 1) = xs.take r ++ [x] := by
                        rw [List.take_add_one, ← HX.out]
                        simp [rd, List.getElem?_eq_getElem HT.out]
                      rw [hd]
                      simp [outL]
                    constructor
                    rw [e1, List.length_append]
                    have e2 : nums .u8 (outL (xs.take r) ++ out4 x) = nums .u8 (outL (xs.take r)) ++ nums .u8 (out4 x) := by simp [nums]
                    rw [e2]
                    exact HO5.out
                  case measure =>
                    have h8 := HF8.out
                    have hT := HT.out
                    rw [show wrap64 ((r : Int) + 1) = ((r + 1 : Nat) : Int) by unfold wrap64; omega]
                    simp [intOf]
                    omega
                · have htx : xs.take r = xs := List.take_of_length_le (by omega)
                  have hO2 := hO.out
                  rw [htx] at hO2
                  have hcv := own_string (P := Tryd.prog) Tryd.underlying31 Tryd.underlying5 Tryd.underlying9 hO2
                  clear hO2 hO htx
                  go_wp2
                  go_ret
                  exact ⟨rfl, hb.out⟩
def transhipmentref02_Sum.f (k : Nat) (a0 : ByteArray) : Option ByteArray :=
  if a0.size ≤ 70368744177664 then (blocksGo k (sumBytes a0) ((a0.size + 9 + padZ a0.size) / 64) 0 firstW).bind fun h => if h.length = 8 then some (strOfNums (outL h)) else none else none
theorem transhipmentref02_Sum.calls (k : Nat) (a0 : ByteArray) (r : ByteArray) (w : World) (h : transhipmentref02_Sum.f k a0 = some r) :
    Calls Tryd.prog 11 #[.string a0] w fun e w' => e = .returned (.string r) ∧ Below w.heap.size w w' := by
  unfold transhipmentref02_Sum.f at h
  by_cases hs : a0.size ≤ 70368744177664
  · rw [if_pos hs] at h
    obtain ⟨hf, hgo, h2⟩ := Option.bind_eq_some_iff.1 h
    by_cases h8 : hf.length = 8
    · rw [if_pos h8] at h2
      obtain rfl := Option.some.inj h2
      exact refSum_any k a0 w hs hf hgo h8
    · rw [if_neg h8] at h2
      cases h2
  · rw [if_neg hs] at h
    cases h
end Go.Proofs.YtceedgflpkaclaaDoor.P

/- The plain reference's mark: a sum in digits. Conditions: as its sum's. -/
namespace Go.Proofs.YtceedgflpkaclaaDoor.P
open Go.RowKit Go.Proofs.YtceedgflpkaclaaDoorW.PrintWords Go.Proofs.YtceedgflpkaclaaDoorW.PrintLast Go.Proofs.YtceedgflpkaclaaDoorW.PrintMore
set_option linter.unusedSimpArgs false

structure OwnA (w : World) (base : Nat) (v : Value) (ys : List Int) (ks : List Nat) : Prop where
  own : w.ownsRow base 5 1 v ys.length (nums .u8 ys)
  apart : ∀ k ∈ ks, v.ownBlock ≠ some k ∧ k < w.heap.size
theorem own_below' {w w1 : World} {base n : Nat} {e : TypeId} {v : Value} {xs : List Value} (h : w.ownsRow base e 1 v n xs) (hb : Below w.heap.size w w1) : w1.ownsRow base e 1 v n xs := by
  obtain ⟨hl, h | ⟨g, cap, cur, hv, h1, h2, h3⟩⟩ := h
  · exact ⟨hl, .inl h⟩
  · exact ⟨hl, .inr ⟨g, cap, cur, hv, h1, blk_below h2 hb, h3⟩⟩
theorem OwnA.below {w w1 : World} {base : Nat} {v : Value} {ys : List Int} {ks : List Nat} (h : OwnA w base v ys ks) (hb : Below w.heap.size w w1) : OwnA w1 base v ys ks :=
  ⟨own_below' h.own hb, fun k hk => ⟨(h.apart k hk).1, Nat.lt_of_lt_of_le (h.apart k hk).2 hb.size⟩⟩
theorem OwnA.also {w : World} {base : Nat} {v : Value} {ys : List Int} {ks : List Nat} (h : OwnA w base v ys ks) (o : Obj) : OwnA (w.alloc o) base v ys (w.heap.size :: ks) := by
  have h' := h.below (below_alloc (Below.refl _ w) o)
  refine ⟨h'.own, fun k hk => ?_⟩
  rcases List.mem_cons.1 hk with rfl | hk
  · refine ⟨fun e => ?_, by simp⟩
    have := own_lt h.own _ e
    omega
  · exact h'.apart k hk
theorem OwnA.less {w : World} {base k : Nat} {v : Value} {ys : List Int} {ks : List Nat} (h : OwnA w base v ys (k :: ks)) : OwnA w base v ys ks := ⟨h.own, fun j hj => h.apart j (List.mem_cons_of_mem _ hj)⟩
theorem RowG.same {b g n cap : Nat} {w w' : World} {xs : List Int} (h : RowG w b (.slice (some ⟨g, 0, none⟩) n cap) xs) (hg : w'.heap[g]? = w.heap[g]?) : RowG w' b (.slice (some ⟨g, 0, none⟩) n cap) xs := by
  obtain ⟨g', cap', cur, fr, hv, h1, h2, h3⟩ := h.is_
  injection hv with e1 e2 e3
  injection e1 with e1
  injection e1 with e1
  subst e1 e2 e3
  exact ⟨g, cap, cur, fr, rfl, h1, hg.trans h2, h3⟩
section
variable {ops : Array Oper} {rest : List Oper} {o : Oper} {a : Act} {Q : Exit → Act → World → Prop}
theorem wpList_append_apart {w w0 : World} (base : Nat) (hgd : o.guard = none) (s x : Operand) (ho : o.op = .call { callee := .builtin .append, args := #[s, x], argTypes := #[31, 31] })
    (v : Value) (ys : List Int) (c : Int) (ks : List Nat) (hs : a.eval s = v) (hx : a.eval x = .slice (some ⟨w.heap.size, 0, none⟩) 1 1) (h : OwnA w base v ys ks) (hb : Below base w0 w) (hbase : base ≤ w.heap.size) (hl : ys.length + 1 ≤ 1000)
    (hK : ∀ v' w', OwnA w' base v' (ys ++ [c]) ks → Below base w0 w' → (∀ k ∈ ks, w'.heap[k]? = w.heap[k]?) → wpList Tryd.prog ops Q rest (a.put o.dst v') w') :
    wpList Tryd.prog ops Q (o :: rest) a (w.alloc (.cells #[.int .u8 c] 5)) := by
  obtain ⟨i0, hi, hz0, hz1, hz2⟩ := info_parts infoByte
  refine wpList_append_own_at _ hgd s x 31 ho base 5 i0 (.int .u8 0) 1 1 Tryd.underlying31 hi hz0 hz1 hz2 rfl (by decide) v ys.length (nums .u8 ys) hs (h.own.alloc _) ⟨w.heap.size, 0, none⟩ 1 1 [.int .u8 c] hx rfl ?_ ?_ ?_ ?_ ?_ ?_
  · intro j u hj
    match j, hj with
    | 0, hj => simp at hj; subst hj; simp [Addr.add]
  · intro u hu; simp at hu; subst hu; rfl
  · unfold maxLen; omega
  · omega
  · simp; omega
  · intro v' w' hown hgr _ hat
    have hsz : w.heap.size + 1 ≤ w'.heap.size := by have := hgr.size; simpa using this
    refine hK v' w' ⟨?_, ?_⟩ ((hb.alloc hbase _).grown hgr (by simp; omega) (fun k hk => own_base h.own k hk)) ?_
    · have e1 : nums .u8 (ys ++ [c]) = nums .u8 ys ++ [.int .u8 c] := by simp [nums]
      rw [e1, List.length_append, List.length_singleton]
      exact hown
    · intro k hk
      have hk2 := h.apart k hk
      refine ⟨?_, by omega⟩
      rcases hat with e | e
      · rw [e]; exact hk2.1
      · rw [e]
        simp
        omega
    · intro k hk
      have hk2 := h.apart k hk
      exact (hgr.block k (by simp; omega) (fun e => hk2.1 e.symm)).trans (heap_alloc_old w _ hk2.2)
end
def digR (n : Int) : Int := if n < 10 then (48 + n) % 256 else ((97 + n) % 256 - 10) % 256
def two16 (x : Int) : List Int := [digR (x / 16), digR (x % 16)]
def markI (xs : List Int) (r : Nat) : List Int := (xs.take r).flatMap two16
theorem markI_length (xs : List Int) (r : Nat) : (markI xs r).length ≤ 2 * r := by
  unfold markI
  have h : ∀ l : List Int, (l.flatMap two16).length = 2 * l.length := by
    intro l
    induction l with
    | nil => rfl
    | cons x l ih => rw [List.flatMap_cons, List.length_append, ih]; simp [two16]; omega
  rw [h, List.length_take]
  omega
theorem markI_next (xs : List Int) (r : Nat) (x : Int) (hr : r < xs.length) (hx : xs.getD r 0 = x) : markI xs r ++ two16 x = markI xs (r + 1) := by
  unfold markI
  rw [List.take_succ_eq_append_getElem hr, List.flatMap_append, ← hx, List.getD_eq_getElem?_getD, List.getElem?_eq_getElem hr]
  simp
set_option maxHeartbeats 4000000 in
set_option maxRecDepth 100000 in
theorem refMark_any (s T : ByteArray) (w : World) (hT : T.size = 32) (hsum : ∀ W, Calls Tryd.prog 11 #[.string s] W fun e w' => e = .returned (.string T) ∧ Below W.heap.size W w') :
    Calls Tryd.prog 13 #[.string s] w fun e w' => e = .returned (.string (strOfNums (markI (bytesOf (T.extract 0 8)) 8))) ∧ Below w.heap.size w w' := by
  obtain ⟨Q, hQ⟩ : ∃ Q, T.extract 0 8 = Q := ⟨_, rfl⟩
  have hQs : Q.size = 8 := by rw [← hQ, ByteArray.size_extract]; omega
  obtain ⟨xs, hxs⟩ : ∃ xs, bytesOf Q = xs := ⟨_, rfl⟩
  have hxl : xs.length = 8 := by rw [← hxs, bytesOf_length, hQs]
  have hconv := fun W => Lib.run_convert_string_bytes (P := Tryd.prog) W 9 31 5 Q Tryd.underlying9 Tryd.underlying31 Tryd.underlying5
  rw [hQ, hxs]
  have HS := Aside0.mk hsum
  have HQ := Aside0.mk (⟨hQs, hxs, hxl⟩ : Q.size = 8 ∧ bytesOf Q = xs ∧ xs.length = 8)
  have g8 : (8 : Int) ≤ (T.size : Int) := by omega
  have hown0 : OwnA (w.alloc (.cells #[] 5)) w.heap.size (.slice (some ⟨w.heap.size, 0, none⟩) 0 0) [] [] :=
    ⟨⟨rfl, .inr ⟨w.heap.size, 0, #[], rfl, Nat.le_refl _, heap_alloc_new w _, Nat.le_refl _, Nat.zero_le _, rfl, rfl⟩⟩, by simp⟩
  have HO0 := Aside0.mk hown0
  clear hQs hsum hxs hxl hown0 hT
  go_enter Tryd.func13, Tryd.ntmps13
  go_wp2_with (go_at_call 11; refine (HS.out _).mono ?_; rintro e w4 ⟨rfl, hb4⟩; have HB4 := Aside0.mk hb4; clear hb4)
  have hle4 : w.heap.size + 1 ≤ w4.heap.size := by have := HB4.out.size; simp at this; omega
  have hle4' : w.heap.size ≤ w4.heap.size := by omega
  have hB2 : Below w.heap.size w (Lib.bytesWorld w4 5 Q) := bytes_below (((Below.refl w.heap.size w).alloc (Nat.le_refl _) _).trans (HB4.out.mono (by simp))) hle4' _ _
  have hG := RowG.of_text w4 w.heap.size Q (by have := HQ.out.1; omega) hle4'
  have hO4 : OwnA w4 w.heap.size (.slice (some ⟨w.heap.size, 0, none⟩) 0 0) [] [] := HO0.out.below HB4.out
  have hO5 : OwnA (Lib.bytesWorld w4 5 Q) w.heap.size (.slice (some ⟨w.heap.size, 0, none⟩) 0 0) [] [w4.heap.size] := by
    have h5 := hO4.below (bytes_below (Below.refl _ w4) (Nat.le_refl _) 5 Q)
    refine ⟨h5.own, fun k hk => ?_⟩
    obtain rfl := List.mem_singleton.1 hk
    refine ⟨?_, by rw [Lib.bytesWorld_size]; omega⟩
    simp [Value.ownBlock]
    omega
  rw [HQ.out.1, HQ.out.2.1] at hG
  rw [HQ.out.1]
  rw [show ((8 : Nat) : Int) = (8 : Int) from rfl]
  generalize Lib.bytesWorld w4 5 Q = W at hB2 hG hO5 ⊢
  generalize grownCap w4 8 0 5 = cap at hG ⊢
  generalize w4.heap.size = g at hG hO5 hle4 hle4' ⊢
  have HG := Aside0.mk hG
  have HO := Aside0.mk hO5
  have HBW := Aside0.mk hB2
  clear hB2 hG hO4 hO5 HB4 HO0 hconv
  go_loopw [3, 14] (fun v i wr => ∃ r : Nat, r ≤ 8 ∧ i = .int .i64 r ∧ Aside0 (OwnA wr w.heap.size v (markI xs r) [g]) ∧ Aside0 (RowG wr w.heap.size (.slice (some ⟨g, 0, none⟩) 8 cap) xs) ∧ Aside0 (Below w.heap.size w wr)) (fun _ i _ => 8 - (intOf i).toNat)
  case atStart => exact ⟨0, by omega, rfl, HO, HG, HBW⟩
  case round =>
    clear HO HG HBW
    obtain ⟨r, hr8, rfl, hO, hG, hb⟩ := hrel
    by_cases hlt : r < 8
    · obtain ⟨n, hn, hn2⟩ : ∃ n : Nat, xs.getD r 0 = (n : Int) ∧ n < 256 := by
        have h1 := bt_range Q (r : Int)
        have h2 : xs.getD r 0 = bt Q (r : Int) := by
          have := rd_bytesOf Q (r : Int)
          rw [HQ.out.2.1] at this
          unfold rd at this
          rw [Int.toNat_natCast] at this
          exact this
        exact ⟨(bt Q (r : Int)).toNat, by omega, by omega⟩
      have hc := hG.out.cell r (by rw [HQ.out.2.2]; exact hlt)
      rw [hn] at hc
      obtain ⟨p, hp⟩ : ∃ p : Nat, n / 16 = p := ⟨_, rfl⟩
      obtain ⟨q, hq⟩ : ∃ q : Nat, n % 16 = q := ⟨_, rfl⟩
      have hp1 : IntKind.u8.wrap (Int.tdiv (n : Int) 16) = (p : Int) := by rw [IntKind.wrap_u8, Int.tdiv_eq_ediv_of_nonneg (by omega)]; omega
      have hp2 : (n : Int) / 16 = (p : Int) := by omega
      have hp3 : (p : Int) % 256 = (p : Int) := by omega
      have hq1 : Int.tmod (n : Int) 16 = (q : Int) := by rw [Int.tmod_eq_emod_of_nonneg (by omega)]; omega
      have hq2 : (n : Int) % 16 = (q : Int) := by omega
      have hl : (markI xs r).length ≤ 16 := by have := markI_length xs r; omega
      have hnext : markI xs r ++ [digR (p : Int), digR (q : Int)] = markI xs (r + 1) := by
        rw [← markI_next xs r (n : Int) (by rw [HQ.out.2.2]; exact hlt) hn]
        unfold two16
        rw [hp2, hq2]
      have HD := Aside0.mk (⟨hl, hnext, hlt, by omega, by omega⟩ : (markI xs r).length ≤ 16 ∧ markI xs r ++ [digR (p : Int), digR (q : Int)] = markI xs (r + 1) ∧ r < 8 ∧ p < 16 ∧ q < 16)
      obtain ⟨M, hM⟩ : ∃ M, markI xs r = M := ⟨_, rfl⟩
      rw [hM] at hO HD
      have HM := Aside0.mk hM
      clear hn hn2 hl hnext hp hq hM
      have hO2 := hO.out.also (.cells #[.int .u8 (p : Int), .int .u8 (q : Int)] 5)
      have hG2 := RowG.alloc hG.out (.cells #[.int .u8 (p : Int), .int .u8 (q : Int)] 5)
      have hle : w.heap.size ≤ wr.heap.size := hb.out.size
      have hb2 := below_alloc' hb.out hle (.cells #[.int .u8 (p : Int), .int .u8 (q : Int)] 5)
      have hE := heap_alloc_new wr (.cells #[.int .u8 (p : Int), .int .u8 (q : Int)] 5)
      have HE := Aside0.mk hE
      have HO2 := Aside0.mk hO2
      have HG2 := Aside0.mk hG2
      have HB2 := Aside0.mk hb2
      clear hO hG hb hO2 hG2 hb2 hE
      have hd8 : decide ((r : Int) < 8) = true := decide_eq_true (by omega)
      go_wp2
      (try rw [hd8])
      clear hc hp1 hq1 hp2 hq2 hp3
      generalize wr.alloc (.cells #[.int .u8 (p : Int), .int .u8 (q : Int)] 5) = W2 at HE HO2 HG2 HB2 ⊢
      generalize wr.heap.size = eb at HE HO2 hle ⊢
      go_loopw [3, 24] (fun v i wr => ∃ j : Nat, j ≤ 2 ∧ i = .int .i64 j ∧ Aside0 (OwnA wr w.heap.size v (M ++ [digR (p : Int), digR (q : Int)].take j) [eb, g]) ∧ Aside0 (wr.heap[eb]? = some (.cells #[.int .u8 (p : Int), .int .u8 (q : Int)] 5 (0, 0))) ∧ Aside0 (RowG wr w.heap.size (.slice (some ⟨g, 0, none⟩) 8 cap) xs) ∧ Aside0 (Below w.heap.size w wr)) (fun _ i _ => 2 - (intOf i).toNat)
      case atStart => exact ⟨0, by omega, rfl, by rw [List.take_zero, List.append_nil]; exact HO2, HE, HG2, HB2⟩
      case round =>
        clear HO2 HE HG2 HB2
        obtain ⟨j, hj2, rfl, hO, hE, hG, hb⟩ := hrel
        by_cases hjt : j < 2
        · obtain ⟨D, hD, hD16, hDn⟩ : ∃ D : Nat, wr.cell? ⟨eb, j, none⟩ = some (.int .u8 (D : Int)) ∧ D < 16 ∧ [digR (p : Int), digR (q : Int)].take (j + 1) = [digR (p : Int), digR (q : Int)].take j ++ [digR (D : Int)] := by
            have hh := hE.out
            match j, hjt with
            | 0, _ => exact ⟨p, by simp [World.cell?, hh], HD.out.2.2.2.1, rfl⟩
            | 1, _ => exact ⟨q, by simp [World.cell?, hh], HD.out.2.2.2.2, rfl⟩
          obtain ⟨Y, hY⟩ : ∃ Y, M ++ [digR (p : Int), digR (q : Int)].take j = Y := ⟨_, rfl⟩
          have hYl : Y.length + 1 ≤ 1000 := by
            rw [← hY, List.length_append]
            have := HD.out.1
            have h2 : ([digR (p : Int), digR (q : Int)].take j).length ≤ 2 := by rw [List.length_take]; simp; omega
            omega
          rw [hY] at hO
          have hle2 : w.heap.size ≤ wr.heap.size := hb.out.size
          by_cases hd : D < 10
          · have hdd : decide ((D : Int) < 10) = true := decide_eq_true (by omega)
            have HDD := Aside0.mk (⟨hDn, hY, hYl, hD16, hd⟩ : [digR (p : Int), digR (q : Int)].take (j + 1) = [digR (p : Int), digR (q : Int)].take j ++ [digR (D : Int)] ∧ M ++ [digR (p : Int), digR (q : Int)].take j = Y ∧ Y.length + 1 ≤ 1000 ∧ D < 16 ∧ D < 10)
            obtain ⟨c, hcv⟩ : ∃ c : Int, c = 48 + (D : Int) := ⟨_, rfl⟩
            have hcw : IntKind.u8.wrap (48 + (D : Int)) = c := by rw [IntKind.wrap_u8]; omega
            have HC := Aside0.mk hcv
            clear hDn hY hYl hcv
            go_wp2_with (at_builtin; refine wpList_append_apart w.heap.size rfl (.tmp 30) (.tmp 33) rfl _ Y _ [eb, g] rfl rfl hO.out hb.out hle2 HDD.out.2.2.1 ?_; intro v3 w3 hO3 hB3 hk3; have HO3 := Aside0.mk hO3; have HB3 := Aside0.mk hB3; have HE3 := Aside0.mk ((hk3 eb (by simp)).trans hE.out); have HG3 := Aside0.mk (hG.out.same (hk3 g (by simp))); clear hO3 hB3 hk3)
            go_roundw
            case rel =>
              obtain ⟨h1, h2, _, _, h4⟩ := HDD.out
              refine ⟨j + 1, by omega, by go_num, ?_, HE3, HG3, HB3⟩
              have e : digR (D : Int) = (48 + (D : Int)) % 256 := by unfold digR; rw [if_pos (by omega)]
              have e3 : (48 + (D : Int)) % 256 = 48 + (D : Int) := by omega
              rw [h1, ← List.append_assoc, h2, e]
              first
                | exact HO3
                | (rw [e3]; exact HO3)
                | (have := HC.out; rw [e3, ← this]; exact HO3)
            case measure => simp [intOf]; omega
          · have hdd : decide ((D : Int) < 10) = false := decide_eq_false (by omega)
            have HDD := Aside0.mk (⟨hDn, hY, hYl, hD16, hd⟩ : [digR (p : Int), digR (q : Int)].take (j + 1) = [digR (p : Int), digR (q : Int)].take j ++ [digR (D : Int)] ∧ M ++ [digR (p : Int), digR (q : Int)].take j = Y ∧ Y.length + 1 ≤ 1000 ∧ D < 16 ∧ ¬ D < 10)
            clear hDn hY hYl
            go_wp2_with (at_builtin; refine wpList_append_apart w.heap.size rfl (.tmp 35) (.tmp 39) rfl _ Y _ [eb, g] rfl rfl hO.out hb.out hle2 HDD.out.2.2.1 ?_; intro v3 w3 hO3 hB3 hk3; have HO3 := Aside0.mk hO3; have HB3 := Aside0.mk hB3; have HE3 := Aside0.mk ((hk3 eb (by simp)).trans hE.out); have HG3 := Aside0.mk (hG.out.same (hk3 g (by simp))); clear hO3 hB3 hk3)
            go_roundw
            case rel =>
              obtain ⟨h1, h2, _, h3, h4⟩ := HDD.out
              refine ⟨j + 1, by omega, by go_num, ?_, HE3, HG3, HB3⟩
              have e : digR (D : Int) = ((97 + (D : Int)) % 256 - 10) % 256 := by unfold digR; rw [if_neg (by omega)]
              have e2 : ((97 + (D : Int)) % 256 - 10) % 256 = 97 + (D : Int) - 10 := by omega
              rw [h1, ← List.append_assoc, h2, e]
              first
                | exact HO3
                | (rw [e2]; exact HO3)
                | (rw [e2, show 97 + (D : Int) - 10 = (97 + (D : Int)) % 256 - 10 by omega]; exact HO3)
            case measure => simp [intOf]; omega
        · have hj2' : j = 2 := by omega
          rw [hj2'] at hO
          have hd2 : decide ((j : Int) < 2) = false := decide_eq_false (by omega)
          clear hj2'
          go_wp2
          go_roundw
          case rel =>
            refine ⟨r + 1, by omega, by go_num, ?_, hG, hb⟩
            have := hO.out.less
            have h2 := HD.out.2.1
            constructor
            rw [← h2]
            exact this
          case measure => have := HD.out.2.2.1; simp [intOf]; omega
    · have hr8' : r = 8 := by omega
      rw [hr8'] at hO
      have hcv := own_string (P := Tryd.prog) Tryd.underlying31 Tryd.underlying5 Tryd.underlying9 hO.out.own
      clear hr8'
      go_wp2
      go_ret
      exact ⟨rfl, hb.out⟩
def transhipmentref02_Mark.f (k : Nat) (a0 : ByteArray) : Option ByteArray := (transhipmentref02_Sum.f k a0).bind fun t => if t.size = 32 then some (strOfNums (markI (bytesOf (t.extract 0 8)) 8)) else none
theorem transhipmentref02_Mark.calls (k : Nat) (a0 : ByteArray) (r : ByteArray) (w : World) (h : transhipmentref02_Mark.f k a0 = some r) :
    Calls Tryd.prog 13 #[.string a0] w fun e w' => e = .returned (.string r) ∧ Below w.heap.size w w' := by
  unfold transhipmentref02_Mark.f at h
  obtain ⟨T, hT, h2⟩ := Option.bind_eq_some_iff.1 h
  by_cases h8 : T.size = 32
  · rw [if_pos h8] at h2
    obtain rfl := Option.some.inj h2
    exact refMark_any a0 T w h8 (fun W => transhipmentref02_Sum.calls k a0 T W hT)
  · rw [if_neg h8] at h2
    cases h2
end Go.Proofs.YtceedgflpkaclaaDoor.P

/- What one function of the program computes, as a Lean function, and a proof that its call comes to just that. Conditions: none. Written by wip/ownprint.py. -/
namespace Go.Proofs.YtceedgflpkaclaaDoor.P
open Go.RowKit Go.Proofs.YtceedgflpkaclaaDoorW.PrintWords Go.Proofs.YtceedgflpkaclaaDoorW.PrintLast Go.Proofs.YtceedgflpkaclaaDoorW.PrintMore
attribute [local go_sem] max2_int min2_int max_two min_two max_three min_three max_four min_four   -- for this text's walks alone
set_option linter.unusedVariables false
set_option linter.unusedSimpArgs false

def transhipmentlaw02_SealSums.f (k : Nat) (a0 : ByteArray) : Option (Bool) := if 0 ≤ (mn (a0.size : Int) 300) then (if (mn (a0.size : Int) 300) ≤ (a0.size : Int) then ((transhipmentlaw02_alive.f).bind fun t220 => (if t220 = true then ((seal_Sum.f (a0.extract 0 ((mn (a0.size : Int) 300) : Int).toNat)).bind fun t221 => ((transhipmentref02_Sum.f k (a0.extract 0 ((mn (a0.size : Int) 300) : Int).toNat)).bind fun t222 => (if t221.toList = t222.toList then ((seal_Mark.f (a0.extract 0 ((mn (a0.size : Int) 300) : Int).toNat)).bind fun t223 => ((transhipmentref02_Mark.f k (a0.extract 0 ((mn (a0.size : Int) 300) : Int).toNat)).bind fun t224 => (if t223.toList = t224.toList then ((transhipmentref02_Keys.f).bind fun t225 => ((transhipmentref02_Roots.f k 64 3).bind fun t228 => ((transhipmentref02_Same.f k t225 t228).bind fun t231 => (if t231 = true then ((transhipmentref02_First.f).bind fun t232 => ((transhipmentref02_Roots.f k 8 2).bind fun t235 => ((transhipmentref02_Same.f k t232 t235).bind fun t238 => (some t238)))) else (some false))))) else (some false)))) else (some false)))) else (some false))) else (none)) else (none)
set_option maxHeartbeats 8000000 in
set_option maxRecDepth 100000 in
theorem transhipmentlaw02_SealSums.calls (k : Nat) (a0 : ByteArray) (r : Bool) (w : World) (h : transhipmentlaw02_SealSums.f k a0 = some r) (hK : KeysIn w) :
    Calls Tryd.prog 3 #[.string a0] w fun e w' => e = .returned (.bool r) ∧ Below w.heap.size w w' := by
  have HB := Aside0.mk (Below.refl w.heap.size w)
  have HK := Aside0.mk hK
  clear hK
  have H : (if 0 ≤ (mn (a0.size : Int) 300) then (if (mn (a0.size : Int) 300) ≤ (a0.size : Int) then ((transhipmentlaw02_alive.f).bind fun t220 => (if t220 = true then ((seal_Sum.f (a0.extract 0 ((mn (a0.size : Int) 300) : Int).toNat)).bind fun t221 => ((transhipmentref02_Sum.f k (a0.extract 0 ((mn (a0.size : Int) 300) : Int).toNat)).bind fun t222 => (if t221.toList = t222.toList then ((seal_Mark.f (a0.extract 0 ((mn (a0.size : Int) 300) : Int).toNat)).bind fun t223 => ((transhipmentref02_Mark.f k (a0.extract 0 ((mn (a0.size : Int) 300) : Int).toNat)).bind fun t224 => (if t223.toList = t224.toList then ((transhipmentref02_Keys.f).bind fun t225 => ((transhipmentref02_Roots.f k 64 3).bind fun t228 => ((transhipmentref02_Same.f k t225 t228).bind fun t231 => (if t231 = true then ((transhipmentref02_First.f).bind fun t232 => ((transhipmentref02_Roots.f k 8 2).bind fun t235 => ((transhipmentref02_Same.f k t232 t235).bind fun t238 => (some t238)))) else (some false))))) else (some false)))) else (some false)))) else (some false))) else (none)) else (none)) = some r := h
  clear h
  obtain ⟨ji2, hji2⟩ : ∃ j_ : Int, (mn (a0.size : Int) 300) = j_ := ⟨_, rfl⟩
  replace H : (if 0 ≤ (ji2) then (if (ji2) ≤ (a0.size : Int) then ((transhipmentlaw02_alive.f).bind fun t220 => (if t220 = true then ((seal_Sum.f (a0.extract 0 ((ji2) : Int).toNat)).bind fun t221 => ((transhipmentref02_Sum.f k (a0.extract 0 ((ji2) : Int).toNat)).bind fun t222 => (if t221.toList = t222.toList then ((seal_Mark.f (a0.extract 0 ((ji2) : Int).toNat)).bind fun t223 => ((transhipmentref02_Mark.f k (a0.extract 0 ((ji2) : Int).toNat)).bind fun t224 => (if t223.toList = t224.toList then ((transhipmentref02_Keys.f).bind fun t225 => ((transhipmentref02_Roots.f k 64 3).bind fun t228 => ((transhipmentref02_Same.f k t225 t228).bind fun t231 => (if t231 = true then ((transhipmentref02_First.f).bind fun t232 => ((transhipmentref02_Roots.f k 8 2).bind fun t235 => ((transhipmentref02_Same.f k t232 t235).bind fun t238 => (some t238)))) else (some false))))) else (some false)))) else (some false)))) else (some false))) else (none)) else (none)) = some r := by first | (rw [hji2] at H; exact H) | (simp only [hji2] at H ⊢; exact H)
  (try (have hji2h : ji2 ≤ 300 := by (rw [← hji2]; unfold mn; (repeat' split) <;> omega)))
  (try (have hji2g : ji2 ≤ 64 := by omega))
  (try (have hji2l : 0 ≤ ji2 := by (rw [← hji2]; unfold mn; (repeat' split) <;> omega)))
  (try (have hji2m : 0 ≤ ji2 := by omega))
  have hji2_ : (if 300 < (a0.size : Int) then 300 else (a0.size : Int)) = ji2 := hji2
  by_cases c3 : 0 ≤ (ji2)
  · rw [if_pos c3] at H
    have c3b0 := eq_true c3
    have c3b1 : decide (0 ≤ (ji2)) = true := decide_eq_true c3
    clear c3
    by_cases c4 : (ji2) ≤ (a0.size : Int)
    · rw [if_pos c4] at H
      have c4b0 := eq_true c4
      have c4b1 : decide ((ji2) ≤ (a0.size : Int)) = true := decide_eq_true c4
      clear c4
      replace H := Option.bind_eq_some_iff.mp H
      obtain ⟨t220, A50, H⟩ := H
      replace H : (if t220 = true then ((seal_Sum.f (a0.extract 0 ((ji2) : Int).toNat)).bind fun t221 => ((transhipmentref02_Sum.f k (a0.extract 0 ((ji2) : Int).toNat)).bind fun t222 => (if t221.toList = t222.toList then ((seal_Mark.f (a0.extract 0 ((ji2) : Int).toNat)).bind fun t223 => ((transhipmentref02_Mark.f k (a0.extract 0 ((ji2) : Int).toNat)).bind fun t224 => (if t223.toList = t224.toList then ((transhipmentref02_Keys.f).bind fun t225 => ((transhipmentref02_Roots.f k 64 3).bind fun t228 => ((transhipmentref02_Same.f k t225 t228).bind fun t231 => (if t231 = true then ((transhipmentref02_First.f).bind fun t232 => ((transhipmentref02_Roots.f k 8 2).bind fun t235 => ((transhipmentref02_Same.f k t232 t235).bind fun t238 => (some t238)))) else (some false))))) else (some false)))) else (some false)))) else (some false)) = some r := H
      have A5 := Aside0.mk A50
      clear A50
      by_cases c6 : t220 = true
      · subst c6
        have H1 : ((seal_Sum.f (a0.extract 0 ((ji2) : Int).toNat)).bind fun t221 => ((transhipmentref02_Sum.f k (a0.extract 0 ((ji2) : Int).toNat)).bind fun t222 => (if t221.toList = t222.toList then ((seal_Mark.f (a0.extract 0 ((ji2) : Int).toNat)).bind fun t223 => ((transhipmentref02_Mark.f k (a0.extract 0 ((ji2) : Int).toNat)).bind fun t224 => (if t223.toList = t224.toList then ((transhipmentref02_Keys.f).bind fun t225 => ((transhipmentref02_Roots.f k 64 3).bind fun t228 => ((transhipmentref02_Same.f k t225 t228).bind fun t231 => (if t231 = true then ((transhipmentref02_First.f).bind fun t232 => ((transhipmentref02_Roots.f k 8 2).bind fun t235 => ((transhipmentref02_Same.f k t232 t235).bind fun t238 => (some t238)))) else (some false))))) else (some false)))) else (some false)))) = some r := by rw [if_pos rfl] at H; exact H
        clear H
        have H := H1
        clear H1
        replace H := Option.bind_eq_some_iff.mp H
        obtain ⟨t221, A70, H⟩ := H
        replace H : ((transhipmentref02_Sum.f k (a0.extract 0 ((ji2) : Int).toNat)).bind fun t222 => (if t221.toList = t222.toList then ((seal_Mark.f (a0.extract 0 ((ji2) : Int).toNat)).bind fun t223 => ((transhipmentref02_Mark.f k (a0.extract 0 ((ji2) : Int).toNat)).bind fun t224 => (if t223.toList = t224.toList then ((transhipmentref02_Keys.f).bind fun t225 => ((transhipmentref02_Roots.f k 64 3).bind fun t228 => ((transhipmentref02_Same.f k t225 t228).bind fun t231 => (if t231 = true then ((transhipmentref02_First.f).bind fun t232 => ((transhipmentref02_Roots.f k 8 2).bind fun t235 => ((transhipmentref02_Same.f k t232 t235).bind fun t238 => (some t238)))) else (some false))))) else (some false)))) else (some false))) = some r := H
        have A7 := Aside0.mk A70
        clear A70
        replace H := Option.bind_eq_some_iff.mp H
        obtain ⟨t222, A80, H⟩ := H
        replace H : (if t221.toList = t222.toList then ((seal_Mark.f (a0.extract 0 ((ji2) : Int).toNat)).bind fun t223 => ((transhipmentref02_Mark.f k (a0.extract 0 ((ji2) : Int).toNat)).bind fun t224 => (if t223.toList = t224.toList then ((transhipmentref02_Keys.f).bind fun t225 => ((transhipmentref02_Roots.f k 64 3).bind fun t228 => ((transhipmentref02_Same.f k t225 t228).bind fun t231 => (if t231 = true then ((transhipmentref02_First.f).bind fun t232 => ((transhipmentref02_Roots.f k 8 2).bind fun t235 => ((transhipmentref02_Same.f k t232 t235).bind fun t238 => (some t238)))) else (some false))))) else (some false)))) else (some false)) = some r := H
        have A8 := Aside0.mk A80
        clear A80
        by_cases c9 : t221.toList = t222.toList
        · rw [if_pos c9] at H
          have c9b0 : (t221.toList == t222.toList) = true := beq_iff_eq.mpr c9
          have c9b1 : (t221.toList != t222.toList) = false := bne_eq_false_iff_eq.mpr c9
          clear c9
          replace H := Option.bind_eq_some_iff.mp H
          obtain ⟨t223, A100, H⟩ := H
          replace H : ((transhipmentref02_Mark.f k (a0.extract 0 ((ji2) : Int).toNat)).bind fun t224 => (if t223.toList = t224.toList then ((transhipmentref02_Keys.f).bind fun t225 => ((transhipmentref02_Roots.f k 64 3).bind fun t228 => ((transhipmentref02_Same.f k t225 t228).bind fun t231 => (if t231 = true then ((transhipmentref02_First.f).bind fun t232 => ((transhipmentref02_Roots.f k 8 2).bind fun t235 => ((transhipmentref02_Same.f k t232 t235).bind fun t238 => (some t238)))) else (some false))))) else (some false))) = some r := H
          have A10 := Aside0.mk A100
          clear A100
          replace H := Option.bind_eq_some_iff.mp H
          obtain ⟨t224, A110, H⟩ := H
          replace H : (if t223.toList = t224.toList then ((transhipmentref02_Keys.f).bind fun t225 => ((transhipmentref02_Roots.f k 64 3).bind fun t228 => ((transhipmentref02_Same.f k t225 t228).bind fun t231 => (if t231 = true then ((transhipmentref02_First.f).bind fun t232 => ((transhipmentref02_Roots.f k 8 2).bind fun t235 => ((transhipmentref02_Same.f k t232 t235).bind fun t238 => (some t238)))) else (some false))))) else (some false)) = some r := H
          have A11 := Aside0.mk A110
          clear A110
          by_cases c12 : t223.toList = t224.toList
          · rw [if_pos c12] at H
            have c12b0 : (t223.toList == t224.toList) = true := beq_iff_eq.mpr c12
            have c12b1 : (t223.toList != t224.toList) = false := bne_eq_false_iff_eq.mpr c12
            clear c12
            replace H := Option.bind_eq_some_iff.mp H
            obtain ⟨t225, A130, H⟩ := H
            replace H : ((transhipmentref02_Roots.f k 64 3).bind fun t228 => ((transhipmentref02_Same.f k t225 t228).bind fun t231 => (if t231 = true then ((transhipmentref02_First.f).bind fun t232 => ((transhipmentref02_Roots.f k 8 2).bind fun t235 => ((transhipmentref02_Same.f k t232 t235).bind fun t238 => (some t238)))) else (some false)))) = some r := H
            have A13 := Aside0.mk A130
            clear A130
            replace H := Option.bind_eq_some_iff.mp H
            obtain ⟨t228, A140, H⟩ := H
            replace H : ((transhipmentref02_Same.f k t225 t228).bind fun t231 => (if t231 = true then ((transhipmentref02_First.f).bind fun t232 => ((transhipmentref02_Roots.f k 8 2).bind fun t235 => ((transhipmentref02_Same.f k t232 t235).bind fun t238 => (some t238)))) else (some false))) = some r := H
            have A14 := Aside0.mk A140
            clear A140
            replace H := Option.bind_eq_some_iff.mp H
            obtain ⟨t231, A150, H⟩ := H
            replace H : (if t231 = true then ((transhipmentref02_First.f).bind fun t232 => ((transhipmentref02_Roots.f k 8 2).bind fun t235 => ((transhipmentref02_Same.f k t232 t235).bind fun t238 => (some t238)))) else (some false)) = some r := H
            have A15 := Aside0.mk A150
            clear A150
            by_cases c16 : t231 = true
            · subst c16
              have H1 : ((transhipmentref02_First.f).bind fun t232 => ((transhipmentref02_Roots.f k 8 2).bind fun t235 => ((transhipmentref02_Same.f k t232 t235).bind fun t238 => (some t238)))) = some r := by rw [if_pos rfl] at H; exact H
              clear H
              have H := H1
              clear H1
              replace H := Option.bind_eq_some_iff.mp H
              obtain ⟨t232, A170, H⟩ := H
              replace H : ((transhipmentref02_Roots.f k 8 2).bind fun t235 => ((transhipmentref02_Same.f k t232 t235).bind fun t238 => (some t238))) = some r := H
              have A17 := Aside0.mk A170
              clear A170
              replace H := Option.bind_eq_some_iff.mp H
              obtain ⟨t235, A180, H⟩ := H
              replace H : ((transhipmentref02_Same.f k t232 t235).bind fun t238 => (some t238)) = some r := H
              have A18 := Aside0.mk A180
              clear A180
              replace H := Option.bind_eq_some_iff.mp H
              obtain ⟨t238, A190, H⟩ := H
              replace H : (some t238) = some r := H
              have A19 := Aside0.mk A190
              clear A190
              obtain rfl := Option.some.inj H
              go_enter Tryd.func3, Tryd.ntmps3
              go_wp2_with (first | ((with_reducible refine gate_callee (f := 9) rfl ?_); refine goesL_ (some 8) rfl rfl Tryd.func9 (by kernel_rfl) rfl #[] rfl (by (try simp only [List.map_toArray, List.map_cons, List.map_nil]); first | done | rfl | (simp only [List.length_drop, List.length_take]; rfl)) ?_; (with_reducible refine (transhipmentlaw02_alive.calls  true _ A5.out ?keys_).mono ?_); (case keys_ => exact (keys_step HK.out (by repeat (first | (with_reducible first | exact HB.out | apply below_alloc | apply pw_below_drewN | apply below_drew1) | exact HB.out)))); rintro e w20 ⟨rfl, hb⟩; refine ⟨_, rfl, ?_⟩; have n0_ := Aside0.mk (below_step (by repeat (first | (with_reducible first | exact HB.out | apply below_alloc | apply pw_below_drewN | apply below_drew1) | exact HB.out)) hb); clear HB; have HB := n0_; clear n0_; (try clear hb); (try clear hb2); (try clear hk); (try clear hi)) | (go_at_call 10; (with_reducible refine (seal_Sum.calls (a0.extract 0 ((ji2) : Int).toNat) t221 _ A7.out ?keys_).mono ?_); (case keys_ => exact (keys_step HK.out (by repeat (first | (with_reducible first | exact HB.out | apply below_alloc | apply pw_below_drewN | apply below_drew1) | exact HB.out)))); rintro e w21 ⟨rfl, hb⟩; have n0_ := Aside0.mk (below_step (by repeat (first | (with_reducible first | exact HB.out | apply below_alloc | apply pw_below_drewN | apply below_drew1) | exact HB.out)) hb); clear HB; have HB := n0_; clear n0_; (try clear hb); (try clear hb2); (try clear hk); (try clear hi)) | (go_at_call 11; (with_reducible refine (transhipmentref02_Sum.calls k (a0.extract 0 ((ji2) : Int).toNat) t222 _ A8.out).mono ?_); rintro e w22 ⟨rfl, hb⟩; have n0_ := Aside0.mk (below_step (by repeat (first | (with_reducible first | exact HB.out | apply below_alloc | apply pw_below_drewN | apply below_drew1) | exact HB.out)) hb); clear HB; have HB := n0_; clear n0_; (try clear hb); (try clear hb2); (try clear hk); (try clear hi)) | (go_at_call 12; (with_reducible refine (seal_Mark.calls (a0.extract 0 ((ji2) : Int).toNat) t223 _ A10.out ?keys_).mono ?_); (case keys_ => exact (keys_step HK.out (by repeat (first | (with_reducible first | exact HB.out | apply below_alloc | apply pw_below_drewN | apply below_drew1) | exact HB.out)))); rintro e w23 ⟨rfl, hb⟩; have n0_ := Aside0.mk (below_step (by repeat (first | (with_reducible first | exact HB.out | apply below_alloc | apply pw_below_drewN | apply below_drew1) | exact HB.out)) hb); clear HB; have HB := n0_; clear n0_; (try clear hb); (try clear hb2); (try clear hk); (try clear hi)) | (go_at_call 13; (with_reducible refine (transhipmentref02_Mark.calls k (a0.extract 0 ((ji2) : Int).toNat) t224 _ A11.out).mono ?_); rintro e w24 ⟨rfl, hb⟩; have n0_ := Aside0.mk (below_step (by repeat (first | (with_reducible first | exact HB.out | apply below_alloc | apply pw_below_drewN | apply below_drew1) | exact HB.out)) hb); clear HB; have HB := n0_; clear n0_; (try clear hb); (try clear hb2); (try clear hk); (try clear hi)) | (go_at_call 15; (with_reducible refine (transhipmentref02_Keys.calls  t225 _ A13.out).mono ?_); rintro e w25 ⟨v226, rfl, ho0, hb⟩; have n0_ := Aside0.mk (Kd.R_lower ho0 (below_size (by repeat (first | (with_reducible first | exact HB.out | apply below_alloc | apply pw_below_drewN | apply below_drew1) | exact HB.out)))); have n1_ := Aside0.mk (below_step (by repeat (first | (with_reducible first | exact HB.out | apply below_alloc | apply pw_below_drewN | apply below_drew1) | exact HB.out)) hb); clear HB; have HO227 := n0_; have HB := n1_; clear n0_ n1_; (try clear hb); (try clear hb2); (try clear hk); (try clear hi); (try clear ho0)) | (go_at_call 16; (with_reducible refine (transhipmentref02_Roots.calls k 64 3 t228 _ A14.out).mono ?_); rintro e w26 ⟨v229, rfl, ho0, hb⟩; have n0_ := Aside0.mk (Kd.R_elder' (by (with_reducible repeat (first | apply Kd.R_alloc | apply Kd.R_drewN | apply Kd.R_drew)); exact HO227.out) (Kd.R_base ho0) hb); have n1_ := Aside0.mk (Kd.R_lower (Kd.R_new' ho0 (Kd.R_lt (by (with_reducible repeat (first | apply Kd.R_alloc | apply Kd.R_drewN | apply Kd.R_drew)); exact HO227.out))) (below_size (by repeat (first | (with_reducible first | exact HB.out | apply below_alloc | apply pw_below_drewN | apply below_drew1) | exact HB.out)))); have n2_ := Aside0.mk (below_step (by repeat (first | (with_reducible first | exact HB.out | apply below_alloc | apply pw_below_drewN | apply below_drew1) | exact HB.out)) hb); clear HO227; clear HB; have HO227 := n0_; have HO230 := n1_; have HB := n2_; clear n0_ n1_ n2_; (try clear hb); (try clear hb2); (try clear hk); (try clear hi); (try clear ho0); obtain ⟨Ao27, co27, eo27⟩ := Kd.R_slice HO227.out; subst eo27; obtain ⟨Ao28, co28, eo28⟩ := Kd.R_slice HO230.out; subst eo28) | (go_at_call 14; (with_reducible refine (transhipmentref02_Same.calls k _ _ t225 _ _ t228 true _ ?side1 ?side2 ?side3 ?side4 A15.out).mono ?_); (case side1 => repeat (first | exact (Kd.R_reads' HO227.out).2.2 | (with_reducible refine Kd.C_alloc ?_ _) | (with_reducible refine Kd.C_drewN ?_ _) | (with_reducible refine Kd.C_drew ?_))); (case side2 => exact (Kd.R_reads' HO227.out).2.1); (case side3 => repeat (first | exact (Kd.R_reads' HO230.out).2.2 | (with_reducible refine Kd.C_alloc ?_ _) | (with_reducible refine Kd.C_drewN ?_ _) | (with_reducible refine Kd.C_drew ?_))); (case side4 => exact (Kd.R_reads' HO230.out).2.1); rintro e w' ⟨rfl, ⟨nd, rfl⟩⟩) | (go_at_call 17; (with_reducible refine (transhipmentref02_First.calls  t232 _ A17.out).mono ?_); rintro e w29 ⟨v233, rfl, ho0, hb⟩; have n0_ := Aside0.mk (Kd.R_elder' (by (with_reducible repeat (first | apply Kd.R_alloc | apply Kd.R_drewN | apply Kd.R_drew)); exact HO227.out) (Kd.R_base ho0) hb); have n1_ := Aside0.mk (Kd.R_elder' (by (with_reducible repeat (first | apply Kd.R_alloc | apply Kd.R_drewN | apply Kd.R_drew)); exact HO230.out) (Kd.R_base ho0) hb); have n2_ := Aside0.mk (Kd.R_lower (Kd.R_new' (Kd.R_new' ho0 (Kd.R_lt (by (with_reducible repeat (first | apply Kd.R_alloc | apply Kd.R_drewN | apply Kd.R_drew)); exact HO227.out))) (Kd.R_lt (by (with_reducible repeat (first | apply Kd.R_alloc | apply Kd.R_drewN | apply Kd.R_drew)); exact HO230.out))) (below_size (by repeat (first | (with_reducible first | exact HB.out | apply below_alloc | apply pw_below_drewN | apply below_drew1) | exact HB.out)))); have n3_ := Aside0.mk (below_step (by repeat (first | (with_reducible first | exact HB.out | apply below_alloc | apply pw_below_drewN | apply below_drew1) | exact HB.out)) hb); clear HO227; clear HO230; clear HB; have HO227 := n0_; have HO230 := n1_; have HO234 := n2_; have HB := n3_; clear n0_ n1_ n2_ n3_; (try clear hb); (try clear hb2); (try clear hk); (try clear hi); (try clear ho0)) | (go_at_call 16; (with_reducible refine (transhipmentref02_Roots.calls k 8 2 t235 _ A18.out).mono ?_); rintro e w30 ⟨v236, rfl, ho0, hb⟩; have n0_ := Aside0.mk (Kd.R_elder' (by (with_reducible repeat (first | apply Kd.R_alloc | apply Kd.R_drewN | apply Kd.R_drew)); exact HO227.out) (Kd.R_base ho0) hb); have n1_ := Aside0.mk (Kd.R_elder' (by (with_reducible repeat (first | apply Kd.R_alloc | apply Kd.R_drewN | apply Kd.R_drew)); exact HO230.out) (Kd.R_base ho0) hb); have n2_ := Aside0.mk (Kd.R_elder' (by (with_reducible repeat (first | apply Kd.R_alloc | apply Kd.R_drewN | apply Kd.R_drew)); exact HO234.out) (Kd.R_base ho0) hb); have n3_ := Aside0.mk (Kd.R_lower (Kd.R_new' (Kd.R_new' (Kd.R_new' ho0 (Kd.R_lt (by (with_reducible repeat (first | apply Kd.R_alloc | apply Kd.R_drewN | apply Kd.R_drew)); exact HO227.out))) (Kd.R_lt (by (with_reducible repeat (first | apply Kd.R_alloc | apply Kd.R_drewN | apply Kd.R_drew)); exact HO230.out))) (Kd.R_lt (by (with_reducible repeat (first | apply Kd.R_alloc | apply Kd.R_drewN | apply Kd.R_drew)); exact HO234.out))) (below_size (by repeat (first | (with_reducible first | exact HB.out | apply below_alloc | apply pw_below_drewN | apply below_drew1) | exact HB.out)))); have n4_ := Aside0.mk (below_step (by repeat (first | (with_reducible first | exact HB.out | apply below_alloc | apply pw_below_drewN | apply below_drew1) | exact HB.out)) hb); clear HO227; clear HO230; clear HO234; clear HB; have HO227 := n0_; have HO230 := n1_; have HO234 := n2_; have HO237 := n3_; have HB := n4_; clear n0_ n1_ n2_ n3_ n4_; (try clear hb); (try clear hb2); (try clear hk); (try clear hi); (try clear ho0); obtain ⟨Ao31, co31, eo31⟩ := Kd.R_slice HO234.out; subst eo31; obtain ⟨Ao32, co32, eo32⟩ := Kd.R_slice HO237.out; subst eo32) | (go_at_call 14; (with_reducible refine (transhipmentref02_Same.calls k _ _ t232 _ _ t235 t238 _ ?side1 ?side2 ?side3 ?side4 A19.out).mono ?_); (case side1 => repeat (first | exact (Kd.R_reads' HO234.out).2.2 | (with_reducible refine Kd.C_alloc ?_ _) | (with_reducible refine Kd.C_drewN ?_ _) | (with_reducible refine Kd.C_drew ?_))); (case side2 => exact (Kd.R_reads' HO234.out).2.1); (case side3 => repeat (first | exact (Kd.R_reads' HO237.out).2.2 | (with_reducible refine Kd.C_alloc ?_ _) | (with_reducible refine Kd.C_drewN ?_ _) | (with_reducible refine Kd.C_drew ?_))); (case side4 => exact (Kd.R_reads' HO237.out).2.1); rintro e w' ⟨rfl, ⟨nd, rfl⟩⟩))
              (first | go_ret | go_ret2)
              exact ⟨by first | rfl | (simp [errW_none, errW_some] <;> rfl) | (simp only [← hji2]; first | rfl | (simp [errW_none, errW_some] <;> rfl)) | (simp [*, errW_none, errW_some] <;> rfl), by repeat (first | (with_reducible first | exact HB.out | apply below_alloc | apply pw_below_drewN | apply below_drew1) | exact HB.out)⟩
            · replace c16 := Bool.eq_false_iff.mpr c16
              subst c16
              have H1 : (some false) = some r := by rw [if_neg (show ¬ (false = true) by decide)] at H; exact H
              clear H
              have H := H1
              clear H1
              obtain rfl := Option.some.inj H
              go_enter Tryd.func3, Tryd.ntmps3
              go_wp2_with (first | ((with_reducible refine gate_callee (f := 9) rfl ?_); refine goesL_ (some 8) rfl rfl Tryd.func9 (by kernel_rfl) rfl #[] rfl (by (try simp only [List.map_toArray, List.map_cons, List.map_nil]); first | done | rfl | (simp only [List.length_drop, List.length_take]; rfl)) ?_; (with_reducible refine (transhipmentlaw02_alive.calls  true _ A5.out ?keys_).mono ?_); (case keys_ => exact (keys_step HK.out (by repeat (first | (with_reducible first | exact HB.out | apply below_alloc | apply pw_below_drewN | apply below_drew1) | exact HB.out)))); rintro e w33 ⟨rfl, hb⟩; refine ⟨_, rfl, ?_⟩; have n0_ := Aside0.mk (below_step (by repeat (first | (with_reducible first | exact HB.out | apply below_alloc | apply pw_below_drewN | apply below_drew1) | exact HB.out)) hb); clear HB; have HB := n0_; clear n0_; (try clear hb); (try clear hb2); (try clear hk); (try clear hi)) | (go_at_call 10; (with_reducible refine (seal_Sum.calls (a0.extract 0 ((ji2) : Int).toNat) t221 _ A7.out ?keys_).mono ?_); (case keys_ => exact (keys_step HK.out (by repeat (first | (with_reducible first | exact HB.out | apply below_alloc | apply pw_below_drewN | apply below_drew1) | exact HB.out)))); rintro e w34 ⟨rfl, hb⟩; have n0_ := Aside0.mk (below_step (by repeat (first | (with_reducible first | exact HB.out | apply below_alloc | apply pw_below_drewN | apply below_drew1) | exact HB.out)) hb); clear HB; have HB := n0_; clear n0_; (try clear hb); (try clear hb2); (try clear hk); (try clear hi)) | (go_at_call 11; (with_reducible refine (transhipmentref02_Sum.calls k (a0.extract 0 ((ji2) : Int).toNat) t222 _ A8.out).mono ?_); rintro e w35 ⟨rfl, hb⟩; have n0_ := Aside0.mk (below_step (by repeat (first | (with_reducible first | exact HB.out | apply below_alloc | apply pw_below_drewN | apply below_drew1) | exact HB.out)) hb); clear HB; have HB := n0_; clear n0_; (try clear hb); (try clear hb2); (try clear hk); (try clear hi)) | (go_at_call 12; (with_reducible refine (seal_Mark.calls (a0.extract 0 ((ji2) : Int).toNat) t223 _ A10.out ?keys_).mono ?_); (case keys_ => exact (keys_step HK.out (by repeat (first | (with_reducible first | exact HB.out | apply below_alloc | apply pw_below_drewN | apply below_drew1) | exact HB.out)))); rintro e w36 ⟨rfl, hb⟩; have n0_ := Aside0.mk (below_step (by repeat (first | (with_reducible first | exact HB.out | apply below_alloc | apply pw_below_drewN | apply below_drew1) | exact HB.out)) hb); clear HB; have HB := n0_; clear n0_; (try clear hb); (try clear hb2); (try clear hk); (try clear hi)) | (go_at_call 13; (with_reducible refine (transhipmentref02_Mark.calls k (a0.extract 0 ((ji2) : Int).toNat) t224 _ A11.out).mono ?_); rintro e w37 ⟨rfl, hb⟩; have n0_ := Aside0.mk (below_step (by repeat (first | (with_reducible first | exact HB.out | apply below_alloc | apply pw_below_drewN | apply below_drew1) | exact HB.out)) hb); clear HB; have HB := n0_; clear n0_; (try clear hb); (try clear hb2); (try clear hk); (try clear hi)) | (go_at_call 15; (with_reducible refine (transhipmentref02_Keys.calls  t225 _ A13.out).mono ?_); rintro e w38 ⟨v226, rfl, ho0, hb⟩; have n0_ := Aside0.mk (Kd.R_lower ho0 (below_size (by repeat (first | (with_reducible first | exact HB.out | apply below_alloc | apply pw_below_drewN | apply below_drew1) | exact HB.out)))); have n1_ := Aside0.mk (below_step (by repeat (first | (with_reducible first | exact HB.out | apply below_alloc | apply pw_below_drewN | apply below_drew1) | exact HB.out)) hb); clear HB; have HO227 := n0_; have HB := n1_; clear n0_ n1_; (try clear hb); (try clear hb2); (try clear hk); (try clear hi); (try clear ho0)) | (go_at_call 16; (with_reducible refine (transhipmentref02_Roots.calls k 64 3 t228 _ A14.out).mono ?_); rintro e w39 ⟨v229, rfl, ho0, hb⟩; have n0_ := Aside0.mk (Kd.R_elder' (by (with_reducible repeat (first | apply Kd.R_alloc | apply Kd.R_drewN | apply Kd.R_drew)); exact HO227.out) (Kd.R_base ho0) hb); have n1_ := Aside0.mk (Kd.R_lower (Kd.R_new' ho0 (Kd.R_lt (by (with_reducible repeat (first | apply Kd.R_alloc | apply Kd.R_drewN | apply Kd.R_drew)); exact HO227.out))) (below_size (by repeat (first | (with_reducible first | exact HB.out | apply below_alloc | apply pw_below_drewN | apply below_drew1) | exact HB.out)))); have n2_ := Aside0.mk (below_step (by repeat (first | (with_reducible first | exact HB.out | apply below_alloc | apply pw_below_drewN | apply below_drew1) | exact HB.out)) hb); clear HO227; clear HB; have HO227 := n0_; have HO230 := n1_; have HB := n2_; clear n0_ n1_ n2_; (try clear hb); (try clear hb2); (try clear hk); (try clear hi); (try clear ho0); obtain ⟨Ao40, co40, eo40⟩ := Kd.R_slice HO227.out; subst eo40; obtain ⟨Ao41, co41, eo41⟩ := Kd.R_slice HO230.out; subst eo41) | (go_at_call 14; (with_reducible refine (transhipmentref02_Same.calls k _ _ t225 _ _ t228 false _ ?side1 ?side2 ?side3 ?side4 A15.out).mono ?_); (case side1 => repeat (first | exact (Kd.R_reads' HO227.out).2.2 | (with_reducible refine Kd.C_alloc ?_ _) | (with_reducible refine Kd.C_drewN ?_ _) | (with_reducible refine Kd.C_drew ?_))); (case side2 => exact (Kd.R_reads' HO227.out).2.1); (case side3 => repeat (first | exact (Kd.R_reads' HO230.out).2.2 | (with_reducible refine Kd.C_alloc ?_ _) | (with_reducible refine Kd.C_drewN ?_ _) | (with_reducible refine Kd.C_drew ?_))); (case side4 => exact (Kd.R_reads' HO230.out).2.1); rintro e w' ⟨rfl, ⟨nd, rfl⟩⟩))
              (first | go_ret | go_ret2)
              exact ⟨by first | rfl | (simp [errW_none, errW_some] <;> rfl) | (simp only [← hji2]; first | rfl | (simp [errW_none, errW_some] <;> rfl)) | (simp [*, errW_none, errW_some] <;> rfl), by repeat (first | (with_reducible first | exact HB.out | apply below_alloc | apply pw_below_drewN | apply below_drew1) | exact HB.out)⟩
          · rw [if_neg c12] at H
            have c12b0 : (t223.toList == t224.toList) = false := beq_eq_false_iff_ne.mpr c12
            have c12b1 : (t223.toList != t224.toList) = true := bne_iff_ne.mpr c12
            obtain rfl := Option.some.inj H
            go_enter Tryd.func3, Tryd.ntmps3
            go_wp2_with (first | ((with_reducible refine gate_callee (f := 9) rfl ?_); refine goesL_ (some 8) rfl rfl Tryd.func9 (by kernel_rfl) rfl #[] rfl (by (try simp only [List.map_toArray, List.map_cons, List.map_nil]); first | done | rfl | (simp only [List.length_drop, List.length_take]; rfl)) ?_; (with_reducible refine (transhipmentlaw02_alive.calls  true _ A5.out ?keys_).mono ?_); (case keys_ => exact (keys_step HK.out (by repeat (first | (with_reducible first | exact HB.out | apply below_alloc | apply pw_below_drewN | apply below_drew1) | exact HB.out)))); rintro e w42 ⟨rfl, hb⟩; refine ⟨_, rfl, ?_⟩; have n0_ := Aside0.mk (below_step (by repeat (first | (with_reducible first | exact HB.out | apply below_alloc | apply pw_below_drewN | apply below_drew1) | exact HB.out)) hb); clear HB; have HB := n0_; clear n0_; (try clear hb); (try clear hb2); (try clear hk); (try clear hi)) | (go_at_call 10; (with_reducible refine (seal_Sum.calls (a0.extract 0 ((ji2) : Int).toNat) t221 _ A7.out ?keys_).mono ?_); (case keys_ => exact (keys_step HK.out (by repeat (first | (with_reducible first | exact HB.out | apply below_alloc | apply pw_below_drewN | apply below_drew1) | exact HB.out)))); rintro e w43 ⟨rfl, hb⟩; have n0_ := Aside0.mk (below_step (by repeat (first | (with_reducible first | exact HB.out | apply below_alloc | apply pw_below_drewN | apply below_drew1) | exact HB.out)) hb); clear HB; have HB := n0_; clear n0_; (try clear hb); (try clear hb2); (try clear hk); (try clear hi)) | (go_at_call 11; (with_reducible refine (transhipmentref02_Sum.calls k (a0.extract 0 ((ji2) : Int).toNat) t222 _ A8.out).mono ?_); rintro e w44 ⟨rfl, hb⟩; have n0_ := Aside0.mk (below_step (by repeat (first | (with_reducible first | exact HB.out | apply below_alloc | apply pw_below_drewN | apply below_drew1) | exact HB.out)) hb); clear HB; have HB := n0_; clear n0_; (try clear hb); (try clear hb2); (try clear hk); (try clear hi)) | (go_at_call 12; (with_reducible refine (seal_Mark.calls (a0.extract 0 ((ji2) : Int).toNat) t223 _ A10.out ?keys_).mono ?_); (case keys_ => exact (keys_step HK.out (by repeat (first | (with_reducible first | exact HB.out | apply below_alloc | apply pw_below_drewN | apply below_drew1) | exact HB.out)))); rintro e w45 ⟨rfl, hb⟩; have n0_ := Aside0.mk (below_step (by repeat (first | (with_reducible first | exact HB.out | apply below_alloc | apply pw_below_drewN | apply below_drew1) | exact HB.out)) hb); clear HB; have HB := n0_; clear n0_; (try clear hb); (try clear hb2); (try clear hk); (try clear hi)) | (go_at_call 13; (with_reducible refine (transhipmentref02_Mark.calls k (a0.extract 0 ((ji2) : Int).toNat) t224 _ A11.out).mono ?_); rintro e w46 ⟨rfl, hb⟩; have n0_ := Aside0.mk (below_step (by repeat (first | (with_reducible first | exact HB.out | apply below_alloc | apply pw_below_drewN | apply below_drew1) | exact HB.out)) hb); clear HB; have HB := n0_; clear n0_; (try clear hb); (try clear hb2); (try clear hk); (try clear hi)))
            (first | go_ret | go_ret2)
            exact ⟨by first | rfl | (simp [errW_none, errW_some] <;> rfl) | (simp only [← hji2]; first | rfl | (simp [errW_none, errW_some] <;> rfl)) | (simp [*, errW_none, errW_some] <;> rfl), by repeat (first | (with_reducible first | exact HB.out | apply below_alloc | apply pw_below_drewN | apply below_drew1) | exact HB.out)⟩
        · rw [if_neg c9] at H
          have c9b0 : (t221.toList == t222.toList) = false := beq_eq_false_iff_ne.mpr c9
          have c9b1 : (t221.toList != t222.toList) = true := bne_iff_ne.mpr c9
          obtain rfl := Option.some.inj H
          go_enter Tryd.func3, Tryd.ntmps3
          go_wp2_with (first | ((with_reducible refine gate_callee (f := 9) rfl ?_); refine goesL_ (some 8) rfl rfl Tryd.func9 (by kernel_rfl) rfl #[] rfl (by (try simp only [List.map_toArray, List.map_cons, List.map_nil]); first | done | rfl | (simp only [List.length_drop, List.length_take]; rfl)) ?_; (with_reducible refine (transhipmentlaw02_alive.calls  true _ A5.out ?keys_).mono ?_); (case keys_ => exact (keys_step HK.out (by repeat (first | (with_reducible first | exact HB.out | apply below_alloc | apply pw_below_drewN | apply below_drew1) | exact HB.out)))); rintro e w47 ⟨rfl, hb⟩; refine ⟨_, rfl, ?_⟩; have n0_ := Aside0.mk (below_step (by repeat (first | (with_reducible first | exact HB.out | apply below_alloc | apply pw_below_drewN | apply below_drew1) | exact HB.out)) hb); clear HB; have HB := n0_; clear n0_; (try clear hb); (try clear hb2); (try clear hk); (try clear hi)) | (go_at_call 10; (with_reducible refine (seal_Sum.calls (a0.extract 0 ((ji2) : Int).toNat) t221 _ A7.out ?keys_).mono ?_); (case keys_ => exact (keys_step HK.out (by repeat (first | (with_reducible first | exact HB.out | apply below_alloc | apply pw_below_drewN | apply below_drew1) | exact HB.out)))); rintro e w48 ⟨rfl, hb⟩; have n0_ := Aside0.mk (below_step (by repeat (first | (with_reducible first | exact HB.out | apply below_alloc | apply pw_below_drewN | apply below_drew1) | exact HB.out)) hb); clear HB; have HB := n0_; clear n0_; (try clear hb); (try clear hb2); (try clear hk); (try clear hi)) | (go_at_call 11; (with_reducible refine (transhipmentref02_Sum.calls k (a0.extract 0 ((ji2) : Int).toNat) t222 _ A8.out).mono ?_); rintro e w49 ⟨rfl, hb⟩; have n0_ := Aside0.mk (below_step (by repeat (first | (with_reducible first | exact HB.out | apply below_alloc | apply pw_below_drewN | apply below_drew1) | exact HB.out)) hb); clear HB; have HB := n0_; clear n0_; (try clear hb); (try clear hb2); (try clear hk); (try clear hi)))
          (first | go_ret | go_ret2)
          exact ⟨by first | rfl | (simp [errW_none, errW_some] <;> rfl) | (simp only [← hji2]; first | rfl | (simp [errW_none, errW_some] <;> rfl)) | (simp [*, errW_none, errW_some] <;> rfl), by repeat (first | (with_reducible first | exact HB.out | apply below_alloc | apply pw_below_drewN | apply below_drew1) | exact HB.out)⟩
      · replace c6 := Bool.eq_false_iff.mpr c6
        subst c6
        have H1 : (some false) = some r := by rw [if_neg (show ¬ (false = true) by decide)] at H; exact H
        clear H
        have H := H1
        clear H1
        obtain rfl := Option.some.inj H
        go_enter Tryd.func3, Tryd.ntmps3
        go_wp2_with (first | ((with_reducible refine gate_callee (f := 9) rfl ?_); refine goesL_ (some 8) rfl rfl Tryd.func9 (by kernel_rfl) rfl #[] rfl (by (try simp only [List.map_toArray, List.map_cons, List.map_nil]); first | done | rfl | (simp only [List.length_drop, List.length_take]; rfl)) ?_; (with_reducible refine (transhipmentlaw02_alive.calls  false _ A5.out ?keys_).mono ?_); (case keys_ => exact (keys_step HK.out (by repeat (first | (with_reducible first | exact HB.out | apply below_alloc | apply pw_below_drewN | apply below_drew1) | exact HB.out)))); rintro e w50 ⟨rfl, hb⟩; refine ⟨_, rfl, ?_⟩; have n0_ := Aside0.mk (below_step (by repeat (first | (with_reducible first | exact HB.out | apply below_alloc | apply pw_below_drewN | apply below_drew1) | exact HB.out)) hb); clear HB; have HB := n0_; clear n0_; (try clear hb); (try clear hb2); (try clear hk); (try clear hi)))
        (first | go_ret | go_ret2)
        exact ⟨by first | rfl | (simp [errW_none, errW_some] <;> rfl) | (simp only [← hji2]; first | rfl | (simp [errW_none, errW_some] <;> rfl)) | (simp [*, errW_none, errW_some] <;> rfl), by repeat (first | (with_reducible first | exact HB.out | apply below_alloc | apply pw_below_drewN | apply below_drew1) | exact HB.out)⟩
    · rw [if_neg c4] at H
      exact absurd H (by simp)
  · rw [if_neg c3] at H
    exact absurd H (by simp)
def transhipmentlaw02_SealSums.Pure : Prop := ∀ (a0 : ByteArray), a0.size ≤ 140737488351232 → ∃ k, transhipmentlaw02_SealSums.f k a0 = some true
theorem transhipmentlaw02_SealSums.walk (P : transhipmentlaw02_SealSums.Pure) (a0 : ByteArray) (w : World) (w0 : a0.size ≤ 140737488351232) (hK : KeysIn w) :
    Calls Tryd.prog 3 #[.string a0] w fun e w' => e = .returned (.bool true) ∧ Below w.heap.size w w' := by
  obtain ⟨k, h⟩ := P a0 w0
  refine (transhipmentlaw02_SealSums.calls k a0 true w h hK).mono ?_
  rintro e w' ⟨rfl, hd⟩
  exact ⟨rfl, hd⟩
end Go.Proofs.YtceedgflpkaclaaDoor.P

/- What the numbers of layer 1 come to: the program's functions and the document's, each as one plain Lean function. Conditions: as each lemma says. -/
namespace Go.Proofs.YtceedgflpkaclaaDoor.P
open Go.RowKit Go.Proofs.YtceedgflpkaclaaDoorW.PrintWords Go.Proofs.YtceedgflpkaclaaDoorW.PrintLast Go.Proofs.YtceedgflpkaclaaDoorW.PrintMore

theorem mn_min (a b : Nat) : mn (a : Int) (b : Int) = ((min a b : Nat) : Int) := by
  unfold mn
  split <;> omega
end Go.Proofs.YtceedgflpkaclaaDoor.P

/- What texts that are bound, and taken apart, come to: the program's functions and the document's, each as one plain Lean function; what is bound is read as it was. Conditions: as each lemma says. -/
namespace Go.Proofs.YtceedgflpkaclaaDoor.P
open Go.RowKit Go.Proofs.YtceedgflpkaclaaDoorW.PrintWords Go.Proofs.YtceedgflpkaclaaDoorW.PrintLast Go.Proofs.YtceedgflpkaclaaDoorW.PrintMore

def mayB (l : List ByteArray) : Prop := l.length ≤ 512 ∧ ∀ p ∈ l, p.size ≤ 8192
instance (l : List ByteArray) : Decidable (mayB l) := by unfold mayB; exact inferInstance
end Go.Proofs.YtceedgflpkaclaaDoor.P

/- frame.Crc comes to the check of its text's bytes, as a Lean function. Conditions: none. -/
namespace Go.Proofs.YtceedgflpkaclaaDoor.P
open Go.RowKit Go.Proofs.YtceedgflpkaclaaDoorW.PrintWords Go.Proofs.YtceedgflpkaclaaDoorW.PrintLast Go.Proofs.YtceedgflpkaclaaDoorW.PrintMore

structure OneU (w : World) (b : Nat) (c : Int) : Prop where
  at_ : w.heap[b]? = some (.cells #[.int .u32 c] 30 (0, 0))
theorem OneU.set {w : World} {b : Nat} {c : Int} (h : OneU w b c) (d : Int) : OneU (w.setCell ⟨b, 0, none⟩ (.int .u32 d)) b d := ⟨one_setCell h.at_⟩
theorem OneU.drewN {w : World} {b : Nat} {c : Int} (h : OneU w b c) (n : Nat) : OneU (w.drewN n) b c := ⟨h.at_⟩
theorem OneU.drew {w : World} {b : Nat} {c : Int} (h : OneU w b c) : OneU w.drew b c := ⟨h.at_⟩
end Go.Proofs.YtceedgflpkaclaaDoor.P

/- What sections that are sealed, and bytes that are opened, come to: the program's functions, each as one plain Lean function. Conditions: as each lemma says. -/
namespace Go.Proofs.YtceedgflpkaclaaDoor.P
open Go.RowKit Go.Proofs.YtceedgflpkaclaaDoorW.PrintWords Go.Proofs.YtceedgflpkaclaaDoorW.PrintLast Go.Proofs.YtceedgflpkaclaaDoorW.PrintMore

def mayS (l : List ByteArray) : Prop := l.length ≤ 64 ∧ ∀ p ∈ l, p.size ≤ 4096
instance (l : List ByteArray) : Decidable (mayS l) := by unfold mayS; exact inferInstance
theorem sumV_32 (s : ByteArray) : (sumV s).size = 32 := by
  unfold sumV
  show (List.toArray _).size = 32
  rw [List.size_toArray, outB_length]
theorem seal_Sum_eq (s : ByteArray) (h : s.size ≤ 70368744177664) : seal_Sum.f s = some (sumV s) := by
  unfold seal_Sum.f
  rw [if_pos h]
end Go.Proofs.YtceedgflpkaclaaDoor.P

/- A text's mark; the known text's is as it is known. Conditions: as each lemma says. -/
namespace Go.Proofs.YtceedgflpkaclaaDoor.P
open Go.RowKit Go.Proofs.YtceedgflpkaclaaDoorW.PrintWords Go.Proofs.YtceedgflpkaclaaDoorW.PrintLast Go.Proofs.YtceedgflpkaclaaDoorW.PrintMore

def markB (s : ByteArray) : ByteArray := ⟨(markL (bytesOf ((sumV s).extract 0 8)) 8).toArray⟩
theorem seal_Mark_eq (s : ByteArray) (h : s.size ≤ 70368744177664) : seal_Mark.f s = some (markB s) := by
  unfold seal_Mark.f
  rw [if_pos h]
  rfl
theorem known_mark : markB (⟨#[97, 98, 99]⟩ : ByteArray) = ⟨#[98, 97, 55, 56, 49, 54, 98, 102, 56, 102, 48, 49, 99, 102, 101, 97]⟩ := by decide +kernel
theorem alive_true : transhipmentlaw02_alive.f = some true := by
  unfold transhipmentlaw02_alive.f
  rw [seal_Mark_eq _ (by decide), known_mark]
  simp only [Option.bind_some, ByteArray.toList_eq]
  decide
end Go.Proofs.YtceedgflpkaclaaDoor.P

/- The program's words behind a block are those of the plain reference. Conditions: as each lemma says. -/
namespace Go.Proofs.YtceedgflpkaclaaDoor.P
open Go.RowKit Go.Proofs.YtceedgflpkaclaaDoorW.PrintWords Go.Proofs.YtceedgflpkaclaaDoorW.PrintLast Go.Proofs.YtceedgflpkaclaaDoorW.PrintMore

def W32 (x : Int) : Prop := 0 ≤ x ∧ x < 4294967296
theorem wraps_u32 (n : Int) (h0 : 0 ≤ n) (h1 : n < 2 ^ 32) : IntKind.u32.wrap n = n := by rw [IntKind.wrap_u32]; omega
theorem wrap_W32 (x : Int) : W32 (IntKind.u32.wrap x) := by
  rw [IntKind.wrap_u32]
  exact ⟨Int.emod_nonneg _ (by decide), Int.emod_lt_of_pos _ (by decide)⟩
theorem or_W32 (a b : Int) : W32 (Go.bits .or .u32 a b) := by
  have h : Go.bits .or .u32 a b = IntKind.u32.wrap (((BitVec.ofInt 32 a) ||| (BitVec.ofInt 32 b)).toNat : Int) := rfl
  rw [h]
  exact wrap_W32 _
theorem wid (x : Int) (h0 : -9223372036854775808 ≤ x) (h1 : x < 9223372036854775808) : wrap64 x = x := by unfold wrap64; omega
def turn1 (x : Int) : Int := x / 2 + x % 2 * 2147483648
def turnsI (x : Int) : Nat → Int
  | 0 => x
  | n + 1 => turn1 (turnsI x n)
theorem turns_formula (x : Int) (hx : 0 ≤ x) : ∀ n : Nat, n ≤ 32 → turnsI x n = x / 2 ^ n + x % 2 ^ n * 2 ^ (32 - n)
  | 0, _ => by simp [turnsI, Int.emod_one]
  | n + 1, hn => by
    rw [turnsI, turns_formula x hx n (by omega)]
    obtain ⟨p, hp⟩ : ∃ p : Int, p = 2 ^ (32 - (n + 1)) := ⟨_, rfl⟩
    obtain ⟨q, hq⟩ : ∃ q : Int, q = 2 ^ n := ⟨_, rfl⟩
    have e1 : (2 : Int) ^ (32 - n) = p * 2 := by rw [hp, ← Int.pow_succ]; congr 1; omega
    have e2 : (2 : Int) ^ (n + 1) = q * 2 := by rw [hq, Int.pow_succ]
    have e3 : q * p = 2147483648 := by
      rw [hp, hq, ← Int.pow_add, show n + (32 - (n + 1)) = 31 by omega]
      decide
    have hq0 : 0 < q := by rw [hq]; exact Int.pow_pos (by decide)
    rw [e1, e2, ← hq, ← hp]
    have e4 : x / (q * 2) = x / q / 2 := (Int.ediv_ediv_of_nonneg (by omega)).symm
    have e5 : x % (q * 2) = x % q + q * (x / q % 2) := by
      obtain ⟨a, rfl⟩ := Int.eq_ofNat_of_zero_le hx
      obtain ⟨b, rfl⟩ := Int.eq_ofNat_of_zero_le (Int.le_of_lt hq0)
      exact_mod_cast (Nat.mod_mul : a % (b * 2) = _)
    rw [e4, e5, Int.add_mul]
    have e6 : q * (x / q % 2) * p = x / q % 2 * 2147483648 := by rw [← e3, Int.mul_comm q, Int.mul_assoc]
    rw [e6]
    unfold turn1
    have e7 : x % q * (p * 2) = (x % q * p) * 2 := by rw [Int.mul_assoc]
    rw [e7]
    generalize x % q * p = r
    generalize x / q = y
    omega
theorem turn_W32 {x : Int} (h : W32 x) : W32 (turn1 x) := by
  unfold W32 turn1 at *
  omega
theorem turns_W32 {x : Int} (h : W32 x) : ∀ n, W32 (turnsI x n)
  | 0 => h
  | n + 1 => turn_W32 (turns_W32 h n)
theorem turnI_eq {x : Int} (h : W32 x) (n : Nat) (hn : n ≤ 32) : turnI x n = turnsI x n := by
  rw [turns_formula x h.1 n hn]
  unfold turnI
  have hq0 : (0 : Int) < 2 ^ n := Int.pow_pos (by decide)
  have hp0 : (0 : Int) < 2 ^ (32 - n) := Int.pow_pos (by decide)
  have e3 : (2 : Int) ^ n * 2 ^ (32 - n) = 4294967296 := by
    rw [← Int.pow_add, show n + (32 - n) = 32 by omega]
    decide
  have e1 : IntKind.u32.wrap (x * 2 ^ (32 - n)) = x % 2 ^ n * 2 ^ (32 - n) := by
    rw [IntKind.wrap_u32, ← e3, Int.mul_comm x, Int.mul_comm (2 ^ n), Int.mul_emod_mul_of_pos _ _ hp0, Int.mul_comm]
  have h1 := Int.emod_nonneg x (b := 2 ^ n) (by omega)
  have h2 := Int.emod_lt_of_pos x (b := 2 ^ n) hq0
  have h3 : x / 2 ^ n < 2 ^ (32 - n) := by
    apply Int.ediv_lt_of_lt_mul hq0
    rw [Int.mul_comm, e3]
    exact h.2
  have h4 : x % 2 ^ n * 2 ^ (32 - n) < 4294967296 := by
    rw [← e3]
    exact Int.mul_lt_mul_of_pos_right h2 hp0
  have h5 : x / 2 ^ n ≤ x := Int.ediv_le_self _ h.1
  rw [e1, bits_join .u32 32 (by decide) wraps_u32 (32 - n) _ _ (Int.mul_nonneg h1 (by omega)) (Int.mul_emod_left _ _) (by omega) (Int.ediv_nonneg h.1 (by omega)) h3 (by have := h.2; omega), Int.add_comm]
theorem ref_turn_l0 (x : Int) (h : W32 x) (n : Nat) (hn : n ≤ 32) : ∀ (d i k : Nat), i + d = n → d < k → transhipmentref02_turn.l0 k (turnsI x i) (n : Int) (i : Int) = some (turnsI x n) := by
  intro d
  induction d with
  | zero =>
    intro i k hi hk
    obtain ⟨k, rfl⟩ : ∃ m, k = m + 1 := ⟨k - 1, by omega⟩
    simp only [transhipmentref02_turn.l0]
    rw [if_neg (by omega), show i = n by omega]
  | succ d ih =>
    intro i k hi hk
    obtain ⟨k, rfl⟩ : ∃ m, k = m + 1 := ⟨k - 1, by omega⟩
    simp only [transhipmentref02_turn.l0]
    have ht := turns_W32 h i
    have e : (((Int.tdiv (turnsI x i) 2) % 4294967296) + (((Int.tmod (turnsI x i) 2) * 2147483648) % 4294967296)) % 4294967296 = turnsI x (i + 1) := by
      rw [turnsI, turn1, Int.tdiv_eq_ediv_of_nonneg ht.1, Int.tmod_eq_emod_of_nonneg ht.1]
      have := ht.1
      have := ht.2
      omega
    rw [if_pos (by omega), e, wid _ (by omega) (by omega)]
    exact ih (i + 1) k (by omega) (by omega)
theorem ref_turn_eq (x : Int) (h : W32 x) (n : Nat) (hn : n ≤ 32) (k : Nat) (hk : 40 < k) : transhipmentref02_turn.f k x (n : Int) = some (turnI x n) := by
  unfold transhipmentref02_turn.f
  rw [turnI_eq h n hn]
  exact ref_turn_l0 x h n hn n 0 k (by omega) (by omega)
def toL (v : Nat → Int) : List Int := [v 0, v 1, v 2, v 3, v 4, v 5, v 6, v 7]
theorem not_eq (x : Int) (h : W32 x) : notI x = (4294967295 - x) % 4294967296 := by
  unfold notI
  obtain ⟨n, rfl⟩ := Int.eq_ofNat_of_zero_le h.1
  have hn : n < 4294967296 := by have := h.2; omega
  have e : Go.bits .xor .u32 (if IntKind.u32.signed = true then -1 else IntKind.u32.max) (n : Int) = IntKind.u32.wrap (((BitVec.ofInt 32 4294967295) ^^^ (BitVec.ofInt 32 (n : Int))).toNat : Int) := rfl
  rw [e, show (BitVec.ofInt 32 4294967295) = BitVec.allOnes 32 by decide, BitVec.allOnes_xor, BitVec.toNat_not, BitVec.ofInt_natCast, BitVec.toNat_ofNat, IntKind.wrap_u32]
  omega
theorem ref_Round_eq (v : Nat → Int) (h0 : W32 (v 0)) (h4 : W32 (v 4)) (kk x : Int) (k : Nat) (hk : 40 < k) : transhipmentref02_Round.f k (toL v) kk x = some (toL (roundI v kk x)) := by
  unfold transhipmentref02_Round.f
  have e : ((toL v).length : Int) = 8 := rfl
  have r0 : rd (toL v) 0 = v 0 := rfl
  have r1 : rd (toL v) 1 = v 1 := rfl
  have r2 : rd (toL v) 2 = v 2 := rfl
  have r3 : rd (toL v) 3 = v 3 := rfl
  have r4 : rd (toL v) 4 = v 4 := rfl
  have r5 : rd (toL v) 5 = v 5 := rfl
  have r6 : rd (toL v) 6 = v 6 := rfl
  have r7 : rd (toL v) 7 = v 7 := rfl
  have t := fun (n : Nat) (hn : n ≤ 32) => ref_turn_eq (v 4) h4 n hn k hk
  have u := fun (n : Nat) (hn : n ≤ 32) => ref_turn_eq (v 0) h0 n hn k hk
  have t6 := t 6 (by decide)
  have t11 := t 11 (by decide)
  have t25 := t 25 (by decide)
  have u2 := u 2 (by decide)
  have u13 := u 13 (by decide)
  have u22 := u 22 (by decide)
  simp only [Int.cast_ofNat_Int] at t6 t11 t25 u2 u13 u22
  rw [e, r0, r1, r2, r3, r4, r5, r6, r7, ← not_eq _ h4]
  rw [t6, t11, t25, u2, u13, u22]
  simp only [Option.bind_some]
  rw [if_pos (by decide), if_pos (by decide), if_pos (by decide), if_pos (by decide), if_pos (by decide), if_pos (by decide), if_pos (by decide), if_pos (by decide)]
  simp only [← IntKind.wrap_u32]
  rfl
end Go.Proofs.YtceedgflpkaclaaDoor.P

/- The program's words behind a block, and behind all blocks, are those of the plain reference. Conditions: as each lemma says. -/
namespace Go.Proofs.YtceedgflpkaclaaDoor.P
open Go.RowKit Go.Proofs.YtceedgflpkaclaaDoorW.PrintWords Go.Proofs.YtceedgflpkaclaaDoorW.PrintLast Go.Proofs.YtceedgflpkaclaaDoorW.PrintMore

theorem wordB_W32 (s : ByteArray) (t : Nat) : ∀ n, W32 (wordB s t n)
  | 0 => by unfold wordB W32; omega
  | n + 1 => or_W32 _ _
theorem word_next (s : ByteArray) (t n : Nat) : (((256 * wordB s t n) % 4294967296) + ((bt s ((4 * t + n : Nat) : Int)) % 4294967296)) % 4294967296 = wordB s t (n + 1) := by
  have hb := bt_range s ((4 * t + n : Nat) : Int)
  have hw := wordB_W32 s t n
  rw [wordB]
  generalize bt s ((4 * t + n : Nat) : Int) = b at *
  generalize wordB s t n = x at *
  have e1 : IntKind.u32.wrap (x * 256) = x % 16777216 * 256 := by
    rw [IntKind.wrap_u32]
    omega
  have h0 : 0 ≤ x % 16777216 * 256 := by omega
  rw [e1, bits_join .u32 32 (by decide) wraps_u32 8 _ _ h0 (by omega) (by omega) (by omega) (by omega) (by omega)]
  omega
theorem ref_l1 (h ws : List Int) (s : ByteArray) (hs : s.size = 64) (t : Nat) (ht : t < 16) (hl : ws.length < 100) : ∀ (d i k : Nat), i + d = 4 →
    transhipmentref02_Block.l1 (k + d + 1) h s ws (t : Int) (wordB s t i) (i : Int) = transhipmentref02_Block.l0 k h s (ws ++ [wordB s t 4]) ((t + 1 : Nat) : Int) := by
  intro d
  induction d with
  | zero =>
    intro i k hi
    rw [Nat.add_zero, transhipmentref02_Block.l1, if_neg (by omega), if_pos (by omega), wid _ (by omega) (by omega), show i = 4 by omega]
    rfl
  | succ d ih =>
    intro i k hi
    rw [show k + (d + 1) + 1 = (k + d + 1) + 1 by omega, transhipmentref02_Block.l1]
    rw [if_pos (by omega), wid (4 * (t : Int)) (by omega) (by omega), wid (4 * (t : Int) + (i : Int)) (by omega) (by omega), if_pos (by omega), if_pos (by omega), show (4 * (t : Int) + (i : Int)) = ((4 * t + i : Nat) : Int) by omega, word_next, wid ((i : Int) + 1) (by omega) (by omega)]
    exact ih (i + 1) k (by omega)
theorem ref_l0 (h : List Int) (s : ByteArray) (hs : s.size = 64) : ∀ (d t k : Nat), t + d = 16 →
    transhipmentref02_Block.l0 (k + 6 * d + 1) h s ((List.range t).map fun j => wordB s j 4) (t : Int) = transhipmentref02_Block.l2 k h ((List.range 16).map fun j => wordB s j 4) 16 := by
  intro d
  induction d with
  | zero =>
    intro t k ht
    rw [Nat.mul_zero, Nat.add_zero, transhipmentref02_Block.l0, if_neg (by omega), show t = 16 by omega]
  | succ d ih =>
    intro t k ht
    rw [show k + 6 * (d + 1) + 1 = ((k + 6 * d + 1) + 4 + 1) + 1 by omega, transhipmentref02_Block.l0, if_pos (by omega)]
    have e := ref_l1 h ((List.range t).map fun j => wordB s j 4) s hs t (by omega) (by simp; omega) 4 0 (k + 6 * d + 1) rfl
    rw [show wordB s t 0 = 0 from rfl] at e
    rw [show (((0 : Nat) : Int)) = 0 from rfl] at e
    rw [e]
    have e2 : ((List.range t).map fun j => wordB s j 4) ++ [wordB s t 4] = (List.range (t + 1)).map fun j => wordB s j 4 := by rw [List.range_succ, List.map_append]; rfl
    rw [e2]
    exact ih (t + 1) k (by omega)
theorem spreadF_next (s : ByteArray) (n j : Nat) (hj : j < n + 16) : spreadF s (n + 1) j = spreadF s n j := by
  rw [spreadF]
  unfold upd
  rw [if_neg (by omega)]
theorem spreadF_stable (s : ByteArray) (n j : Nat) (hj : j < n + 16) : ∀ d, spreadF s (n + d) j = spreadF s n j
  | 0 => rfl
  | d + 1 => by rw [← Nat.add_assoc, spreadF_next s (n + d) j (by omega), spreadF_stable s n j hj d]
theorem spreadF_head (s : ByteArray) (t : Nat) (ht : t < 16) : spreadF s 48 t = wordB s t 4 := by
  have := spreadF_stable s 0 t (by omega) 48
  rw [Nat.zero_add] at this
  rw [this, spreadF, headF, if_pos ht]
theorem spreadF_step (s : ByteArray) (t : Nat) (h1 : 16 ≤ t) (h2 : t < 64) : spreadF s 48 t = stepW (spreadF s 48) t := by
  obtain ⟨n, hn⟩ : ∃ n, t = n + 16 := ⟨t - 16, by omega⟩
  have e1 := spreadF_stable s (n + 1) t (by omega) (48 - (n + 1))
  rw [show n + 1 + (48 - (n + 1)) = 48 by omega] at e1
  have e2 : ∀ j, j < t → spreadF s 48 j = spreadF s n j := by
    intro j hj
    have := spreadF_stable s n j (by omega) (48 - n)
    rw [show n + (48 - n) = 48 by omega] at this
    exact this
  rw [e1, spreadF]
  unfold upd
  rw [← hn, if_pos rfl]
  unfold stepW
  rw [e2 (t - 2) (by omega), e2 (t - 7) (by omega), e2 (t - 15) (by omega), e2 (t - 16) (by omega)]
theorem spreadF_W32 (s : ByteArray) (t : Nat) (ht : t < 64) : W32 (spreadF s 48 t) := by
  by_cases h : t < 16
  · rw [spreadF_head s t h]
    exact wordB_W32 s t 4
  · rw [spreadF_step s t (by omega) ht]
    exact wrap_W32 _
theorem rd_range (F : Nat → Int) (n j : Nat) (h : j < n) : rd ((List.range n).map F) (j : Int) = F j := by
  unfold rd
  rw [Int.toNat_natCast, List.getD_eq_getElem?_getD, List.getElem?_map, List.getElem?_range h]
  rfl
theorem ref_l2 (h : List Int) (s : ByteArray) : ∀ (d t k : Nat), t + d = 64 → 16 ≤ t → 60 < k →
    transhipmentref02_Block.l2 (k + d + 1) h ((List.range t).map (spreadF s 48)) (t : Int) = transhipmentref02_Block.l3 k h ((List.range 64).map (spreadF s 48)) h keysL 0 := by
  intro d
  induction d with
  | zero =>
    intro t k ht h16 hk
    rw [Nat.add_zero, transhipmentref02_Block.l2, if_neg (by omega), show t = 64 by omega]
    rfl
  | succ d ih =>
    intro t k ht h16 hk
    rw [show k + (d + 1) + 1 = (k + d + 1) + 1 by omega, transhipmentref02_Block.l2]
    have hl : (((List.range t).map (spreadF s 48)).length : Int) = (t : Int) := by simp
    have hl' : ((List.range t).map (spreadF s 48)).length = t := by simp
    rw [hl, hl', wid ((t : Int) - 15) (by omega) (by omega), wid ((t : Int) - 2) (by omega) (by omega), wid ((t : Int) - 7) (by omega) (by omega), wid ((t : Int) - 16) (by omega) (by omega), wid ((t : Int) + 1) (by omega) (by omega)]
    rw [show (t : Int) - 15 = ((t - 15 : Nat) : Int) by omega, show (t : Int) - 2 = ((t - 2 : Nat) : Int) by omega, show (t : Int) - 7 = ((t - 7 : Nat) : Int) by omega, show (t : Int) - 16 = ((t - 16 : Nat) : Int) by omega]
    rw [rd_range _ t _ (by omega), rd_range _ t _ (by omega), rd_range _ t _ (by omega), rd_range _ t _ (by omega)]
    have w2 := spreadF_W32 s (t - 2) (by omega)
    have w15 := spreadF_W32 s (t - 15) (by omega)
    have t17 := ref_turn_eq _ w2 17 (by decide) (k + d + 1) (by omega)
    have t19 := ref_turn_eq _ w2 19 (by decide) (k + d + 1) (by omega)
    have t7 := ref_turn_eq _ w15 7 (by decide) (k + d + 1) (by omega)
    have t18 := ref_turn_eq _ w15 18 (by decide) (k + d + 1) (by omega)
    simp only [Int.cast_ofNat_Int] at t17 t19 t7 t18
    rw [if_pos (by omega), if_pos (by omega), if_pos (by omega), if_pos (by omega), if_pos (by omega), t17]
    simp only [Option.bind_some]
    rw [t19]
    simp only [Option.bind_some]
    rw [if_pos (by omega), if_pos (by omega), t7]
    simp only [Option.bind_some]
    rw [t18]
    simp only [Option.bind_some]
    rw [if_pos (by omega), if_pos (by omega), if_pos (by omega)]
    have e3 : Int.tdiv (spreadF s 48 (t - 2)) 1024 % 4294967296 = spreadF s 48 (t - 2) / 1024 := by
      rw [Int.tdiv_eq_ediv_of_nonneg w2.1]
      have := w2.1
      have := w2.2
      omega
    have e4 : Int.tdiv (spreadF s 48 (t - 15)) 8 % 4294967296 = spreadF s 48 (t - 15) / 8 := by
      rw [Int.tdiv_eq_ediv_of_nonneg w15.1]
      have := w15.1
      have := w15.2
      omega
    rw [e3, e4]
    simp only [← IntKind.wrap_u32]
    have e5 : ((List.range t).map (spreadF s 48)) ++ [IntKind.u32.wrap (IntKind.u32.wrap (IntKind.u32.wrap (Go.bits .xor .u32 (Go.bits .xor .u32 (turnI (spreadF s 48 (t - 2)) 17) (turnI (spreadF s 48 (t - 2)) 19)) (spreadF s 48 (t - 2) / 1024) + spreadF s 48 (t - 7)) + Go.bits .xor .u32 (Go.bits .xor .u32 (turnI (spreadF s 48 (t - 15)) 7) (turnI (spreadF s 48 (t - 15)) 18)) (spreadF s 48 (t - 15) / 8)) + spreadF s 48 (t - 16))] = (List.range (t + 1)).map (spreadF s 48) := by
      rw [List.range_succ, List.map_append, List.map_cons, List.map_nil, spreadF_step s t h16 (by omega)]
      rfl
    rw [e5]
    exact ih (t + 1) k (by omega) (by omega) hk
theorem rounds_W32 (H : Nat → Int) (hH : ∀ j, j < 8 → W32 (H j)) (Y : Nat → Int) : ∀ t j, j < 8 → W32 (roundsI H Y t j)
  | 0, j, hj => hH j hj
  | t + 1, j, hj => by
    rw [roundsI]
    unfold roundI
    split
    · exact wrap_W32 _
    · split
      · exact wrap_W32 _
      · exact rounds_W32 H hH Y t (j - 1) (by omega)
theorem rd_nat2 (l : List Int) (t : Nat) : rd l (t : Int) = l.getD t 0 := by
  unfold rd
  rw [Int.toNat_natCast]
theorem toL_length (v : Nat → Int) : ((toL v).length : Int) = 8 := rfl
theorem ref_l3_any (L K : List Int) (Y : Nat → Int) (R : Nat → Nat → Int) (hL : (L.length : Int) = 8) (hK : (K.length : Int) = 64) (hR : ∀ t, R (t + 1) = roundI (R t) (K.getD t 0) (Y t)) (hW : ∀ t j, j < 8 → W32 (R t j)) (N : Nat) (hN : N = 64) : ∀ (d t k : Nat), t + d = N → 60 < k →
    transhipmentref02_Block.l3 (k + d + 1) L ((List.range N).map Y) (toL (R t)) K (t : Int) = transhipmentref02_Block.l4 k L (toL (R N)) [] 8 0 := by
  intro d
  induction d with
  | zero =>
    intro t k ht hk
    have e : t = N := by omega
    rw [e, Nat.add_zero, transhipmentref02_Block.l3, if_neg (by omega), hL]
  | succ d ih =>
    intro t k ht hk
    rw [show k + (d + 1) + 1 = (k + d + 1) + 1 by omega, transhipmentref02_Block.l3]
    have hl : (((List.range N).map Y).length : Int) = (N : Int) := by simp
    rw [hl, hK, if_pos (by omega), if_pos (by omega), if_pos (by omega), if_pos (by omega), rd_range Y N t (by omega)]
    rw [ref_Round_eq _ (hW t 0 (by decide)) (hW t 4 (by decide)) _ _ _ (by omega)]
    rw [Option.bind_some, wid ((t : Int) + 1) (by omega) (by omega), rd_nat2, ← hR, show ((t : Int) + 1) = ((t + 1 : Nat) : Int) by omega]
    exact ih (t + 1) k (by omega) hk
theorem ref_l3 (H : Nat → Int) (hH : ∀ j, j < 8 → W32 (H j)) (Y : Nat → Int) (k : Nat) (hk : 60 < k) :
    transhipmentref02_Block.l3 (k + 64 + 1) (toL H) ((List.range 64).map Y) (toL H) keysL 0 = transhipmentref02_Block.l4 k (toL H) (toL (roundsI H Y 64)) [] 8 0 := by
  have h := ref_l3_any (toL H) keysL Y (roundsI H Y) (toL_length H) rfl (fun t => by rw [roundsI]) (rounds_W32 H hH Y) 64 rfl 64 0 k rfl hk
  rw [show roundsI H Y 0 = H from rfl, Int.natCast_zero] at h
  exact h
theorem rd_toL (v : Nat → Int) (j : Nat) (h : j < 8) : rd (toL v) (j : Int) = v j := by
  match j, h with
  | 0, _ => rfl | 1, _ => rfl | 2, _ => rfl | 3, _ => rfl | 4, _ => rfl | 5, _ => rfl | 6, _ => rfl | 7, _ => rfl
theorem ref_l4 (H V : Nat → Int) : ∀ (d i k : Nat), i + d = 8 → d < k →
    transhipmentref02_Block.l4 k (toL H) (toL V) ((List.range i).map fun j => IntKind.u32.wrap (H j + V j)) 8 (i : Int) = some (toL fun j => IntKind.u32.wrap (H j + V j)) := by
  intro d
  induction d with
  | zero =>
    intro i k hi hk
    obtain ⟨k, rfl⟩ : ∃ m, k = m + 1 := ⟨k - 1, by omega⟩
    rw [transhipmentref02_Block.l4, if_neg (by omega), show i = 8 by omega]
    rfl
  | succ d ih =>
    intro i k hi hk
    obtain ⟨k, rfl⟩ : ∃ m, k = m + 1 := ⟨k - 1, by omega⟩
    have hl : ∀ v : Nat → Int, ((toL v).length : Int) = 8 := fun _ => rfl
    rw [transhipmentref02_Block.l4, hl, hl, if_pos (by omega), if_pos (by omega), if_pos (by omega), if_pos (by omega), if_pos (by simp; omega), rd_toL _ i (by omega), rd_toL _ i (by omega), wid ((i : Int) + 1) (by omega) (by omega), ← IntKind.wrap_u32]
    have e : ((List.range i).map fun j => IntKind.u32.wrap (H j + V j)) ++ [IntKind.u32.wrap (H i + V i)] = (List.range (i + 1)).map fun j => IntKind.u32.wrap (H j + V j) := by rw [List.range_succ, List.map_append]; rfl
    rw [e]
    exact ih (i + 1) k (by omega) (by omega)
theorem ref_Block_eq (H : Nat → Int) (hH : ∀ j, j < 8 → W32 (H j)) (s : ByteArray) (hs : s.size = 64) (k : Nat) (hk : 1000 < k) :
    transhipmentref02_Block.f k (toL H) s = some (toL fun i => IntKind.u32.wrap (H i + roundsI H (spreadF s 48) 64 i)) := by
  obtain ⟨m, rfl⟩ : ∃ m, k = ((m + 64 + 1) + 48 + 1) + 6 * 16 + 1 := ⟨k - 211, by omega⟩
  unfold transhipmentref02_Block.f
  have e0 := ref_l0 (toL H) s hs 16 0 ((m + 64 + 1) + 48 + 1) rfl
  rw [show ((List.range 0).map fun j => wordB s j 4) = [] from rfl, show (((0 : Nat) : Int)) = 0 from rfl] at e0
  rw [e0]
  have e1 : ((List.range 16).map fun j => wordB s j 4) = (List.range 16).map (spreadF s 48) := by
    apply List.map_congr_left
    intro j hj
    rw [spreadF_head s j (List.mem_range.1 hj)]
  have e2 := ref_l2 (toL H) s 48 16 (m + 64 + 1) rfl (by decide) (by omega)
  rw [show (((16 : Nat) : Int)) = 16 from rfl] at e2
  rw [e1, e2]
  rw [ref_l3 H hH (spreadF s 48) m (by omega)]
  generalize roundsI H (spreadF s 48) 64 = V
  have e4 := ref_l4 H V 8 0 m rfl (by omega)
  exact e4
theorem first_W32 (j : Nat) (h : j < 8) : W32 (firstF j) := by
  unfold W32
  match j, h with
  | 0, _ => decide | 1, _ => decide | 2, _ => decide | 3, _ => decide | 4, _ => decide | 5, _ => decide | 6, _ => decide | 7, _ => decide
theorem blocks_W32 (P : ByteArray) : ∀ t j, j < 8 → W32 (blocksF P t j)
  | 0, j, hj => first_W32 j hj
  | _ + 1, _, _ => wrap_W32 _
theorem cut_bytes (P : ByteArray) (a b : Nat) : strOfNums (((bytesOf P).take b).drop a) = P.extract a b := by
  apply ByteArray.ext
  apply Array.ext'
  rw [strOfNums_data, ByteArray.data_extract, Array.toList_extract, List.extract_eq_take_drop]
  unfold bytesOf
  rw [← List.map_take, ← List.map_drop, List.map_map, List.drop_take]
  have : ((fun n : Int => UInt8.ofNat n.toNat) ∘ fun b : UInt8 => (b.toNat : Int)) = id := by
    funext x
    simp
  rw [this, List.map_id]
theorem blocksGo_eq (P : ByteArray) (N : Nat) (hP : P.size = 64 * N) (k : Nat) (hk : 1000 < k) : ∀ (d t : Nat), t + d = N → blocksGo k (bytesOf P) d t (toL (blocksF P t)) = some (toL (blocksF P N))
  | 0, t, ht => by rw [blocksGo, show t = N by omega]
  | d + 1, t, ht => by
    rw [blocksGo, cut_bytes, ref_Block_eq (blocksF P t) (blocks_W32 P t) _ (by rw [ByteArray.size_extract]; omega) k hk]
    simp only [Option.bind_some]
    exact blocksGo_eq P N hP k hk d (t + 1) (by omega)
theorem bytesOf_append (a b : ByteArray) : bytesOf (a ++ b) = bytesOf a ++ bytesOf b := by
  unfold bytesOf
  rw [ByteArray.data_append, Array.toList_append, List.map_append]
theorem repeat_list (c : Nat) : Lib.repeatL [0] c = List.replicate c 0 := by
  induction c with
  | zero => rfl
  | succ c ih => rw [Lib.repeatL, ih, List.replicate_succ]; rfl
theorem bytesOf_head (s : ByteArray) : bytesOf (headT s) = padL s (padZ s.size) := by
  unfold headT padL
  rw [bytesOf_append, bytesOf_append]
  congr 1
  have e : (⟨#[0]⟩ : ByteArray).data.toList = [0] := rfl
  rw [e, repeat_list]
  simp [bytesOf]
theorem bytesOf_one (x : Int) : bytesOf (strOfNums [x % 256]) = [x % 256] := by
  have h0 := Int.emod_nonneg x (b := 256) (by decide)
  have h1 := Int.emod_lt_of_pos x (b := 256) (by decide)
  unfold bytesOf
  rw [strOfNums_data]
  simp
  omega
theorem pw_two : ∀ q, q < 8 → pw q = 2 ^ (56 - 8 * q) := by decide
theorem bytesOf_acc (U : ByteArray) (n : Nat) : ∀ j, j ≤ 8 → bytesOf (accT U n j) = bytesOf U ++ lenB n j
  | 0, _ => by rw [accT, lenB, List.append_nil]
  | j + 1, hj => by
    rw [accT, bytesOf_append, bytesOf_acc U n j (by omega), lenB, List.append_assoc, bytesOf_one, pw_two j (by omega)]
theorem bytesOf_sum (s : ByteArray) : bytesOf (sumP s) = sumBytes s := by
  unfold sumP sumBytes
  rw [bytesOf_acc _ _ 8 (by decide), bytesOf_head]
theorem out4_in4 (x : Int) (h : W32 x) : (out4 x).map (fun n : Int => UInt8.ofNat n.toNat) = in4 x 4 := by
  unfold out4
  rw [Int.tdiv_eq_ediv_of_nonneg h.1, Int.tdiv_eq_ediv_of_nonneg h.1, Int.tdiv_eq_ediv_of_nonneg h.1, Int.tmod_eq_emod_of_nonneg h.1]
  simp [in4]
theorem outL_outB (v : Nat → Int) (hv : ∀ j, j < 8 → W32 (v j)) : strOfNums (outL (toL v)) = ⟨(outB v 8).toArray⟩ := by
  unfold strOfNums
  congr 2
  simp only [outL, toL, List.flatMap_cons, List.flatMap_nil, List.map_append, List.append_nil]
  rw [out4_in4 _ (hv 0 (by decide)), out4_in4 _ (hv 1 (by decide)), out4_in4 _ (hv 2 (by decide)), out4_in4 _ (hv 3 (by decide)), out4_in4 _ (hv 4 (by decide)), out4_in4 _ (hv 5 (by decide)), out4_in4 _ (hv 6 (by decide)), out4_in4 _ (hv 7 (by decide))]
  simp only [outB, List.nil_append, List.append_assoc]
theorem ref_Sum_eq (s : ByteArray) (hs : s.size ≤ 70368744177664) (k : Nat) (hk : 1000 < k) : transhipmentref02_Sum.f k s = some (sumV s) := by
  unfold transhipmentref02_Sum.f
  rw [if_pos hs]
  have hb := bytesOf_sum s
  have hl := sumBytes_length s
  have hz : (sumP s).size = 64 * ((s.size + 9 + padZ s.size) / 64) := by rw [← bytesOf_length, hb, hl]
  obtain ⟨N, hN⟩ : ∃ N, (s.size + 9 + padZ s.size) / 64 = N := ⟨_, rfl⟩
  rw [hN] at hz ⊢
  have e := blocksGo_eq (sumP s) N hz k hk N 0 (by omega)
  rw [hb, show toL (blocksF (sumP s) 0) = firstW from rfl] at e
  rw [e]
  simp only [Option.bind_some]
  rw [if_pos (by rfl), outL_outB _ (blocks_W32 _ N)]
  unfold sumV
  rw [hz, show 64 * N / 64 = N by omega]
end Go.Proofs.YtceedgflpkaclaaDoor.P

/- Cube roots of primes, as the plain reference works them out. Conditions: none. -/
namespace Go.Proofs.YtceedgflpkaclaaDoor.P
open Go.RowKit Go.Proofs.YtceedgflpkaclaaDoorW.PrintWords Go.Proofs.YtceedgflpkaclaaDoorW.PrintLast Go.Proofs.YtceedgflpkaclaaDoorW.PrintMore

set_option maxRecDepth 1000000 in
theorem root_2 : transhipmentref02_root.f 1000 2 3 = some 1116352408 := by decide +kernel
set_option maxRecDepth 1000000 in
theorem root_3 : transhipmentref02_root.f 1000 3 3 = some 1899447441 := by decide +kernel
set_option maxRecDepth 1000000 in
theorem root_5 : transhipmentref02_root.f 1000 5 3 = some 3049323471 := by decide +kernel
set_option maxRecDepth 1000000 in
theorem root_7 : transhipmentref02_root.f 1000 7 3 = some 3921009573 := by decide +kernel
set_option maxRecDepth 1000000 in
theorem root_11 : transhipmentref02_root.f 1000 11 3 = some 961987163 := by decide +kernel
set_option maxRecDepth 1000000 in
theorem root_13 : transhipmentref02_root.f 1000 13 3 = some 1508970993 := by decide +kernel
set_option maxRecDepth 1000000 in
theorem root_17 : transhipmentref02_root.f 1000 17 3 = some 2453635748 := by decide +kernel
set_option maxRecDepth 1000000 in
theorem root_19 : transhipmentref02_root.f 1000 19 3 = some 2870763221 := by decide +kernel
set_option maxRecDepth 1000000 in
theorem root_23 : transhipmentref02_root.f 1000 23 3 = some 3624381080 := by decide +kernel
set_option maxRecDepth 1000000 in
theorem root_29 : transhipmentref02_root.f 1000 29 3 = some 310598401 := by decide +kernel
set_option maxRecDepth 1000000 in
theorem root_31 : transhipmentref02_root.f 1000 31 3 = some 607225278 := by decide +kernel
set_option maxRecDepth 1000000 in
theorem root_37 : transhipmentref02_root.f 1000 37 3 = some 1426881987 := by decide +kernel
set_option maxRecDepth 1000000 in
theorem root_41 : transhipmentref02_root.f 1000 41 3 = some 1925078388 := by decide +kernel
set_option maxRecDepth 1000000 in
theorem root_43 : transhipmentref02_root.f 1000 43 3 = some 2162078206 := by decide +kernel
set_option maxRecDepth 1000000 in
theorem root_47 : transhipmentref02_root.f 1000 47 3 = some 2614888103 := by decide +kernel
set_option maxRecDepth 1000000 in
theorem root_53 : transhipmentref02_root.f 1000 53 3 = some 3248222580 := by decide +kernel
set_option maxRecDepth 1000000 in
theorem root_59 : transhipmentref02_root.f 1000 59 3 = some 3835390401 := by decide +kernel
set_option maxRecDepth 1000000 in
theorem root_61 : transhipmentref02_root.f 1000 61 3 = some 4022224774 := by decide +kernel
set_option maxRecDepth 1000000 in
theorem root_67 : transhipmentref02_root.f 1000 67 3 = some 264347078 := by decide +kernel
set_option maxRecDepth 1000000 in
theorem root_71 : transhipmentref02_root.f 1000 71 3 = some 604807628 := by decide +kernel
set_option maxRecDepth 1000000 in
theorem root_73 : transhipmentref02_root.f 1000 73 3 = some 770255983 := by decide +kernel
set_option maxRecDepth 1000000 in
theorem root_79 : transhipmentref02_root.f 1000 79 3 = some 1249150122 := by decide +kernel
set_option maxRecDepth 1000000 in
theorem root_83 : transhipmentref02_root.f 1000 83 3 = some 1555081692 := by decide +kernel
set_option maxRecDepth 1000000 in
theorem root_89 : transhipmentref02_root.f 1000 89 3 = some 1996064986 := by decide +kernel
set_option maxRecDepth 1000000 in
theorem root_97 : transhipmentref02_root.f 1000 97 3 = some 2554220882 := by decide +kernel
set_option maxRecDepth 1000000 in
theorem root_101 : transhipmentref02_root.f 1000 101 3 = some 2821834349 := by decide +kernel
set_option maxRecDepth 1000000 in
theorem root_103 : transhipmentref02_root.f 1000 103 3 = some 2952996808 := by decide +kernel
set_option maxRecDepth 1000000 in
theorem root_107 : transhipmentref02_root.f 1000 107 3 = some 3210313671 := by decide +kernel
set_option maxRecDepth 1000000 in
theorem root_109 : transhipmentref02_root.f 1000 109 3 = some 3336571891 := by decide +kernel
set_option maxRecDepth 1000000 in
theorem root_113 : transhipmentref02_root.f 1000 113 3 = some 3584528711 := by decide +kernel
set_option maxRecDepth 1000000 in
theorem root_127 : transhipmentref02_root.f 1000 127 3 = some 113926993 := by decide +kernel
set_option maxRecDepth 1000000 in
theorem root_131 : transhipmentref02_root.f 1000 131 3 = some 338241895 := by decide +kernel
end Go.Proofs.YtceedgflpkaclaaDoor.P

/- Cube roots of primes, as the plain reference works them out. Conditions: none. -/
namespace Go.Proofs.YtceedgflpkaclaaDoor.P
open Go.RowKit Go.Proofs.YtceedgflpkaclaaDoorW.PrintWords Go.Proofs.YtceedgflpkaclaaDoorW.PrintLast Go.Proofs.YtceedgflpkaclaaDoorW.PrintMore

set_option maxRecDepth 1000000 in
theorem root_137 : transhipmentref02_root.f 1000 137 3 = some 666307205 := by decide +kernel
set_option maxRecDepth 1000000 in
theorem root_139 : transhipmentref02_root.f 1000 139 3 = some 773529912 := by decide +kernel
set_option maxRecDepth 1000000 in
theorem root_149 : transhipmentref02_root.f 1000 149 3 = some 1294757372 := by decide +kernel
set_option maxRecDepth 1000000 in
theorem root_151 : transhipmentref02_root.f 1000 151 3 = some 1396182291 := by decide +kernel
set_option maxRecDepth 1000000 in
theorem root_157 : transhipmentref02_root.f 1000 157 3 = some 1695183700 := by decide +kernel
set_option maxRecDepth 1000000 in
theorem root_163 : transhipmentref02_root.f 1000 163 3 = some 1986661051 := by decide +kernel
set_option maxRecDepth 1000000 in
theorem root_167 : transhipmentref02_root.f 1000 167 3 = some 2177026350 := by decide +kernel
set_option maxRecDepth 1000000 in
theorem root_173 : transhipmentref02_root.f 1000 173 3 = some 2456956037 := by decide +kernel
set_option maxRecDepth 1000000 in
theorem root_179 : transhipmentref02_root.f 1000 179 3 = some 2730485921 := by decide +kernel
set_option maxRecDepth 1000000 in
theorem root_181 : transhipmentref02_root.f 1000 181 3 = some 2820302411 := by decide +kernel
set_option maxRecDepth 1000000 in
theorem root_191 : transhipmentref02_root.f 1000 191 3 = some 3259730800 := by decide +kernel
set_option maxRecDepth 1000000 in
theorem root_193 : transhipmentref02_root.f 1000 193 3 = some 3345764771 := by decide +kernel
set_option maxRecDepth 1000000 in
theorem root_197 : transhipmentref02_root.f 1000 197 3 = some 3516065817 := by decide +kernel
set_option maxRecDepth 1000000 in
theorem root_199 : transhipmentref02_root.f 1000 199 3 = some 3600352804 := by decide +kernel
set_option maxRecDepth 1000000 in
theorem root_211 : transhipmentref02_root.f 1000 211 3 = some 4094571909 := by decide +kernel
set_option maxRecDepth 1000000 in
theorem root_223 : transhipmentref02_root.f 1000 223 3 = some 275423344 := by decide +kernel
set_option maxRecDepth 1000000 in
theorem root_227 : transhipmentref02_root.f 1000 227 3 = some 430227734 := by decide +kernel
set_option maxRecDepth 1000000 in
theorem root_229 : transhipmentref02_root.f 1000 229 3 = some 506948616 := by decide +kernel
set_option maxRecDepth 1000000 in
theorem root_233 : transhipmentref02_root.f 1000 233 3 = some 659060556 := by decide +kernel
set_option maxRecDepth 1000000 in
theorem root_239 : transhipmentref02_root.f 1000 239 3 = some 883997877 := by decide +kernel
set_option maxRecDepth 1000000 in
theorem root_241 : transhipmentref02_root.f 1000 241 3 = some 958139571 := by decide +kernel
set_option maxRecDepth 1000000 in
theorem root_251 : transhipmentref02_root.f 1000 251 3 = some 1322822218 := by decide +kernel
set_option maxRecDepth 1000000 in
theorem root_257 : transhipmentref02_root.f 1000 257 3 = some 1537002063 := by decide +kernel
set_option maxRecDepth 1000000 in
theorem root_263 : transhipmentref02_root.f 1000 263 3 = some 1747873779 := by decide +kernel
set_option maxRecDepth 1000000 in
theorem root_269 : transhipmentref02_root.f 1000 269 3 = some 1955562222 := by decide +kernel
set_option maxRecDepth 1000000 in
theorem root_271 : transhipmentref02_root.f 1000 271 3 = some 2024104815 := by decide +kernel
set_option maxRecDepth 1000000 in
theorem root_277 : transhipmentref02_root.f 1000 277 3 = some 2227730452 := by decide +kernel
set_option maxRecDepth 1000000 in
theorem root_281 : transhipmentref02_root.f 1000 281 3 = some 2361852424 := by decide +kernel
set_option maxRecDepth 1000000 in
theorem root_283 : transhipmentref02_root.f 1000 283 3 = some 2428436474 := by decide +kernel
set_option maxRecDepth 1000000 in
theorem root_293 : transhipmentref02_root.f 1000 293 3 = some 2756734187 := by decide +kernel
set_option maxRecDepth 1000000 in
theorem root_307 : transhipmentref02_root.f 1000 307 3 = some 3204031479 := by decide +kernel
set_option maxRecDepth 1000000 in
theorem root_311 : transhipmentref02_root.f 1000 311 3 = some 3329325298 := by decide +kernel
end Go.Proofs.YtceedgflpkaclaaDoor.P

/- The constants are made of roots. Conditions: none. -/
namespace Go.Proofs.YtceedgflpkaclaaDoor.P
open Go.RowKit Go.Proofs.YtceedgflpkaclaaDoorW.PrintWords Go.Proofs.YtceedgflpkaclaaDoorW.PrintLast Go.Proofs.YtceedgflpkaclaaDoorW.PrintMore

def keysW : List Int := [1116352408, 1899447441, 3049323471, 3921009573, 961987163, 1508970993, 2453635748, 2870763221, 3624381080, 310598401, 607225278, 1426881987, 1925078388, 2162078206, 2614888103, 3248222580, 3835390401, 4022224774, 264347078, 604807628, 770255983, 1249150122, 1555081692, 1996064986, 2554220882, 2821834349, 2952996808, 3210313671, 3336571891, 3584528711, 113926993, 338241895, 666307205, 773529912, 1294757372, 1396182291, 1695183700, 1986661051, 2177026350, 2456956037, 2730485921, 2820302411, 3259730800, 3345764771, 3516065817, 3600352804, 4094571909, 275423344, 430227734, 506948616, 659060556, 883997877, 958139571, 1322822218, 1537002063, 1747873779, 1955562222, 2024104815, 2227730452, 2361852424, 2428436474, 2756734187, 3204031479, 3329325298]
def primesW : List Int := [2, 3, 5, 7, 11, 13, 17, 19, 23, 29, 31, 37, 41, 43, 47, 53, 59, 61, 67, 71, 73, 79, 83, 89, 97, 101, 103, 107, 109, 113, 127, 131, 137, 139, 149, 151, 157, 163, 167, 173, 179, 181, 191, 193, 197, 199, 211, 223, 227, 229, 233, 239, 241, 251, 257, 263, 269, 271, 277, 281, 283, 293, 307, 311]
set_option maxRecDepth 1000000 in
theorem primes_64 : transhipmentref02_primes.f 20000 64 = some primesW := by decide +kernel
set_option maxRecDepth 1000000 in
theorem roots_8 : transhipmentref02_Roots.f 20000 8 2 = some [1779033703, 3144134277, 1013904242, 2773480762, 1359893119, 2600822924, 528734635, 1541459225] := by decide +kernel
set_option maxRecDepth 1000000 in
theorem same_keys : transhipmentref02_Same.f 20000 keysW keysW = some true := by decide +kernel
set_option maxRecDepth 1000000 in
theorem same_first : transhipmentref02_Same.f 20000 [1779033703, 3144134277, 1013904242, 2773480762, 1359893119, 2600822924, 528734635, 1541459225] [1779033703, 3144134277, 1013904242, 2773480762, 1359893119, 2600822924, 528734635, 1541459225] = some true := by decide +kernel
theorem root_more (p n K : Int) (h : transhipmentref02_root.f 1000 p n = some K) : ∀ d, transhipmentref02_root.f (1000 + d) p n = some K
  | 0 => h
  | d + 1 => transhipmentref02_root.mono _ _ _ _ (root_more p n K h d)
theorem root_at (i : Nat) (h : i < 64) : transhipmentref02_root.f 1000 (primesW.getD i 0) 3 = some (keysW.getD i 0) := by
  match i, h with
  | 0, _ => exact root_2
  | 1, _ => exact root_3
  | 2, _ => exact root_5
  | 3, _ => exact root_7
  | 4, _ => exact root_11
  | 5, _ => exact root_13
  | 6, _ => exact root_17
  | 7, _ => exact root_19
  | 8, _ => exact root_23
  | 9, _ => exact root_29
  | 10, _ => exact root_31
  | 11, _ => exact root_37
  | 12, _ => exact root_41
  | 13, _ => exact root_43
  | 14, _ => exact root_47
  | 15, _ => exact root_53
  | 16, _ => exact root_59
  | 17, _ => exact root_61
  | 18, _ => exact root_67
  | 19, _ => exact root_71
  | 20, _ => exact root_73
  | 21, _ => exact root_79
  | 22, _ => exact root_83
  | 23, _ => exact root_89
  | 24, _ => exact root_97
  | 25, _ => exact root_101
  | 26, _ => exact root_103
  | 27, _ => exact root_107
  | 28, _ => exact root_109
  | 29, _ => exact root_113
  | 30, _ => exact root_127
  | 31, _ => exact root_131
  | 32, _ => exact root_137
  | 33, _ => exact root_139
  | 34, _ => exact root_149
  | 35, _ => exact root_151
  | 36, _ => exact root_157
  | 37, _ => exact root_163
  | 38, _ => exact root_167
  | 39, _ => exact root_173
  | 40, _ => exact root_179
  | 41, _ => exact root_181
  | 42, _ => exact root_191
  | 43, _ => exact root_193
  | 44, _ => exact root_197
  | 45, _ => exact root_199
  | 46, _ => exact root_211
  | 47, _ => exact root_223
  | 48, _ => exact root_227
  | 49, _ => exact root_229
  | 50, _ => exact root_233
  | 51, _ => exact root_239
  | 52, _ => exact root_241
  | 53, _ => exact root_251
  | 54, _ => exact root_257
  | 55, _ => exact root_263
  | 56, _ => exact root_269
  | 57, _ => exact root_271
  | 58, _ => exact root_277
  | 59, _ => exact root_281
  | 60, _ => exact root_283
  | 61, _ => exact root_293
  | 62, _ => exact root_307
  | 63, _ => exact root_311
  | i + 64, h => omega
theorem roots_l0 (PS KS : List Int) (N : Nat) (hN : N ≤ 1000) (hp : PS.length = N) (hk : KS.length = N) (hr : ∀ i, i < N → transhipmentref02_root.f 1000 (PS.getD i 0) 3 = some (KS.getD i 0)) : ∀ (d i k : Nat), i + d = N → d + 2000 < k →
    transhipmentref02_Roots.l0 k 3 (KS.take i) PS (N : Int) (i : Int) = some KS := by
  intro d
  induction d with
  | zero =>
    intro i k hi hk2
    obtain ⟨k, rfl⟩ : ∃ m, k = m + 1 := ⟨k - 1, by omega⟩
    rw [transhipmentref02_Roots.l0, if_neg (by omega), List.take_of_length_le (by omega)]
  | succ d ih =>
    intro i k hi hk2
    obtain ⟨k, rfl⟩ : ∃ m, k = 1000 + m + 1 := ⟨k - 1001, by omega⟩
    have hl : (PS.length : Int) = (N : Int) := by rw [hp]
    have e : rd PS (i : Int) = PS.getD i 0 := by
      unfold rd
      rw [Int.toNat_natCast]
    rw [transhipmentref02_Roots.l0, hl, if_pos (by omega), if_pos (by omega), if_pos (by omega), e, root_more _ _ _ (hr i (by omega)) k, Option.bind_some, if_pos (by rw [List.length_take]; omega)]
    have e2 : KS.take i ++ [KS.getD i 0] = KS.take (i + 1) := by
      rw [List.take_succ_eq_append_getElem (by omega), List.getD_eq_getElem?_getD, List.getElem?_eq_getElem (by omega)]
      rfl
    rw [e2, show wrap64 ((i : Int) + 1) = ((i + 1 : Nat) : Int) by unfold wrap64; omega]
    exact ih (i + 1) (1000 + k) (by omega) (by omega)
theorem roots_64 : transhipmentref02_Roots.f 20000 64 3 = some keysW := by
  unfold transhipmentref02_Roots.f
  rw [primes_64, Option.bind_some]
  exact roots_l0 primesW keysW 64 (by decide) rfl rfl root_at 64 0 20000 rfl (by decide)
end Go.Proofs.YtceedgflpkaclaaDoor.P
