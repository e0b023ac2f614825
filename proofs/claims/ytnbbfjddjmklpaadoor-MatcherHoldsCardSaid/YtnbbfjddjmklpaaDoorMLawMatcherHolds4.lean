/- What these functions of the program and of the plain reference compute, and plain lemmas on it: Pref04Word, MatcherLaw1, StringsJoin. Conditions: as each lemma says. -/
import Derived.Test.YtnbbfjddjmklpaaDoorMLawMatcherHolds0
import Derived.Test.YtnbbfjddjmklpaaDoorMLawMatcherHolds1
import Derived.Test.YtnbbfjddjmklpaaDoorMLawMatcherHolds3
/- What one function of the program computes, as a Lean function, and a proof that its call comes to just that. Conditions: none. Written by wip/ownprint.py. -/
namespace Go.Proofs.YtnbbfjddjmklpaaDoor.P
open Go.RowKit Go.Proofs.YtnbbfjddjmklpaaDoorW.PrintWords Go.Proofs.YtnbbfjddjmklpaaDoorW.PrintLast Go.Proofs.YtnbbfjddjmklpaaDoorW.PrintMore
attribute [local go_sem] max2_int min2_int max_two min_two max_three min_three max_four min_four   -- for this text's walks alone
set_option linter.unusedVariables false
set_option linter.unusedSimpArgs false

def transhipmentref04_Word.l0:Nat→ByteArray→Int→Option (Bool)
 | 0,_,_=>none
 | k+1,x0,x3=>if x3<(x0.size:Int) then (if 0≤x3 then (if (bt x0 x3)≥97 then (if (bt x0 x3)≤122 then (transhipmentref04_Word.l0 k x0 (wrap64 (x3+1))) else (if (bt x0 x3)≥65 then (if (bt x0 x3)≤90 then (transhipmentref04_Word.l0 k x0 (wrap64 (x3+1))) else (if (bt x0 x3)≥48 then (if ((bt x0 x3)≤57) then (transhipmentref04_Word.l0 k x0 (wrap64 (x3+1))) else (if (bt x0 x3)=95 then (transhipmentref04_Word.l0 k x0 (wrap64 (x3+1))) else (if (bt x0 x3)=45 then (transhipmentref04_Word.l0 k x0 (wrap64 (x3+1))) else (if (bt x0 x3)=46 then (transhipmentref04_Word.l0 k x0 (wrap64 (x3+1))) else (if (bt x0 x3)=47 then (transhipmentref04_Word.l0 k x0 (wrap64 (x3+1))) else (if (bt x0 x3)=58 then (transhipmentref04_Word.l0 k x0 (wrap64 (x3+1))) else (some false))))))) else (if (bt x0 x3)=95 then (transhipmentref04_Word.l0 k x0 (wrap64 (x3+1))) else (if (bt x0 x3)=45 then (transhipmentref04_Word.l0 k x0 (wrap64 (x3+1))) else (if (bt x0 x3)=46 then (transhipmentref04_Word.l0 k x0 (wrap64 (x3+1))) else (if (bt x0 x3)=47 then (transhipmentref04_Word.l0 k x0 (wrap64 (x3+1))) else (if (bt x0 x3)=58 then (transhipmentref04_Word.l0 k x0 (wrap64 (x3+1))) else (some false)))))))) else (if (bt x0 x3)≥48 then (if ((bt x0 x3)≤57) then (transhipmentref04_Word.l0 k x0 (wrap64 (x3+1))) else (if (bt x0 x3)=95 then (transhipmentref04_Word.l0 k x0 (wrap64 (x3+1))) else (if (bt x0 x3)=45 then (transhipmentref04_Word.l0 k x0 (wrap64 (x3+1))) else (if (bt x0 x3)=46 then (transhipmentref04_Word.l0 k x0 (wrap64 (x3+1))) else (if (bt x0 x3)=47 then (transhipmentref04_Word.l0 k x0 (wrap64 (x3+1))) else (if (bt x0 x3)=58 then (transhipmentref04_Word.l0 k x0 (wrap64 (x3+1))) else (some false))))))) else (if (bt x0 x3)=95 then (transhipmentref04_Word.l0 k x0 (wrap64 (x3+1))) else (if (bt x0 x3)=45 then (transhipmentref04_Word.l0 k x0 (wrap64 (x3+1))) else (if (bt x0 x3)=46 then (transhipmentref04_Word.l0 k x0 (wrap64 (x3+1))) else (if (bt x0 x3)=47 then (transhipmentref04_Word.l0 k x0 (wrap64 (x3+1))) else (if (bt x0 x3)=58 then (transhipmentref04_Word.l0 k x0 (wrap64 (x3+1))) else (some false))))))))) else (if (bt x0 x3)≥65 then (if (bt x0 x3)≤90 then (transhipmentref04_Word.l0 k x0 (wrap64 (x3+1))) else (if (bt x0 x3)≥48 then (if ((bt x0 x3)≤57) then (transhipmentref04_Word.l0 k x0 (wrap64 (x3+1))) else (if (bt x0 x3)=95 then (transhipmentref04_Word.l0 k x0 (wrap64 (x3+1))) else (if (bt x0 x3)=45 then (transhipmentref04_Word.l0 k x0 (wrap64 (x3+1))) else (if (bt x0 x3)=46 then (transhipmentref04_Word.l0 k x0 (wrap64 (x3+1))) else (if (bt x0 x3)=47 then (transhipmentref04_Word.l0 k x0 (wrap64 (x3+1))) else (if (bt x0 x3)=58 then (transhipmentref04_Word.l0 k x0 (wrap64 (x3+1))) else (some false))))))) else (if (bt x0 x3)=95 then (transhipmentref04_Word.l0 k x0 (wrap64 (x3+1))) else (if (bt x0 x3)=45 then (transhipmentref04_Word.l0 k x0 (wrap64 (x3+1))) else (if (bt x0 x3)=46 then (transhipmentref04_Word.l0 k x0 (wrap64 (x3+1))) else (if (bt x0 x3)=47 then (transhipmentref04_Word.l0 k x0 (wrap64 (x3+1))) else (if (bt x0 x3)=58 then (transhipmentref04_Word.l0 k x0 (wrap64 (x3+1))) else (some false)))))))) else (if (bt x0 x3)≥48 then (if ((bt x0 x3)≤57) then (transhipmentref04_Word.l0 k x0 (wrap64 (x3+1))) else (if (bt x0 x3)=95 then (transhipmentref04_Word.l0 k x0 (wrap64 (x3+1))) else (if (bt x0 x3)=45 then (transhipmentref04_Word.l0 k x0 (wrap64 (x3+1))) else (if (bt x0 x3)=46 then (transhipmentref04_Word.l0 k x0 (wrap64 (x3+1))) else (if (bt x0 x3)=47 then (transhipmentref04_Word.l0 k x0 (wrap64 (x3+1))) else (if (bt x0 x3)=58 then (transhipmentref04_Word.l0 k x0 (wrap64 (x3+1))) else (some false))))))) else (if (bt x0 x3)=95 then (transhipmentref04_Word.l0 k x0 (wrap64 (x3+1))) else (if (bt x0 x3)=45 then (transhipmentref04_Word.l0 k x0 (wrap64 (x3+1))) else (if (bt x0 x3)=46 then (transhipmentref04_Word.l0 k x0 (wrap64 (x3+1))) else (if (bt x0 x3)=47 then (transhipmentref04_Word.l0 k x0 (wrap64 (x3+1))) else (if (bt x0 x3)=58 then (transhipmentref04_Word.l0 k x0 (wrap64 (x3+1))) else (some false))))))))) else (none)) else (some (decide ((x0.size:Int)≤64)))
def transhipmentref04_Word.f (k:Nat) (a0:ByteArray):Option (Bool):=transhipmentref04_Word.l0 k a0 0
set_option maxHeartbeats 8000000 in
set_option maxRecDepth 100000 in
theorem transhipmentref04_Word.calls (k:Nat) (a0:ByteArray) (r:Bool) (w:World) (h:transhipmentref04_Word.f k a0=some r) :
  Calls Tryd.prog 31 #[.string a0] w fun e w'=>e=.returned (.bool r)∧Drawn0 w w':=by
 have H:(transhipmentref04_Word.l0 k a0 0)=some r:=h
 clear h
 have H':=Aside0.mk H
 clear H
 go_enter Tryd.func31,Tryd.ntmps31
 go_wp2
 go_loopg [3] k (fun kq v3 w'=>∃ (x3_1:Int),v3=.int .i64 x3_1∧Aside0 (transhipmentref04_Word.l0 kq a0 x3_1=some r)∧Aside0 (kq≤k)∧Drawn0 w w')
 case atStart=>exact ⟨(0),(by first|rfl|(simp;done)|(simp [*];done)),H',⟨Nat.le_refl _⟩,by repeat (first|exact Drawn0.refl _|apply Drawn0.step)⟩
 case round =>
  clear H'
  obtain ⟨x3_1,rfl,HA,HK1,⟨m1,rfl⟩⟩:=hrel
  cases gk with
  | zero=>exact absurd HA.out (by simp [transhipmentref04_Word.l0])
  | succ k1 =>
   have H:=HA.out
   clear HA
   simp only [transhipmentref04_Word.l0] at H
   by_cases c2:x3_1<(a0.size:Int)
   ·rw [if_pos c2] at H
    have c2b0:decide (x3_1<(a0.size:Int))=true:=decide_eq_true c2
    clear c2
    by_cases c3:0≤x3_1
    ·rw [if_pos c3] at H
     have c3b0:decide (0≤x3_1)=true:=decide_eq_true c3
     clear c3
     by_cases c5:(bt a0 x3_1)≥97
     ·rw [if_pos c5] at H
      have c5b0:decide (97≤(bt a0 x3_1))=true:=decide_eq_true c5
      clear c5
      by_cases c6:(bt a0 x3_1)≤122
      ·rw [if_pos c6] at H
       have c6b0:decide ((bt a0 x3_1)≤122)=true:=decide_eq_true c6
       clear c6
       have H':=Aside0.mk H
       clear H
       have p4:0≤(x3_1:Int):=of_decide_eq_true (by first|(with_reducible assumption)|assumption)
       have q4:x3_1<(a0.size:Int):=of_decide_eq_true (by first|(with_reducible assumption)|assumption)
       have hx4:=bt_at a0 x3_1
       replace p4:=eq_true p4
       replace q4:=eq_true q4
       go_wp2
       go_roundg k1
       case measure=>have:=HK1.out;omega
       case rel=>exact ⟨(wrap64 (x3_1+1)),(by first|rfl|(simp;done)|(simp [*];done)),H',⟨by have:=HK1.out;omega⟩,by repeat (first|exact Drawn0.refl _|apply Drawn0.step)⟩
      ·rw [if_neg c6] at H
       have c6b0:decide ((bt a0 x3_1)≤122)=false:=decide_eq_false c6
       clear c6
       by_cases c7:(bt a0 x3_1)≥65
       ·rw [if_pos c7] at H
        have c7b0:decide (65≤(bt a0 x3_1))=true:=decide_eq_true c7
        clear c7
        by_cases c8:(bt a0 x3_1)≤90
        ·rw [if_pos c8] at H
         have c8b0:decide ((bt a0 x3_1)≤90)=true:=decide_eq_true c8
         clear c8
         have H':=Aside0.mk H
         clear H
         have p4:0≤(x3_1:Int):=of_decide_eq_true (by first|(with_reducible assumption)|assumption)
         have q4:x3_1<(a0.size:Int):=of_decide_eq_true (by first|(with_reducible assumption)|assumption)
         have hx4:=bt_at a0 x3_1
         replace p4:=eq_true p4
         replace q4:=eq_true q4
         go_wp2
         go_roundg k1
         case measure=>have:=HK1.out;omega
         case rel=>exact ⟨(wrap64 (x3_1+1)),(by first|rfl|(simp;done)|(simp [*];done)),H',⟨by have:=HK1.out;omega⟩,by repeat (first|exact Drawn0.refl _|apply Drawn0.step)⟩
        ·rw [if_neg c8] at H
         have c8b0:decide ((bt a0 x3_1)≤90)=false:=decide_eq_false c8
         clear c8
         by_cases c9:(bt a0 x3_1)≥48
         ·rw [if_pos c9] at H
          have c9b0:decide (48≤(bt a0 x3_1))=true:=decide_eq_true c9
          clear c9
          by_cases c10:((bt a0 x3_1)≤57)
          ·rw [if_pos c10] at H
           have c10b0:decide ((bt a0 x3_1)≤57)=true:=decide_eq_true c10
           clear c10
           have H':=Aside0.mk H
           clear H
           have p4:0≤(x3_1:Int):=of_decide_eq_true (by first|(with_reducible assumption)|assumption)
           have q4:x3_1<(a0.size:Int):=of_decide_eq_true (by first|(with_reducible assumption)|assumption)
           have hx4:=bt_at a0 x3_1
           replace p4:=eq_true p4
           replace q4:=eq_true q4
           go_wp2
           go_roundg k1
           case measure=>have:=HK1.out;omega
           case rel=>exact ⟨(wrap64 (x3_1+1)),(by first|rfl|(simp;done)|(simp [*];done)),H',⟨by have:=HK1.out;omega⟩,by repeat (first|exact Drawn0.refl _|apply Drawn0.step)⟩
          ·rw [if_neg c10] at H
           have c10b0:decide ((bt a0 x3_1)≤57)=false:=decide_eq_false c10
           clear c10
           by_cases c11:(bt a0 x3_1)=95
           ·rw [if_pos c11] at H
            have c11b0:((bt a0 x3_1) == 95)=true:=beq_iff_eq.mpr c11
            have c11b1:((bt a0 x3_1) != 95)=false:=bne_eq_false_iff_eq.mpr c11
            clear c11
            have H':=Aside0.mk H
            clear H
            have p4:0≤(x3_1:Int):=of_decide_eq_true (by first|(with_reducible assumption)|assumption)
            have q4:x3_1<(a0.size:Int):=of_decide_eq_true (by first|(with_reducible assumption)|assumption)
            have hx4:=bt_at a0 x3_1
            replace p4:=eq_true p4
            replace q4:=eq_true q4
            go_wp2
            go_roundg k1
            case measure=>have:=HK1.out;omega
            case rel=>exact ⟨(wrap64 (x3_1+1)),(by first|rfl|(simp;done)|(simp [*];done)),H',⟨by have:=HK1.out;omega⟩,by repeat (first|exact Drawn0.refl _|apply Drawn0.step)⟩
           ·rw [if_neg c11] at H
            have c11b0:((bt a0 x3_1) == 95)=false:=beq_eq_false_iff_ne.mpr c11
            have c11b1:((bt a0 x3_1) != 95)=true:=bne_iff_ne.mpr c11
            by_cases c12:(bt a0 x3_1)=45
            ·rw [if_pos c12] at H
             have c12b0:((bt a0 x3_1) == 45)=true:=beq_iff_eq.mpr c12
             have c12b1:((bt a0 x3_1) != 45)=false:=bne_eq_false_iff_eq.mpr c12
             clear c12
             have H':=Aside0.mk H
             clear H
             have p4:0≤(x3_1:Int):=of_decide_eq_true (by first|(with_reducible assumption)|assumption)
             have q4:x3_1<(a0.size:Int):=of_decide_eq_true (by first|(with_reducible assumption)|assumption)
             have hx4:=bt_at a0 x3_1
             replace p4:=eq_true p4
             replace q4:=eq_true q4
             go_wp2
             go_roundg k1
             case measure=>have:=HK1.out;omega
             case rel=>exact ⟨(wrap64 (x3_1+1)),(by first|rfl|(simp;done)|(simp [*];done)),H',⟨by have:=HK1.out;omega⟩,by repeat (first|exact Drawn0.refl _|apply Drawn0.step)⟩
            ·rw [if_neg c12] at H
             have c12b0:((bt a0 x3_1) == 45)=false:=beq_eq_false_iff_ne.mpr c12
             have c12b1:((bt a0 x3_1) != 45)=true:=bne_iff_ne.mpr c12
             by_cases c13:(bt a0 x3_1)=46
             ·rw [if_pos c13] at H
              have c13b0:((bt a0 x3_1) == 46)=true:=beq_iff_eq.mpr c13
              have c13b1:((bt a0 x3_1) != 46)=false:=bne_eq_false_iff_eq.mpr c13
              clear c13
              have H':=Aside0.mk H
              clear H
              have p4:0≤(x3_1:Int):=of_decide_eq_true (by first|(with_reducible assumption)|assumption)
              have q4:x3_1<(a0.size:Int):=of_decide_eq_true (by first|(with_reducible assumption)|assumption)
              have hx4:=bt_at a0 x3_1
              replace p4:=eq_true p4
              replace q4:=eq_true q4
              go_wp2
              go_roundg k1
              case measure=>have:=HK1.out;omega
              case rel=>exact ⟨(wrap64 (x3_1+1)),(by first|rfl|(simp;done)|(simp [*];done)),H',⟨by have:=HK1.out;omega⟩,by repeat (first|exact Drawn0.refl _|apply Drawn0.step)⟩
             ·rw [if_neg c13] at H
              have c13b0:((bt a0 x3_1) == 46)=false:=beq_eq_false_iff_ne.mpr c13
              have c13b1:((bt a0 x3_1) != 46)=true:=bne_iff_ne.mpr c13
              by_cases c14:(bt a0 x3_1)=47
              ·rw [if_pos c14] at H
               have c14b0:((bt a0 x3_1) == 47)=true:=beq_iff_eq.mpr c14
               have c14b1:((bt a0 x3_1) != 47)=false:=bne_eq_false_iff_eq.mpr c14
               clear c14
               have H':=Aside0.mk H
               clear H
               have p4:0≤(x3_1:Int):=of_decide_eq_true (by first|(with_reducible assumption)|assumption)
               have q4:x3_1<(a0.size:Int):=of_decide_eq_true (by first|(with_reducible assumption)|assumption)
               have hx4:=bt_at a0 x3_1
               replace p4:=eq_true p4
               replace q4:=eq_true q4
               go_wp2
               go_roundg k1
               case measure=>have:=HK1.out;omega
               case rel=>exact ⟨(wrap64 (x3_1+1)),(by first|rfl|(simp;done)|(simp [*];done)),H',⟨by have:=HK1.out;omega⟩,by repeat (first|exact Drawn0.refl _|apply Drawn0.step)⟩
              ·rw [if_neg c14] at H
               have c14b0:((bt a0 x3_1) == 47)=false:=beq_eq_false_iff_ne.mpr c14
               have c14b1:((bt a0 x3_1) != 47)=true:=bne_iff_ne.mpr c14
               by_cases c15:(bt a0 x3_1)=58
               ·rw [if_pos c15] at H
                have c15b0:((bt a0 x3_1) == 58)=true:=beq_iff_eq.mpr c15
                have c15b1:((bt a0 x3_1) != 58)=false:=bne_eq_false_iff_eq.mpr c15
                clear c15
                have H':=Aside0.mk H
                clear H
                have p4:0≤(x3_1:Int):=of_decide_eq_true (by first|(with_reducible assumption)|assumption)
                have q4:x3_1<(a0.size:Int):=of_decide_eq_true (by first|(with_reducible assumption)|assumption)
                have hx4:=bt_at a0 x3_1
                replace p4:=eq_true p4
                replace q4:=eq_true q4
                go_wp2
                go_roundg k1
                case measure=>have:=HK1.out;omega
                case rel=>exact ⟨(wrap64 (x3_1+1)),(by first|rfl|(simp;done)|(simp [*];done)),H',⟨by have:=HK1.out;omega⟩,by repeat (first|exact Drawn0.refl _|apply Drawn0.step)⟩
               ·rw [if_neg c15] at H
                have c15b0:((bt a0 x3_1) == 58)=false:=beq_eq_false_iff_ne.mpr c15
                have c15b1:((bt a0 x3_1) != 58)=true:=bne_iff_ne.mpr c15
                obtain rfl:=Option.some.inj H
                have p4:0≤(x3_1:Int):=of_decide_eq_true (by first|(with_reducible assumption)|assumption)
                have q4:x3_1<(a0.size:Int):=of_decide_eq_true (by first|(with_reducible assumption)|assumption)
                have hx4:=bt_at a0 x3_1
                replace p4:=eq_true p4
                replace q4:=eq_true q4
                go_wp2
                (first|go_ret|go_ret2)
                exact ⟨by first|rfl|(simp;done)|(simp [*];done),by repeat (first|exact Drawn0.refl _|apply Drawn0.step)⟩
         ·rw [if_neg c9] at H
          have c9b0:decide (48≤(bt a0 x3_1))=false:=decide_eq_false c9
          clear c9
          by_cases c16:(bt a0 x3_1)=95
          ·rw [if_pos c16] at H
           have c16b0:((bt a0 x3_1) == 95)=true:=beq_iff_eq.mpr c16
           have c16b1:((bt a0 x3_1) != 95)=false:=bne_eq_false_iff_eq.mpr c16
           clear c16
           have H':=Aside0.mk H
           clear H
           have p4:0≤(x3_1:Int):=of_decide_eq_true (by first|(with_reducible assumption)|assumption)
           have q4:x3_1<(a0.size:Int):=of_decide_eq_true (by first|(with_reducible assumption)|assumption)
           have hx4:=bt_at a0 x3_1
           replace p4:=eq_true p4
           replace q4:=eq_true q4
           go_wp2
           go_roundg k1
           case measure=>have:=HK1.out;omega
           case rel=>exact ⟨(wrap64 (x3_1+1)),(by first|rfl|(simp;done)|(simp [*];done)),H',⟨by have:=HK1.out;omega⟩,by repeat (first|exact Drawn0.refl _|apply Drawn0.step)⟩
          ·rw [if_neg c16] at H
           have c16b0:((bt a0 x3_1) == 95)=false:=beq_eq_false_iff_ne.mpr c16
           have c16b1:((bt a0 x3_1) != 95)=true:=bne_iff_ne.mpr c16
           by_cases c17:(bt a0 x3_1)=45
           ·rw [if_pos c17] at H
            have c17b0:((bt a0 x3_1) == 45)=true:=beq_iff_eq.mpr c17
            have c17b1:((bt a0 x3_1) != 45)=false:=bne_eq_false_iff_eq.mpr c17
            clear c17
            have H':=Aside0.mk H
            clear H
            have p4:0≤(x3_1:Int):=of_decide_eq_true (by first|(with_reducible assumption)|assumption)
            have q4:x3_1<(a0.size:Int):=of_decide_eq_true (by first|(with_reducible assumption)|assumption)
            have hx4:=bt_at a0 x3_1
            replace p4:=eq_true p4
            replace q4:=eq_true q4
            go_wp2
            go_roundg k1
            case measure=>have:=HK1.out;omega
            case rel=>exact ⟨(wrap64 (x3_1+1)),(by first|rfl|(simp;done)|(simp [*];done)),H',⟨by have:=HK1.out;omega⟩,by repeat (first|exact Drawn0.refl _|apply Drawn0.step)⟩
           ·rw [if_neg c17] at H
            have c17b0:((bt a0 x3_1) == 45)=false:=beq_eq_false_iff_ne.mpr c17
            have c17b1:((bt a0 x3_1) != 45)=true:=bne_iff_ne.mpr c17
            by_cases c18:(bt a0 x3_1)=46
            ·rw [if_pos c18] at H
             have c18b0:((bt a0 x3_1) == 46)=true:=beq_iff_eq.mpr c18
             have c18b1:((bt a0 x3_1) != 46)=false:=bne_eq_false_iff_eq.mpr c18
             clear c18
             have H':=Aside0.mk H
             clear H
             have p4:0≤(x3_1:Int):=of_decide_eq_true (by first|(with_reducible assumption)|assumption)
             have q4:x3_1<(a0.size:Int):=of_decide_eq_true (by first|(with_reducible assumption)|assumption)
             have hx4:=bt_at a0 x3_1
             replace p4:=eq_true p4
             replace q4:=eq_true q4
             go_wp2
             go_roundg k1
             case measure=>have:=HK1.out;omega
             case rel=>exact ⟨(wrap64 (x3_1+1)),(by first|rfl|(simp;done)|(simp [*];done)),H',⟨by have:=HK1.out;omega⟩,by repeat (first|exact Drawn0.refl _|apply Drawn0.step)⟩
            ·rw [if_neg c18] at H
             have c18b0:((bt a0 x3_1) == 46)=false:=beq_eq_false_iff_ne.mpr c18
             have c18b1:((bt a0 x3_1) != 46)=true:=bne_iff_ne.mpr c18
             by_cases c19:(bt a0 x3_1)=47
             ·rw [if_pos c19] at H
              have c19b0:((bt a0 x3_1) == 47)=true:=beq_iff_eq.mpr c19
              have c19b1:((bt a0 x3_1) != 47)=false:=bne_eq_false_iff_eq.mpr c19
              clear c19
              have H':=Aside0.mk H
              clear H
              have p4:0≤(x3_1:Int):=of_decide_eq_true (by first|(with_reducible assumption)|assumption)
              have q4:x3_1<(a0.size:Int):=of_decide_eq_true (by first|(with_reducible assumption)|assumption)
              have hx4:=bt_at a0 x3_1
              replace p4:=eq_true p4
              replace q4:=eq_true q4
              go_wp2
              go_roundg k1
              case measure=>have:=HK1.out;omega
              case rel=>exact ⟨(wrap64 (x3_1+1)),(by first|rfl|(simp;done)|(simp [*];done)),H',⟨by have:=HK1.out;omega⟩,by repeat (first|exact Drawn0.refl _|apply Drawn0.step)⟩
             ·rw [if_neg c19] at H
              have c19b0:((bt a0 x3_1) == 47)=false:=beq_eq_false_iff_ne.mpr c19
              have c19b1:((bt a0 x3_1) != 47)=true:=bne_iff_ne.mpr c19
              by_cases c20:(bt a0 x3_1)=58
              ·rw [if_pos c20] at H
               have c20b0:((bt a0 x3_1) == 58)=true:=beq_iff_eq.mpr c20
               have c20b1:((bt a0 x3_1) != 58)=false:=bne_eq_false_iff_eq.mpr c20
               clear c20
               have H':=Aside0.mk H
               clear H
               have p4:0≤(x3_1:Int):=of_decide_eq_true (by first|(with_reducible assumption)|assumption)
               have q4:x3_1<(a0.size:Int):=of_decide_eq_true (by first|(with_reducible assumption)|assumption)
               have hx4:=bt_at a0 x3_1
               replace p4:=eq_true p4
               replace q4:=eq_true q4
               go_wp2
               go_roundg k1
               case measure=>have:=HK1.out;omega
               case rel=>exact ⟨(wrap64 (x3_1+1)),(by first|rfl|(simp;done)|(simp [*];done)),H',⟨by have:=HK1.out;omega⟩,by repeat (first|exact Drawn0.refl _|apply Drawn0.step)⟩
              ·rw [if_neg c20] at H
               have c20b0:((bt a0 x3_1) == 58)=false:=beq_eq_false_iff_ne.mpr c20
               have c20b1:((bt a0 x3_1) != 58)=true:=bne_iff_ne.mpr c20
               obtain rfl:=Option.some.inj H
               have p4:0≤(x3_1:Int):=of_decide_eq_true (by first|(with_reducible assumption)|assumption)
               have q4:x3_1<(a0.size:Int):=of_decide_eq_true (by first|(with_reducible assumption)|assumption)
               have hx4:=bt_at a0 x3_1
               replace p4:=eq_true p4
               replace q4:=eq_true q4
               go_wp2
               (first|go_ret|go_ret2)
               exact ⟨by first|rfl|(simp;done)|(simp [*];done),by repeat (first|exact Drawn0.refl _|apply Drawn0.step)⟩
       ·rw [if_neg c7] at H
        have c7b0:decide (65≤(bt a0 x3_1))=false:=decide_eq_false c7
        clear c7
        by_cases c21:(bt a0 x3_1)≥48
        ·rw [if_pos c21] at H
         have c21b0:decide (48≤(bt a0 x3_1))=true:=decide_eq_true c21
         clear c21
         by_cases c22:((bt a0 x3_1)≤57)
         ·rw [if_pos c22] at H
          have c22b0:decide ((bt a0 x3_1)≤57)=true:=decide_eq_true c22
          clear c22
          have H':=Aside0.mk H
          clear H
          have p4:0≤(x3_1:Int):=of_decide_eq_true (by first|(with_reducible assumption)|assumption)
          have q4:x3_1<(a0.size:Int):=of_decide_eq_true (by first|(with_reducible assumption)|assumption)
          have hx4:=bt_at a0 x3_1
          replace p4:=eq_true p4
          replace q4:=eq_true q4
          go_wp2
          go_roundg k1
          case measure=>have:=HK1.out;omega
          case rel=>exact ⟨(wrap64 (x3_1+1)),(by first|rfl|(simp;done)|(simp [*];done)),H',⟨by have:=HK1.out;omega⟩,by repeat (first|exact Drawn0.refl _|apply Drawn0.step)⟩
         ·rw [if_neg c22] at H
          have c22b0:decide ((bt a0 x3_1)≤57)=false:=decide_eq_false c22
          clear c22
          by_cases c23:(bt a0 x3_1)=95
          ·rw [if_pos c23] at H
           have c23b0:((bt a0 x3_1) == 95)=true:=beq_iff_eq.mpr c23
           have c23b1:((bt a0 x3_1) != 95)=false:=bne_eq_false_iff_eq.mpr c23
           clear c23
           have H':=Aside0.mk H
           clear H
           have p4:0≤(x3_1:Int):=of_decide_eq_true (by first|(with_reducible assumption)|assumption)
           have q4:x3_1<(a0.size:Int):=of_decide_eq_true (by first|(with_reducible assumption)|assumption)
           have hx4:=bt_at a0 x3_1
           replace p4:=eq_true p4
           replace q4:=eq_true q4
           go_wp2
           go_roundg k1
           case measure=>have:=HK1.out;omega
           case rel=>exact ⟨(wrap64 (x3_1+1)),(by first|rfl|(simp;done)|(simp [*];done)),H',⟨by have:=HK1.out;omega⟩,by repeat (first|exact Drawn0.refl _|apply Drawn0.step)⟩
          ·rw [if_neg c23] at H
           have c23b0:((bt a0 x3_1) == 95)=false:=beq_eq_false_iff_ne.mpr c23
           have c23b1:((bt a0 x3_1) != 95)=true:=bne_iff_ne.mpr c23
           by_cases c24:(bt a0 x3_1)=45
           ·rw [if_pos c24] at H
            have c24b0:((bt a0 x3_1) == 45)=true:=beq_iff_eq.mpr c24
            have c24b1:((bt a0 x3_1) != 45)=false:=bne_eq_false_iff_eq.mpr c24
            clear c24
            have H':=Aside0.mk H
            clear H
            have p4:0≤(x3_1:Int):=of_decide_eq_true (by first|(with_reducible assumption)|assumption)
            have q4:x3_1<(a0.size:Int):=of_decide_eq_true (by first|(with_reducible assumption)|assumption)
            have hx4:=bt_at a0 x3_1
            replace p4:=eq_true p4
            replace q4:=eq_true q4
            go_wp2
            go_roundg k1
            case measure=>have:=HK1.out;omega
            case rel=>exact ⟨(wrap64 (x3_1+1)),(by first|rfl|(simp;done)|(simp [*];done)),H',⟨by have:=HK1.out;omega⟩,by repeat (first|exact Drawn0.refl _|apply Drawn0.step)⟩
           ·rw [if_neg c24] at H
            have c24b0:((bt a0 x3_1) == 45)=false:=beq_eq_false_iff_ne.mpr c24
            have c24b1:((bt a0 x3_1) != 45)=true:=bne_iff_ne.mpr c24
            by_cases c25:(bt a0 x3_1)=46
            ·rw [if_pos c25] at H
             have c25b0:((bt a0 x3_1) == 46)=true:=beq_iff_eq.mpr c25
             have c25b1:((bt a0 x3_1) != 46)=false:=bne_eq_false_iff_eq.mpr c25
             clear c25
             have H':=Aside0.mk H
             clear H
             have p4:0≤(x3_1:Int):=of_decide_eq_true (by first|(with_reducible assumption)|assumption)
             have q4:x3_1<(a0.size:Int):=of_decide_eq_true (by first|(with_reducible assumption)|assumption)
             have hx4:=bt_at a0 x3_1
             replace p4:=eq_true p4
             replace q4:=eq_true q4
             go_wp2
             go_roundg k1
             case measure=>have:=HK1.out;omega
             case rel=>exact ⟨(wrap64 (x3_1+1)),(by first|rfl|(simp;done)|(simp [*];done)),H',⟨by have:=HK1.out;omega⟩,by repeat (first|exact Drawn0.refl _|apply Drawn0.step)⟩
            ·rw [if_neg c25] at H
             have c25b0:((bt a0 x3_1) == 46)=false:=beq_eq_false_iff_ne.mpr c25
             have c25b1:((bt a0 x3_1) != 46)=true:=bne_iff_ne.mpr c25
             by_cases c26:(bt a0 x3_1)=47
             ·rw [if_pos c26] at H
              have c26b0:((bt a0 x3_1) == 47)=true:=beq_iff_eq.mpr c26
              have c26b1:((bt a0 x3_1) != 47)=false:=bne_eq_false_iff_eq.mpr c26
              clear c26
              have H':=Aside0.mk H
              clear H
              have p4:0≤(x3_1:Int):=of_decide_eq_true (by first|(with_reducible assumption)|assumption)
              have q4:x3_1<(a0.size:Int):=of_decide_eq_true (by first|(with_reducible assumption)|assumption)
              have hx4:=bt_at a0 x3_1
              replace p4:=eq_true p4
              replace q4:=eq_true q4
              go_wp2
              go_roundg k1
              case measure=>have:=HK1.out;omega
              case rel=>exact ⟨(wrap64 (x3_1+1)),(by first|rfl|(simp;done)|(simp [*];done)),H',⟨by have:=HK1.out;omega⟩,by repeat (first|exact Drawn0.refl _|apply Drawn0.step)⟩
             ·rw [if_neg c26] at H
              have c26b0:((bt a0 x3_1) == 47)=false:=beq_eq_false_iff_ne.mpr c26
              have c26b1:((bt a0 x3_1) != 47)=true:=bne_iff_ne.mpr c26
              by_cases c27:(bt a0 x3_1)=58
              ·rw [if_pos c27] at H
               have c27b0:((bt a0 x3_1) == 58)=true:=beq_iff_eq.mpr c27
               have c27b1:((bt a0 x3_1) != 58)=false:=bne_eq_false_iff_eq.mpr c27
               clear c27
               have H':=Aside0.mk H
               clear H
               have p4:0≤(x3_1:Int):=of_decide_eq_true (by first|(with_reducible assumption)|assumption)
               have q4:x3_1<(a0.size:Int):=of_decide_eq_true (by first|(with_reducible assumption)|assumption)
               have hx4:=bt_at a0 x3_1
               replace p4:=eq_true p4
               replace q4:=eq_true q4
               go_wp2
               go_roundg k1
               case measure=>have:=HK1.out;omega
               case rel=>exact ⟨(wrap64 (x3_1+1)),(by first|rfl|(simp;done)|(simp [*];done)),H',⟨by have:=HK1.out;omega⟩,by repeat (first|exact Drawn0.refl _|apply Drawn0.step)⟩
              ·rw [if_neg c27] at H
               have c27b0:((bt a0 x3_1) == 58)=false:=beq_eq_false_iff_ne.mpr c27
               have c27b1:((bt a0 x3_1) != 58)=true:=bne_iff_ne.mpr c27
               obtain rfl:=Option.some.inj H
               have p4:0≤(x3_1:Int):=of_decide_eq_true (by first|(with_reducible assumption)|assumption)
               have q4:x3_1<(a0.size:Int):=of_decide_eq_true (by first|(with_reducible assumption)|assumption)
               have hx4:=bt_at a0 x3_1
               replace p4:=eq_true p4
               replace q4:=eq_true q4
               go_wp2
               (first|go_ret|go_ret2)
               exact ⟨by first|rfl|(simp;done)|(simp [*];done),by repeat (first|exact Drawn0.refl _|apply Drawn0.step)⟩
        ·rw [if_neg c21] at H
         have c21b0:decide (48≤(bt a0 x3_1))=false:=decide_eq_false c21
         clear c21
         by_cases c28:(bt a0 x3_1)=95
         ·rw [if_pos c28] at H
          have c28b0:((bt a0 x3_1) == 95)=true:=beq_iff_eq.mpr c28
          have c28b1:((bt a0 x3_1) != 95)=false:=bne_eq_false_iff_eq.mpr c28
          clear c28
          have H':=Aside0.mk H
          clear H
          have p4:0≤(x3_1:Int):=of_decide_eq_true (by first|(with_reducible assumption)|assumption)
          have q4:x3_1<(a0.size:Int):=of_decide_eq_true (by first|(with_reducible assumption)|assumption)
          have hx4:=bt_at a0 x3_1
          replace p4:=eq_true p4
          replace q4:=eq_true q4
          go_wp2
          go_roundg k1
          case measure=>have:=HK1.out;omega
          case rel=>exact ⟨(wrap64 (x3_1+1)),(by first|rfl|(simp;done)|(simp [*];done)),H',⟨by have:=HK1.out;omega⟩,by repeat (first|exact Drawn0.refl _|apply Drawn0.step)⟩
         ·rw [if_neg c28] at H
          have c28b0:((bt a0 x3_1) == 95)=false:=beq_eq_false_iff_ne.mpr c28
          have c28b1:((bt a0 x3_1) != 95)=true:=bne_iff_ne.mpr c28
          by_cases c29:(bt a0 x3_1)=45
          ·rw [if_pos c29] at H
           have c29b0:((bt a0 x3_1) == 45)=true:=beq_iff_eq.mpr c29
           have c29b1:((bt a0 x3_1) != 45)=false:=bne_eq_false_iff_eq.mpr c29
           clear c29
           have H':=Aside0.mk H
           clear H
           have p4:0≤(x3_1:Int):=of_decide_eq_true (by first|(with_reducible assumption)|assumption)
           have q4:x3_1<(a0.size:Int):=of_decide_eq_true (by first|(with_reducible assumption)|assumption)
           have hx4:=bt_at a0 x3_1
           replace p4:=eq_true p4
           replace q4:=eq_true q4
           go_wp2
           go_roundg k1
           case measure=>have:=HK1.out;omega
           case rel=>exact ⟨(wrap64 (x3_1+1)),(by first|rfl|(simp;done)|(simp [*];done)),H',⟨by have:=HK1.out;omega⟩,by repeat (first|exact Drawn0.refl _|apply Drawn0.step)⟩
          ·rw [if_neg c29] at H
           have c29b0:((bt a0 x3_1) == 45)=false:=beq_eq_false_iff_ne.mpr c29
           have c29b1:((bt a0 x3_1) != 45)=true:=bne_iff_ne.mpr c29
           by_cases c30:(bt a0 x3_1)=46
           ·rw [if_pos c30] at H
            have c30b0:((bt a0 x3_1) == 46)=true:=beq_iff_eq.mpr c30
            have c30b1:((bt a0 x3_1) != 46)=false:=bne_eq_false_iff_eq.mpr c30
            clear c30
            have H':=Aside0.mk H
            clear H
            have p4:0≤(x3_1:Int):=of_decide_eq_true (by first|(with_reducible assumption)|assumption)
            have q4:x3_1<(a0.size:Int):=of_decide_eq_true (by first|(with_reducible assumption)|assumption)
            have hx4:=bt_at a0 x3_1
            replace p4:=eq_true p4
            replace q4:=eq_true q4
            go_wp2
            go_roundg k1
            case measure=>have:=HK1.out;omega
            case rel=>exact ⟨(wrap64 (x3_1+1)),(by first|rfl|(simp;done)|(simp [*];done)),H',⟨by have:=HK1.out;omega⟩,by repeat (first|exact Drawn0.refl _|apply Drawn0.step)⟩
           ·rw [if_neg c30] at H
            have c30b0:((bt a0 x3_1) == 46)=false:=beq_eq_false_iff_ne.mpr c30
            have c30b1:((bt a0 x3_1) != 46)=true:=bne_iff_ne.mpr c30
            by_cases c31:(bt a0 x3_1)=47
            ·rw [if_pos c31] at H
             have c31b0:((bt a0 x3_1) == 47)=true:=beq_iff_eq.mpr c31
             have c31b1:((bt a0 x3_1) != 47)=false:=bne_eq_false_iff_eq.mpr c31
             clear c31
             have H':=Aside0.mk H
             clear H
             have p4:0≤(x3_1:Int):=of_decide_eq_true (by first|(with_reducible assumption)|assumption)
             have q4:x3_1<(a0.size:Int):=of_decide_eq_true (by first|(with_reducible assumption)|assumption)
             have hx4:=bt_at a0 x3_1
             replace p4:=eq_true p4
             replace q4:=eq_true q4
             go_wp2
             go_roundg k1
             case measure=>have:=HK1.out;omega
             case rel=>exact ⟨(wrap64 (x3_1+1)),(by first|rfl|(simp;done)|(simp [*];done)),H',⟨by have:=HK1.out;omega⟩,by repeat (first|exact Drawn0.refl _|apply Drawn0.step)⟩
            ·rw [if_neg c31] at H
             have c31b0:((bt a0 x3_1) == 47)=false:=beq_eq_false_iff_ne.mpr c31
             have c31b1:((bt a0 x3_1) != 47)=true:=bne_iff_ne.mpr c31
             by_cases c32:(bt a0 x3_1)=58
             ·rw [if_pos c32] at H
              have c32b0:((bt a0 x3_1) == 58)=true:=beq_iff_eq.mpr c32
              have c32b1:((bt a0 x3_1) != 58)=false:=bne_eq_false_iff_eq.mpr c32
              clear c32
              have H':=Aside0.mk H
              clear H
              have p4:0≤(x3_1:Int):=of_decide_eq_true (by first|(with_reducible assumption)|assumption)
              have q4:x3_1<(a0.size:Int):=of_decide_eq_true (by first|(with_reducible assumption)|assumption)
              have hx4:=bt_at a0 x3_1
              replace p4:=eq_true p4
              replace q4:=eq_true q4
              go_wp2
              go_roundg k1
              case measure=>have:=HK1.out;omega
              case rel=>exact ⟨(wrap64 (x3_1+1)),(by first|rfl|(simp;done)|(simp [*];done)),H',⟨by have:=HK1.out;omega⟩,by repeat (first|exact Drawn0.refl _|apply Drawn0.step)⟩
             ·rw [if_neg c32] at H
              have c32b0:((bt a0 x3_1) == 58)=false:=beq_eq_false_iff_ne.mpr c32
              have c32b1:((bt a0 x3_1) != 58)=true:=bne_iff_ne.mpr c32
              obtain rfl:=Option.some.inj H
              have p4:0≤(x3_1:Int):=of_decide_eq_true (by first|(with_reducible assumption)|assumption)
              have q4:x3_1<(a0.size:Int):=of_decide_eq_true (by first|(with_reducible assumption)|assumption)
              have hx4:=bt_at a0 x3_1
              replace p4:=eq_true p4
              replace q4:=eq_true q4
              go_wp2
              (first|go_ret|go_ret2)
              exact ⟨by first|rfl|(simp;done)|(simp [*];done),by repeat (first|exact Drawn0.refl _|apply Drawn0.step)⟩
     ·rw [if_neg c5] at H
      have c5b0:decide (97≤(bt a0 x3_1))=false:=decide_eq_false c5
      clear c5
      by_cases c33:(bt a0 x3_1)≥65
      ·rw [if_pos c33] at H
       have c33b0:decide (65≤(bt a0 x3_1))=true:=decide_eq_true c33
       clear c33
       by_cases c34:(bt a0 x3_1)≤90
       ·rw [if_pos c34] at H
        have c34b0:decide ((bt a0 x3_1)≤90)=true:=decide_eq_true c34
        clear c34
        have H':=Aside0.mk H
        clear H
        have p4:0≤(x3_1:Int):=of_decide_eq_true (by first|(with_reducible assumption)|assumption)
        have q4:x3_1<(a0.size:Int):=of_decide_eq_true (by first|(with_reducible assumption)|assumption)
        have hx4:=bt_at a0 x3_1
        replace p4:=eq_true p4
        replace q4:=eq_true q4
        go_wp2
        go_roundg k1
        case measure=>have:=HK1.out;omega
        case rel=>exact ⟨(wrap64 (x3_1+1)),(by first|rfl|(simp;done)|(simp [*];done)),H',⟨by have:=HK1.out;omega⟩,by repeat (first|exact Drawn0.refl _|apply Drawn0.step)⟩
       ·rw [if_neg c34] at H
        have c34b0:decide ((bt a0 x3_1)≤90)=false:=decide_eq_false c34
        clear c34
        by_cases c35:(bt a0 x3_1)≥48
        ·rw [if_pos c35] at H
         have c35b0:decide (48≤(bt a0 x3_1))=true:=decide_eq_true c35
         clear c35
         by_cases c36:((bt a0 x3_1)≤57)
         ·rw [if_pos c36] at H
          have c36b0:decide ((bt a0 x3_1)≤57)=true:=decide_eq_true c36
          clear c36
          have H':=Aside0.mk H
          clear H
          have p4:0≤(x3_1:Int):=of_decide_eq_true (by first|(with_reducible assumption)|assumption)
          have q4:x3_1<(a0.size:Int):=of_decide_eq_true (by first|(with_reducible assumption)|assumption)
          have hx4:=bt_at a0 x3_1
          replace p4:=eq_true p4
          replace q4:=eq_true q4
          go_wp2
          go_roundg k1
          case measure=>have:=HK1.out;omega
          case rel=>exact ⟨(wrap64 (x3_1+1)),(by first|rfl|(simp;done)|(simp [*];done)),H',⟨by have:=HK1.out;omega⟩,by repeat (first|exact Drawn0.refl _|apply Drawn0.step)⟩
         ·rw [if_neg c36] at H
          have c36b0:decide ((bt a0 x3_1)≤57)=false:=decide_eq_false c36
          clear c36
          by_cases c37:(bt a0 x3_1)=95
          ·rw [if_pos c37] at H
           have c37b0:((bt a0 x3_1) == 95)=true:=beq_iff_eq.mpr c37
           have c37b1:((bt a0 x3_1) != 95)=false:=bne_eq_false_iff_eq.mpr c37
           clear c37
           have H':=Aside0.mk H
           clear H
           have p4:0≤(x3_1:Int):=of_decide_eq_true (by first|(with_reducible assumption)|assumption)
           have q4:x3_1<(a0.size:Int):=of_decide_eq_true (by first|(with_reducible assumption)|assumption)
           have hx4:=bt_at a0 x3_1
           replace p4:=eq_true p4
           replace q4:=eq_true q4
           go_wp2
           go_roundg k1
           case measure=>have:=HK1.out;omega
           case rel=>exact ⟨(wrap64 (x3_1+1)),(by first|rfl|(simp;done)|(simp [*];done)),H',⟨by have:=HK1.out;omega⟩,by repeat (first|exact Drawn0.refl _|apply Drawn0.step)⟩
          ·rw [if_neg c37] at H
           have c37b0:((bt a0 x3_1) == 95)=false:=beq_eq_false_iff_ne.mpr c37
           have c37b1:((bt a0 x3_1) != 95)=true:=bne_iff_ne.mpr c37
           by_cases c38:(bt a0 x3_1)=45
           ·rw [if_pos c38] at H
            have c38b0:((bt a0 x3_1) == 45)=true:=beq_iff_eq.mpr c38
            have c38b1:((bt a0 x3_1) != 45)=false:=bne_eq_false_iff_eq.mpr c38
            clear c38
            have H':=Aside0.mk H
            clear H
            have p4:0≤(x3_1:Int):=of_decide_eq_true (by first|(with_reducible assumption)|assumption)
            have q4:x3_1<(a0.size:Int):=of_decide_eq_true (by first|(with_reducible assumption)|assumption)
            have hx4:=bt_at a0 x3_1
            replace p4:=eq_true p4
            replace q4:=eq_true q4
            go_wp2
            go_roundg k1
            case measure=>have:=HK1.out;omega
            case rel=>exact ⟨(wrap64 (x3_1+1)),(by first|rfl|(simp;done)|(simp [*];done)),H',⟨by have:=HK1.out;omega⟩,by repeat (first|exact Drawn0.refl _|apply Drawn0.step)⟩
           ·rw [if_neg c38] at H
            have c38b0:((bt a0 x3_1) == 45)=false:=beq_eq_false_iff_ne.mpr c38
            have c38b1:((bt a0 x3_1) != 45)=true:=bne_iff_ne.mpr c38
            by_cases c39:(bt a0 x3_1)=46
            ·rw [if_pos c39] at H
             have c39b0:((bt a0 x3_1) == 46)=true:=beq_iff_eq.mpr c39
             have c39b1:((bt a0 x3_1) != 46)=false:=bne_eq_false_iff_eq.mpr c39
             clear c39
             have H':=Aside0.mk H
             clear H
             have p4:0≤(x3_1:Int):=of_decide_eq_true (by first|(with_reducible assumption)|assumption)
             have q4:x3_1<(a0.size:Int):=of_decide_eq_true (by first|(with_reducible assumption)|assumption)
             have hx4:=bt_at a0 x3_1
             replace p4:=eq_true p4
             replace q4:=eq_true q4
             go_wp2
             go_roundg k1
             case measure=>have:=HK1.out;omega
             case rel=>exact ⟨(wrap64 (x3_1+1)),(by first|rfl|(simp;done)|(simp [*];done)),H',⟨by have:=HK1.out;omega⟩,by repeat (first|exact Drawn0.refl _|apply Drawn0.step)⟩
            ·rw [if_neg c39] at H
             have c39b0:((bt a0 x3_1) == 46)=false:=beq_eq_false_iff_ne.mpr c39
             have c39b1:((bt a0 x3_1) != 46)=true:=bne_iff_ne.mpr c39
             by_cases c40:(bt a0 x3_1)=47
             ·rw [if_pos c40] at H
              have c40b0:((bt a0 x3_1) == 47)=true:=beq_iff_eq.mpr c40
              have c40b1:((bt a0 x3_1) != 47)=false:=bne_eq_false_iff_eq.mpr c40
              clear c40
              have H':=Aside0.mk H
              clear H
              have p4:0≤(x3_1:Int):=of_decide_eq_true (by first|(with_reducible assumption)|assumption)
              have q4:x3_1<(a0.size:Int):=of_decide_eq_true (by first|(with_reducible assumption)|assumption)
              have hx4:=bt_at a0 x3_1
              replace p4:=eq_true p4
              replace q4:=eq_true q4
              go_wp2
              go_roundg k1
              case measure=>have:=HK1.out;omega
              case rel=>exact ⟨(wrap64 (x3_1+1)),(by first|rfl|(simp;done)|(simp [*];done)),H',⟨by have:=HK1.out;omega⟩,by repeat (first|exact Drawn0.refl _|apply Drawn0.step)⟩
             ·rw [if_neg c40] at H
              have c40b0:((bt a0 x3_1) == 47)=false:=beq_eq_false_iff_ne.mpr c40
              have c40b1:((bt a0 x3_1) != 47)=true:=bne_iff_ne.mpr c40
              by_cases c41:(bt a0 x3_1)=58
              ·rw [if_pos c41] at H
               have c41b0:((bt a0 x3_1) == 58)=true:=beq_iff_eq.mpr c41
               have c41b1:((bt a0 x3_1) != 58)=false:=bne_eq_false_iff_eq.mpr c41
               clear c41
               have H':=Aside0.mk H
               clear H
               have p4:0≤(x3_1:Int):=of_decide_eq_true (by first|(with_reducible assumption)|assumption)
               have q4:x3_1<(a0.size:Int):=of_decide_eq_true (by first|(with_reducible assumption)|assumption)
               have hx4:=bt_at a0 x3_1
               replace p4:=eq_true p4
               replace q4:=eq_true q4
               go_wp2
               go_roundg k1
               case measure=>have:=HK1.out;omega
               case rel=>exact ⟨(wrap64 (x3_1+1)),(by first|rfl|(simp;done)|(simp [*];done)),H',⟨by have:=HK1.out;omega⟩,by repeat (first|exact Drawn0.refl _|apply Drawn0.step)⟩
              ·rw [if_neg c41] at H
               have c41b0:((bt a0 x3_1) == 58)=false:=beq_eq_false_iff_ne.mpr c41
               have c41b1:((bt a0 x3_1) != 58)=true:=bne_iff_ne.mpr c41
               obtain rfl:=Option.some.inj H
               have p4:0≤(x3_1:Int):=of_decide_eq_true (by first|(with_reducible assumption)|assumption)
               have q4:x3_1<(a0.size:Int):=of_decide_eq_true (by first|(with_reducible assumption)|assumption)
               have hx4:=bt_at a0 x3_1
               replace p4:=eq_true p4
               replace q4:=eq_true q4
               go_wp2
               (first|go_ret|go_ret2)
               exact ⟨by first|rfl|(simp;done)|(simp [*];done),by repeat (first|exact Drawn0.refl _|apply Drawn0.step)⟩
        ·rw [if_neg c35] at H
         have c35b0:decide (48≤(bt a0 x3_1))=false:=decide_eq_false c35
         clear c35
         by_cases c42:(bt a0 x3_1)=95
         ·rw [if_pos c42] at H
          have c42b0:((bt a0 x3_1) == 95)=true:=beq_iff_eq.mpr c42
          have c42b1:((bt a0 x3_1) != 95)=false:=bne_eq_false_iff_eq.mpr c42
          clear c42
          have H':=Aside0.mk H
          clear H
          have p4:0≤(x3_1:Int):=of_decide_eq_true (by first|(with_reducible assumption)|assumption)
          have q4:x3_1<(a0.size:Int):=of_decide_eq_true (by first|(with_reducible assumption)|assumption)
          have hx4:=bt_at a0 x3_1
          replace p4:=eq_true p4
          replace q4:=eq_true q4
          go_wp2
          go_roundg k1
          case measure=>have:=HK1.out;omega
          case rel=>exact ⟨(wrap64 (x3_1+1)),(by first|rfl|(simp;done)|(simp [*];done)),H',⟨by have:=HK1.out;omega⟩,by repeat (first|exact Drawn0.refl _|apply Drawn0.step)⟩
         ·rw [if_neg c42] at H
          have c42b0:((bt a0 x3_1) == 95)=false:=beq_eq_false_iff_ne.mpr c42
          have c42b1:((bt a0 x3_1) != 95)=true:=bne_iff_ne.mpr c42
          by_cases c43:(bt a0 x3_1)=45
          ·rw [if_pos c43] at H
           have c43b0:((bt a0 x3_1) == 45)=true:=beq_iff_eq.mpr c43
           have c43b1:((bt a0 x3_1) != 45)=false:=bne_eq_false_iff_eq.mpr c43
           clear c43
           have H':=Aside0.mk H
           clear H
           have p4:0≤(x3_1:Int):=of_decide_eq_true (by first|(with_reducible assumption)|assumption)
           have q4:x3_1<(a0.size:Int):=of_decide_eq_true (by first|(with_reducible assumption)|assumption)
           have hx4:=bt_at a0 x3_1
           replace p4:=eq_true p4
           replace q4:=eq_true q4
           go_wp2
           go_roundg k1
           case measure=>have:=HK1.out;omega
           case rel=>exact ⟨(wrap64 (x3_1+1)),(by first|rfl|(simp;done)|(simp [*];done)),H',⟨by have:=HK1.out;omega⟩,by repeat (first|exact Drawn0.refl _|apply Drawn0.step)⟩
          ·rw [if_neg c43] at H
           have c43b0:((bt a0 x3_1) == 45)=false:=beq_eq_false_iff_ne.mpr c43
           have c43b1:((bt a0 x3_1) != 45)=true:=bne_iff_ne.mpr c43
           by_cases c44:(bt a0 x3_1)=46
           ·rw [if_pos c44] at H
            have c44b0:((bt a0 x3_1) == 46)=true:=beq_iff_eq.mpr c44
            have c44b1:((bt a0 x3_1) != 46)=false:=bne_eq_false_iff_eq.mpr c44
            clear c44
            have H':=Aside0.mk H
            clear H
            have p4:0≤(x3_1:Int):=of_decide_eq_true (by first|(with_reducible assumption)|assumption)
            have q4:x3_1<(a0.size:Int):=of_decide_eq_true (by first|(with_reducible assumption)|assumption)
            have hx4:=bt_at a0 x3_1
            replace p4:=eq_true p4
            replace q4:=eq_true q4
            go_wp2
            go_roundg k1
            case measure=>have:=HK1.out;omega
            case rel=>exact ⟨(wrap64 (x3_1+1)),(by first|rfl|(simp;done)|(simp [*];done)),H',⟨by have:=HK1.out;omega⟩,by repeat (first|exact Drawn0.refl _|apply Drawn0.step)⟩
           ·rw [if_neg c44] at H
            have c44b0:((bt a0 x3_1) == 46)=false:=beq_eq_false_iff_ne.mpr c44
            have c44b1:((bt a0 x3_1) != 46)=true:=bne_iff_ne.mpr c44
            by_cases c45:(bt a0 x3_1)=47
            ·rw [if_pos c45] at H
             have c45b0:((bt a0 x3_1) == 47)=true:=beq_iff_eq.mpr c45
             have c45b1:((bt a0 x3_1) != 47)=false:=bne_eq_false_iff_eq.mpr c45
             clear c45
             have H':=Aside0.mk H
             clear H
             have p4:0≤(x3_1:Int):=of_decide_eq_true (by first|(with_reducible assumption)|assumption)
             have q4:x3_1<(a0.size:Int):=of_decide_eq_true (by first|(with_reducible assumption)|assumption)
             have hx4:=bt_at a0 x3_1
             replace p4:=eq_true p4
             replace q4:=eq_true q4
             go_wp2
             go_roundg k1
             case measure=>have:=HK1.out;omega
             case rel=>exact ⟨(wrap64 (x3_1+1)),(by first|rfl|(simp;done)|(simp [*];done)),H',⟨by have:=HK1.out;omega⟩,by repeat (first|exact Drawn0.refl _|apply Drawn0.step)⟩
            ·rw [if_neg c45] at H
             have c45b0:((bt a0 x3_1) == 47)=false:=beq_eq_false_iff_ne.mpr c45
             have c45b1:((bt a0 x3_1) != 47)=true:=bne_iff_ne.mpr c45
             by_cases c46:(bt a0 x3_1)=58
             ·rw [if_pos c46] at H
              have c46b0:((bt a0 x3_1) == 58)=true:=beq_iff_eq.mpr c46
              have c46b1:((bt a0 x3_1) != 58)=false:=bne_eq_false_iff_eq.mpr c46
              clear c46
              have H':=Aside0.mk H
              clear H
              have p4:0≤(x3_1:Int):=of_decide_eq_true (by first|(with_reducible assumption)|assumption)
              have q4:x3_1<(a0.size:Int):=of_decide_eq_true (by first|(with_reducible assumption)|assumption)
              have hx4:=bt_at a0 x3_1
              replace p4:=eq_true p4
              replace q4:=eq_true q4
              go_wp2
              go_roundg k1
              case measure=>have:=HK1.out;omega
              case rel=>exact ⟨(wrap64 (x3_1+1)),(by first|rfl|(simp;done)|(simp [*];done)),H',⟨by have:=HK1.out;omega⟩,by repeat (first|exact Drawn0.refl _|apply Drawn0.step)⟩
             ·rw [if_neg c46] at H
              have c46b0:((bt a0 x3_1) == 58)=false:=beq_eq_false_iff_ne.mpr c46
              have c46b1:((bt a0 x3_1) != 58)=true:=bne_iff_ne.mpr c46
              obtain rfl:=Option.some.inj H
              have p4:0≤(x3_1:Int):=of_decide_eq_true (by first|(with_reducible assumption)|assumption)
              have q4:x3_1<(a0.size:Int):=of_decide_eq_true (by first|(with_reducible assumption)|assumption)
              have hx4:=bt_at a0 x3_1
              replace p4:=eq_true p4
              replace q4:=eq_true q4
              go_wp2
              (first|go_ret|go_ret2)
              exact ⟨by first|rfl|(simp;done)|(simp [*];done),by repeat (first|exact Drawn0.refl _|apply Drawn0.step)⟩
      ·rw [if_neg c33] at H
       have c33b0:decide (65≤(bt a0 x3_1))=false:=decide_eq_false c33
       clear c33
       by_cases c47:(bt a0 x3_1)≥48
       ·rw [if_pos c47] at H
        have c47b0:decide (48≤(bt a0 x3_1))=true:=decide_eq_true c47
        clear c47
        by_cases c48:((bt a0 x3_1)≤57)
        ·rw [if_pos c48] at H
         have c48b0:decide ((bt a0 x3_1)≤57)=true:=decide_eq_true c48
         clear c48
         have H':=Aside0.mk H
         clear H
         have p4:0≤(x3_1:Int):=of_decide_eq_true (by first|(with_reducible assumption)|assumption)
         have q4:x3_1<(a0.size:Int):=of_decide_eq_true (by first|(with_reducible assumption)|assumption)
         have hx4:=bt_at a0 x3_1
         replace p4:=eq_true p4
         replace q4:=eq_true q4
         go_wp2
         go_roundg k1
         case measure=>have:=HK1.out;omega
         case rel=>exact ⟨(wrap64 (x3_1+1)),(by first|rfl|(simp;done)|(simp [*];done)),H',⟨by have:=HK1.out;omega⟩,by repeat (first|exact Drawn0.refl _|apply Drawn0.step)⟩
        ·rw [if_neg c48] at H
         have c48b0:decide ((bt a0 x3_1)≤57)=false:=decide_eq_false c48
         clear c48
         by_cases c49:(bt a0 x3_1)=95
         ·rw [if_pos c49] at H
          have c49b0:((bt a0 x3_1) == 95)=true:=beq_iff_eq.mpr c49
          have c49b1:((bt a0 x3_1) != 95)=false:=bne_eq_false_iff_eq.mpr c49
          clear c49
          have H':=Aside0.mk H
          clear H
          have p4:0≤(x3_1:Int):=of_decide_eq_true (by first|(with_reducible assumption)|assumption)
          have q4:x3_1<(a0.size:Int):=of_decide_eq_true (by first|(with_reducible assumption)|assumption)
          have hx4:=bt_at a0 x3_1
          replace p4:=eq_true p4
          replace q4:=eq_true q4
          go_wp2
          go_roundg k1
          case measure=>have:=HK1.out;omega
          case rel=>exact ⟨(wrap64 (x3_1+1)),(by first|rfl|(simp;done)|(simp [*];done)),H',⟨by have:=HK1.out;omega⟩,by repeat (first|exact Drawn0.refl _|apply Drawn0.step)⟩
         ·rw [if_neg c49] at H
          have c49b0:((bt a0 x3_1) == 95)=false:=beq_eq_false_iff_ne.mpr c49
          have c49b1:((bt a0 x3_1) != 95)=true:=bne_iff_ne.mpr c49
          by_cases c50:(bt a0 x3_1)=45
          ·rw [if_pos c50] at H
           have c50b0:((bt a0 x3_1) == 45)=true:=beq_iff_eq.mpr c50
           have c50b1:((bt a0 x3_1) != 45)=false:=bne_eq_false_iff_eq.mpr c50
           clear c50
           have H':=Aside0.mk H
           clear H
           have p4:0≤(x3_1:Int):=of_decide_eq_true (by first|(with_reducible assumption)|assumption)
           have q4:x3_1<(a0.size:Int):=of_decide_eq_true (by first|(with_reducible assumption)|assumption)
           have hx4:=bt_at a0 x3_1
           replace p4:=eq_true p4
           replace q4:=eq_true q4
           go_wp2
           go_roundg k1
           case measure=>have:=HK1.out;omega
           case rel=>exact ⟨(wrap64 (x3_1+1)),(by first|rfl|(simp;done)|(simp [*];done)),H',⟨by have:=HK1.out;omega⟩,by repeat (first|exact Drawn0.refl _|apply Drawn0.step)⟩
          ·rw [if_neg c50] at H
           have c50b0:((bt a0 x3_1) == 45)=false:=beq_eq_false_iff_ne.mpr c50
           have c50b1:((bt a0 x3_1) != 45)=true:=bne_iff_ne.mpr c50
           by_cases c51:(bt a0 x3_1)=46
           ·rw [if_pos c51] at H
            have c51b0:((bt a0 x3_1) == 46)=true:=beq_iff_eq.mpr c51
            have c51b1:((bt a0 x3_1) != 46)=false:=bne_eq_false_iff_eq.mpr c51
            clear c51
            have H':=Aside0.mk H
            clear H
            have p4:0≤(x3_1:Int):=of_decide_eq_true (by first|(with_reducible assumption)|assumption)
            have q4:x3_1<(a0.size:Int):=of_decide_eq_true (by first|(with_reducible assumption)|assumption)
            have hx4:=bt_at a0 x3_1
            replace p4:=eq_true p4
            replace q4:=eq_true q4
            go_wp2
            go_roundg k1
            case measure=>have:=HK1.out;omega
            case rel=>exact ⟨(wrap64 (x3_1+1)),(by first|rfl|(simp;done)|(simp [*];done)),H',⟨by have:=HK1.out;omega⟩,by repeat (first|exact Drawn0.refl _|apply Drawn0.step)⟩
           ·rw [if_neg c51] at H
            have c51b0:((bt a0 x3_1) == 46)=false:=beq_eq_false_iff_ne.mpr c51
            have c51b1:((bt a0 x3_1) != 46)=true:=bne_iff_ne.mpr c51
            by_cases c52:(bt a0 x3_1)=47
            ·rw [if_pos c52] at H
             have c52b0:((bt a0 x3_1) == 47)=true:=beq_iff_eq.mpr c52
             have c52b1:((bt a0 x3_1) != 47)=false:=bne_eq_false_iff_eq.mpr c52
             clear c52
             have H':=Aside0.mk H
             clear H
             have p4:0≤(x3_1:Int):=of_decide_eq_true (by first|(with_reducible assumption)|assumption)
             have q4:x3_1<(a0.size:Int):=of_decide_eq_true (by first|(with_reducible assumption)|assumption)
             have hx4:=bt_at a0 x3_1
             replace p4:=eq_true p4
             replace q4:=eq_true q4
             go_wp2
             go_roundg k1
             case measure=>have:=HK1.out;omega
             case rel=>exact ⟨(wrap64 (x3_1+1)),(by first|rfl|(simp;done)|(simp [*];done)),H',⟨by have:=HK1.out;omega⟩,by repeat (first|exact Drawn0.refl _|apply Drawn0.step)⟩
            ·rw [if_neg c52] at H
             have c52b0:((bt a0 x3_1) == 47)=false:=beq_eq_false_iff_ne.mpr c52
             have c52b1:((bt a0 x3_1) != 47)=true:=bne_iff_ne.mpr c52
             by_cases c53:(bt a0 x3_1)=58
             ·rw [if_pos c53] at H
              have c53b0:((bt a0 x3_1) == 58)=true:=beq_iff_eq.mpr c53
              have c53b1:((bt a0 x3_1) != 58)=false:=bne_eq_false_iff_eq.mpr c53
              clear c53
              have H':=Aside0.mk H
              clear H
              have p4:0≤(x3_1:Int):=of_decide_eq_true (by first|(with_reducible assumption)|assumption)
              have q4:x3_1<(a0.size:Int):=of_decide_eq_true (by first|(with_reducible assumption)|assumption)
              have hx4:=bt_at a0 x3_1
              replace p4:=eq_true p4
              replace q4:=eq_true q4
              go_wp2
              go_roundg k1
              case measure=>have:=HK1.out;omega
              case rel=>exact ⟨(wrap64 (x3_1+1)),(by first|rfl|(simp;done)|(simp [*];done)),H',⟨by have:=HK1.out;omega⟩,by repeat (first|exact Drawn0.refl _|apply Drawn0.step)⟩
             ·rw [if_neg c53] at H
              have c53b0:((bt a0 x3_1) == 58)=false:=beq_eq_false_iff_ne.mpr c53
              have c53b1:((bt a0 x3_1) != 58)=true:=bne_iff_ne.mpr c53
              obtain rfl:=Option.some.inj H
              have p4:0≤(x3_1:Int):=of_decide_eq_true (by first|(with_reducible assumption)|assumption)
              have q4:x3_1<(a0.size:Int):=of_decide_eq_true (by first|(with_reducible assumption)|assumption)
              have hx4:=bt_at a0 x3_1
              replace p4:=eq_true p4
              replace q4:=eq_true q4
              go_wp2
              (first|go_ret|go_ret2)
              exact ⟨by first|rfl|(simp;done)|(simp [*];done),by repeat (first|exact Drawn0.refl _|apply Drawn0.step)⟩
       ·rw [if_neg c47] at H
        have c47b0:decide (48≤(bt a0 x3_1))=false:=decide_eq_false c47
        clear c47
        by_cases c54:(bt a0 x3_1)=95
        ·rw [if_pos c54] at H
         have c54b0:((bt a0 x3_1) == 95)=true:=beq_iff_eq.mpr c54
         have c54b1:((bt a0 x3_1) != 95)=false:=bne_eq_false_iff_eq.mpr c54
         clear c54
         have H':=Aside0.mk H
         clear H
         have p4:0≤(x3_1:Int):=of_decide_eq_true (by first|(with_reducible assumption)|assumption)
         have q4:x3_1<(a0.size:Int):=of_decide_eq_true (by first|(with_reducible assumption)|assumption)
         have hx4:=bt_at a0 x3_1
         replace p4:=eq_true p4
         replace q4:=eq_true q4
         go_wp2
         go_roundg k1
         case measure=>have:=HK1.out;omega
         case rel=>exact ⟨(wrap64 (x3_1+1)),(by first|rfl|(simp;done)|(simp [*];done)),H',⟨by have:=HK1.out;omega⟩,by repeat (first|exact Drawn0.refl _|apply Drawn0.step)⟩
        ·rw [if_neg c54] at H
         have c54b0:((bt a0 x3_1) == 95)=false:=beq_eq_false_iff_ne.mpr c54
         have c54b1:((bt a0 x3_1) != 95)=true:=bne_iff_ne.mpr c54
         by_cases c55:(bt a0 x3_1)=45
         ·rw [if_pos c55] at H
          have c55b0:((bt a0 x3_1) == 45)=true:=beq_iff_eq.mpr c55
          have c55b1:((bt a0 x3_1) != 45)=false:=bne_eq_false_iff_eq.mpr c55
          clear c55
          have H':=Aside0.mk H
          clear H
          have p4:0≤(x3_1:Int):=of_decide_eq_true (by first|(with_reducible assumption)|assumption)
          have q4:x3_1<(a0.size:Int):=of_decide_eq_true (by first|(with_reducible assumption)|assumption)
          have hx4:=bt_at a0 x3_1
          replace p4:=eq_true p4
          replace q4:=eq_true q4
          go_wp2
          go_roundg k1
          case measure=>have:=HK1.out;omega
          case rel=>exact ⟨(wrap64 (x3_1+1)),(by first|rfl|(simp;done)|(simp [*];done)),H',⟨by have:=HK1.out;omega⟩,by repeat (first|exact Drawn0.refl _|apply Drawn0.step)⟩
         ·rw [if_neg c55] at H
          have c55b0:((bt a0 x3_1) == 45)=false:=beq_eq_false_iff_ne.mpr c55
          have c55b1:((bt a0 x3_1) != 45)=true:=bne_iff_ne.mpr c55
          by_cases c56:(bt a0 x3_1)=46
          ·rw [if_pos c56] at H
           have c56b0:((bt a0 x3_1) == 46)=true:=beq_iff_eq.mpr c56
           have c56b1:((bt a0 x3_1) != 46)=false:=bne_eq_false_iff_eq.mpr c56
           clear c56
           have H':=Aside0.mk H
           clear H
           have p4:0≤(x3_1:Int):=of_decide_eq_true (by first|(with_reducible assumption)|assumption)
           have q4:x3_1<(a0.size:Int):=of_decide_eq_true (by first|(with_reducible assumption)|assumption)
           have hx4:=bt_at a0 x3_1
           replace p4:=eq_true p4
           replace q4:=eq_true q4
           go_wp2
           go_roundg k1
           case measure=>have:=HK1.out;omega
           case rel=>exact ⟨(wrap64 (x3_1+1)),(by first|rfl|(simp;done)|(simp [*];done)),H',⟨by have:=HK1.out;omega⟩,by repeat (first|exact Drawn0.refl _|apply Drawn0.step)⟩
          ·rw [if_neg c56] at H
           have c56b0:((bt a0 x3_1) == 46)=false:=beq_eq_false_iff_ne.mpr c56
           have c56b1:((bt a0 x3_1) != 46)=true:=bne_iff_ne.mpr c56
           by_cases c57:(bt a0 x3_1)=47
           ·rw [if_pos c57] at H
            have c57b0:((bt a0 x3_1) == 47)=true:=beq_iff_eq.mpr c57
            have c57b1:((bt a0 x3_1) != 47)=false:=bne_eq_false_iff_eq.mpr c57
            clear c57
            have H':=Aside0.mk H
            clear H
            have p4:0≤(x3_1:Int):=of_decide_eq_true (by first|(with_reducible assumption)|assumption)
            have q4:x3_1<(a0.size:Int):=of_decide_eq_true (by first|(with_reducible assumption)|assumption)
            have hx4:=bt_at a0 x3_1
            replace p4:=eq_true p4
            replace q4:=eq_true q4
            go_wp2
            go_roundg k1
            case measure=>have:=HK1.out;omega
            case rel=>exact ⟨(wrap64 (x3_1+1)),(by first|rfl|(simp;done)|(simp [*];done)),H',⟨by have:=HK1.out;omega⟩,by repeat (first|exact Drawn0.refl _|apply Drawn0.step)⟩
           ·rw [if_neg c57] at H
            have c57b0:((bt a0 x3_1) == 47)=false:=beq_eq_false_iff_ne.mpr c57
            have c57b1:((bt a0 x3_1) != 47)=true:=bne_iff_ne.mpr c57
            by_cases c58:(bt a0 x3_1)=58
            ·rw [if_pos c58] at H
             have c58b0:((bt a0 x3_1) == 58)=true:=beq_iff_eq.mpr c58
             have c58b1:((bt a0 x3_1) != 58)=false:=bne_eq_false_iff_eq.mpr c58
             clear c58
             have H':=Aside0.mk H
             clear H
             have p4:0≤(x3_1:Int):=of_decide_eq_true (by first|(with_reducible assumption)|assumption)
             have q4:x3_1<(a0.size:Int):=of_decide_eq_true (by first|(with_reducible assumption)|assumption)
             have hx4:=bt_at a0 x3_1
             replace p4:=eq_true p4
             replace q4:=eq_true q4
             go_wp2
             go_roundg k1
             case measure=>have:=HK1.out;omega
             case rel=>exact ⟨(wrap64 (x3_1+1)),(by first|rfl|(simp;done)|(simp [*];done)),H',⟨by have:=HK1.out;omega⟩,by repeat (first|exact Drawn0.refl _|apply Drawn0.step)⟩
            ·rw [if_neg c58] at H
             have c58b0:((bt a0 x3_1) == 58)=false:=beq_eq_false_iff_ne.mpr c58
             have c58b1:((bt a0 x3_1) != 58)=true:=bne_iff_ne.mpr c58
             obtain rfl:=Option.some.inj H
             have p4:0≤(x3_1:Int):=of_decide_eq_true (by first|(with_reducible assumption)|assumption)
             have q4:x3_1<(a0.size:Int):=of_decide_eq_true (by first|(with_reducible assumption)|assumption)
             have hx4:=bt_at a0 x3_1
             replace p4:=eq_true p4
             replace q4:=eq_true q4
             go_wp2
             (first|go_ret|go_ret2)
             exact ⟨by first|rfl|(simp;done)|(simp [*];done),by repeat (first|exact Drawn0.refl _|apply Drawn0.step)⟩
    ·rw [if_neg c3] at H
     exact absurd H (by simp)
   ·rw [if_neg c2] at H
    have c2b0:decide (x3_1<(a0.size:Int))=false:=decide_eq_false c2
    clear c2
    obtain rfl:=Option.some.inj H
    go_wp2
    (first|go_ret|go_ret2)
    exact ⟨by first|rfl|(simp;done)|(simp [*];done),by repeat (first|exact Drawn0.refl _|apply Drawn0.step)⟩
end Go.Proofs.YtnbbfjddjmklpaaDoor.P

/- What the functions on names, values, words and sets of labels come to, in plain words; the reference's are the same. Conditions: as each lemma says. -/
set_option linter.unusedVariables false
set_option linter.unusedSimpArgs false
namespace Go.Proofs.YtnbbfjddjmklpaaDoor.P
open Go.RowKit Go.Proofs.YtnbbfjddjmklpaaDoorW.PrintWords Go.Proofs.YtnbbfjddjmklpaaDoorW.PrintLast Go.Proofs.YtnbbfjddjmklpaaDoorW.PrintMore

theorem mn_nat (a b:Nat):mn (a:Int) (b:Int)=((min a b:Nat):Int):=by
 unfold mn
 split<;>omega
theorem wrap_id {n:Int} (h1:-9223372036854775808≤n) (h2:n<9223372036854775808):wrap64 n=n:=by
 unfold wrap64
 omega
def allFrom (P:Nat→Bool):Nat→Nat→Bool
 | _,0=>true
 | i,d+1=>P i && allFrom P (i+1) d
theorem allFrom_iff (P:Nat→Bool):∀ (d i:Nat),allFrom P i d=true↔∀ j,i≤j→j<i+d→P j=true
 | 0,i=>⟨fun _ j h1 h2=>by omega,fun _=>rfl⟩
 | d+1,i=>by
  show (P i && allFrom P (i+1) d)=true↔_
  rw [Bool.and_eq_true,allFrom_iff P d (i+1)]
  exact ⟨fun ⟨h0,h⟩ j h1 h2=>by
   by_cases e:j=i
   ·rw [e];exact h0
   ·exact h j (by omega) (by omega),fun h=>⟨h i (Nat.le_refl _) (by omega),fun j h1 h2=>h j (by omega) (by omega)⟩⟩
theorem allFrom_any (s:ByteArray) (p:Int→Bool) (d:Nat):∀ i,i+d=s.size→allFrom (fun j=>!p (bt s (j:Int))) i d=!((bytesOf s).drop i).any p:=by
 induction d with
 | zero=>intro i hi;rw [List.drop_eq_nil_of_le (by rw [bytesOf_length];omega)];rfl
 | succ d ih =>
  intro i hi
  have hl:i<(bytesOf s).length:=by rw [bytesOf_length];omega
  have hb:(bytesOf s)[i]=bt s (i:Int):=by
   have h:=rd_bytesOf s (i:Int)
   unfold rd at h
   rw [Int.toNat_natCast,List.getD_eq_getElem?_getD,List.getElem?_eq_getElem hl] at h
   exact h
  show (!p (bt s (i:Int)) && allFrom _ (i+1) d)=_
  rw [ih (i+1) (by omega),List.drop_eq_getElem_cons hl,List.any_cons,hb]
  cases p (bt s (i:Int))<;>simp
def letB (c:Int):Bool:=(decide (97≤c) && decide (c≤122)) || (decide (65≤c) && decide (c≤90)) || c == 95
def nmB (i:Nat) (c:Int):Bool:=letB c || (decide (i≠0) && decide (48≤c) && decide (c≤57))
def nameB (s:ByteArray):Bool:=allFrom (fun i=>nmB i (bt s (i:Int))) 0 s.size && decide (s.size≠0) && decide (s.size≤64)
theorem letter_eq (c:Int):label_letter.f c=some (letB c):=by
 have e:letB c=true↔(97≤c∧c≤122)∨(65≤c∧c≤90)∨c=95:=by unfold letB;simp [or_assoc]
 have e2:∀ b:Bool,(b=true↔(97≤c∧c≤122)∨(65≤c∧c≤90)∨c=95)→b=letB c:=fun b h=>by rw [Bool.eq_iff_iff,h,e]
 unfold label_letter.f
 repeat' split
 all_goals
  refine congrArg some (e2 _ ?_)
  first|(rw [beq_iff_eq];omega)|exact ⟨fun _=>by omega,fun _=>rfl⟩
theorem size_nil (s:ByteArray):s.toList=([]:List UInt8)↔s.size=0:=by
 constructor
 ·intro h
  rw [← data_length,← ByteArray.toList_eq,h]
  rfl
 ·intro h
  rw [ByteArray.toList_eq]
  exact List.length_eq_zero_iff.1 (by rw [data_length];exact h)
theorem name_end (s:ByteArray):(if s.toList=([]:List UInt8) then (some false) else (some (decide ((s.size:Int)≤64))))=some (decide (s.size≠0) && decide (s.size≤64)):=by
 by_cases h:s.size=0
 ·rw [if_pos ((size_nil s).2 h),decide_eq_false (by omega)]
  rfl
 ·rw [if_neg (fun x=>h ((size_nil s).1 x)),decide_eq_true h,Bool.true_and]
  refine congrArg some ?_
  rw [Bool.eq_iff_iff]
  simp
  omega
theorem name_from (s:ByteArray) (hs:s.size≤maxLen) (d:Nat):∀ (k i:Nat),i+d=s.size→d<k →
  label_name.l0 k s (s.size:Int) (i:Int)=some (allFrom (fun i=>nmB i (bt s (i:Int))) i d && (decide (s.size≠0) && decide (s.size≤64))):=by
 unfold maxLen at hs
 induction d with
 | zero =>
  intro k i hi hk
  obtain ⟨k,rfl⟩:∃ m,k=m+1:=⟨k-1,by omega⟩
  simp only [label_name.l0]
  rw [if_neg (by omega),name_end]
  rfl
 | succ d ih =>
  intro k i hi hk
  obtain ⟨k,rfl⟩:∃ m,k=m+1:=⟨k-1,by omega⟩
  have hr:=ih k (i+1) (by omega) (by omega)
  rw [Int.natCast_succ] at hr
  simp only [label_name.l0]
  rw [if_pos (by omega),if_pos (by omega),if_pos (by omega),letter_eq,Option.bind_some,wrap_id (by omega) (by omega),hr]
  show _=some (nmB i (bt s (i:Int)) && allFrom _ (i+1) d && _)
  generalize allFrom (fun i=>nmB i (bt s (i:Int))) (i+1) d=z
  generalize (decide (s.size≠0) && decide (s.size≤64))=y
  generalize bt s (i:Int)=c
  unfold nmB
  cases hl:letB c with
  | true=>rw [if_pos rfl];simp
  | false =>
   rw [if_neg (by decide)]
   by_cases h0:i=0
   ·subst h0
    rw [if_pos (by rfl)]
    simp
   ·rw [if_neg (by omega),decide_eq_true h0]
    by_cases h1:c<48
    ·rw [if_pos h1,decide_eq_false (show ¬ 48≤c by omega)]
     simp
    ·rw [if_neg h1,decide_eq_true (show 48≤c by omega)]
     by_cases h2:c>57
     ·rw [if_pos h2,decide_eq_false (show ¬ c≤57 by omega)]
      simp
     ·rw [if_neg h2,decide_eq_true (show c≤57 by omega)]
      simp
theorem name_eq (s:ByteArray) (hs:s.size≤maxLen) (k:Nat) (hk:s.size<k):label_name.f k s=some (nameB s):=by
 unfold label_name.f nameB
 have h:=name_from s hs s.size k 0 (by omega) hk
 rw [show ((0:Nat):Int)=0 from rfl] at h
 rw [h,Bool.and_assoc]
theorem refname_if {α:Type} (i:Nat) (x:Int) (hx:x=(i:Int)) (c:Int) (a b:α) :
  (if c≥97 then (if c≤122 then a else (if c≥65 then (if c≤90 then a else (if c=95 then a else (if x=0 then b else (if c<48 then b else (if c>57 then b else a))))) else (if c=95 then a else (if x=0 then b else (if c<48 then b else (if c>57 then b else a)))))) else (if c≥65 then (if c≤90 then a else (if c=95 then a else (if x=0 then b else (if c<48 then b else (if c>57 then b else a))))) else (if c=95 then a else (if x=0 then b else (if c<48 then b else (if c>57 then b else a))))))=if nmB i c=true then a else b:=by
 subst hx
 have e:nmB i c=true↔(((97≤c∧c≤122)∨(65≤c∧c≤90)∨c=95)∨(i≠0∧48≤c∧c≤57)):=by unfold nmB letB;simp [or_assoc,and_assoc]
 by_cases h:nmB i c=true
 ·rw [if_pos h]
  have h1:=e.1 h
  repeat' split
  all_goals first|rfl|omega
 ·rw [if_neg h]
  have h1:=fun x=>h (e.2 x)
  repeat' split
  all_goals first|rfl|(exfalso;apply h1;omega)|omega
theorem size_end (s:ByteArray):(if (s.size:Int)>0 then (some (decide ((s.size:Int)≤64))) else (some false))=some (decide (s.size≠0) && decide (s.size≤64)):=by
 by_cases h:s.size=0
 ·rw [if_neg (by omega),decide_eq_false (by omega)]
  rfl
 ·rw [if_pos (by omega),decide_eq_true h,Bool.true_and]
  refine congrArg some ?_
  rw [Bool.eq_iff_iff]
  simp
  omega
theorem refname_from (s:ByteArray) (hs:s.size≤maxLen) (d:Nat):∀ (k i:Nat),i+d=s.size→d<k →
  transhipmentref03_Name.l0 k s (i:Int)=some (allFrom (fun i=>nmB i (bt s (i:Int))) i d && (decide (s.size≠0) && decide (s.size≤64))):=by
 unfold maxLen at hs
 induction d with
 | zero =>
  intro k i hi hk
  obtain ⟨k,rfl⟩:∃ m,k=m+1:=⟨k-1,by omega⟩
  simp only [transhipmentref03_Name.l0]
  rw [if_neg (by omega),size_end]
  rfl
 | succ d ih =>
  intro k i hi hk
  obtain ⟨k,rfl⟩:∃ m,k=m+1:=⟨k-1,by omega⟩
  have hr:=ih k (i+1) (by omega) (by omega)
  rw [Int.natCast_succ] at hr
  simp only [transhipmentref03_Name.l0]
  rw [if_pos (by omega),if_pos (by omega),refname_if i _ rfl,wrap_id (by omega) (by omega),hr]
  show _=some (nmB i (bt s (i:Int)) && allFrom _ (i+1) d && _)
  generalize allFrom (fun i=>nmB i (bt s (i:Int))) (i+1) d=z
  cases nmB i (bt s (i:Int))<;>simp
theorem refname_eq (s:ByteArray) (hs:s.size≤maxLen) (k:Nat) (hk:s.size<k):transhipmentref03_Name.f k s=some (nameB s):=by
 unfold transhipmentref03_Name.f nameB
 have h:=refname_from s hs s.size k 0 (by omega) hk
 rw [show ((0:Nat):Int)=0 from rfl] at h
 rw [h,Bool.and_assoc]
theorem refvalue_from (s:ByteArray) (hs:s.size≤maxLen) (d:Nat):∀ (k i:Nat),i+d=s.size→d<k →
  transhipmentref03_Value.l0 k s (i:Int)=some (allFrom (fun i=>!unprB (bt s (i:Int))) i d && (decide (s.size≠0) && decide (s.size≤64))):=by
 unfold maxLen at hs
 induction d with
 | zero =>
  intro k i hi hk
  obtain ⟨k,rfl⟩:∃ m,k=m+1:=⟨k-1,by omega⟩
  simp only [transhipmentref03_Value.l0]
  rw [if_neg (by omega),size_end]
  rfl
 | succ d ih =>
  intro k i hi hk
  obtain ⟨k,rfl⟩:∃ m,k=m+1:=⟨k-1,by omega⟩
  have hr:=ih k (i+1) (by omega) (by omega)
  rw [Int.natCast_succ] at hr
  simp only [transhipmentref03_Value.l0]
  rw [if_pos (by omega),if_pos (by omega),wrap_id (by omega) (by omega),hr]
  show _=some (!unprB (bt s (i:Int)) && allFrom _ (i+1) d && _)
  generalize allFrom (fun i=>!unprB (bt s (i:Int))) (i+1) d=z
  generalize (decide (s.size≠0) && decide (s.size≤64))=y
  generalize bt s (i:Int)=c
  unfold unprB
  by_cases h1:c<32
  ·rw [if_pos h1,decide_eq_true h1]
   simp
  ·rw [if_neg h1,decide_eq_false h1]
   by_cases h2:c>126
   ·rw [if_pos h2,decide_eq_true (show 126<c by omega)]
    simp
   ·rw [if_neg h2,decide_eq_false (show ¬ 126<c by omega)]
    simp
theorem refvalue_eq (s:ByteArray) (hs:s.size≤maxLen) (k:Nat) (hk:s.size<k):transhipmentref03_Value.f k s=some (valB s):=by
 unfold transhipmentref03_Value.f valB
 have h:=refvalue_from s hs s.size k 0 (by omega) hk
 rw [show ((0:Nat):Int)=0 from rfl] at h
 rw [h,allFrom_any s unprB s.size 0 (by omega),List.drop_zero]
 cases (bytesOf s).any unprB<;>cases decide (s.size≠0)<;>cases decide (s.size≤64)<;>rfl
theorem signB_eq (c:Int) (h0:0≤c) (h1:c≤255):signB c=(c == 95 || c == 45 || c == 46 || c == 47 || c == 58):=by
 have hd:∀ n:Fin 256,signB ((n.1:Nat):Int)=(((n.1:Nat):Int) == 95 || ((n.1:Nat):Int) == 45 || ((n.1:Nat):Int) == 46 || ((n.1:Nat):Int) == 47 || ((n.1:Nat):Int) == 58):=by decide +kernel
 obtain ⟨n,rfl⟩:=Int.eq_ofNat_of_zero_le h0
 exact hd ⟨n,by omega⟩
theorem sign_if {α:Type} (c:Int) (h0:0≤c) (h1:c≤255) (a b:α):(if c=95 then a else (if c=45 then a else (if c=46 then a else (if c=47 then a else (if c=58 then a else b)))))=if signB c=true then a else b:=by
 rw [signB_eq c h0 h1]
 simp only [Bool.or_eq_true,beq_iff_eq]
 repeat' split
 all_goals first|rfl|omega
theorem refword_if {α:Type} (c:Int) (h0:0≤c) (h1:c≤255) (a b:α) :
  (if c≥97 then (if c≤122 then a else (if c≥65 then (if c≤90 then a else (if c≥48 then (if c≤57 then a else (if c=95 then a else (if c=45 then a else (if c=46 then a else (if c=47 then a else (if c=58 then a else b)))))) else (if c=95 then a else (if c=45 then a else (if c=46 then a else (if c=47 then a else (if c=58 then a else b))))))) else (if c≥48 then (if c≤57 then a else (if c=95 then a else (if c=45 then a else (if c=46 then a else (if c=47 then a else (if c=58 then a else b)))))) else (if c=95 then a else (if c=45 then a else (if c=46 then a else (if c=47 then a else (if c=58 then a else b)))))))) else (if c≥65 then (if c≤90 then a else (if c≥48 then (if c≤57 then a else (if c=95 then a else (if c=45 then a else (if c=46 then a else (if c=47 then a else (if c=58 then a else b)))))) else (if c=95 then a else (if c=45 then a else (if c=46 then a else (if c=47 then a else (if c=58 then a else b))))))) else (if c≥48 then (if c≤57 then a else (if c=95 then a else (if c=45 then a else (if c=46 then a else (if c=47 then a else (if c=58 then a else b)))))) else (if c=95 then a else (if c=45 then a else (if c=46 then a else (if c=47 then a else (if c=58 then a else b))))))))=if plainB c=true then a else b:=by
 simp only [sign_if c h0 h1]
 unfold plainB
 generalize signB c=q
 cases q with
 | true =>
  simp only [if_true,Bool.or_true]
  repeat' split
  all_goals rfl
 | false =>
  simp only [Bool.false_eq_true,if_false,Bool.or_false]
  have e:((decide (97≤c) && decide (c≤122)) || (decide (65≤c) && decide (c≤90)) || (decide (48≤c) && decide (c≤57)))=true↔((97≤c∧c≤122)∨(65≤c∧c≤90)∨(48≤c∧c≤57)):=by simp [or_assoc]
  by_cases h:((decide (97≤c) && decide (c≤122)) || (decide (65≤c) && decide (c≤90)) || (decide (48≤c) && decide (c≤57)))=true
  ·rw [if_pos h]
   have h2:=e.1 h
   repeat' split
   all_goals first|rfl|omega
  ·rw [if_neg h]
   have h2:=fun x=>h (e.2 x)
   repeat' split
   all_goals first|rfl|(exfalso;apply h2;omega)|omega
theorem refword_from (s:ByteArray) (hs:s.size≤maxLen) (d:Nat):∀ (k i:Nat),i+d=s.size→d<k →
  transhipmentref04_Word.l0 k s (i:Int)=some (allFrom (fun i=>!(fun c=>!plainB c) (bt s (i:Int))) i d && decide (s.size≤64)):=by
 unfold maxLen at hs
 induction d with
 | zero =>
  intro k i hi hk
  obtain ⟨k,rfl⟩:∃ m,k=m+1:=⟨k-1,by omega⟩
  simp only [transhipmentref04_Word.l0]
  rw [if_neg (by omega)]
  show some (decide ((s.size:Int)≤64))=some (true && decide (s.size≤64))
  rw [Bool.true_and]
  refine congrArg some ?_
  rw [Bool.eq_iff_iff]
  simp
  omega
 | succ d ih =>
  intro k i hi hk
  obtain ⟨k,rfl⟩:∃ m,k=m+1:=⟨k-1,by omega⟩
  have hr:=ih k (i+1) (by omega) (by omega)
  rw [Int.natCast_succ] at hr
  have hb:=bt_range s (i:Int)
  simp only [transhipmentref04_Word.l0]
  rw [if_pos (by omega),if_pos (by omega),refword_if _ hb.1 hb.2,wrap_id (by omega) (by omega),hr]
  show _=some (!!plainB (bt s (i:Int)) && allFrom _ (i+1) d && _)
  generalize allFrom (fun i=>!(fun c=>!plainB c) (bt s (i:Int))) (i+1) d=z
  cases plainB (bt s (i:Int))<;>simp
theorem refword_eq (s:ByteArray) (hs:s.size≤maxLen) (k:Nat) (hk:s.size<k):transhipmentref04_Word.f k s=some (wordB s):=by
 unfold transhipmentref04_Word.f wordB
 have h:=refword_from s hs s.size k 0 (by omega) hk
 rw [show ((0:Nat):Int)=0 from rfl] at h
 rw [h,allFrom_any s (fun c=>!plainB c) s.size 0 (by omega),List.drop_zero,Bool.and_comm]
def ltB (a b:ByteArray):Bool:=Op.bytesLess a.toList b.toList
theorem bt_get (s:ByteArray) (i:Nat) (h:i<s.data.toList.length):bt s (i:Int)=((s.data.toList[i]).toNat:Int):=by
 have h2:=rd_bytesOf s (i:Int)
 unfold rd bytesOf at h2
 rw [Int.toNat_natCast,List.getD_eq_getElem?_getD,List.getElem?_map,List.getElem?_eq_getElem h] at h2
 exact h2.symm
theorem less_from (a b:ByteArray) (ha:a.size≤maxLen) (d:Nat):∀ (k i:Nat),i+d=a.size→i≤b.size→2*d+2<k →
  transhipmentref03_Less.l0 k a b (i:Int)=some (Op.bytesLess (a.data.toList.drop i) (b.data.toList.drop i)):=by
 unfold maxLen at ha
 induction d with
 | zero =>
  intro k i hi hb hk
  obtain ⟨k,rfl⟩:∃ m,k=m+2:=⟨k-2,by omega⟩
  simp only [transhipmentref03_Less.l0]
  rw [if_neg (by omega)]
  simp only [transhipmentref03_Less.j1]
  rw [if_neg (by decide),List.drop_eq_nil_of_le (by rw [data_length];omega)]
  by_cases h:i<b.size
  ·rw [List.drop_eq_getElem_cons (by rw [data_length];exact h),decide_eq_true (by omega)]
   rfl
  ·rw [List.drop_eq_nil_of_le (by rw [data_length];omega),decide_eq_false (by omega)]
   rfl
 | succ d ih =>
  intro k i hi hb hk
  obtain ⟨k,rfl⟩:∃ m,k=m+2:=⟨k-2,by omega⟩
  have hal:i<a.data.toList.length:=by rw [data_length];omega
  simp only [transhipmentref03_Less.l0]
  rw [if_pos (by omega),List.drop_eq_getElem_cons hal]
  by_cases h:i<b.size
  ·have hbl:i<b.data.toList.length:=by rw [data_length];exact h
   have hr:=ih k (i+1) (by omega) (by omega) (by omega)
   rw [Int.natCast_succ] at hr
   rw [decide_eq_true (show (i:Int)<(b.size:Int) by omega),List.drop_eq_getElem_cons hbl]
   simp only [transhipmentref03_Less.j1]
   rw [if_pos trivial,if_pos (by omega),if_pos (by omega),if_pos (by omega),wrap_id (by omega) (by omega),hr,bt_get a i hal,bt_get b i hbl]
   generalize a.data.toList[i]=x at *
   generalize b.data.toList[i]=y at *
   show _=some (decide (x<y) || (x == y && Op.bytesLess _ _))
   by_cases e:x=y
   ·subst e
    rw [if_pos rfl,beq_self_eq_true,Bool.true_and,decide_eq_false (by rw [UInt8.lt_iff_toNat_lt];omega),Bool.false_or]
   ·rw [if_neg (fun h=>e (UInt8.toNat_inj.1 (by omega))),beq_eq_false_iff_ne.2 e,Bool.false_and,Bool.or_false]
    refine congrArg some ?_
    rw [Bool.eq_iff_iff]
    simp [UInt8.lt_iff_toNat_lt]
  ·rw [decide_eq_false (show ¬ (i:Int)<(b.size:Int) by omega),(show b.data.toList.drop i=[] from List.drop_eq_nil_of_le (by rw [data_length];omega))]
   simp only [transhipmentref03_Less.j1]
   rw [if_neg (by decide),decide_eq_false (by omega)]
   rfl
theorem less_eq (a b:ByteArray) (ha:a.size≤maxLen) (k:Nat) (hk:2*a.size+2<k):transhipmentref03_Less.f k a b=some (ltB a b):=by
 have h:=less_from a b ha a.size k 0 (by omega) (by omega) hk
 unfold transhipmentref03_Less.f ltB
 rw [show ((0:Nat):Int)=0 from rfl] at h
 rw [h,List.drop_zero,List.drop_zero,ByteArray.toList_eq,ByteArray.toList_eq]
def lab (l:List S46) (i:Nat):S46:=l.getD i z46
def setAt (l:List S46) (i:Nat):Bool:=nameB (lab l i).f0 && valB (lab l i).f1 && (decide (i=0) || ltB (lab l (i-1)).f0 (lab l i).f0)
def setB (l:List S46):Bool:=allFrom (setAt l) 0 l.length && decide (l.length≤8)
def SetSmall (l:List S46) (N:Nat):Prop:=∀ i,(lab l i).f0.size≤N∧(lab l i).f1.size≤N
theorem rd_lab (l:List S46) (i:Nat):rd_T46 l (i:Int)=lab l i:=by unfold rd_T46 lab;rw [Int.toNat_natCast]
theorem len_end (n:Nat) (m:Nat):decide ((n:Int)≤(m:Int))=decide (n≤m):=by
 rw [Bool.eq_iff_iff]
 simp
theorem set_from (l:List S46) (N:Nat) (hN:N≤1000000) (hs:SetSmall l N) (hl:l.length≤maxLen) (d:Nat):∀ (k i:Nat),i+d=l.length→N+2+d<k →
  label_Right.l0 k l l (l.length:Int) (i:Int)=some (allFrom (setAt l) i d && decide (l.length≤8)):=by
 unfold maxLen at hl
 induction d with
 | zero =>
  intro k i hi hk
  obtain ⟨k,rfl⟩:∃ m,k=m+1:=⟨k-1,by omega⟩
  simp only [label_Right.l0]
  rw [if_neg (by omega)]
  exact congrArg some (len_end _ 8)
 | succ d ih =>
  intro k i hi hk
  obtain ⟨k,rfl⟩:∃ m,k=m+1:=⟨k-1,by omega⟩
  have hr:=ih k (i+1) (by omega) (by omega)
  rw [Int.natCast_succ] at hr
  simp only [label_Right.l0]
  rw [if_pos (by omega),if_pos (by omega),if_pos (by omega),wrap_id (n:=(i:Int)+1) (by omega) (by omega),hr,rd_lab]
  show _=some (setAt l i && allFrom _ (i+1) d && _)
  generalize allFrom (setAt l) (i+1) d=z
  unfold label_may.f label_value.f setAt
  rw [name_eq _ (by unfold maxLen;have:=(hs i).1;omega) k (by have:=(hs i).1;omega),Option.bind_some]
  cases hn:nameB (lab l i).f0 with
  | false=>simp
  | true =>
   rw [if_pos rfl,Option.bind_some,Option.bind_some]
   cases hv:valB (lab l i).f1 with
   | false=>simp
   | true =>
    rw [if_pos rfl]
    by_cases h0:i=0
    ·subst h0
     rw [if_neg (by omega)]
     simp
    ·rw [if_pos (by omega),wrap_id (by omega) (by omega),if_pos (by omega),if_pos (by omega),show (i:Int)-1=((i-1:Nat):Int) by omega,rd_lab,decide_eq_false h0]
     unfold ltB
     cases Op.bytesLess (lab l (i-1)).f0.toList (lab l i).f0.toList<;>simp
theorem set_eq (l:List S46) (N:Nat) (hN:N≤1000000) (hs:SetSmall l N) (hl:l.length≤maxLen) (k:Nat) (hk:N+2+l.length<k):label_Right.f k l=some (setB l):=by
 have h:=set_from l N hN hs hl l.length k 0 (by omega) hk
 exact h
theorem refset_from (l:List S46) (N:Nat) (hN:N≤1000000) (hs:SetSmall l N) (hl:l.length≤maxLen) (d:Nat):∀ (k i:Nat),i+d=l.length→2*N+4+d<k →
  transhipmentref03_Right.l0 k l l (l.length:Int) (i:Int)=some (allFrom (setAt l) i d && decide (l.length≤8)):=by
 unfold maxLen at hl
 induction d with
 | zero =>
  intro k i hi hk
  obtain ⟨k,rfl⟩:∃ m,k=m+1:=⟨k-1,by omega⟩
  simp only [transhipmentref03_Right.l0]
  rw [if_neg (by omega)]
  exact congrArg some (len_end _ 8)
 | succ d ih =>
  intro k i hi hk
  obtain ⟨k,rfl⟩:∃ m,k=m+1:=⟨k-1,by omega⟩
  have hr:=ih k (i+1) (by omega) (by omega)
  rw [Int.natCast_succ] at hr
  simp only [transhipmentref03_Right.l0]
  rw [if_pos (by omega),if_pos (by omega),if_pos (by omega),wrap_id (n:=(i:Int)+1) (by omega) (by omega),hr,rd_lab]
  show _=some (setAt l i && allFrom _ (i+1) d && _)
  generalize allFrom (setAt l) (i+1) d=z
  unfold setAt
  rw [refname_eq _ (by unfold maxLen;have:=(hs i).1;omega) k (by have:=(hs i).1;omega),Option.bind_some]
  cases hn:nameB (lab l i).f0 with
  | false=>simp
  | true =>
   rw [if_pos rfl,refvalue_eq _ (by unfold maxLen;have:=(hs i).2;omega) k (by have:=(hs i).2;omega),Option.bind_some]
   cases hv:valB (lab l i).f1 with
   | false=>simp
   | true =>
    rw [if_pos rfl]
    by_cases h0:i=0
    ·subst h0
     rw [if_neg (by omega)]
     simp
    ·rw [if_pos (by omega),wrap_id (by omega) (by omega),if_pos (by omega),if_pos (by omega),show (i:Int)-1=((i-1:Nat):Int) by omega,rd_lab,decide_eq_false h0,
      less_eq _ _ (by unfold maxLen;have:=(hs (i-1)).1;omega) k (by have:=(hs (i-1)).1;omega),Option.bind_some]
     cases ltB (lab l (i-1)).f0 (lab l i).f0<;>simp
theorem refsetB_eq (l:List S46) (N:Nat) (hN:N≤1000000) (hs:SetSmall l N) (hl:l.length≤maxLen) (k:Nat) (hk:2*N+4+l.length<k):transhipmentref03_Right.f k l=some (setB l):=by
 have h:=refset_from l N hN hs hl l.length k 0 (by omega) hk
 exact h
end Go.Proofs.YtnbbfjddjmklpaaDoor.P

/- strings.Join, slices.Contains and slices.Equal of texts over rows that are read. Conditions: as each lemma says. -/
namespace Go.Proofs.YtnbbfjddjmklpaaDoor.P
open Go.RowKit Go.Proofs.YtnbbfjddjmklpaaDoorW.PrintWords Go.Proofs.YtnbbfjddjmklpaaDoorW.PrintLast Go.Proofs.YtnbbfjddjmklpaaDoorW.PrintMore
set_option linter.unusedSimpArgs false
set_option linter.unusedVariables false

theorem C_plain {w:World} {A:Option Addr} {n:Nat} {xs:List ByteArray} (h:Kd.C Kd.string w A n xs) (hn:0<n):∃ b o,A=some ⟨b,o,none⟩∧b<w.heap.size∧∀ (j:Nat) x,xs[j]?=some x→w.cell? ⟨b,o+j,none⟩=some (.string x):=by
 obtain ⟨hl,_,hc⟩:=h
 obtain ⟨ad,rfl,hc2⟩:=hc hn
 obtain ⟨b,o,s⟩:=ad
 have hcell:∀ (j:Nat) x,xs[j]?=some x→w.cell? ((⟨b,o,s⟩:Addr).add j)=some (.string x):=by
  intro j x hj
  obtain ⟨c,_,rfl,hu⟩:=hc2 j x hj
  have:=hu 0 (.string x) rfl
  simpa [Kd.string,Kd.scalar] using this
 obtain ⟨x0,h0⟩:∃ x,xs[0]?=some x:=⟨_,List.getElem?_eq_getElem (by omega)⟩
 have c0:=hcell 0 x0 h0
 have hs:s=none:=by
  cases s with
  | none=>rfl
  | some s =>
   simp [Addr.add,World.cell?] at c0
   split at c0
   ·simp at c0
   ·cases c0
 subst hs
 refine ⟨b,o,rfl,?_,fun j x hj=>?_⟩
 ·rcases Nat.lt_or_ge b w.heap.size with hb|hb
  ·exact hb
  ·simp [Addr.add,World.cell?,Array.getElem?_eq_none hb] at c0
 ·have:=hcell j x hj
  unfold Addr.add at this
  split at this
  ·rename_i h0
   subst h0
   exact this
  ·exact this
def joinT (l:List ByteArray) (sep:ByteArray):ByteArray:=⟨(Lib.join (l.map (·.data.toList)) sep.data.toList).toArray⟩
def strings_Join.f (l0:List ByteArray) (a1:ByteArray):Option ByteArray:=if l0.length≤140737488355328∧(joinT l0 a1).size≤140737488355328 then some (joinT l0 a1) else none
theorem strings_Join.calls (A0:Option Addr) (c0:Nat) (l0:List ByteArray) (a1:ByteArray) (r:ByteArray) (w:World) (hr0:Kd.C Kd.string w A0 l0.length l0) (hc0:l0.length≤c0) (h:strings_Join.f l0 a1=some r) :
  Calls Tryd.prog 24 #[.slice A0 l0.length c0,.string a1] w fun e w'=>e=.returned (.string r)∧Below w.heap.size w w':=by
 unfold strings_Join.f at h
 split at h
 ·rename_i hb
  obtain rfl:=Option.some.inj h
  rcases Nat.eq_zero_or_pos l0.length with hz|hz
  ·obtain rfl:=List.length_eq_zero_iff.1 hz
   exact (Tryd.strings_Join_none A0 c0 a1 w).mono fun e w' ⟨he,hw⟩=>⟨he,by rw [hw];exact Below.refl _ _⟩
  ·obtain ⟨b,o,rfl,hlt,hcell⟩:=C_plain hr0 hz
   have hsz:(joinT l0 a1).size=(Lib.join (l0.map (·.data.toList)) a1.data.toList).length:=by simp [joinT,ByteArray.size]
   exact Tryd.strings_Join b o c0 l0 a1 w hcell hlt hb.1 hc0 (by rw [← hsz];exact hb.2)
 ·cases h
def slices_Contains.f (l0:List ByteArray) (a1:ByteArray):Option Bool:=some (Lib.containsS l0 a1)
theorem slices_Contains.calls (A0:Option Addr) (c0:Nat) (l0:List ByteArray) (a1:ByteArray) (r:Bool) (w:World) (hr0:Kd.C Kd.string w A0 l0.length l0) (hc0:l0.length≤c0) (h:slices_Contains.f l0 a1=some r) :
  Calls Tryd.prog 38 #[.slice A0 l0.length c0,.string a1] w fun e w'=>e=.returned (.bool r)∧Below w.heap.size w w':=by
 obtain rfl:=Option.some.inj h
 rcases Nat.eq_zero_or_pos l0.length with hz|hz
 ·obtain rfl:=List.length_eq_zero_iff.1 hz
  exact (Tryd.slices_Contains_string_empty A0 c0 a1 w).mono fun e w' ⟨he,hw⟩=>⟨he,by rw [hw];exact Below.refl _ _⟩
 ·obtain ⟨b,o,rfl,hlt,hcell⟩:=C_plain hr0 hz
  have hm:=hr0.2.1
  refine (Tryd.slices_Contains_string b o l0.length c0 l0 a1 w (Nat.le_refl _) hm (fun j hj=>?_)).mono fun e w' ⟨he,hw⟩=>⟨by rw [he,List.take_length],by rw [hw];exact Below.refl _ _⟩
  rw [List.getD_eq_getElem?_getD,List.getElem?_eq_getElem hj]
  exact hcell j _ (List.getElem?_eq_getElem hj)
end Go.Proofs.YtnbbfjddjmklpaaDoor.P
