/- What these functions of the program compute, and plain lemmas on it. Conditions: as each lemma says. -/
import Derived.Test.YthofmfaeccdckaaGreatDoorMTop7
import Derived.Test.YthofmfaeccdckaaGreatDoorMTop3
import Derived.Test.YthofmfaeccdckaaGreatDoorMTop1
set_option linter.unusedVariables false
set_option linter.unusedSimpArgs false
set_option maxHeartbeats 40000000
set_option maxRecDepth 20000
namespace Go.Proofs.YthofmfaeccdckaaGreatDoor.P
open Go.RowKit Go.Proofs.YthofmfaeccdckaaGreatDoorW.PrintWords Go.Proofs.YthofmfaeccdckaaGreatDoorW.PrintLast Go.Proofs.YthofmfaeccdckaaGreatDoorW.PrintMore
theorem run_clear_wide {P:Program} (w:World) (t e ty:TypeId) (z:Value) (n:Nat) (vs:List Value) (ht:P.underlying t=some (.slice e)) (hv:∀ w,(zeroValue e).run P w=.ok z w) (hvs:(Builtin.zeroCells z.cells n).toList=vs) (h1:∀ v∈vs,v.oneCell'=true) (b o c:Nat) (hn:0<n)
 (hc:∀ j,j<vs.length→(w.cell? ⟨b,o+j,none⟩).isSome=true) (hf:∀ j,j<vs.length→w.frozen? ⟨b,o+j,none⟩=false) :
 (Builtin.clear_ #[t] ty #[.slice (some ⟨b,o,none⟩) n c]).run P w=.ok (.tuple #[]) (w.setCells b o vs):=by
 have hst:=run_storeCells_cells (P:=P) b o vs 0 w (by simpa using hc) (by simpa using hf) h1
 simp only [Nat.add_zero] at hst
 obtain ⟨m,rfl⟩:∃ m,n=m+1:=⟨n-1,by omega⟩
 simp [Builtin.clear_,run_underlying ht,hv,hvs,hst]
def nils (n:Nat):List Value:=(Builtin.zeroCells #[.slice none 0 0,.slice none 0 0,.slice none 0 0] n).toList
theorem nils_length (n:Nat):(nils n).length=n*3:=by simp [nils,size_zeroCells]
theorem nils_one (n:Nat):∀ v∈nils n,v.oneCell'=true:=by
 intro v hv
 simp only [nils,Builtin.zeroCells,Array.toList_map,List.mem_map] at hv
 obtain ⟨i,_,rfl⟩:=hv
 have h3:i % (#[Value.slice none 0 0,.slice none 0 0,.slice none 0 0]:Array Value).size<3:=Nat.mod_lt _ (by decide)
 generalize i % (#[Value.slice none 0 0,.slice none 0 0,.slice none 0 0]:Array Value).size=j at h3
 rcases (by omega:j=0∨j=1∨j=2) with rfl|rfl|rfl<;>rfl
theorem run_setCells (w:World) (g:Nat):∀ (vs:List Value) (o:Nat) (R:World→Prop),(∀ w o u,R w→R (w.setCell ⟨g,o,none⟩ u))→R w→R (w.setCells g o vs)
 | [],_,_,_,h=>h
 | v::vs,o,R,hs,h=>run_setCells (w.setCell ⟨g,o,none⟩ v) g vs (o+1) R hs (hs _ _ _ h)
theorem meas2 {n j:Nat} (h:j+1<n) (hw:wrap64 (((j+1:Nat):Int)+1)=((j+1+1:Nat):Int)):n-(intOf (Value.int .i64 (wrap64 ((j:Int)+1+1)))).toNat<n-(intOf (Value.int .i64 ((j+1:Nat):Int))).toNat:=by
 have e:((j:Int)+1+1)=(((j+1:Nat):Int)+1):=by omega
 rw [e,hw]
 show n-((j+1+1:Nat):Int).toNat<n-((j+1:Nat):Int).toNat
 omega
theorem compact_end {W0 W:World} {e base blk cap a:Nat} {ms:List S50} (h:SRow W0 k50 e base blk cap W ms) (ha:a≤ms.length) (vs:List Value):ReadsRow (k50.K W0) 3 (W.setCells blk (a*3) vs) (some ⟨blk,0,none⟩) a (ms.take a):=by
 have hr:=h.reads_Inhibit.2
 refine ⟨by rw [List.length_take];omega,by have:=hr.2.1;omega,fun h0=>?_⟩
 obtain ⟨ad,e1,hc⟩:=hr.2.2 (by omega)
 cases e1
 refine ⟨_,rfl,fun j p hj=>?_⟩
 have hja:j<a:=by
  have:=(List.getElem?_eq_some_iff.1 hj).1
  rw [List.length_take] at this
  omega
 rw [List.getElem?_take,if_pos hja] at hj
 obtain ⟨c,hl,hk,hcell⟩:=hc j p hj
 refine ⟨c,hl,hk,fun i u hu=>?_⟩
 have hi:=(List.getElem?_eq_some_iff.1 hu).1
 rw [World.cell?_setCells_out]
 ·exact hcell i u hu
 ·intro _ _
  rw [add_plain]
  show (j*3+i:Nat)<a*3∨_
  omega
theorem compact_any (W0 : World) (G : Nat → Prop) (Inv : World → Prop) (l : List S50) (f : FuncId) (fn : Func) (cp : Array Value) (hf : Tryz.prog.funcs[f]? = some fn) (hname : (fn.name == "runtime.NumGoroutine") = false) (hbd : fn.body.isSome = true)
 (hcmp:∀ p∈l,∀ q∈l,∀ W cs ds,Inv W→k50.K W0 p cs→k50.K W0 q ds→Calls Tryz.prog f (#[.agg cs.toArray,.agg ds.toArray]++cp) W fun e W'=>(∃ b:Bool,e=.returned (.bool b))∧Inv W'∧Kept W W' G)
 (hdr:∀ W,Inv W→Inv W.drew) (e base blk cap:Nat) (hG:¬ G blk) (hset:∀ W o u,Inv W→Inv (W.setCell ⟨blk,o,none⟩ u)) (ns:List S50) (n:Nat) (hn:ns.length=n) (hns:∀ x∈ns,x∈l) (h16:n≤1000) (hcap:n≤cap) (hcap2:cap≤9223372036854775807) (W:World) (hI:Inv W) (hR:SRow W0 k50 e base blk cap W ns) :
 Calls Tryz.prog 90 #[.slice (some ⟨blk,0,none⟩) n cap,.func (.func f) #[] cp] W fun e_ W'=>Inv W'∧∃ m c ys,e_=.returned (.slice (some ⟨blk,0,none⟩) m c)∧ys.length=m∧m≤c∧m≤n∧(∀ y∈ys,y∈l)∧ReadsRow (k50.K W0) 3 W' (some ⟨blk,0,none⟩) m ys:=by
 have HN:=am hn
 have HNS:=am hns
 have HI:=am hI
 have HR:=am hR
 have HC:=am hcmp
 have HD:=am hdr
 have HS:=am hset
 have HG:=am hG
 have H16:=am h16
 have HCAP:=am hcap
 have hcl:∀ ty c o m W,0<m→(∀ j,j<m*3→(W.cell? ⟨blk,o+j,none⟩).isSome=true)→(∀ j,j<m*3→W.frozen? ⟨blk,o+j,none⟩=false)→(Builtin.clear_ #[28] ty #[.slice (some ⟨blk,o,none⟩) m c]).run Tryz.prog W=.ok (.tuple #[]) (W.setCells blk o (nils m)):=fun ty c o m W hm h1 h2=>run_clear_wide W _ 50 ty (.agg #[.slice none 0 0,.slice none 0 0,.slice none 0 0]) m (nils m) Tryz.underlying28 (fun w=>by kernel_rfl) rfl (nils_one m) blk o c hm (by rw [nils_length];exact h1) (by rw [nils_length];exact h2)
 have HCL:=am hcl
 have m1:(n:Int)≤9223372036854775807:=by omega
 have hfin:∀ W2 ms,Inv W2→SRow W0 k50 e base blk cap W2 ms→ms.length=n→(∀ x∈ms,x∈l)→Inv W2∧∃ m c ys,Ending.returned (.slice (some ⟨blk,0,none⟩) n cap)=.returned (.slice (some ⟨blk,0,none⟩) m c)∧ys.length=m∧m≤c∧m≤n∧(∀ y∈ys,y∈l)∧ReadsRow (k50.K W0) 3 W2 (some ⟨blk,0,none⟩) m ys:=fun W2 ms h1 h2 h3 h4=>⟨h1,n,cap,ms,rfl,h3,by have:=h2.reads_Inhibit.1;omega,Nat.le_refl _,h4,by have:=h2.reads_Inhibit.2;rw [h3] at this;exact this⟩
 have HF:=am hfin
 clear hn hns hI hR hcmp hdr hset hG h16 hcl hfin hcap
 go_in
 by_cases hn2:n<2
 ·have b0:decide ((n:Int)<2)=true:=decide_eq_true (by omega)
  have b1:decide (n<2)=true:=decide_eq_true hn2
  go_wp2
  go_ret
  exact HF.out W ns HI.out HR.out HN.out HNS.out
 ·have b0:decide ((n:Int)<2)=false:=decide_eq_false (by omega)
  have b1:decide (n<2)=false:=decide_eq_false hn2
  go_wp2
  go_loopw [5] (fun u wr=>∃ (i:Nat) (ms:List S50),u=.int .i64 i∧Aside0 (1≤i∧i≤n)∧Aside0 (Inv wr)∧Aside0 (SRow W0 k50 e base blk cap wr ms)∧Aside0 (ms.length=n)∧Aside0 (∀ x∈ms,x∈l)) (fun u _=>n-(intOf u).toNat)
  case atStart=>exact ⟨1,ns,rfl,⟨Nat.le_refl _,by omega⟩,HI,HR,HN,HNS⟩
  case round =>
   obtain ⟨i,ms,rfl,HI1,HIj,HRj,HNj,HNSj⟩:=hrel
   by_cases hlt:i<n
   ·obtain ⟨k,rfl⟩:∃ k,i=k+1:=⟨i-1,by have:=HI1.out.1;omega⟩
    have b2:decide (((k+1:Nat):Int)<(n:Int))=true:=decide_eq_true (by omega)
    have hwi:wrap64 (((k+1:Nat):Int)+1)=((k+1+1:Nat):Int):=by unfold wrap64;omega
    have HJ:=am hlt
    have HWI:=am hwi
    clear hwi
    obtain ⟨p,cs,hp,hl1,hk1,hc1⟩:=HRj.out.at_n (n:=3) rfl (k+1) (by rw [HNj.out];exact HJ.out)
    obtain ⟨va0,va1,va2,rfl,_,_,_⟩:=five_Inhibit hk1
    obtain ⟨q,ds,hq,hl2,hk2,hc2⟩:=HRj.out.at_n (n:=3) rfl k (by rw [HNj.out];exact Nat.lt_of_succ_lt HJ.out)
    obtain ⟨vb0,vb1,vb2,rfl,_,_,_⟩:=five_Inhibit hk2
    have y0:wr.cell? ⟨blk,(k+1)*3,none⟩=some va0:=hc1 0 _ rfl
    have y1:wr.cell? ⟨blk,(k+1)*3+1,none⟩=some va1:=hc1 1 _ rfl
    have y2:wr.cell? ⟨blk,(k+1)*3+2,none⟩=some va2:=hc1 2 _ rfl
    have z0:wr.cell? ⟨blk,k*3,none⟩=some vb0:=hc2 0 _ rfl
    have z1:wr.cell? ⟨blk,k*3+1,none⟩=some vb1:=hc2 1 _ rfl
    have z2:wr.cell? ⟨blk,k*3+2,none⟩=some vb2:=hc2 2 _ rfl
    have hwk:wrap64 (((k+1:Nat):Int)-1)=(k:Int):=by have:=HJ.out;have:=H16.out;unfold wrap64;omega
    have hwk2:wrap64 (k:Int)=(k:Int):=by have:=HJ.out;have:=H16.out;unfold wrap64;omega
    have b5:(0≤(k:Int)+1)=True:=eq_true (by omega)
    have b6:((k:Int)+1<(n:Int))=True:=eq_true (by have:=HJ.out;omega)
    have b7:(0≤(k:Int))=True:=eq_true (by omega)
    have b8:((k:Int)<(n:Int))=True:=eq_true (by have:=HJ.out;omega)
    have HP:=am (HNSj.out _ hp)
    have HQ:=am (HNSj.out _ hq)
    have HK:=am hk1
    have HL:=am hk2
    clear hp hq hk1 hk2 hc1 hc2 hl1 hl2
    go_wp2
    refine sv 11 (fun w'=>∀ o,w'.cell? ⟨blk,o,none⟩=wr.cell? ⟨blk,o,none⟩) [] (fun _=>rfl) fun hHeld=>?_
    refine pv 0 18 ?_
    refine pv 1 19 ?_
    refine pv 2 20 ?_
    refine pv 3 21 ?_
    refine pv 5 23 ?_
    refine pv 6 24 ?_
    refine pv 7 25 ?_
    refine pv 8 26 ?_
    refine tv 4 22 ?_
    refine tv 9 27 ?_
    refine caV_ 10 (fl 11 2047) (some 28) (t:=18) (cap:=cp) hf hname hbd #[.agg #[va0,va1,va2],.agg #[vb0,vb1,vb2]] rfl rfl (by kernel_rfl) (by decide) (by rfl) rfl (by rfl) (by (try simp only [List.map_toArray,List.map_cons,List.map_nil]);first|done|rfl) ?_
    refine (HC.out _ HP.out _ HQ.out _ _ _ (HD.out _ HIj.out) HK.out HL.out).mono ?_
    rintro e w3 ⟨⟨q1,rfl⟩,hi,hk⟩
    have HI3:=am hi
    have HR3:=am (HRj.out.drew.keep hk HG.out)
    have hce:=kept_cell (w:=wr.drew) hk HRj.out.drew.lt HG.out
    clear hi hk
    refine ⟨_,rfl,hce,fun hHeld a' ha=>?_⟩
    simp only [nm] at ha
    subst ha
    refine done_ (by kernel_rfl) ?_
    clear hHeld hce y0 y1 y2 z0 z1 z2
    cases q1 with
    | false =>
      go_wp2
      go_roundw
      case rel=>exact ⟨k+1+1,ms,by first|exact congrArg (Value.int .i64) HWI.out|rfl,⟨Nat.le_add_left 1 _,HJ.out⟩,HI3,HR3,HNj,HNSj⟩
      case measure=>first|exact meas_wrap rfl HJ.out HWI.out|exact meas_plain HJ.out
    | true =>
      have b9:(cap=k+1)=False:=eq_false (by have:=HCAP.out;have:=HJ.out;omega)
      have b10:(cap-(k+1)=0)=False:=eq_false (by have:=HCAP.out;have:=HJ.out;omega)
      have b11:(cap≤k+1)=False:=eq_false (by have:=HCAP.out;have:=HJ.out;omega)
      go_wp2
      go_loopw [5,7] (fun u v wr=>∃ (a j:Nat) (ms2:List S50),u=.int .i64 a∧v=.int .i64 (j+1:Nat)∧Aside0 (1≤a∧a≤k+1+j)∧Aside0 (k+1+(j+1)≤n)∧Aside0 (Inv wr)∧Aside0 (SRow W0 k50 e base blk cap wr ms2)∧Aside0 (ms2.length=n)∧Aside0 (∀ x∈ms2,x∈l)) (fun _ v _=>n-(intOf v).toNat)
      case atStart=>exact ⟨k+1,0,ms,rfl,rfl,⟨Nat.le_add_left 1 k,Nat.le_refl _⟩,⟨by have:=HJ.out;omega⟩,HI3,HR3,HNj,HNSj⟩
      case round =>
       obtain ⟨a,j,ms2,rfl,rfl,HA,HJJ,HIx,HRx,HNx,HNSx⟩:=hrel
       by_cases hlj:k+1+(j+1)<n
       ·have b3:decide (((j+1:Nat):Int)<((n-(k+1):Nat):Int))=true:=decide_eq_true (by omega)
        have hwj:wrap64 (((j+1:Nat):Int)+1)=((j+1+1:Nat):Int):=by have:=H16.out;unfold wrap64;omega
        have hwj1:wrap64 (((j+1:Nat):Int)-1)=(j:Int):=by have:=H16.out;unfold wrap64;omega
        have hwj2:wrap64 (j:Int)=(j:Int):=by have:=H16.out;unfold wrap64;omega
        have c5:(0≤(j:Int)+1)=True:=eq_true (by omega)
        have c6:((j:Int)+1<((n-(k+1):Nat):Int))=True:=eq_true (by omega)
        have c7:(0≤(j:Int))=True:=eq_true (by omega)
        have c8:((j:Int)<((n-(k+1):Nat):Int))=True:=eq_true (by omega)
        have HLJ:=am hlj
        have HWJ:=am hwj
        clear hwj hlj
        obtain ⟨p2,cs,hp,hl1,hk1,hc1⟩:=HRx.out.at_n (n:=3) rfl (k+1+(j+1)) (by rw [HNx.out];have:=HLJ.out;omega)
        obtain ⟨va0,va1,va2,rfl,_,_,_⟩:=five_Inhibit hk1
        obtain ⟨q2,ds,hq,hl2,hk2,hc2⟩:=HRx.out.at_n (n:=3) rfl (k+1+j) (by rw [HNx.out];have:=HLJ.out;omega)
        obtain ⟨vb0,vb1,vb2,rfl,_,_,_⟩:=five_Inhibit hk2
        have y0:wr.cell? ⟨blk,(k+1)*3+(j+1)*3,none⟩=some va0:=by have h:=hc1 0 _ rfl;rwa [show (k+1+(j+1))*3+0=(k+1)*3+(j+1)*3+0 from by omega] at h
        have y1:wr.cell? ⟨blk,(k+1)*3+(j+1)*3+1,none⟩=some va1:=by have h:=hc1 1 _ rfl;rwa [show (k+1+(j+1))*3+1=(k+1)*3+(j+1)*3+1 from by omega] at h
        have y2:wr.cell? ⟨blk,(k+1)*3+(j+1)*3+2,none⟩=some va2:=by have h:=hc1 2 _ rfl;rwa [show (k+1+(j+1))*3+2=(k+1)*3+(j+1)*3+2 from by omega] at h
        have z0:wr.cell? ⟨blk,(k+1)*3+j*3,none⟩=some vb0:=by have h:=hc2 0 _ rfl;rwa [show (k+1+j)*3+0=(k+1)*3+j*3+0 from by omega] at h
        have z1:wr.cell? ⟨blk,(k+1)*3+j*3+1,none⟩=some vb1:=by have h:=hc2 1 _ rfl;rwa [show (k+1+j)*3+1=(k+1)*3+j*3+1 from by omega] at h
        have z2:wr.cell? ⟨blk,(k+1)*3+j*3+2,none⟩=some vb2:=by have h:=hc2 2 _ rfl;rwa [show (k+1+j)*3+2=(k+1)*3+j*3+2 from by omega] at h
        have HP2:=am (HNSx.out _ hp)
        have HQ2:=am (HNSx.out _ hq)
        have HK2:=am hk1
        have HL2:=am hk2
        clear hp hq hk1 hk2 hc1 hc2 hl1 hl2
        go_wp2
        refine sv 12 (fun w'=>∀ o,w'.cell? ⟨blk,o,none⟩=wr.cell? ⟨blk,o,none⟩) [] (fun _=>rfl) fun hHeld=>?_
        refine pv 0 38 ?_
        refine pv 1 39 ?_
        refine pv 2 40 ?_
        refine pv 3 41 ?_
        refine pv 5 43 ?_
        refine pv 6 44 ?_
        refine pv 7 45 ?_
        refine pv 8 46 ?_
        refine tv 4 42 ?_
        refine tv 9 47 ?_
        refine caV_ 10 (fl 12 2047) (some 48) (t:=38) (cap:=cp) hf hname hbd #[.agg #[va0,va1,va2],.agg #[vb0,vb1,vb2]] rfl rfl (by kernel_rfl) (by decide) (by rfl) rfl (by rfl) (by (try simp only [List.map_toArray,List.map_cons,List.map_nil]);first|done|rfl) ?_
        refine (HC.out _ HP2.out _ HQ2.out _ _ _ (HD.out _ HIx.out) HK2.out HL2.out).mono ?_
        rintro e w4 ⟨⟨q3,rfl⟩,hi,hk⟩
        have HI4:=am hi
        have HR4:=am (HRx.out.drew.keep hk HG.out)
        have hce:=kept_cell (w:=wr.drew) hk HRx.out.drew.lt HG.out
        clear hi hk
        refine ⟨_,rfl,hce,fun hHeld a' ha=>?_⟩
        simp only [nm] at ha
        subst ha
        refine pv 11 49 ?_
        refine done_ (by kernel_rfl) ?_
        clear hHeld hce y0 y1 y2 z0 z1 z2
        cases q3 with
        | true =>
          go_wp2
          go_roundw
          case rel=>exact ⟨a,j+1,ms2,by first|exact congrArg (Value.int .i64) HWA.out|rfl,by first|exact congrArg (Value.int .i64) HWJ.out|rfl,⟨by have:=HA.out;omega,by have:=HA.out;omega⟩,⟨HLJ.out⟩,HI4,HR4,HNx,HNSx⟩
          case measure=>exact meas2 (show j+1<n by have:=HLJ.out;omega) HWJ.out
        | false =>
          obtain ⟨p3,cs3,hp3,hl3,hk3,hc3⟩:=HR4.out.at_n (n:=3) rfl (k+1+(j+1)) (by rw [HNx.out];have:=HLJ.out;omega)
          obtain ⟨vc0,vc1,vc2,rfl,g0,g1,g2⟩:=five_Inhibit hk3
          have y0:w4.cell? ⟨blk,(k+1)*3+(j+1)*3,none⟩=some vc0:=by have h:=hc3 0 _ rfl;rwa [show (k+1+(j+1))*3+0=(k+1)*3+(j+1)*3+0 from by omega] at h
          have y1:w4.cell? ⟨blk,(k+1)*3+(j+1)*3+1,none⟩=some vc1:=by have h:=hc3 1 _ rfl;rwa [show (k+1+(j+1))*3+1=(k+1)*3+(j+1)*3+1 from by omega] at h
          have y2:w4.cell? ⟨blk,(k+1)*3+(j+1)*3+2,none⟩=some vc2:=by have h:=hc3 2 _ rfl;rwa [show (k+1+(j+1))*3+2=(k+1)*3+(j+1)*3+2 from by omega] at h
          have HP3:=am (HNSx.out _ hp3)
          have HK3:=am hk3
          have han:a<n:=by have:=HA.out;have:=HLJ.out;omega
          have HAN:=am han
          have HF0:=HR4.out.fit (n:=3) rfl a (by rw [HNx.out];exact han)
          obtain ⟨P0,hP0,hF1,hs0⟩:=HF0.put (P:=Tryz.prog) 0 (by decide) vc0 g0
          obtain ⟨P1,hP1,hF2,hs1⟩:=hF1.put (P:=Tryz.prog) 1 (by decide) vc1 g1
          obtain ⟨P2,hP2,hF3,hs2⟩:=hF2.put (P:=Tryz.prog) 2 (by decide) vc2 g2
          have s0:∀ m,(store ⟨blk,a*3,none⟩ vc0 m).run Tryz.prog w4=.ok () P0:=hs0
          have HR5:Aside0 (SRow W0 k50 e base blk cap P2 (ms2.set a p3)):=⟨HR4.out.put_n (n:=3) rfl (by rw [HNx.out];exact han) hk3 (by rw [hP2,hP1,hP0];simp only [runW,Nat.add_zero,Nat.add_assoc,Nat.reduceAdd])⟩
          have HI5:Aside0 (Inv P2):=⟨by rw [hP2,hP1,hP0];exact HS.out _ _ _ (HS.out _ _ _ (HS.out _ _ _ HI4.out))⟩
          have b5:(0≤(a:Int))=True:=eq_true (by omega)
          have b6:((a:Int)<(n:Int))=True:=eq_true (by omega)
          have hwa:wrap64 ((a:Int)+1)=((a+1:Nat):Int):=by have:=H16.out;unfold wrap64;omega
          have HWA:=am hwa
          clear hP0 hP1 hP2 hF1 hF2 hF3 HF0 hs0 g0 g1 g2 hp3 hl3 hk3 hc3 hwa
          go_wp2
          go_roundw
          case rel=>exact ⟨a+1,j+1,_,by first|exact congrArg (Value.int .i64) HWA.out|rfl,by first|exact congrArg (Value.int .i64) HWJ.out|rfl,⟨by have:=HA.out;omega,by have:=HA.out;omega⟩,⟨HLJ.out⟩,HI5,HR5,⟨by rw [List.length_set];exact HNx.out⟩,⟨fun x hx=>by rcases mem_set hx with h|rfl;(exact HNSx.out _ h);exact HP3.out⟩⟩
          case measure=>exact meas2 (show j+1<n by have:=HLJ.out;omega) HWJ.out
       ·have hd:n-(k+1)=j+1:=by have:=HJJ.out;omega
        have han:a<n:=by have:=HA.out;have:=HJJ.out;omega
        obtain ⟨W9,hW9⟩:∃ W9,W9=wr.setCells blk (a*3) (nils (n-a)):=⟨_,rfl⟩
        have hfit:∀ j,j<(n-a)*3→(wr.cell? ⟨blk,a*3+j,none⟩).isSome=true∧wr.frozen? ⟨blk,a*3+j,none⟩=false:=fun j hj=>by
         have hlt:a+j/3<n:=by omega
         obtain ⟨⟨x,hx⟩,hf⟩:=HRx.out.fit (n:=3) rfl (a+j/3) (by rw [HNx.out];exact hlt) (j % 3) (Nat.mod_lt _ (by decide))
         have e1:(a+j/3)*3+j % 3=a*3+j:=by omega
         rw [e1] at hx hf
         exact ⟨by rw [hx];rfl,hf⟩
        have hclr:∀ ty c,(Builtin.clear_ #[28] ty #[.slice (some ⟨blk,a*3,none⟩) (n-a) c]).run Tryz.prog wr=.ok (.tuple #[]) W9:=fun ty c=>by rw [hW9];exact HCL.out ty c _ _ wr (by omega) (fun j hj=>(hfit j hj).1) (fun j hj=>(hfit j hj).2)
        have HI9:Aside0 (Inv W9):=⟨by rw [hW9];exact run_setCells wr blk _ _ _ (fun w o u h=>HS.out w o u h) HIx.out⟩
        have HR9:Aside0 (ReadsRow (k50.K W0) 3 W9 (some ⟨blk,0,none⟩) a (ms2.take a)):=⟨by rw [hW9];exact compact_end HRx.out (by rw [HNx.out];omega) _⟩
        have HAC:Aside0 (a≤cap∧a≤n):=⟨by have:=HCAP.out;omega⟩
        have b3:decide (((j+1:Nat):Int)<((n-(k+1):Nat):Int))=false:=decide_eq_false (by omega)
        have d1:(0≤(a:Int))=True:=eq_true (by omega)
        have d2:((a:Int)≤(n:Int))=True:=eq_true (by omega)
        have d3:((a:Int)≤(cap:Int))=True:=eq_true (by have:=HCAP.out;omega)
        have d4:(cap=a)=False:=eq_false (by have:=HCAP.out;omega)
        have d5:(cap-a=0)=False:=eq_false (by have:=HCAP.out;omega)
        have d6:a≤cap:=by have:=HCAP.out;omega
        clear hW9 hfit hd
        go_wp2
        go_ret
        exact ⟨HI9.out,a,cap,ms2.take a,rfl,by rw [List.length_take,HNx.out];have:=HAC.out;omega,HAC.out.1,HAC.out.2,fun y hy=>HNSx.out _ (List.mem_of_mem_take hy),HR9.out⟩
   ·obtain rfl:i=n:=by have:=HI1.out.2;omega
    have b2:decide ((i:Int)<(i:Int))=false:=decide_eq_false (by omega)
    go_wp2
    go_ret
    exact HF.out _ ms HIj.out HRj.out HNj.out HNSj.out
theorem five_Rule {W:World} {p:S44} {cs:List Value} (h:k44.K W p cs):∃ va0 va1 va2 va3 va4 va5 va6 va7,cs=[va0,va1,va2,va3,va4,va5,va6,va7]∧va0.oneCell'=true∧va1.oneCell'=true∧va2.oneCell'=true∧va3.oneCell'=true∧va4.oneCell'=true∧va5.oneCell'=true∧va6.oneCell'=true∧va7.oneCell'=true:=by
 obtain ⟨A7,c7,rfl,_,_⟩:=k44_open h
 exact ⟨_,_,_,_,_,_,_,_,rfl,rfl,rfl,rfl,rfl,rfl,rfl,rfl,rfl⟩
theorem ins_Rule (W0 : World) (G : Nat → Prop) (Inv : World → Prop) (l : List S44) (f : FuncId) (fn : Func) (cp : Array Value) (hf : Tryz.prog.funcs[f]? = some fn) (hname : (fn.name == "runtime.NumGoroutine") = false) (hbd : fn.body.isSome = true)
 (hcmp:∀ p∈l,∀ q∈l,∀ W cs ds,Inv W→k44.K W0 p cs→k44.K W0 q ds→Calls Tryz.prog f (#[.agg cs.toArray,.agg ds.toArray]++cp) W fun e W'=>(∃ n:Int,e=.returned (.int .i64 n))∧Inv W'∧Kept W W' G)
 (hdr:∀ W,Inv W→Inv W.drew) (e base blk cap:Nat) (hG:¬ G blk) (hset:∀ W o u,Inv W→Inv (W.setCell ⟨blk,o,none⟩ u)) (ns:List S44) (n:Nat) (hn:ns.length=n) (hns:∀ x∈ns,x∈l) (h16:n≤1000000) (W:World) (hI:Inv W) (hR:SRow W0 k44 e base blk cap W ns) :
 Calls Tryz.prog 168 #[.slice (some ⟨blk,0,none⟩) n cap,.int .i64 0,.int .i64 n,.func (.func f) #[] cp] W fun e_ W'=>e_=.returned (.tuple #[])∧Inv W'∧∃ ms,SRow W0 k44 e base blk cap W' ms∧ms.length=n∧∀ x∈ms,x∈l:=by
 have HN:=am hn
 have HNS:=am hns
 have HI:=am hI
 have HR:=am hR
 have HC:=am hcmp
 have HD:=am hdr
 have HS:=am hset
 have HG:=am hG
 have H16:=am h16
 have m1:(n:Int)≤9223372036854775807:=by omega
 have hw1:wrap64 1=1:=by unfold wrap64;omega
 clear hn hns hI hR hcmp hdr hset hG h16
 go_in
 go_wp2
 go_loopw [8,9] (fun u u9 wr=>∃ (i:Nat) (ms:List S44),u=.int .i64 i∧Aside0 (1≤i)∧Aside0 (Inv wr)∧Aside0 (SRow W0 k44 e base blk cap wr ms)∧Aside0 (ms.length=n)∧Aside0 (∀ x∈ms,x∈l)) (fun u _ _=>n-(intOf u).toNat)
 case atStart=>exact ⟨1,ns,rfl,⟨Nat.le_refl _⟩,HI,HR,HN,HNS⟩
 case round =>
  obtain ⟨i,ms,rfl,HI1,HIw,HRw,HNw,HNSw⟩:=hrel
  by_cases hlt:i<n
  ·have b1:decide ((i:Int)<(n:Int))=true:=decide_eq_true (by omega)
   have hwi:wrap64 ((i:Int)+1)=((i+1:Nat):Int):=by unfold wrap64;omega
   have HWI:=am hwi
   have HLT:=am hlt
   clear hwi
   go_wp2
   go_loopw [9] (fun u wr=>∃ (j:Nat) (ms:List S44),u=.int .i64 j∧Aside0 (j<n)∧Aside0 (Inv wr)∧Aside0 (SRow W0 k44 e base blk cap wr ms)∧Aside0 (ms.length=n)∧Aside0 (∀ x∈ms,x∈l)) (fun u _=>(intOf u).toNat)
   case atStart=>exact ⟨i,ms,rfl,HLT,HIw,HRw,HNw,HNSw⟩
   case round =>
    obtain ⟨j,ms,rfl,HJ,HIj,HRj,HNj,HNSj⟩:=hrel
    by_cases hj:j=0
    ·subst hj
     have b2:decide ((0:Int)<((0:Nat):Int))=false:=by decide
     have b3:decide (0<0)=false:=by decide
     go_wp2
     refine sv 17 (fun w'=>True) [] trivial fun hHeld=>?_
     refine pv 0 18 ?_
     refine pv 1 19 ?_
     refine pv 2 20 ?_
     refine pv 3 21 ?_
     refine uv 4 22 ?_
     refine uv 5 23 ?_
     refine uv 6 24 ?_
     refine uv 7 25 ?_
     refine uv 8 26 ?_
     refine uv 9 27 ?_
     refine uv 10 28 ?_
     refine uv 11 29 ?_
     refine uv 12 30 ?_
     refine uv 13 31 ?_
     refine uv 14 32 ?_
     refine uv 15 33 ?_
     refine pv 16 34 ?_
     refine done_ (by kernel_rfl) ?_
     go_wp2
     go_roundw
     case rel=>exact ⟨i+1,_,by first|exact congrArg (Value.int .i64) HWI.out|rfl,⟨Nat.le_add_left 1 i⟩,⟨HD.out _ HIj.out⟩,⟨HRj.out.drew⟩,HNj,HNSj⟩
     case measure=>first|exact meas_wrap rfl HLT.out HWI.out|exact meas_plain HLT.out
    ·obtain ⟨k,rfl⟩:∃ k,j=k+1:=⟨j-1,by omega⟩
     obtain ⟨p,cs,hp,hl1,hk1,hc1⟩:=HRj.out.at_n (n:=8) rfl (k+1) (by rw [HNj.out];exact HJ.out)
     obtain ⟨va0,va1,va2,va3,va4,va5,va6,va7,rfl,ga0,ga1,ga2,ga3,ga4,ga5,ga6,ga7⟩:=five_Rule hk1
     obtain ⟨q,ds,hq,hl2,hk2,hc2⟩:=HRj.out.at_n (n:=8) rfl k (by rw [HNj.out];exact Nat.lt_of_succ_lt HJ.out)
     obtain ⟨vb0,vb1,vb2,vb3,vb4,vb5,vb6,vb7,rfl,gb0,gb1,gb2,gb3,gb4,gb5,gb6,gb7⟩:=five_Rule hk2
     have y0:wr.cell? ⟨blk,(k+1)*8,none⟩=some va0:=hc1 0 _ rfl
     have y1:wr.cell? ⟨blk,(k+1)*8+1,none⟩=some va1:=hc1 1 _ rfl
     have y2:wr.cell? ⟨blk,(k+1)*8+2,none⟩=some va2:=hc1 2 _ rfl
     have y3:wr.cell? ⟨blk,(k+1)*8+3,none⟩=some va3:=hc1 3 _ rfl
     have y4:wr.cell? ⟨blk,(k+1)*8+4,none⟩=some va4:=hc1 4 _ rfl
     have y5:wr.cell? ⟨blk,(k+1)*8+5,none⟩=some va5:=hc1 5 _ rfl
     have y6:wr.cell? ⟨blk,(k+1)*8+6,none⟩=some va6:=hc1 6 _ rfl
     have y7:wr.cell? ⟨blk,(k+1)*8+7,none⟩=some va7:=hc1 7 _ rfl
     have z0:wr.cell? ⟨blk,k*8,none⟩=some vb0:=hc2 0 _ rfl
     have z1:wr.cell? ⟨blk,k*8+1,none⟩=some vb1:=hc2 1 _ rfl
     have z2:wr.cell? ⟨blk,k*8+2,none⟩=some vb2:=hc2 2 _ rfl
     have z3:wr.cell? ⟨blk,k*8+3,none⟩=some vb3:=hc2 3 _ rfl
     have z4:wr.cell? ⟨blk,k*8+4,none⟩=some vb4:=hc2 4 _ rfl
     have z5:wr.cell? ⟨blk,k*8+5,none⟩=some vb5:=hc2 5 _ rfl
     have z6:wr.cell? ⟨blk,k*8+6,none⟩=some vb6:=hc2 6 _ rfl
     have z7:wr.cell? ⟨blk,k*8+7,none⟩=some vb7:=hc2 7 _ rfl
     have b2:decide ((0:Int)<((k+1:Nat):Int))=true:=decide_eq_true (by omega)
     have b3:decide (0<k+1)=true:=decide_eq_true (by omega)
     have hwk:wrap64 (((k+1:Nat):Int)-1)=(k:Int):=by have:=HJ.out;have:=H16.out;unfold wrap64;omega
     have hwk2:wrap64 (k:Int)=(k:Int):=by have:=HJ.out;have:=H16.out;unfold wrap64;omega
     have b5:(0≤(k:Int)+1)=True:=eq_true (by omega)
     have b6:((k:Int)+1<(n:Int))=True:=eq_true (by have:=HJ.out;omega)
     have b7:(0≤(k:Int))=True:=eq_true (by omega)
     have b8:((k:Int)<(n:Int))=True:=eq_true (by have:=HJ.out;omega)
     have b9:k<n:=Nat.lt_of_succ_lt HJ.out
     have HP:=am (HNSj.out _ hp)
     have HQ:=am (HNSj.out _ hq)
     have HK:=am hk1
     have HL:=am hk2
     clear hp hq hk1 hk2 hc1 hc2 hl1 hl2 hj ga0 gb0 ga1 gb1 ga2 gb2 ga3 gb3 ga4 gb4 ga5 gb5 ga6 gb6 ga7 gb7
     go_wp2
     refine sv 17 (fun w'=>∀ o,w'.cell? ⟨blk,o,none⟩=wr.cell? ⟨blk,o,none⟩) [] (fun _=>rfl) fun hHeld=>?_
     refine pv 0 18 ?_
     refine pv 1 19 ?_
     refine pv 2 20 ?_
     refine pv 3 21 ?_
     refine pv 4 22 ?_
     refine pv 5 23 ?_
     refine pv 6 24 ?_
     refine pv 7 25 ?_
     refine pv 9 27 ?_
     refine pv 10 28 ?_
     refine pv 11 29 ?_
     refine pv 12 30 ?_
     refine tv 8 26 ?_
     refine tv 13 31 ?_
     refine caV_ 14 (fl 17 32767) (some 32) (t:=22) (cap:=cp) hf hname hbd #[.agg #[va0,va1,va2,va3,va4,va5,va6,va7],.agg #[vb0,vb1,vb2,vb3,vb4,vb5,vb6,vb7]] rfl rfl (by kernel_rfl) (by decide) (by rfl) rfl (by rfl) (by (try simp only [List.map_toArray,List.map_cons,List.map_nil]);first|done|rfl) ?_
     refine (HC.out _ HP.out _ HQ.out _ _ _ (HD.out _ HIj.out) HK.out HL.out).mono ?_
     rintro e w3 ⟨⟨m,rfl⟩,hi,hk⟩
     have HI3:=am hi
     have HR3:=am (HRj.out.drew.keep hk HG.out)
     have hce:=kept_cell (w:=wr.drew) hk HRj.out.drew.lt HG.out
     obtain ⟨q,hq⟩:∃ q,decide (m<0)=q:=⟨_,rfl⟩
     clear hi hk
     refine ⟨_,rfl,hce,fun hHeld a' ha=>?_⟩
     simp only [nm] at ha
     subst ha
     refine pv 15 33 ?_
     refine pv 16 34 ?_
     refine done_ (by kernel_rfl) ?_
     cases q with
     | false =>
       go_wp2
       go_roundw
       case rel=>exact ⟨i+1,_,by first|exact congrArg (Value.int .i64) HWI.out|rfl,⟨Nat.le_add_left 1 i⟩,HI3,HR3,HNj,HNSj⟩
       case measure=>first|exact meas_wrap rfl HLT.out HWI.out|exact meas_plain HLT.out
     | true =>
       clear hHeld hce
       go_wp2
       clear y0 z0 y1 z1 y2 z2 y3 z3 y4 z4 y5 z5 y6 z6 y7 z7
       obtain ⟨p2,cs2,hp2,hl2,hk2,hc2⟩:=HR3.out.at_n (n:=8) rfl (k+1) (by rw [HNj.out];exact HJ.out)
       obtain ⟨vc0,vc1,vc2,vc3,vc4,vc5,vc6,vc7,rfl,g0,g1,g2,g3,g4,g5,g6,g7⟩:=five_Rule hk2
       obtain ⟨q2,ds2,hq2,hl3,hk3,hc3⟩:=HR3.out.at_n (n:=8) rfl k (by rw [HNj.out];exact Nat.lt_of_succ_lt HJ.out)
       obtain ⟨vd0,vd1,vd2,vd3,vd4,vd5,vd6,vd7,rfl,e0,e1,e2,e3,e4,e5,e6,e7⟩:=five_Rule hk3
       have y0:w3.cell? ⟨blk,(k+1)*8,none⟩=some vc0:=hc2 0 _ rfl
       have y1:w3.cell? ⟨blk,(k+1)*8+1,none⟩=some vc1:=hc2 1 _ rfl
       have y2:w3.cell? ⟨blk,(k+1)*8+2,none⟩=some vc2:=hc2 2 _ rfl
       have y3:w3.cell? ⟨blk,(k+1)*8+3,none⟩=some vc3:=hc2 3 _ rfl
       have y4:w3.cell? ⟨blk,(k+1)*8+4,none⟩=some vc4:=hc2 4 _ rfl
       have y5:w3.cell? ⟨blk,(k+1)*8+5,none⟩=some vc5:=hc2 5 _ rfl
       have y6:w3.cell? ⟨blk,(k+1)*8+6,none⟩=some vc6:=hc2 6 _ rfl
       have y7:w3.cell? ⟨blk,(k+1)*8+7,none⟩=some vc7:=hc2 7 _ rfl
       have z0:w3.cell? ⟨blk,k*8,none⟩=some vd0:=hc3 0 _ rfl
       have z1:w3.cell? ⟨blk,k*8+1,none⟩=some vd1:=hc3 1 _ rfl
       have z2:w3.cell? ⟨blk,k*8+2,none⟩=some vd2:=hc3 2 _ rfl
       have z3:w3.cell? ⟨blk,k*8+3,none⟩=some vd3:=hc3 3 _ rfl
       have z4:w3.cell? ⟨blk,k*8+4,none⟩=some vd4:=hc3 4 _ rfl
       have z5:w3.cell? ⟨blk,k*8+5,none⟩=some vd5:=hc3 5 _ rfl
       have z6:w3.cell? ⟨blk,k*8+6,none⟩=some vd6:=hc3 6 _ rfl
       have z7:w3.cell? ⟨blk,k*8+7,none⟩=some vd7:=hc3 7 _ rfl
       have HP2:=am (HNSj.out _ hp2)
       have HQ2:=am (HNSj.out _ hq2)
       have HK2:=am hk2
       have HK3:=am hk3
       have G0:=am g0;have E0:=am e0
       have G1:=am g1;have E1:=am e1
       have G2:=am g2;have E2:=am e2
       have G3:=am g3;have E3:=am e3
       have G4:=am g4;have E4:=am e4
       have G5:=am g5;have E5:=am e5
       have G6:=am g6;have E6:=am e6
       have G7:=am g7;have E7:=am e7
       clear hp2 hq2 hk2 hk3 hc2 hc3 hl2 hl3 g0 e0 g1 e1 g2 e2 g3 e3 g4 e4 g5 e5 g6 e6 g7 e7
       refine sv 18 (fun w'=>∀ o,w'.cell? ⟨blk,o,none⟩=w3.cell? ⟨blk,o,none⟩) [15,17] (fun _=>rfl) fun hHeld=>?_
       refine pv 0 37 ?_
       refine pv 1 38 ?_
       refine pv 2 39 ?_
       refine pv 3 40 ?_
       refine pv 4 41 ?_
       refine pv 5 42 ?_
       refine pv 6 43 ?_
       refine pv 7 44 ?_
       refine pv 8 45 ?_
       refine pv 10 47 ?_
       refine pv 11 48 ?_
       refine pv 12 49 ?_
       refine tv 9 46 ?_
       refine tv 13 50 ?_
       refine pv 14 51 ?_
       refine zv 15 fun K hK=>?_
       have HF:=am (HR3.out.drew.fit (n:=8) rfl (k+1) (by rw [HNj.out];exact HJ.out))
       obtain ⟨P0,hP0,hf,hs⟩:=HF.out.put (P:=Tryz.prog) 0 (by decide) vd0 E0.out
       have s0:∀ m,(store ⟨blk,(k+1)*8,none⟩ vd0 m).run Tryz.prog w3.drew=.ok () P0:=hs
       have HP0:=am hP0
       clear HF hs hP0
       have HF:=am hf
       clear hf
       obtain ⟨P1,hP1,hf,hs⟩:=HF.out.put (P:=Tryz.prog) 1 (by decide) vd1 E1.out
       have s1:∀ m,(store ⟨blk,(k+1)*8+1,none⟩ vd1 m).run Tryz.prog P0=.ok () P1:=hs
       have HP1:=am hP1
       clear HF hs hP1
       have HF:=am hf
       clear hf
       obtain ⟨P2,hP2,hf,hs⟩:=HF.out.put (P:=Tryz.prog) 2 (by decide) vd2 E2.out
       have s2:∀ m,(store ⟨blk,(k+1)*8+2,none⟩ vd2 m).run Tryz.prog P1=.ok () P2:=hs
       have HP2:=am hP2
       clear HF hs hP2
       have HF:=am hf
       clear hf
       obtain ⟨P3,hP3,hf,hs⟩:=HF.out.put (P:=Tryz.prog) 3 (by decide) vd3 E3.out
       have s3:∀ m,(store ⟨blk,(k+1)*8+3,none⟩ vd3 m).run Tryz.prog P2=.ok () P3:=hs
       have HP3:=am hP3
       clear HF hs hP3
       have HF:=am hf
       clear hf
       obtain ⟨P4,hP4,hf,hs⟩:=HF.out.put (P:=Tryz.prog) 4 (by decide) vd4 E4.out
       have s4:∀ m,(store ⟨blk,(k+1)*8+4,none⟩ vd4 m).run Tryz.prog P3=.ok () P4:=hs
       have HP4:=am hP4
       clear HF hs hP4
       have HF:=am hf
       clear hf
       obtain ⟨P5,hP5,hf,hs⟩:=HF.out.put (P:=Tryz.prog) 5 (by decide) vd5 E5.out
       have s5:∀ m,(store ⟨blk,(k+1)*8+5,none⟩ vd5 m).run Tryz.prog P4=.ok () P5:=hs
       have HP5:=am hP5
       clear HF hs hP5
       have HF:=am hf
       clear hf
       obtain ⟨P6,hP6,hf,hs⟩:=HF.out.put (P:=Tryz.prog) 6 (by decide) vd6 E6.out
       have s6:∀ m,(store ⟨blk,(k+1)*8+6,none⟩ vd6 m).run Tryz.prog P5=.ok () P6:=hs
       have HP6:=am hP6
       clear HF hs hP6
       have HF:=am hf
       clear hf
       obtain ⟨P7,hP7,hf,hs⟩:=HF.out.put (P:=Tryz.prog) 7 (by decide) vd7 E7.out
       have s7:∀ m,(store ⟨blk,(k+1)*8+7,none⟩ vd7 m).run Tryz.prog P6=.ok () P7:=hs
       have HP7:=am hP7
       clear HF hs hP7
       have HF:=am hf
       clear hf
       refine skip_ (w1:=P7) (by rfl) rfl (by first|(go_simp;done)|(go_simp;rfl)) ?_
       refine hK.out _ _ ?_
       clear hK K
       have HR5:Aside0 (SRow W0 k44 e base blk cap P7 (ms.set (k+1) q2)):=⟨HR3.out.drew.put_n (n:=8) rfl (by rw [HNj.out];exact HJ.out) HK3.out (by rw [HP7.out,HP6.out,HP5.out,HP4.out,HP3.out,HP2.out,HP1.out,HP0.out];simp only [runW,Nat.mul_one,Nat.add_zero,Nat.add_assoc,Nat.reduceAdd])⟩
       have HI5:Aside0 (Inv P7):=⟨by rw [HP7.out,HP6.out,HP5.out,HP4.out,HP3.out,HP2.out,HP1.out,HP0.out];exact (HS.out _ _ _ (HS.out _ _ _ (HS.out _ _ _ (HS.out _ _ _ (HS.out _ _ _ (HS.out _ _ _ (HS.out _ _ _ (HS.out _ _ _ (HD.out _ HI3.out)))))))))⟩
       clear HF s0 HP0 s1 HP1 s2 HP2 s3 HP3 s4 HP4 s5 HP5 s6 HP6 s7 HP7
       refine pv 16 52 ?_
       refine zv 17 fun K hK=>?_
       have HF:=am (HR5.out.fit (n:=8) rfl k (by rw [List.length_set,HNj.out];exact Nat.lt_of_succ_lt HJ.out))
       obtain ⟨Q0,hQ0,hf,hs⟩:=HF.out.put (P:=Tryz.prog) 0 (by decide) vc0 G0.out
       have s0:∀ m,(store ⟨blk,k*8,none⟩ vc0 m).run Tryz.prog P7=.ok () Q0:=hs
       have HQ0:=am hQ0
       clear HF hs hQ0
       have HF:=am hf
       clear hf
       obtain ⟨Q1,hQ1,hf,hs⟩:=HF.out.put (P:=Tryz.prog) 1 (by decide) vc1 G1.out
       have s1:∀ m,(store ⟨blk,k*8+1,none⟩ vc1 m).run Tryz.prog Q0=.ok () Q1:=hs
       have HQ1:=am hQ1
       clear HF hs hQ1
       have HF:=am hf
       clear hf
       obtain ⟨Q2,hQ2,hf,hs⟩:=HF.out.put (P:=Tryz.prog) 2 (by decide) vc2 G2.out
       have s2:∀ m,(store ⟨blk,k*8+2,none⟩ vc2 m).run Tryz.prog Q1=.ok () Q2:=hs
       have HQ2:=am hQ2
       clear HF hs hQ2
       have HF:=am hf
       clear hf
       obtain ⟨Q3,hQ3,hf,hs⟩:=HF.out.put (P:=Tryz.prog) 3 (by decide) vc3 G3.out
       have s3:∀ m,(store ⟨blk,k*8+3,none⟩ vc3 m).run Tryz.prog Q2=.ok () Q3:=hs
       have HQ3:=am hQ3
       clear HF hs hQ3
       have HF:=am hf
       clear hf
       obtain ⟨Q4,hQ4,hf,hs⟩:=HF.out.put (P:=Tryz.prog) 4 (by decide) vc4 G4.out
       have s4:∀ m,(store ⟨blk,k*8+4,none⟩ vc4 m).run Tryz.prog Q3=.ok () Q4:=hs
       have HQ4:=am hQ4
       clear HF hs hQ4
       have HF:=am hf
       clear hf
       obtain ⟨Q5,hQ5,hf,hs⟩:=HF.out.put (P:=Tryz.prog) 5 (by decide) vc5 G5.out
       have s5:∀ m,(store ⟨blk,k*8+5,none⟩ vc5 m).run Tryz.prog Q4=.ok () Q5:=hs
       have HQ5:=am hQ5
       clear HF hs hQ5
       have HF:=am hf
       clear hf
       obtain ⟨Q6,hQ6,hf,hs⟩:=HF.out.put (P:=Tryz.prog) 6 (by decide) vc6 G6.out
       have s6:∀ m,(store ⟨blk,k*8+6,none⟩ vc6 m).run Tryz.prog Q5=.ok () Q6:=hs
       have HQ6:=am hQ6
       clear HF hs hQ6
       have HF:=am hf
       clear hf
       obtain ⟨Q7,hQ7,hf,hs⟩:=HF.out.put (P:=Tryz.prog) 7 (by decide) vc7 G7.out
       have s7:∀ m,(store ⟨blk,k*8+7,none⟩ vc7 m).run Tryz.prog Q6=.ok () Q7:=hs
       have HQ7:=am hQ7
       clear HF hs hQ7
       have HF:=am hf
       clear hf
       refine skip_ (w1:=Q7) (by rfl) rfl (by first|(go_simp;done)|(go_simp;rfl)) ?_
       refine hK.out _ _ ?_
       clear hK K
       refine done_ (by kernel_rfl) ?_
       have HR6:Aside0 (SRow W0 k44 e base blk cap Q7 ((ms.set (k+1) q2).set k p2)):=⟨HR5.out.put_n (n:=8) rfl (by rw [List.length_set,HNj.out];exact Nat.lt_of_succ_lt HJ.out) HK2.out (by rw [HQ7.out,HQ6.out,HQ5.out,HQ4.out,HQ3.out,HQ2.out,HQ1.out,HQ0.out];simp only [runW,Nat.mul_one,Nat.add_zero,Nat.add_assoc,Nat.reduceAdd])⟩
       have HI6:Aside0 (Inv Q7):=⟨by rw [HQ7.out,HQ6.out,HQ5.out,HQ4.out,HQ3.out,HQ2.out,HQ1.out,HQ0.out];exact (HS.out _ _ _ (HS.out _ _ _ (HS.out _ _ _ (HS.out _ _ _ (HS.out _ _ _ (HS.out _ _ _ (HS.out _ _ _ (HS.out _ _ _ HI5.out))))))))⟩
       clear HF s0 HQ0 s1 HQ1 s2 HQ2 s3 HQ3 s4 HQ4 s5 HQ5 s6 HQ6 s7 HQ7
       go_wp2
       go_roundw
       case rel=>exact ⟨k,_,by first|rfl|exact congrArg (Value.int .i64) hwk2|exact congrArg (Value.int .i64) hwk,⟨b9⟩,HI6,HR6,⟨by rw [List.length_set,List.length_set];exact HNj.out⟩,⟨fun x hx=>by rcases mem_set hx with h|rfl;(rcases mem_set h with h|rfl;(exact HNSj.out _ h);exact HQ2.out);exact HP2.out⟩⟩
       case measure=>first|(show (k:Int).toNat<((k+1:Nat):Int).toNat;omega)|(show (wrap64 (k:Int)).toNat<((k+1:Nat):Int).toNat;rw [hwk2];omega)
  ·have b1:decide ((i:Int)<(n:Int))=false:=decide_eq_false (by omega)
   go_wp2
   go_end0
   exact ⟨rfl,HIw.out,ms,HRw.out,HNw.out,HNSw.out⟩
theorem stable_Rule (v fv:Value) (n:Nat) (h16:n≤16) (W:World) (R:World→Prop) (hins:Calls Tryz.prog 168 #[v,.int .i64 0,.int .i64 n,fv] W fun e W'=>e=.returned (.tuple #[])∧R W'):Calls Tryz.prog 204 #[v,.int .i64 n,fv] W fun e W'=>e=.returned (.tuple #[])∧R W':=by
 have HI:=am hins
 have b1:decide (20≤(n:Int))=false:=decide_eq_false (by omega)
 have b2:decide (20<(n:Int))=false:=decide_eq_false (by omega)
 have b3:decide (20≤n)=false:=decide_eq_false (by omega)
 have b4:decide (20<n)=false:=decide_eq_false (by omega)
 clear hins
 go_in
 go_wp2
 go_loopw [7,8] (fun u8 u9 wr=>u8=.int .i64 0∧u9=.int .i64 20∧wr=W) (fun _ _ _=>0)
 case atStart=>exact ⟨rfl,rfl,rfl⟩
 case round =>
  obtain ⟨rfl,rfl,rfl⟩:=hrel
  go_wp2_with (go_at_call 168;refine HI.out.mono ?_;rintro e w2 ⟨rfl,hr⟩;have HR:=am hr;clear hr)
  go_loopw [6] (fun u wr=>u=.int .i64 20∧wr=w2) (fun _ _=>0)
  case atStart=>exact ⟨rfl,rfl⟩
  case round =>
   obtain ⟨rfl,rfl⟩:=hrel
   go_wp2
   go_end0
   exact ⟨rfl,HR.out⟩
theorem sstable_Rule (A:Option Addr) (c:Nat) (fv:Value) (n:Nat) (h16:n≤16) (W:World) (R:World→Prop) (hins:Calls Tryz.prog 168 #[.slice A n c,.int .i64 0,.int .i64 n,fv] W fun e W'=>e=.returned (.tuple #[])∧R W'):Calls Tryz.prog 149 #[.slice A n c,fv] W fun e W'=>e=.returned (.tuple #[])∧R W':=by
 have HI:=am (stable_Rule _ fv n h16 W R hins)
 clear hins
 go_in
 go_wp2_with (go_at_call 204;refine HI.out.mono ?_;rintro e w2 ⟨rfl,hr⟩;have HR:=am hr;clear hr)
 go_end0
 exact ⟨rfl,HR.out⟩
theorem ins0_Rule (v fv:Value) (W:World):Calls Tryz.prog 168 #[v,.int .i64 0,.int .i64 ((0:Nat):Int),fv] W fun e W'=>e=.returned (.tuple #[])∧W'=W:=by
 have hw1:wrap64 1=1:=by unfold wrap64;omega
 go_in
 go_wp2
 go_loopw [8] (fun u wr=>u=.int .i64 1∧wr=W) (fun _ _=>0)
 case atStart=>exact ⟨rfl,rfl⟩
 case round =>
  obtain ⟨rfl,rfl⟩:=hrel
  go_wp2
  go_end0
  exact ⟨rfl,rfl⟩
theorem clone_Rule (W0:World) (xs:List S44) (h16:xs.length≤16) (A:Option Addr) (c:Nat) (W:World) (hr:ReadsRow (k44.K W0) 8 W A xs.length xs):Calls Tryz.prog 42 #[.slice A xs.length c] W fun e W'=>∃ A' c',e=.returned (.slice A' xs.length c')∧Below W.heap.size W W'∧(xs=[]∨∃ blk,A'=some ⟨blk,0,none⟩∧W.heap.size≤blk∧SRow W0 k44 44 W.heap.size blk c' W' xs):=by
 have HR:=am hr
 have H16:=am h16
 have heq:∀ (w:World) (a:Option Addr) (n c n' c':Nat),(binOp .eql 22 (.slice a n c) (.slice none n' c')).run Tryz.prog w=.ok (.bool a.isNone) w:=fun w a n c n' c'=>Lib.run_eql_slice_nil w _ _ a n c n' c' Tryz.underlying22
 cases A with
 | none =>
   have h0:xs=[]:=by
    rcases Nat.eq_zero_or_pos xs.length with h|h
    ·exact List.eq_nil_of_length_eq_zero h
    ·obtain ⟨ad,e,_⟩:=hr.2.2 h;cases e
   subst h0
   clear hr h16
   go_in
   go_wp2
   go_ret
   exact ⟨_,_,rfl,Below.refl _ _,.inl (by first|trivial|rfl)⟩
 | some ad =>
   clear hr h16
   go_in
   go_wp2_with (first|((with_reducible refine lv 5 #[] 44 0 ?_);intro gl hgb w1 hbox hb;have HX1:=am hbox;have HG1:Aside0 (W.heap.size≤gl):=⟨Nat.le_of_eq hgb.symm⟩;have HB1:=am hb;clear hb hbox hgb)|((with_reducible refine gate_builtin (b:=.append) (xs:=#[.tmp 5,.tmp 6]) rfl ?_);at_builtin;go_loud (refine S_append k44 (W0:=W0) W.heap.size rfl (.tmp 5) (.tmp 6) 22 44 (.agg #[.string (⟨#[]⟩:ByteArray),.string (⟨#[]⟩:ByteArray),.int .i64 0,.int .i64 0,.int .i64 0,.int .i64 0,.int .i64 0,.slice none 0 0]) 96 rfl Tryz.underlying22 (by kernel_rfl) rfl (by decide) gl 0 xs ad xs.length c (by rfl) (by rfl) ?aO ?aR ?aB ?aM (by decide) ?_);(case aO=>exact own_empty HX1.out HG1.out);(case aR=>exact ReadsRow.imp_ HR.out HB1.out (fun _ _ hp=>hp));(case aB=>exact HB1.out.size);(case aM=>have:=H16.out;omega);intro blk cap w1_ hle hs hg;have HL:=am hle;have HS:=am hs;have HB2:=am (HB1.out.grown hg HB1.out.size (fun k hk=>by cases hk;exact HG1.out));clear hle hs hg))
   go_ret
   exact ⟨_,_,rfl,HB2.out,.inr ⟨_,rfl,HL.out,HS.out⟩⟩
theorem cmp_Rule (W0 Wb : World) (g : Option Nat) (gc blk : Nat) (hnc : ¬ GL g gc) (l : List S44) (fo : FuncId) (fn : Func) (cp : Array Value) (hfo : Tryz.prog.funcs[fo]? = some fn) (hfn : (fn.name == "runtime.NumGoroutine") = false) (hfb : fn.body.isSome = true)
 (hof:∀ p∈l,∀ W cs,Below W0.heap.size W0 W→JL g W→k44.K W0 p cs→Calls Tryz.prog fo (#[.agg cs.toArray]++cp) W fun e W'=>(∃ s,e=.returned (.string s))∧JL g W'∧RG W0.heap.size (GL g) W W')
 (p:S44) (hp:p∈l) (q:S44) (hq:q∈l) (W:World) (cs ds:List Value) (hI:SInv W0 Wb g gc 57 (.func (.func fo) #[] cp) blk W) (hk1:k44.K W0 p cs) (hk2:k44.K W0 q ds) :
 Calls Tryz.prog 150 (#[.agg cs.toArray,.agg ds.toArray]++#[.pointer (some ⟨gc,0,none⟩)]) W fun e W'=>(∃ n:Int,e=.returned (.int .i64 n))∧SInv W0 Wb g gc 57 (.func (.func fo) #[] cp) blk W'∧Kept W W' (GL g):=by
 obtain ⟨va0,va1,va2,va3,va4,va5,va6,va7,rfl,_,_,_,_,_,_,_,_⟩:=five_Rule hk1
 obtain ⟨vb0,vb1,vb2,vb3,vb4,vb5,vb6,vb7,rfl,_,_,_,_,_,_,_,_⟩:=five_Rule hk2
 have HNC:=am hnc
 have HOF:=am hof
 have HMP:=am hp
 have HMQ:=am hq
 have HI:=am hI
 have HK1:=am hk1
 have HK2:=am hk2
 clear hnc hof hp hq hI hk1 hk2
 show Calls Tryz.prog 150 #[.agg #[va0,va1,va2,va3,va4,va5,va6,va7],.agg #[vb0,vb1,vb2,vb3,vb4,vb5,vb6,vb7],.pointer (some ⟨gc,0,none⟩)] W _
 go_in
 go_upto_region 1 with (first|((with_reducible refine bv 3 #[va0,va1,va2,va3,va4,va5,va6,va7] 44 ?_);intro gp hgb w1 hbox hb;have HX1:=am hbox;have HB1:=am hb;have HG1:=am hgb;clear hb hbox hgb)|((with_reducible refine bv 4 #[vb0,vb1,vb2,vb3,vb4,vb5,vb6,vb7] 44 ?_);intro gq hgb w2 hbox hb;have HY1:=bB HX1 hb;have HX2:=am hbox;have HB2:=bS HB1 hb;have HG2:=am hgb;clear hb hbox hgb))
 have HNP:Aside0 (¬ GL g gp):=⟨fun h=>by have h1:=HG1.out;have h2:=GL.lt HI.out.long h;omega⟩
 have HNQ:Aside0 (¬ GL g gq):=⟨fun h=>by have h1:=HG2.out;have h2:=GL.lt HI.out.long h;have h3:=HB1.out.size;omega⟩
 have HIs:Aside0 (SInv W0 Wb g gc 57 (.func (.func fo) #[] cp) blk w2.drew):=⟨(HI.out.below HB2.out).drew⟩
 have HPs:=am (blk_drew HY1.out)
 have HQs:=am (blk_drew HX2.out)
 have HKs:Aside0 (Kept W w2.drew (GL g)):=⟨(Kept.of_below HB2.out _).drew⟩
 refine sv 8 (fun w'=>w'.cell? ⟨gc,0,none⟩=some (.func (.func fo) #[] cp)∧w'.cell? ⟨gp,0,none⟩=some va0∧w'.cell? ⟨gp,1,none⟩=some va1∧w'.cell? ⟨gp,2,none⟩=some va2∧w'.cell? ⟨gp,3,none⟩=some va3∧w'.cell? ⟨gp,4,none⟩=some va4∧w'.cell? ⟨gp,5,none⟩=some va5∧w'.cell? ⟨gp,6,none⟩=some va6∧w'.cell? ⟨gp,7,none⟩=some va7∧w'.cell? ⟨gq,0,none⟩=some vb0∧w'.cell? ⟨gq,1,none⟩=some vb1∧w'.cell? ⟨gq,2,none⟩=some vb2∧w'.cell? ⟨gq,3,none⟩=some vb3∧w'.cell? ⟨gq,4,none⟩=some vb4∧w'.cell? ⟨gq,5,none⟩=some vb5∧w'.cell? ⟨gq,6,none⟩=some vb6∧w'.cell? ⟨gq,7,none⟩=some vb7) [] ⟨(blk_cell HIs.out.fn 0).trans rfl,bz HPs.out 0 rfl,bz HPs.out 1 rfl,bz HPs.out 2 rfl,bz HPs.out 3 rfl,bz HPs.out 4 rfl,bz HPs.out 5 rfl,bz HPs.out 6 rfl,bz HPs.out 7 rfl,bz HQs.out 0 rfl,bz HQs.out 1 rfl,bz HQs.out 2 rfl,bz HQs.out 3 rfl,bz HQs.out 4 rfl,bz HQs.out 5 rfl,bz HQs.out 6 rfl,bz HQs.out 7 rfl⟩ fun hHeld=>?_
 refine tv 0 6 ?_
 refine tv 1 7 ?_
 refine tv 3 9 ?_
 refine tv 4 10 ?_
 refine ov 2 8 fun K hK=>?_
 refine goesK_ (t:=6) (cap:=cp) hfo hfn hfb #[.agg #[va0,va1,va2,va3,va4,va5,va6,va7]] (by rfl) rfl (by rfl) (by rfl) (by (try simp only [List.map_toArray,List.map_cons,List.map_nil]);first|done|rfl) ?_
 refine (HOF.out _ HMP.out _ _ HIs.out.low HIs.out.long HK1.out).mono ?_
 rintro e w3 ⟨⟨s3,rfl⟩,hj,hr⟩
 have HI3:=am (HIs.out.next hj hr HNC.out)
 have HP3:=am (hr.blk HPs.out HNP.out)
 have HQ3:=am (hr.blk HQs.out HNQ.out)
 have HK3:=am (HKs.out.then_ hr.2 (fun _ hk=>.inl hk))
 clear hj hr
 refine ⟨_,rfl,?_⟩
 refine hK.out _ _ ⟨(blk_cell HI3.out.fn 0).trans rfl,bz HP3.out 0 rfl,bz HP3.out 1 rfl,bz HP3.out 2 rfl,bz HP3.out 3 rfl,bz HP3.out 4 rfl,bz HP3.out 5 rfl,bz HP3.out 6 rfl,bz HP3.out 7 rfl,bz HQ3.out 0 rfl,bz HQ3.out 1 rfl,bz HQ3.out 2 rfl,bz HQ3.out 3 rfl,bz HQ3.out 4 rfl,bz HQ3.out 5 rfl,bz HQ3.out 6 rfl,bz HQ3.out 7 rfl⟩ (fun hHeld=>?_)
 clear hK K
 refine nv 8 ?_
 refine ov 5 11 fun K hK=>?_
 refine goesK_ (t:=9) (cap:=cp) hfo hfn hfb #[.agg #[vb0,vb1,vb2,vb3,vb4,vb5,vb6,vb7]] (by rfl) rfl (by rfl) (by rfl) (by (try simp only [List.map_toArray,List.map_cons,List.map_nil]);first|done|rfl) ?_
 refine (HOF.out _ HMQ.out _ _ HI3.out.low HI3.out.long HK2.out).mono ?_
 rintro e w4 ⟨⟨s4,rfl⟩,hj,hr⟩
 have HI4:=am (HI3.out.next hj hr HNC.out)
 have HP4:=am (hr.blk HP3.out HNP.out)
 have HQ4:=am (hr.blk HQ3.out HNQ.out)
 have HK4:=am (HK3.out.then_ hr.2 (fun _ hk=>.inl hk))
 clear hj hr
 refine ⟨_,rfl,?_⟩
 refine hK.out _ _ ⟨(blk_cell HI4.out.fn 0).trans rfl,bz HP4.out 0 rfl,bz HP4.out 1 rfl,bz HP4.out 2 rfl,bz HP4.out 3 rfl,bz HP4.out 4 rfl,bz HP4.out 5 rfl,bz HP4.out 6 rfl,bz HP4.out 7 rfl,bz HQ4.out 0 rfl,bz HQ4.out 1 rfl,bz HQ4.out 2 rfl,bz HQ4.out 3 rfl,bz HQ4.out 4 rfl,bz HQ4.out 5 rfl,bz HQ4.out 6 rfl,bz HQ4.out 7 rfl⟩ (fun hHeld=>?_)
 clear hK K
 refine nv 11 ?_
 refine ov 6 12 fun K hK=>?_
 refine gv #[.string s3,.string s4] ?_
 refine (Tryz.strings_Compare s3 s4 _).mono ?_
 rintro e w5 ⟨rfl,rfl⟩
 refine ⟨_,rfl,?_⟩
 refine hK.out _ _ ⟨(blk_cell HI4.out.fn 0).trans rfl,bz HP4.out 0 rfl,bz HP4.out 1 rfl,bz HP4.out 2 rfl,bz HP4.out 3 rfl,bz HP4.out 4 rfl,bz HP4.out 5 rfl,bz HP4.out 6 rfl,bz HP4.out 7 rfl,bz HQ4.out 0 rfl,bz HQ4.out 1 rfl,bz HQ4.out 2 rfl,bz HQ4.out 3 rfl,bz HQ4.out 4 rfl,bz HQ4.out 5 rfl,bz HQ4.out 6 rfl,bz HQ4.out 7 rfl⟩ (fun hHeld=>?_)
 clear hK K
 refine nv 12 ?_
 refine pv 7 5 ?_
 refine done_ (by kernel_rfl) ?_
 go_wp2
 go_ret
 exact ⟨⟨_,rfl⟩,HI4.out,HK4.out⟩
theorem SRow.reads_Rule {W0 W:World} {e base blk cap:Nat} {ns:List S44} (h:SRow W0 k44 e base blk cap W ns):ns.length≤cap∧ReadsRow (k44.K W0) 8 W (some ⟨blk,0,none⟩) ns.length ns:=by
 obtain ⟨A,c,e1,hl,hr⟩:=OwnRow.reads (R:=k44.K W0) (show OwnRow (k44.K W0) e 8 W base _ ns from h)
 cases e1
 exact ⟨hl,hr⟩
theorem sorted_Rule (W0 : World) (g : Option Nat) (xs : List S44) (h16 : xs.length ≤ 16) (fo : FuncId) (fn : Func) (cp : Array Value) (hfo : Tryz.prog.funcs[fo]? = some fn) (hfn : (fn.name == "runtime.NumGoroutine") = false) (hfb : fn.body.isSome = true)
 (hof:∀ p∈xs,∀ W cs,Below W0.heap.size W0 W→JL g W→k44.K W0 p cs→Calls Tryz.prog fo (#[.agg cs.toArray]++cp) W fun e W'=>(∃ s,e=.returned (.string s))∧JL g W'∧RG W0.heap.size (GL g) W W')
 (A:Option Addr) (c:Nat) (W:World) (hlow:Below W0.heap.size W0 W) (hj:JL g W) (hr:ReadsRow (k44.K W0) 8 W A xs.length xs) :
 Calls Tryz.prog 87 #[.slice A xs.length c,.func (.func fo) #[] cp] W fun e W'=>∃ A' c',e=.returned (.slice A' xs.length c')∧JL g W'∧RG W0.heap.size (GL g) W W'∧∃ ys,ys.length=xs.length∧(∀ y∈ys,y∈xs)∧(ys=[]∨∃ blk,A'=some ⟨blk,0,none⟩∧W.heap.size≤blk∧SRow W0 k44 44 W.heap.size blk c' W' ys):=by
 have h1:=fun W2 (hb:Below W.heap.size W W2)=>clone_Rule W0 xs h16 A c W2 (ReadsRow.imp_ hr hb (fun _ _ hp=>hp))
 have h2:∀ gc W2 A' c',Below W.heap.size W W2→W.heap.size≤gc→W2.heap[gc]?=some (.cells #[.func (.func fo) #[] cp] 57 (0,0))→(xs=[]∨∃ blk,A'=some ⟨blk,0,none⟩∧W.heap.size≤blk∧gc≠blk∧SRow W0 k44 44 W.heap.size blk c' W2 xs)→Calls Tryz.prog 149 #[.slice A' xs.length c',.func (.func 150) #[] #[.pointer (some ⟨gc,0,none⟩)]] W2 fun e W'=>e=.returned (.tuple #[])∧JL g W'∧RG W0.heap.size (GL g) W W'∧∃ ys,ys.length=xs.length∧(∀ y∈ys,y∈xs)∧(ys=[]∨∃ blk,A'=some ⟨blk,0,none⟩∧W.heap.size≤blk∧SRow W0 k44 44 W.heap.size blk c' W' ys):=by
  intro gc W2 A' c' hb hgc hfx hd
  have hnc:¬ GL g gc:=fun h=>by have:=GL.lt hj h;omega
  have hr2:RG W0.heap.size (GL g) W W2:=RG.of_below hb hlow.size
  have hj2:JL g W2:=hj.below hb
  rcases hd with rfl|⟨blk,rfl,hle,hne,hs⟩
  ·exact sstable_Rule A' c' _ 0 (by omega) W2 _ ((ins0_Rule _ _ W2).mono fun e W' ⟨h,hw⟩=>⟨h,by subst hw;exact ⟨hj2,hr2,[],rfl,fun _ h=>h,.inl rfl⟩⟩)
  ·have hng:¬ GL g blk:=fun h=>by have:=GL.lt hj h;omega
   refine sstable_Rule (some ⟨blk,0,none⟩) c' _ xs.length h16 W2 _ ((ins_Rule W0 (GL g) (SInv W0 W2 g gc 57 (.func (.func fo) #[] cp) blk) xs 150 _ #[.pointer (some ⟨gc,0,none⟩)] Tryz.func150 (by kernel_rfl) rfl (fun p hp q hq W3 cs ds hI k1 k2=>cmp_Rule W0 W2 g gc blk hnc xs fo fn cp hfo hfn hfb hof p hp q hq W3 cs ds hI k1 k2) (fun _ h=>h.drew) 44 W.heap.size blk c' hng (fun _ o u h=>h.set hng hne (Nat.le_trans hlow.size hle) o u) xs xs.length rfl (fun _ h=>h) (by omega) W2 ⟨hlow.trans hr2.1,hj2,hfx,RG.refl _ _ _⟩ hs).mono ?_)
   rintro e W' ⟨rfl,hI,ms,hsm,hl,hm⟩
   exact ⟨rfl,hI.long,hr2.cut hI.rg hle,ms,hl,hm,.inr ⟨blk,rfl,hle,hsm⟩⟩
 have H1:=am h1
 have H2:=am h2
 clear h1 h2 hof hr hlow hj
 go_in
 go_wp2_with (first|(go_at_call 149;refine (H2.out gc _ _ _ HB2.out (Nat.le_of_eq HG1.out.symm) HX2.out HD.out).mono ?_;rintro e w3 ⟨rfl,hq⟩;have HQ:=am hq;clear hq)|(go_at_call 42;refine (H1.out _ HB1.out).mono ?_;rintro e w2 ⟨A',c',rfl,hb,hd⟩;have HB2:=bS HB1 hb;have HX2:=bB HX1 hb;have hd2:xs=[]∨∃ blk,A'=some ⟨blk,0,none⟩∧W.heap.size≤blk∧gc≠blk∧SRow W0 k44 44 W.heap.size blk c' w2 xs:=hd.imp id (fun ⟨blk,e1,hle,hs⟩=>⟨blk,e1,Nat.le_trans HB1.out.size hle,fun e2=>absurd (blk_lt HX1.out) (Nat.not_lt.2 (e2 ▸ hle)),SRow.lower hs HB1.out.size⟩);have HD:=am hd2;clear hb hd hd2)|((with_reducible refine bv 3 #[.func (.func fo) #[] cp] 57 ?_);intro gc hgb w1 hbox hb;have HX1:=am hbox;have HB1:=am hb;have HG1:=am hgb;clear hb hbox hgb))
 go_ret
 obtain ⟨hj,hr,ys,hl,hm,hd⟩:=HQ.out
 exact ⟨_,_,rfl,hj,hr,ys,hl,hm,hd⟩
theorem ins_string (W0 : World) (G : Nat → Prop) (Inv : World → Prop) (l : List ByteArray) (f : FuncId) (fn : Func) (cp : Array Value) (hf : Tryz.prog.funcs[f]? = some fn) (hname : (fn.name == "runtime.NumGoroutine") = false) (hbd : fn.body.isSome = true)
 (hcmp:∀ p∈l,∀ q∈l,∀ W cs ds,Inv W→Kd.string.K W0 p cs→Kd.string.K W0 q ds→Calls Tryz.prog f (#[cs.getD 0 undef,ds.getD 0 undef]++cp) W fun e W'=>(∃ n:Int,e=.returned (.int .i64 n))∧Inv W'∧Kept W W' G)
 (hdr:∀ W,Inv W→Inv W.drew) (e base blk cap:Nat) (hG:¬ G blk) (hset:∀ W o u,Inv W→Inv (W.setCell ⟨blk,o,none⟩ u)) (ns:List ByteArray) (n:Nat) (hn:ns.length=n) (hns:∀ x∈ns,x∈l) (h16:n≤1000000) (W:World) (hI:Inv W) (hR:SRow W0 Kd.string e base blk cap W ns) :
 Calls Tryz.prog 242 #[.slice (some ⟨blk,0,none⟩) n cap,.int .i64 0,.int .i64 n,.func (.func f) #[] cp] W fun e_ W'=>e_=.returned (.tuple #[])∧Inv W'∧∃ ms,SRow W0 Kd.string e base blk cap W' ms∧ms.length=n∧∀ x∈ms,x∈l:=by
 have HN:=am hn
 have HNS:=am hns
 have HI:=am hI
 have HR:=am hR
 have HC:=am hcmp
 have HD:=am hdr
 have HS:=am hset
 have HG:=am hG
 have H16:=am h16
 have m1:(n:Int)≤9223372036854775807:=by omega
 have hw1:wrap64 1=1:=by unfold wrap64;omega
 clear hn hns hI hR hcmp hdr hset hG h16
 go_in
 go_wp2
 go_loopw [8,9] (fun u u9 wr=>∃ (i:Nat) (ms:List ByteArray),u=.int .i64 i∧Aside0 (1≤i)∧Aside0 (Inv wr)∧Aside0 (SRow W0 Kd.string e base blk cap wr ms)∧Aside0 (ms.length=n)∧Aside0 (∀ x∈ms,x∈l)) (fun u _ _=>n-(intOf u).toNat)
 case atStart=>exact ⟨1,ns,rfl,⟨Nat.le_refl _⟩,HI,HR,HN,HNS⟩
 case round =>
  obtain ⟨i,ms,rfl,HI1,HIw,HRw,HNw,HNSw⟩:=hrel
  by_cases hlt:i<n
  ·have b1:decide ((i:Int)<(n:Int))=true:=decide_eq_true (by omega)
   have hwi:wrap64 ((i:Int)+1)=((i+1:Nat):Int):=by unfold wrap64;omega
   have HWI:=am hwi
   have HLT:=am hlt
   clear hwi
   go_wp2
   go_loopw [9] (fun u wr=>∃ (j:Nat) (ms:List ByteArray),u=.int .i64 j∧Aside0 (j<n)∧Aside0 (Inv wr)∧Aside0 (SRow W0 Kd.string e base blk cap wr ms)∧Aside0 (ms.length=n)∧Aside0 (∀ x∈ms,x∈l)) (fun u _=>(intOf u).toNat)
   case atStart=>exact ⟨i,ms,rfl,HLT,HIw,HRw,HNw,HNSw⟩
   case round =>
    obtain ⟨j,ms,rfl,HJ,HIj,HRj,HNj,HNSj⟩:=hrel
    by_cases hj:j=0
    ·subst hj
     have b2:decide ((0:Int)<((0:Nat):Int))=false:=by decide
     have b3:decide (0<0)=false:=by decide
     go_wp2
     refine sv 17 (fun w'=>True) [] trivial fun hHeld=>?_
     refine pv 0 18 ?_
     refine pv 1 19 ?_
     refine pv 2 20 ?_
     refine pv 3 21 ?_
     refine uv 4 22 ?_
     refine uv 5 23 ?_
     refine uv 6 24 ?_
     refine uv 7 25 ?_
     refine uv 8 26 ?_
     refine uv 9 27 ?_
     refine uv 10 28 ?_
     refine uv 11 29 ?_
     refine uv 12 30 ?_
     refine uv 13 31 ?_
     refine uv 14 32 ?_
     refine uv 15 33 ?_
     refine pv 16 34 ?_
     refine done_ (by kernel_rfl) ?_
     go_wp2
     go_roundw
     case rel=>exact ⟨i+1,_,by first|exact congrArg (Value.int .i64) HWI.out|rfl,⟨Nat.le_add_left 1 i⟩,⟨HD.out _ HIj.out⟩,⟨HRj.out.drew⟩,HNj,HNSj⟩
     case measure=>first|exact meas_wrap rfl HLT.out HWI.out|exact meas_plain HLT.out
    ·obtain ⟨k,rfl⟩:∃ k,j=k+1:=⟨j-1,by omega⟩
     obtain ⟨p,cs,hp,hl1,hk1,hc1⟩:=HRj.out.at_n (n:=1) rfl (k+1) (by rw [HNj.out];exact HJ.out)
     obtain rfl:cs=[.string p]:=(show _=_ from hk1);have ga0:(Value.string p).oneCell'=true:=rfl
     obtain ⟨q,ds,hq,hl2,hk2,hc2⟩:=HRj.out.at_n (n:=1) rfl k (by rw [HNj.out];exact Nat.lt_of_succ_lt HJ.out)
     obtain rfl:ds=[.string q]:=(show _=_ from hk2);have gb0:(Value.string q).oneCell'=true:=rfl
     have y0:wr.cell? ⟨blk,(k+1),none⟩=some (.string p):=(by have hh:=hc1 0 _ rfl;simp only [Nat.mul_one,Nat.add_zero] at hh;exact hh)
     have z0:wr.cell? ⟨blk,k,none⟩=some (.string q):=(by have hh:=hc2 0 _ rfl;simp only [Nat.mul_one,Nat.add_zero] at hh;exact hh)
     have b2:decide ((0:Int)<((k+1:Nat):Int))=true:=decide_eq_true (by omega)
     have b3:decide (0<k+1)=true:=decide_eq_true (by omega)
     have hwk:wrap64 (((k+1:Nat):Int)-1)=(k:Int):=by have:=HJ.out;have:=H16.out;unfold wrap64;omega
     have hwk2:wrap64 (k:Int)=(k:Int):=by have:=HJ.out;have:=H16.out;unfold wrap64;omega
     have b5:(0≤(k:Int)+1)=True:=eq_true (by omega)
     have b6:((k:Int)+1<(n:Int))=True:=eq_true (by have:=HJ.out;omega)
     have b7:(0≤(k:Int))=True:=eq_true (by omega)
     have b8:((k:Int)<(n:Int))=True:=eq_true (by have:=HJ.out;omega)
     have b9:k<n:=Nat.lt_of_succ_lt HJ.out
     have HP:=am (HNSj.out _ hp)
     have HQ:=am (HNSj.out _ hq)
     have HK:=am hk1
     have HL:=am hk2
     clear hp hq hk1 hk2 hc1 hc2 hl1 hl2 hj ga0 gb0
     go_wp2
     refine sv 17 (fun w'=>∀ o,w'.cell? ⟨blk,o,none⟩=wr.cell? ⟨blk,o,none⟩) [] (fun _=>rfl) fun hHeld=>?_
     refine pv 0 18 ?_
     refine pv 1 19 ?_
     refine pv 2 20 ?_
     refine pv 3 21 ?_
     refine pv 4 22 ?_
     refine pv 5 23 ?_
     refine pv 6 24 ?_
     refine pv 7 25 ?_
     refine pv 9 27 ?_
     refine pv 10 28 ?_
     refine pv 11 29 ?_
     refine pv 12 30 ?_
     refine tv 8 26 ?_
     refine tv 13 31 ?_
     refine caV_ 14 (fl 17 32767) (some 32) (t:=22) (cap:=cp) hf hname hbd #[(.string p),(.string q)] rfl rfl (by kernel_rfl) (by decide) (by rfl) rfl (by rfl) (by (try simp only [List.map_toArray,List.map_cons,List.map_nil]);first|done|rfl) ?_
     refine (HC.out _ HP.out _ HQ.out _ _ _ (HD.out _ HIj.out) HK.out HL.out).mono ?_
     rintro e w3 ⟨⟨m,rfl⟩,hi,hk⟩
     have HI3:=am hi
     have HR3:=am (HRj.out.drew.keep hk HG.out)
     have hce:=kept_cell (w:=wr.drew) hk HRj.out.drew.lt HG.out
     obtain ⟨q,hq⟩:∃ q,decide (m<0)=q:=⟨_,rfl⟩
     clear hi hk
     refine ⟨_,rfl,hce,fun hHeld a' ha=>?_⟩
     simp only [nm] at ha
     subst ha
     refine pv 15 33 ?_
     refine pv 16 34 ?_
     refine done_ (by kernel_rfl) ?_
     cases q with
     | false =>
       go_wp2
       go_roundw
       case rel=>exact ⟨i+1,_,by first|exact congrArg (Value.int .i64) HWI.out|rfl,⟨Nat.le_add_left 1 i⟩,HI3,HR3,HNj,HNSj⟩
       case measure=>first|exact meas_wrap rfl HLT.out HWI.out|exact meas_plain HLT.out
     | true =>
       clear hHeld hce
       go_wp2
       clear y0 z0
       obtain ⟨p2,cs2,hp2,hl2,hk2,hc2⟩:=HR3.out.at_n (n:=1) rfl (k+1) (by rw [HNj.out];exact HJ.out)
       obtain rfl:cs2=[.string p2]:=(show _=_ from hk2);have g0:(Value.string p2).oneCell'=true:=rfl
       obtain ⟨q2,ds2,hq2,hl3,hk3,hc3⟩:=HR3.out.at_n (n:=1) rfl k (by rw [HNj.out];exact Nat.lt_of_succ_lt HJ.out)
       obtain rfl:ds2=[.string q2]:=(show _=_ from hk3);have e0:(Value.string q2).oneCell'=true:=rfl
       have y0:w3.cell? ⟨blk,(k+1),none⟩=some (.string p2):=(by have hh:=hc2 0 _ rfl;simp only [Nat.mul_one,Nat.add_zero] at hh;exact hh)
       have z0:w3.cell? ⟨blk,k,none⟩=some (.string q2):=(by have hh:=hc3 0 _ rfl;simp only [Nat.mul_one,Nat.add_zero] at hh;exact hh)
       have HP2:=am (HNSj.out _ hp2)
       have HQ2:=am (HNSj.out _ hq2)
       have HK2:=am hk2
       have HK3:=am hk3
       have G0:=am g0;have E0:=am e0
       clear hp2 hq2 hk2 hk3 hc2 hc3 hl2 hl3 g0 e0
       refine sv 18 (fun w'=>∀ o,w'.cell? ⟨blk,o,none⟩=w3.cell? ⟨blk,o,none⟩) [15,17] (fun _=>rfl) fun hHeld=>?_
       refine pv 0 37 ?_
       refine pv 1 38 ?_
       refine pv 2 39 ?_
       refine pv 3 40 ?_
       refine pv 4 41 ?_
       refine pv 5 42 ?_
       refine pv 6 43 ?_
       refine pv 7 44 ?_
       refine pv 8 45 ?_
       refine pv 10 47 ?_
       refine pv 11 48 ?_
       refine pv 12 49 ?_
       refine tv 9 46 ?_
       refine tv 13 50 ?_
       refine pv 14 51 ?_
       refine zv 15 fun K hK=>?_
       obtain ⟨⟨x0,hx0⟩,hf0⟩:=(HR3.out.drew.fit (n:=1) rfl (k+1) (by rw [HNj.out];exact HJ.out)) 0 (by decide)
       simp only [Nat.mul_one,Nat.add_zero] at hx0 hf0
       have hf1:w3.frozen? ⟨blk,k+1,none⟩=false:=hf0
       refine skip_ (w1:=w3.drew.setCell ⟨blk,(k+1),none⟩ (.string q2)) (by rfl) rfl (by first|(go_simp;done)|(go_simp;rfl)) ?_
       refine hK.out _ _ ?_
       clear hK K
       obtain ⟨P0,hw⟩:∃ W,W=w3.drew.setCell ⟨blk,k+1,none⟩ (.string q2):=⟨_,rfl⟩
       rw [← hw]
       have HP0:=am hw
       clear hw hx0 hf0 hf1
       have HR5:Aside0 (SRow W0 Kd.string e base blk cap P0 (ms.set (k+1) q2)):=⟨HR3.out.drew.put_n (n:=1) rfl (by rw [HNj.out];exact HJ.out) HK3.out (by rw [HP0.out];simp only [runW,Nat.mul_one,Nat.add_zero,Nat.add_assoc,Nat.reduceAdd])⟩
       have HI5:Aside0 (Inv P0):=⟨by rw [HP0.out];exact (HS.out _ _ _ (HD.out _ HI3.out))⟩
       clear HP0
       refine pv 16 52 ?_
       refine zv 17 fun K hK=>?_
       obtain ⟨⟨x0,hx0⟩,hf0⟩:=(HR5.out.fit (n:=1) rfl k (by rw [List.length_set,HNj.out];exact Nat.lt_of_succ_lt HJ.out)) 0 (by decide)
       simp only [Nat.mul_one,Nat.add_zero] at hx0 hf0
       refine skip_ (w1:=P0.setCell ⟨blk,k,none⟩ (.string p2)) (by rfl) rfl (by first|(go_simp;done)|(go_simp;rfl)) ?_
       refine hK.out _ _ ?_
       clear hK K
       refine done_ (by kernel_rfl) ?_
       obtain ⟨Q0,hw⟩:∃ W,W=P0.setCell ⟨blk,k,none⟩ (.string p2):=⟨_,rfl⟩
       rw [← hw]
       have HQ0:=am hw
       clear hw hx0 hf0
       have HR6:Aside0 (SRow W0 Kd.string e base blk cap Q0 ((ms.set (k+1) q2).set k p2)):=⟨HR5.out.put_n (n:=1) rfl (by rw [List.length_set,HNj.out];exact Nat.lt_of_succ_lt HJ.out) HK2.out (by rw [HQ0.out];simp only [runW,Nat.mul_one,Nat.add_zero,Nat.add_assoc,Nat.reduceAdd])⟩
       have HI6:Aside0 (Inv Q0):=⟨by rw [HQ0.out];exact (HS.out _ _ _ HI5.out)⟩
       clear HQ0
       go_wp2
       go_roundw
       case rel=>exact ⟨k,_,by first|rfl|exact congrArg (Value.int .i64) hwk2|exact congrArg (Value.int .i64) hwk,⟨b9⟩,HI6,HR6,⟨by rw [List.length_set,List.length_set];exact HNj.out⟩,⟨fun x hx=>by rcases mem_set hx with h|rfl;(rcases mem_set h with h|rfl;(exact HNSj.out _ h);exact HQ2.out);exact HP2.out⟩⟩
       case measure=>first|(show (k:Int).toNat<((k+1:Nat):Int).toNat;omega)|(show (wrap64 (k:Int)).toNat<((k+1:Nat):Int).toNat;rw [hwk2];omega)
  ·have b1:decide ((i:Int)<(n:Int))=false:=decide_eq_false (by omega)
   go_wp2
   go_end0
   exact ⟨rfl,HIw.out,ms,HRw.out,HNw.out,HNSw.out⟩
theorem stable_string (v fv:Value) (n:Nat) (h16:n≤16) (W:World) (R:World→Prop) (hins:Calls Tryz.prog 242 #[v,.int .i64 0,.int .i64 n,fv] W fun e W'=>e=.returned (.tuple #[])∧R W'):Calls Tryz.prog 205 #[v,.int .i64 n,fv] W fun e W'=>e=.returned (.tuple #[])∧R W':=by
 have HI:=am hins
 have b1:decide (20≤(n:Int))=false:=decide_eq_false (by omega)
 have b2:decide (20<(n:Int))=false:=decide_eq_false (by omega)
 have b3:decide (20≤n)=false:=decide_eq_false (by omega)
 have b4:decide (20<n)=false:=decide_eq_false (by omega)
 clear hins
 go_in
 go_wp2
 go_loopw [7,8] (fun u8 u9 wr=>u8=.int .i64 0∧u9=.int .i64 20∧wr=W) (fun _ _ _=>0)
 case atStart=>exact ⟨rfl,rfl,rfl⟩
 case round =>
  obtain ⟨rfl,rfl,rfl⟩:=hrel
  go_wp2_with (go_at_call 242;refine HI.out.mono ?_;rintro e w2 ⟨rfl,hr⟩;have HR:=am hr;clear hr)
  go_loopw [6] (fun u wr=>u=.int .i64 20∧wr=w2) (fun _ _=>0)
  case atStart=>exact ⟨rfl,rfl⟩
  case round =>
   obtain ⟨rfl,rfl⟩:=hrel
   go_wp2
   go_end0
   exact ⟨rfl,HR.out⟩
theorem sstable_string (A:Option Addr) (c:Nat) (fv:Value) (n:Nat) (h16:n≤16) (W:World) (R:World→Prop) (hins:Calls Tryz.prog 242 #[.slice A n c,.int .i64 0,.int .i64 n,fv] W fun e W'=>e=.returned (.tuple #[])∧R W'):Calls Tryz.prog 152 #[.slice A n c,fv] W fun e W'=>e=.returned (.tuple #[])∧R W':=by
 have HI:=am (stable_string _ fv n h16 W R hins)
 clear hins
 go_in
 go_wp2_with (go_at_call 205;refine HI.out.mono ?_;rintro e w2 ⟨rfl,hr⟩;have HR:=am hr;clear hr)
 go_end0
 exact ⟨rfl,HR.out⟩
theorem ins0_string (v fv:Value) (W:World):Calls Tryz.prog 242 #[v,.int .i64 0,.int .i64 ((0:Nat):Int),fv] W fun e W'=>e=.returned (.tuple #[])∧W'=W:=by
 have hw1:wrap64 1=1:=by unfold wrap64;omega
 go_in
 go_wp2
 go_loopw [8] (fun u wr=>u=.int .i64 1∧wr=W) (fun _ _=>0)
 case atStart=>exact ⟨rfl,rfl⟩
 case round =>
  obtain ⟨rfl,rfl⟩:=hrel
  go_wp2
  go_end0
  exact ⟨rfl,rfl⟩
theorem clone_string (W0:World) (xs:List ByteArray) (h16:xs.length≤16) (A:Option Addr) (c:Nat) (W:World) (hr:ReadsRow (Kd.string.K W0) 1 W A xs.length xs):Calls Tryz.prog 151 #[.slice A xs.length c] W fun e W'=>∃ A' c',e=.returned (.slice A' xs.length c')∧Below W.heap.size W W'∧(xs=[]∨∃ blk,A'=some ⟨blk,0,none⟩∧W.heap.size≤blk∧SRow W0 Kd.string 9 W.heap.size blk c' W' xs):=by
 have HR:=am hr
 have H16:=am h16
 have heq:∀ (w:World) (a:Option Addr) (n c n' c':Nat),(binOp .eql 24 (.slice a n c) (.slice none n' c')).run Tryz.prog w=.ok (.bool a.isNone) w:=fun w a n c n' c'=>Lib.run_eql_slice_nil w _ _ a n c n' c' Tryz.underlying24
 cases A with
 | none =>
   have h0:xs=[]:=by
    rcases Nat.eq_zero_or_pos xs.length with h|h
    ·exact List.eq_nil_of_length_eq_zero h
    ·obtain ⟨ad,e,_⟩:=hr.2.2 h;cases e
   subst h0
   clear hr h16
   go_in
   go_wp2
   go_ret
   exact ⟨_,_,rfl,Below.refl _ _,.inl (by first|trivial|rfl)⟩
 | some ad =>
   clear hr h16
   go_in
   go_wp2_with (first|((with_reducible refine lv 5 #[] 9 0 ?_);intro gl hgb w1 hbox hb;have HX1:=am hbox;have HG1:Aside0 (W.heap.size≤gl):=⟨Nat.le_of_eq hgb.symm⟩;have HB1:=am hb;clear hb hbox hgb)|((with_reducible refine gate_builtin (b:=.append) (xs:=#[.tmp 5,.tmp 6]) rfl ?_);at_builtin;go_loud (refine S_append Kd.string (W0:=W0) W.heap.size rfl (.tmp 5) (.tmp 6) 24 9 (.string (⟨#[]⟩:ByteArray)) 16 rfl Tryz.underlying24 (by kernel_rfl) rfl (by decide) gl 0 xs ad xs.length c (by rfl) (by rfl) ?aO ?aR ?aB ?aM (by decide) ?_);(case aO=>exact own_empty HX1.out HG1.out);(case aR=>exact ReadsRow.imp_ HR.out HB1.out (fun _ _ hp=>hp));(case aB=>exact HB1.out.size);(case aM=>have:=H16.out;omega);intro blk cap w1_ hle hs hg;have HL:=am hle;have HS:=am hs;have HB2:=am (HB1.out.grown hg HB1.out.size (fun k hk=>by cases hk;exact HG1.out));clear hle hs hg))
   go_ret
   exact ⟨_,_,rfl,HB2.out,.inr ⟨_,rfl,HL.out,HS.out⟩⟩
theorem cmp_string (W0 Wb : World) (g : Option Nat) (gc blk : Nat) (hnc : ¬ GL g gc) (l : List ByteArray) (fo : FuncId) (fn : Func) (cp : Array Value) (hfo : Tryz.prog.funcs[fo]? = some fn) (hfn : (fn.name == "runtime.NumGoroutine") = false) (hfb : fn.body.isSome = true)
 (hof:∀ p∈l,∀ W cs,Below W0.heap.size W0 W→JL g W→Kd.string.K W0 p cs→Calls Tryz.prog fo (#[cs.getD 0 undef]++cp) W fun e W'=>(∃ s,e=.returned (.string s))∧JL g W'∧RG W0.heap.size (GL g) W W')
 (p:ByteArray) (hp:p∈l) (q:ByteArray) (hq:q∈l) (W:World) (cs ds:List Value) (hI:SInv W0 Wb g gc 59 (.func (.func fo) #[] cp) blk W) (hk1:Kd.string.K W0 p cs) (hk2:Kd.string.K W0 q ds) :
 Calls Tryz.prog 153 (#[cs.getD 0 undef,ds.getD 0 undef]++#[.pointer (some ⟨gc,0,none⟩)]) W fun e W'=>(∃ n:Int,e=.returned (.int .i64 n))∧SInv W0 Wb g gc 59 (.func (.func fo) #[] cp) blk W'∧Kept W W' (GL g):=by
 obtain rfl:cs=[.string p]:=(show _=_ from hk1)
 obtain rfl:ds=[.string q]:=(show _=_ from hk2)
 have HNC:=am hnc
 have HOF:=am hof
 have HMP:=am hp
 have HMQ:=am hq
 have HI:=am hI
 have HK1:=am hk1
 have HK2:=am hk2
 clear hnc hof hp hq hI hk1 hk2
 show Calls Tryz.prog 153 #[.string p,.string q,.pointer (some ⟨gc,0,none⟩)] W _
 go_in
 go_upto_region 1 with (fail)
 have HIs:Aside0 (SInv W0 Wb g gc 59 (.func (.func fo) #[] cp) blk W.drew):=⟨HI.out.drew⟩
 have HKs:Aside0 (Kept W W.drew (GL g)):=⟨(Kept.refl _ _).drew⟩
 refine sv 8 (fun w'=>w'.cell? ⟨gc,0,none⟩=some (.func (.func fo) #[] cp)) [] ((blk_cell HIs.out.fn 0).trans rfl) fun hHeld=>?_
 refine pv 1 7 ?_
 refine pv 4 10 ?_
 refine tv 0 6 ?_
 refine tv 3 9 ?_
 refine ov 2 8 fun K hK=>?_
 refine goesK_ (t:=6) (cap:=cp) hfo hfn hfb #[.string p] (by rfl) rfl (by rfl) (by rfl) (by (try simp only [List.map_toArray,List.map_cons,List.map_nil]);first|done|rfl) ?_
 refine (HOF.out _ HMP.out _ _ HIs.out.low HIs.out.long HK1.out).mono ?_
 rintro e w3 ⟨⟨s3,rfl⟩,hj,hr⟩
 have HI3:=am (HIs.out.next hj hr HNC.out)
 have HK3:=am (HKs.out.then_ hr.2 (fun _ hk=>.inl hk))
 clear hj hr
 refine ⟨_,rfl,?_⟩
 refine hK.out _ _ ((blk_cell HI3.out.fn 0).trans rfl) (fun hHeld=>?_)
 clear hK K
 refine nv 8 ?_
 refine ov 5 11 fun K hK=>?_
 refine goesK_ (t:=9) (cap:=cp) hfo hfn hfb #[.string q] (by rfl) rfl (by rfl) (by rfl) (by (try simp only [List.map_toArray,List.map_cons,List.map_nil]);first|done|rfl) ?_
 refine (HOF.out _ HMQ.out _ _ HI3.out.low HI3.out.long HK2.out).mono ?_
 rintro e w4 ⟨⟨s4,rfl⟩,hj,hr⟩
 have HI4:=am (HI3.out.next hj hr HNC.out)
 have HK4:=am (HK3.out.then_ hr.2 (fun _ hk=>.inl hk))
 clear hj hr
 refine ⟨_,rfl,?_⟩
 refine hK.out _ _ ((blk_cell HI4.out.fn 0).trans rfl) (fun hHeld=>?_)
 clear hK K
 refine nv 11 ?_
 refine ov 6 12 fun K hK=>?_
 refine gv #[.string s3,.string s4] ?_
 refine (Tryz.strings_Compare s3 s4 _).mono ?_
 rintro e w5 ⟨rfl,rfl⟩
 refine ⟨_,rfl,?_⟩
 refine hK.out _ _ ((blk_cell HI4.out.fn 0).trans rfl) (fun hHeld=>?_)
 clear hK K
 refine nv 12 ?_
 refine pv 7 5 ?_
 refine done_ (by kernel_rfl) ?_
 go_wp2
 go_ret
 exact ⟨⟨_,rfl⟩,HI4.out,HK4.out⟩
theorem SRow.reads_string {W0 W:World} {e base blk cap:Nat} {ns:List ByteArray} (h:SRow W0 Kd.string e base blk cap W ns):ns.length≤cap∧ReadsRow (Kd.string.K W0) 1 W (some ⟨blk,0,none⟩) ns.length ns:=by
 obtain ⟨A,c,e1,hl,hr⟩:=OwnRow.reads (R:=Kd.string.K W0) (show OwnRow (Kd.string.K W0) e 1 W base _ ns from h)
 cases e1
 exact ⟨hl,hr⟩
theorem sorted_string (W0 : World) (g : Option Nat) (xs : List ByteArray) (h16 : xs.length ≤ 16) (fo : FuncId) (fn : Func) (cp : Array Value) (hfo : Tryz.prog.funcs[fo]? = some fn) (hfn : (fn.name == "runtime.NumGoroutine") = false) (hfb : fn.body.isSome = true)
 (hof:∀ p∈xs,∀ W cs,Below W0.heap.size W0 W→JL g W→Kd.string.K W0 p cs→Calls Tryz.prog fo (#[cs.getD 0 undef]++cp) W fun e W'=>(∃ s,e=.returned (.string s))∧JL g W'∧RG W0.heap.size (GL g) W W')
 (A:Option Addr) (c:Nat) (W:World) (hlow:Below W0.heap.size W0 W) (hj:JL g W) (hr:ReadsRow (Kd.string.K W0) 1 W A xs.length xs) :
 Calls Tryz.prog 88 #[.slice A xs.length c,.func (.func fo) #[] cp] W fun e W'=>∃ A' c',e=.returned (.slice A' xs.length c')∧JL g W'∧RG W0.heap.size (GL g) W W'∧∃ ys,ys.length=xs.length∧(∀ y∈ys,y∈xs)∧(ys=[]∨∃ blk,A'=some ⟨blk,0,none⟩∧W.heap.size≤blk∧SRow W0 Kd.string 9 W.heap.size blk c' W' ys):=by
 have h1:=fun W2 (hb:Below W.heap.size W W2)=>clone_string W0 xs h16 A c W2 (ReadsRow.imp_ hr hb (fun _ _ hp=>hp))
 have h2:∀ gc W2 A' c',Below W.heap.size W W2→W.heap.size≤gc→W2.heap[gc]?=some (.cells #[.func (.func fo) #[] cp] 59 (0,0))→(xs=[]∨∃ blk,A'=some ⟨blk,0,none⟩∧W.heap.size≤blk∧gc≠blk∧SRow W0 Kd.string 9 W.heap.size blk c' W2 xs)→Calls Tryz.prog 152 #[.slice A' xs.length c',.func (.func 153) #[] #[.pointer (some ⟨gc,0,none⟩)]] W2 fun e W'=>e=.returned (.tuple #[])∧JL g W'∧RG W0.heap.size (GL g) W W'∧∃ ys,ys.length=xs.length∧(∀ y∈ys,y∈xs)∧(ys=[]∨∃ blk,A'=some ⟨blk,0,none⟩∧W.heap.size≤blk∧SRow W0 Kd.string 9 W.heap.size blk c' W' ys):=by
  intro gc W2 A' c' hb hgc hfx hd
  have hnc:¬ GL g gc:=fun h=>by have:=GL.lt hj h;omega
  have hr2:RG W0.heap.size (GL g) W W2:=RG.of_below hb hlow.size
  have hj2:JL g W2:=hj.below hb
  rcases hd with rfl|⟨blk,rfl,hle,hne,hs⟩
  ·exact sstable_string A' c' _ 0 (by omega) W2 _ ((ins0_string _ _ W2).mono fun e W' ⟨h,hw⟩=>⟨h,by subst hw;exact ⟨hj2,hr2,[],rfl,fun _ h=>h,.inl rfl⟩⟩)
  ·have hng:¬ GL g blk:=fun h=>by have:=GL.lt hj h;omega
   refine sstable_string (some ⟨blk,0,none⟩) c' _ xs.length h16 W2 _ ((ins_string W0 (GL g) (SInv W0 W2 g gc 59 (.func (.func fo) #[] cp) blk) xs 153 _ #[.pointer (some ⟨gc,0,none⟩)] Tryz.func153 (by kernel_rfl) rfl (fun p hp q hq W3 cs ds hI k1 k2=>cmp_string W0 W2 g gc blk hnc xs fo fn cp hfo hfn hfb hof p hp q hq W3 cs ds hI k1 k2) (fun _ h=>h.drew) 9 W.heap.size blk c' hng (fun _ o u h=>h.set hng hne (Nat.le_trans hlow.size hle) o u) xs xs.length rfl (fun _ h=>h) (by omega) W2 ⟨hlow.trans hr2.1,hj2,hfx,RG.refl _ _ _⟩ hs).mono ?_)
   rintro e W' ⟨rfl,hI,ms,hsm,hl,hm⟩
   exact ⟨rfl,hI.long,hr2.cut hI.rg hle,ms,hl,hm,.inr ⟨blk,rfl,hle,hsm⟩⟩
 have H1:=am h1
 have H2:=am h2
 clear h1 h2 hof hr hlow hj
 go_in
 go_wp2_with (first|(go_at_call 152;refine (H2.out gc _ _ _ HB2.out (Nat.le_of_eq HG1.out.symm) HX2.out HD.out).mono ?_;rintro e w3 ⟨rfl,hq⟩;have HQ:=am hq;clear hq)|(go_at_call 151;refine (H1.out _ HB1.out).mono ?_;rintro e w2 ⟨A',c',rfl,hb,hd⟩;have HB2:=bS HB1 hb;have HX2:=bB HX1 hb;have hd2:xs=[]∨∃ blk,A'=some ⟨blk,0,none⟩∧W.heap.size≤blk∧gc≠blk∧SRow W0 Kd.string 9 W.heap.size blk c' w2 xs:=hd.imp id (fun ⟨blk,e1,hle,hs⟩=>⟨blk,e1,Nat.le_trans HB1.out.size hle,fun e2=>absurd (blk_lt HX1.out) (Nat.not_lt.2 (e2 ▸ hle)),SRow.lower hs HB1.out.size⟩);have HD:=am hd2;clear hb hd hd2)|((with_reducible refine bv 3 #[.func (.func fo) #[] cp] 59 ?_);intro gc hgb w1 hbox hb;have HX1:=am hbox;have HB1:=am hb;have HG1:=am hgb;clear hb hbox hgb))
 go_ret
 obtain ⟨hj,hr,ys,hl,hm,hd⟩:=HQ.out
 exact ⟨_,_,rfl,hj,hr,ys,hl,hm,hd⟩
theorem five_Hours {W:World} {p:S54} {cs:List Value} (h:k54.K W p cs):∃ va0 va1 va2 va3,cs=[va0,va1,va2,va3]∧va0.oneCell'=true∧va1.oneCell'=true∧va2.oneCell'=true∧va3.oneCell'=true:=by
 obtain rfl:=k54_open h
 exact ⟨_,_,_,_,rfl,rfl,rfl,rfl,rfl⟩
theorem ins_Hours (W0 : World) (G : Nat → Prop) (Inv : World → Prop) (l : List S54) (f : FuncId) (fn : Func) (cp : Array Value) (hf : Tryz.prog.funcs[f]? = some fn) (hname : (fn.name == "runtime.NumGoroutine") = false) (hbd : fn.body.isSome = true)
 (hcmp:∀ p∈l,∀ q∈l,∀ W cs ds,Inv W→k54.K W0 p cs→k54.K W0 q ds→Calls Tryz.prog f (#[.agg cs.toArray,.agg ds.toArray]++cp) W fun e W'=>(∃ n:Int,e=.returned (.int .i64 n))∧Inv W'∧Kept W W' G)
 (hdr:∀ W,Inv W→Inv W.drew) (e base blk cap:Nat) (hG:¬ G blk) (hset:∀ W o u,Inv W→Inv (W.setCell ⟨blk,o,none⟩ u)) (ns:List S54) (n:Nat) (hn:ns.length=n) (hns:∀ x∈ns,x∈l) (h16:n≤1000000) (W:World) (hI:Inv W) (hR:SRow W0 k54 e base blk cap W ns) :
 Calls Tryz.prog 244 #[.slice (some ⟨blk,0,none⟩) n cap,.int .i64 0,.int .i64 n,.func (.func f) #[] cp] W fun e_ W'=>e_=.returned (.tuple #[])∧Inv W'∧∃ ms,SRow W0 k54 e base blk cap W' ms∧ms.length=n∧∀ x∈ms,x∈l:=by
 have HN:=am hn
 have HNS:=am hns
 have HI:=am hI
 have HR:=am hR
 have HC:=am hcmp
 have HD:=am hdr
 have HS:=am hset
 have HG:=am hG
 have H16:=am h16
 have m1:(n:Int)≤9223372036854775807:=by omega
 have hw1:wrap64 1=1:=by unfold wrap64;omega
 clear hn hns hI hR hcmp hdr hset hG h16
 go_in
 go_wp2
 go_loopw [8,9] (fun u u9 wr=>∃ (i:Nat) (ms:List S54),u=.int .i64 i∧Aside0 (1≤i)∧Aside0 (Inv wr)∧Aside0 (SRow W0 k54 e base blk cap wr ms)∧Aside0 (ms.length=n)∧Aside0 (∀ x∈ms,x∈l)) (fun u _ _=>n-(intOf u).toNat)
 case atStart=>exact ⟨1,ns,rfl,⟨Nat.le_refl _⟩,HI,HR,HN,HNS⟩
 case round =>
  obtain ⟨i,ms,rfl,HI1,HIw,HRw,HNw,HNSw⟩:=hrel
  by_cases hlt:i<n
  ·have b1:decide ((i:Int)<(n:Int))=true:=decide_eq_true (by omega)
   have hwi:wrap64 ((i:Int)+1)=((i+1:Nat):Int):=by unfold wrap64;omega
   have HWI:=am hwi
   have HLT:=am hlt
   clear hwi
   go_wp2
   go_loopw [9] (fun u wr=>∃ (j:Nat) (ms:List S54),u=.int .i64 j∧Aside0 (j<n)∧Aside0 (Inv wr)∧Aside0 (SRow W0 k54 e base blk cap wr ms)∧Aside0 (ms.length=n)∧Aside0 (∀ x∈ms,x∈l)) (fun u _=>(intOf u).toNat)
   case atStart=>exact ⟨i,ms,rfl,HLT,HIw,HRw,HNw,HNSw⟩
   case round =>
    obtain ⟨j,ms,rfl,HJ,HIj,HRj,HNj,HNSj⟩:=hrel
    by_cases hj:j=0
    ·subst hj
     have b2:decide ((0:Int)<((0:Nat):Int))=false:=by decide
     have b3:decide (0<0)=false:=by decide
     go_wp2
     refine sv 17 (fun w'=>True) [] trivial fun hHeld=>?_
     refine pv 0 18 ?_
     refine pv 1 19 ?_
     refine pv 2 20 ?_
     refine pv 3 21 ?_
     refine uv 4 22 ?_
     refine uv 5 23 ?_
     refine uv 6 24 ?_
     refine uv 7 25 ?_
     refine uv 8 26 ?_
     refine uv 9 27 ?_
     refine uv 10 28 ?_
     refine uv 11 29 ?_
     refine uv 12 30 ?_
     refine uv 13 31 ?_
     refine uv 14 32 ?_
     refine uv 15 33 ?_
     refine pv 16 34 ?_
     refine done_ (by kernel_rfl) ?_
     go_wp2
     go_roundw
     case rel=>exact ⟨i+1,_,by first|exact congrArg (Value.int .i64) HWI.out|rfl,⟨Nat.le_add_left 1 i⟩,⟨HD.out _ HIj.out⟩,⟨HRj.out.drew⟩,HNj,HNSj⟩
     case measure=>first|exact meas_wrap rfl HLT.out HWI.out|exact meas_plain HLT.out
    ·obtain ⟨k,rfl⟩:∃ k,j=k+1:=⟨j-1,by omega⟩
     obtain ⟨p,cs,hp,hl1,hk1,hc1⟩:=HRj.out.at_n (n:=4) rfl (k+1) (by rw [HNj.out];exact HJ.out)
     obtain ⟨va0,va1,va2,va3,rfl,ga0,ga1,ga2,ga3⟩:=five_Hours hk1
     obtain ⟨q,ds,hq,hl2,hk2,hc2⟩:=HRj.out.at_n (n:=4) rfl k (by rw [HNj.out];exact Nat.lt_of_succ_lt HJ.out)
     obtain ⟨vb0,vb1,vb2,vb3,rfl,gb0,gb1,gb2,gb3⟩:=five_Hours hk2
     have y0:wr.cell? ⟨blk,(k+1)*4,none⟩=some va0:=hc1 0 _ rfl
     have y1:wr.cell? ⟨blk,(k+1)*4+1,none⟩=some va1:=hc1 1 _ rfl
     have y2:wr.cell? ⟨blk,(k+1)*4+2,none⟩=some va2:=hc1 2 _ rfl
     have y3:wr.cell? ⟨blk,(k+1)*4+3,none⟩=some va3:=hc1 3 _ rfl
     have z0:wr.cell? ⟨blk,k*4,none⟩=some vb0:=hc2 0 _ rfl
     have z1:wr.cell? ⟨blk,k*4+1,none⟩=some vb1:=hc2 1 _ rfl
     have z2:wr.cell? ⟨blk,k*4+2,none⟩=some vb2:=hc2 2 _ rfl
     have z3:wr.cell? ⟨blk,k*4+3,none⟩=some vb3:=hc2 3 _ rfl
     have b2:decide ((0:Int)<((k+1:Nat):Int))=true:=decide_eq_true (by omega)
     have b3:decide (0<k+1)=true:=decide_eq_true (by omega)
     have hwk:wrap64 (((k+1:Nat):Int)-1)=(k:Int):=by have:=HJ.out;have:=H16.out;unfold wrap64;omega
     have hwk2:wrap64 (k:Int)=(k:Int):=by have:=HJ.out;have:=H16.out;unfold wrap64;omega
     have b5:(0≤(k:Int)+1)=True:=eq_true (by omega)
     have b6:((k:Int)+1<(n:Int))=True:=eq_true (by have:=HJ.out;omega)
     have b7:(0≤(k:Int))=True:=eq_true (by omega)
     have b8:((k:Int)<(n:Int))=True:=eq_true (by have:=HJ.out;omega)
     have b9:k<n:=Nat.lt_of_succ_lt HJ.out
     have HP:=am (HNSj.out _ hp)
     have HQ:=am (HNSj.out _ hq)
     have HK:=am hk1
     have HL:=am hk2
     clear hp hq hk1 hk2 hc1 hc2 hl1 hl2 hj ga0 gb0 ga1 gb1 ga2 gb2 ga3 gb3
     go_wp2
     refine sv 17 (fun w'=>∀ o,w'.cell? ⟨blk,o,none⟩=wr.cell? ⟨blk,o,none⟩) [] (fun _=>rfl) fun hHeld=>?_
     refine pv 0 18 ?_
     refine pv 1 19 ?_
     refine pv 2 20 ?_
     refine pv 3 21 ?_
     refine pv 4 22 ?_
     refine pv 5 23 ?_
     refine pv 6 24 ?_
     refine pv 7 25 ?_
     refine pv 9 27 ?_
     refine pv 10 28 ?_
     refine pv 11 29 ?_
     refine pv 12 30 ?_
     refine tv 8 26 ?_
     refine tv 13 31 ?_
     refine caV_ 14 (fl 17 32767) (some 32) (t:=22) (cap:=cp) hf hname hbd #[.agg #[va0,va1,va2,va3],.agg #[vb0,vb1,vb2,vb3]] rfl rfl (by kernel_rfl) (by decide) (by rfl) rfl (by rfl) (by (try simp only [List.map_toArray,List.map_cons,List.map_nil]);first|done|rfl) ?_
     refine (HC.out _ HP.out _ HQ.out _ _ _ (HD.out _ HIj.out) HK.out HL.out).mono ?_
     rintro e w3 ⟨⟨m,rfl⟩,hi,hk⟩
     have HI3:=am hi
     have HR3:=am (HRj.out.drew.keep hk HG.out)
     have hce:=kept_cell (w:=wr.drew) hk HRj.out.drew.lt HG.out
     obtain ⟨q,hq⟩:∃ q,decide (m<0)=q:=⟨_,rfl⟩
     clear hi hk
     refine ⟨_,rfl,hce,fun hHeld a' ha=>?_⟩
     simp only [nm] at ha
     subst ha
     refine pv 15 33 ?_
     refine pv 16 34 ?_
     refine done_ (by kernel_rfl) ?_
     cases q with
     | false =>
       go_wp2
       go_roundw
       case rel=>exact ⟨i+1,_,by first|exact congrArg (Value.int .i64) HWI.out|rfl,⟨Nat.le_add_left 1 i⟩,HI3,HR3,HNj,HNSj⟩
       case measure=>first|exact meas_wrap rfl HLT.out HWI.out|exact meas_plain HLT.out
     | true =>
       clear hHeld hce
       go_wp2
       clear y0 z0 y1 z1 y2 z2 y3 z3
       obtain ⟨p2,cs2,hp2,hl2,hk2,hc2⟩:=HR3.out.at_n (n:=4) rfl (k+1) (by rw [HNj.out];exact HJ.out)
       obtain ⟨vc0,vc1,vc2,vc3,rfl,g0,g1,g2,g3⟩:=five_Hours hk2
       obtain ⟨q2,ds2,hq2,hl3,hk3,hc3⟩:=HR3.out.at_n (n:=4) rfl k (by rw [HNj.out];exact Nat.lt_of_succ_lt HJ.out)
       obtain ⟨vd0,vd1,vd2,vd3,rfl,e0,e1,e2,e3⟩:=five_Hours hk3
       have y0:w3.cell? ⟨blk,(k+1)*4,none⟩=some vc0:=hc2 0 _ rfl
       have y1:w3.cell? ⟨blk,(k+1)*4+1,none⟩=some vc1:=hc2 1 _ rfl
       have y2:w3.cell? ⟨blk,(k+1)*4+2,none⟩=some vc2:=hc2 2 _ rfl
       have y3:w3.cell? ⟨blk,(k+1)*4+3,none⟩=some vc3:=hc2 3 _ rfl
       have z0:w3.cell? ⟨blk,k*4,none⟩=some vd0:=hc3 0 _ rfl
       have z1:w3.cell? ⟨blk,k*4+1,none⟩=some vd1:=hc3 1 _ rfl
       have z2:w3.cell? ⟨blk,k*4+2,none⟩=some vd2:=hc3 2 _ rfl
       have z3:w3.cell? ⟨blk,k*4+3,none⟩=some vd3:=hc3 3 _ rfl
       have HP2:=am (HNSj.out _ hp2)
       have HQ2:=am (HNSj.out _ hq2)
       have HK2:=am hk2
       have HK3:=am hk3
       have G0:=am g0;have E0:=am e0
       have G1:=am g1;have E1:=am e1
       have G2:=am g2;have E2:=am e2
       have G3:=am g3;have E3:=am e3
       clear hp2 hq2 hk2 hk3 hc2 hc3 hl2 hl3 g0 e0 g1 e1 g2 e2 g3 e3
       refine sv 18 (fun w'=>∀ o,w'.cell? ⟨blk,o,none⟩=w3.cell? ⟨blk,o,none⟩) [15,17] (fun _=>rfl) fun hHeld=>?_
       refine pv 0 37 ?_
       refine pv 1 38 ?_
       refine pv 2 39 ?_
       refine pv 3 40 ?_
       refine pv 4 41 ?_
       refine pv 5 42 ?_
       refine pv 6 43 ?_
       refine pv 7 44 ?_
       refine pv 8 45 ?_
       refine pv 10 47 ?_
       refine pv 11 48 ?_
       refine pv 12 49 ?_
       refine tv 9 46 ?_
       refine tv 13 50 ?_
       refine pv 14 51 ?_
       refine zv 15 fun K hK=>?_
       have HF:=am (HR3.out.drew.fit (n:=4) rfl (k+1) (by rw [HNj.out];exact HJ.out))
       obtain ⟨P0,hP0,hf,hs⟩:=HF.out.put (P:=Tryz.prog) 0 (by decide) vd0 E0.out
       have s0:∀ m,(store ⟨blk,(k+1)*4,none⟩ vd0 m).run Tryz.prog w3.drew=.ok () P0:=hs
       have HP0:=am hP0
       clear HF hs hP0
       have HF:=am hf
       clear hf
       obtain ⟨P1,hP1,hf,hs⟩:=HF.out.put (P:=Tryz.prog) 1 (by decide) vd1 E1.out
       have s1:∀ m,(store ⟨blk,(k+1)*4+1,none⟩ vd1 m).run Tryz.prog P0=.ok () P1:=hs
       have HP1:=am hP1
       clear HF hs hP1
       have HF:=am hf
       clear hf
       obtain ⟨P2,hP2,hf,hs⟩:=HF.out.put (P:=Tryz.prog) 2 (by decide) vd2 E2.out
       have s2:∀ m,(store ⟨blk,(k+1)*4+2,none⟩ vd2 m).run Tryz.prog P1=.ok () P2:=hs
       have HP2:=am hP2
       clear HF hs hP2
       have HF:=am hf
       clear hf
       obtain ⟨P3,hP3,hf,hs⟩:=HF.out.put (P:=Tryz.prog) 3 (by decide) vd3 E3.out
       have s3:∀ m,(store ⟨blk,(k+1)*4+3,none⟩ vd3 m).run Tryz.prog P2=.ok () P3:=hs
       have HP3:=am hP3
       clear HF hs hP3
       have HF:=am hf
       clear hf
       refine skip_ (w1:=P3) (by rfl) rfl (by first|(go_simp;done)|(go_simp;rfl)) ?_
       refine hK.out _ _ ?_
       clear hK K
       have HR5:Aside0 (SRow W0 k54 e base blk cap P3 (ms.set (k+1) q2)):=⟨HR3.out.drew.put_n (n:=4) rfl (by rw [HNj.out];exact HJ.out) HK3.out (by rw [HP3.out,HP2.out,HP1.out,HP0.out];simp only [runW,Nat.mul_one,Nat.add_zero,Nat.add_assoc,Nat.reduceAdd])⟩
       have HI5:Aside0 (Inv P3):=⟨by rw [HP3.out,HP2.out,HP1.out,HP0.out];exact (HS.out _ _ _ (HS.out _ _ _ (HS.out _ _ _ (HS.out _ _ _ (HD.out _ HI3.out)))))⟩
       clear HF s0 HP0 s1 HP1 s2 HP2 s3 HP3
       refine pv 16 52 ?_
       refine zv 17 fun K hK=>?_
       have HF:=am (HR5.out.fit (n:=4) rfl k (by rw [List.length_set,HNj.out];exact Nat.lt_of_succ_lt HJ.out))
       obtain ⟨Q0,hQ0,hf,hs⟩:=HF.out.put (P:=Tryz.prog) 0 (by decide) vc0 G0.out
       have s0:∀ m,(store ⟨blk,k*4,none⟩ vc0 m).run Tryz.prog P3=.ok () Q0:=hs
       have HQ0:=am hQ0
       clear HF hs hQ0
       have HF:=am hf
       clear hf
       obtain ⟨Q1,hQ1,hf,hs⟩:=HF.out.put (P:=Tryz.prog) 1 (by decide) vc1 G1.out
       have s1:∀ m,(store ⟨blk,k*4+1,none⟩ vc1 m).run Tryz.prog Q0=.ok () Q1:=hs
       have HQ1:=am hQ1
       clear HF hs hQ1
       have HF:=am hf
       clear hf
       obtain ⟨Q2,hQ2,hf,hs⟩:=HF.out.put (P:=Tryz.prog) 2 (by decide) vc2 G2.out
       have s2:∀ m,(store ⟨blk,k*4+2,none⟩ vc2 m).run Tryz.prog Q1=.ok () Q2:=hs
       have HQ2:=am hQ2
       clear HF hs hQ2
       have HF:=am hf
       clear hf
       obtain ⟨Q3,hQ3,hf,hs⟩:=HF.out.put (P:=Tryz.prog) 3 (by decide) vc3 G3.out
       have s3:∀ m,(store ⟨blk,k*4+3,none⟩ vc3 m).run Tryz.prog Q2=.ok () Q3:=hs
       have HQ3:=am hQ3
       clear HF hs hQ3
       have HF:=am hf
       clear hf
       refine skip_ (w1:=Q3) (by rfl) rfl (by first|(go_simp;done)|(go_simp;rfl)) ?_
       refine hK.out _ _ ?_
       clear hK K
       refine done_ (by kernel_rfl) ?_
       have HR6:Aside0 (SRow W0 k54 e base blk cap Q3 ((ms.set (k+1) q2).set k p2)):=⟨HR5.out.put_n (n:=4) rfl (by rw [List.length_set,HNj.out];exact Nat.lt_of_succ_lt HJ.out) HK2.out (by rw [HQ3.out,HQ2.out,HQ1.out,HQ0.out];simp only [runW,Nat.mul_one,Nat.add_zero,Nat.add_assoc,Nat.reduceAdd])⟩
       have HI6:Aside0 (Inv Q3):=⟨by rw [HQ3.out,HQ2.out,HQ1.out,HQ0.out];exact (HS.out _ _ _ (HS.out _ _ _ (HS.out _ _ _ (HS.out _ _ _ HI5.out))))⟩
       clear HF s0 HQ0 s1 HQ1 s2 HQ2 s3 HQ3
       go_wp2
       go_roundw
       case rel=>exact ⟨k,_,by first|rfl|exact congrArg (Value.int .i64) hwk2|exact congrArg (Value.int .i64) hwk,⟨b9⟩,HI6,HR6,⟨by rw [List.length_set,List.length_set];exact HNj.out⟩,⟨fun x hx=>by rcases mem_set hx with h|rfl;(rcases mem_set h with h|rfl;(exact HNSj.out _ h);exact HQ2.out);exact HP2.out⟩⟩
       case measure=>first|(show (k:Int).toNat<((k+1:Nat):Int).toNat;omega)|(show (wrap64 (k:Int)).toNat<((k+1:Nat):Int).toNat;rw [hwk2];omega)
  ·have b1:decide ((i:Int)<(n:Int))=false:=decide_eq_false (by omega)
   go_wp2
   go_end0
   exact ⟨rfl,HIw.out,ms,HRw.out,HNw.out,HNSw.out⟩
theorem stable_Hours (v fv:Value) (n:Nat) (h16:n≤16) (W:World) (R:World→Prop) (hins:Calls Tryz.prog 244 #[v,.int .i64 0,.int .i64 n,fv] W fun e W'=>e=.returned (.tuple #[])∧R W'):Calls Tryz.prog 206 #[v,.int .i64 n,fv] W fun e W'=>e=.returned (.tuple #[])∧R W':=by
 have HI:=am hins
 have b1:decide (20≤(n:Int))=false:=decide_eq_false (by omega)
 have b2:decide (20<(n:Int))=false:=decide_eq_false (by omega)
 have b3:decide (20≤n)=false:=decide_eq_false (by omega)
 have b4:decide (20<n)=false:=decide_eq_false (by omega)
 clear hins
 go_in
 go_wp2
 go_loopw [7,8] (fun u8 u9 wr=>u8=.int .i64 0∧u9=.int .i64 20∧wr=W) (fun _ _ _=>0)
 case atStart=>exact ⟨rfl,rfl,rfl⟩
 case round =>
  obtain ⟨rfl,rfl,rfl⟩:=hrel
  go_wp2_with (go_at_call 244;refine HI.out.mono ?_;rintro e w2 ⟨rfl,hr⟩;have HR:=am hr;clear hr)
  go_loopw [6] (fun u wr=>u=.int .i64 20∧wr=w2) (fun _ _=>0)
  case atStart=>exact ⟨rfl,rfl⟩
  case round =>
   obtain ⟨rfl,rfl⟩:=hrel
   go_wp2
   go_end0
   exact ⟨rfl,HR.out⟩
theorem sstable_Hours (A:Option Addr) (c:Nat) (fv:Value) (n:Nat) (h16:n≤16) (W:World) (R:World→Prop) (hins:Calls Tryz.prog 244 #[.slice A n c,.int .i64 0,.int .i64 n,fv] W fun e W'=>e=.returned (.tuple #[])∧R W'):Calls Tryz.prog 155 #[.slice A n c,fv] W fun e W'=>e=.returned (.tuple #[])∧R W':=by
 have HI:=am (stable_Hours _ fv n h16 W R hins)
 clear hins
 go_in
 go_wp2_with (go_at_call 206;refine HI.out.mono ?_;rintro e w2 ⟨rfl,hr⟩;have HR:=am hr;clear hr)
 go_end0
 exact ⟨rfl,HR.out⟩
theorem ins0_Hours (v fv:Value) (W:World):Calls Tryz.prog 244 #[v,.int .i64 0,.int .i64 ((0:Nat):Int),fv] W fun e W'=>e=.returned (.tuple #[])∧W'=W:=by
 have hw1:wrap64 1=1:=by unfold wrap64;omega
 go_in
 go_wp2
 go_loopw [8] (fun u wr=>u=.int .i64 1∧wr=W) (fun _ _=>0)
 case atStart=>exact ⟨rfl,rfl⟩
 case round =>
  obtain ⟨rfl,rfl⟩:=hrel
  go_wp2
  go_end0
  exact ⟨rfl,rfl⟩
theorem clone_Hours (W0:World) (xs:List S54) (h16:xs.length≤16) (A:Option Addr) (c:Nat) (W:World) (hr:ReadsRow (k54.K W0) 4 W A xs.length xs):Calls Tryz.prog 154 #[.slice A xs.length c] W fun e W'=>∃ A' c',e=.returned (.slice A' xs.length c')∧Below W.heap.size W W'∧(xs=[]∨∃ blk,A'=some ⟨blk,0,none⟩∧W.heap.size≤blk∧SRow W0 k54 54 W.heap.size blk c' W' xs):=by
 have HR:=am hr
 have H16:=am h16
 have heq:∀ (w:World) (a:Option Addr) (n c n' c':Nat),(binOp .eql 29 (.slice a n c) (.slice none n' c')).run Tryz.prog w=.ok (.bool a.isNone) w:=fun w a n c n' c'=>Lib.run_eql_slice_nil w _ _ a n c n' c' Tryz.underlying29
 cases A with
 | none =>
   have h0:xs=[]:=by
    rcases Nat.eq_zero_or_pos xs.length with h|h
    ·exact List.eq_nil_of_length_eq_zero h
    ·obtain ⟨ad,e,_⟩:=hr.2.2 h;cases e
   subst h0
   clear hr h16
   go_in
   go_wp2
   go_ret
   exact ⟨_,_,rfl,Below.refl _ _,.inl (by first|trivial|rfl)⟩
 | some ad =>
   clear hr h16
   go_in
   go_wp2_with (first|((with_reducible refine lv 5 #[] 54 0 ?_);intro gl hgb w1 hbox hb;have HX1:=am hbox;have HG1:Aside0 (W.heap.size≤gl):=⟨Nat.le_of_eq hgb.symm⟩;have HB1:=am hb;clear hb hbox hgb)|((with_reducible refine gate_builtin (b:=.append) (xs:=#[.tmp 5,.tmp 6]) rfl ?_);at_builtin;go_loud (refine S_append k54 (W0:=W0) W.heap.size rfl (.tmp 5) (.tmp 6) 29 54 (.agg #[.string (⟨#[]⟩:ByteArray),.int .i64 0,.int .i64 0,.int .i64 0]) 40 rfl Tryz.underlying29 (by kernel_rfl) rfl (by decide) gl 0 xs ad xs.length c (by rfl) (by rfl) ?aO ?aR ?aB ?aM (by decide) ?_);(case aO=>exact own_empty HX1.out HG1.out);(case aR=>exact ReadsRow.imp_ HR.out HB1.out (fun _ _ hp=>hp));(case aB=>exact HB1.out.size);(case aM=>have:=H16.out;omega);intro blk cap w1_ hle hs hg;have HL:=am hle;have HS:=am hs;have HB2:=am (HB1.out.grown hg HB1.out.size (fun k hk=>by cases hk;exact HG1.out));clear hle hs hg))
   go_ret
   exact ⟨_,_,rfl,HB2.out,.inr ⟨_,rfl,HL.out,HS.out⟩⟩
theorem cmp_Hours (W0 Wb : World) (g : Option Nat) (gc blk : Nat) (hnc : ¬ GL g gc) (l : List S54) (fo : FuncId) (fn : Func) (cp : Array Value) (hfo : Tryz.prog.funcs[fo]? = some fn) (hfn : (fn.name == "runtime.NumGoroutine") = false) (hfb : fn.body.isSome = true)
 (hof:∀ p∈l,∀ W cs,Below W0.heap.size W0 W→JL g W→k54.K W0 p cs→Calls Tryz.prog fo (#[.agg cs.toArray]++cp) W fun e W'=>(∃ s,e=.returned (.string s))∧JL g W'∧RG W0.heap.size (GL g) W W')
 (p:S54) (hp:p∈l) (q:S54) (hq:q∈l) (W:World) (cs ds:List Value) (hI:SInv W0 Wb g gc 61 (.func (.func fo) #[] cp) blk W) (hk1:k54.K W0 p cs) (hk2:k54.K W0 q ds) :
 Calls Tryz.prog 156 (#[.agg cs.toArray,.agg ds.toArray]++#[.pointer (some ⟨gc,0,none⟩)]) W fun e W'=>(∃ n:Int,e=.returned (.int .i64 n))∧SInv W0 Wb g gc 61 (.func (.func fo) #[] cp) blk W'∧Kept W W' (GL g):=by
 obtain ⟨va0,va1,va2,va3,rfl,_,_,_,_⟩:=five_Hours hk1
 obtain ⟨vb0,vb1,vb2,vb3,rfl,_,_,_,_⟩:=five_Hours hk2
 have HNC:=am hnc
 have HOF:=am hof
 have HMP:=am hp
 have HMQ:=am hq
 have HI:=am hI
 have HK1:=am hk1
 have HK2:=am hk2
 clear hnc hof hp hq hI hk1 hk2
 show Calls Tryz.prog 156 #[.agg #[va0,va1,va2,va3],.agg #[vb0,vb1,vb2,vb3],.pointer (some ⟨gc,0,none⟩)] W _
 go_in
 go_upto_region 1 with (first|((with_reducible refine bv 3 #[va0,va1,va2,va3] 54 ?_);intro gp hgb w1 hbox hb;have HX1:=am hbox;have HB1:=am hb;have HG1:=am hgb;clear hb hbox hgb)|((with_reducible refine bv 4 #[vb0,vb1,vb2,vb3] 54 ?_);intro gq hgb w2 hbox hb;have HY1:=bB HX1 hb;have HX2:=am hbox;have HB2:=bS HB1 hb;have HG2:=am hgb;clear hb hbox hgb))
 have HNP:Aside0 (¬ GL g gp):=⟨fun h=>by have h1:=HG1.out;have h2:=GL.lt HI.out.long h;omega⟩
 have HNQ:Aside0 (¬ GL g gq):=⟨fun h=>by have h1:=HG2.out;have h2:=GL.lt HI.out.long h;have h3:=HB1.out.size;omega⟩
 have HIs:Aside0 (SInv W0 Wb g gc 61 (.func (.func fo) #[] cp) blk w2.drew):=⟨(HI.out.below HB2.out).drew⟩
 have HPs:=am (blk_drew HY1.out)
 have HQs:=am (blk_drew HX2.out)
 have HKs:Aside0 (Kept W w2.drew (GL g)):=⟨(Kept.of_below HB2.out _).drew⟩
 refine sv 8 (fun w'=>w'.cell? ⟨gc,0,none⟩=some (.func (.func fo) #[] cp)∧w'.cell? ⟨gp,0,none⟩=some va0∧w'.cell? ⟨gp,1,none⟩=some va1∧w'.cell? ⟨gp,2,none⟩=some va2∧w'.cell? ⟨gp,3,none⟩=some va3∧w'.cell? ⟨gq,0,none⟩=some vb0∧w'.cell? ⟨gq,1,none⟩=some vb1∧w'.cell? ⟨gq,2,none⟩=some vb2∧w'.cell? ⟨gq,3,none⟩=some vb3) [] ⟨(blk_cell HIs.out.fn 0).trans rfl,bz HPs.out 0 rfl,bz HPs.out 1 rfl,bz HPs.out 2 rfl,bz HPs.out 3 rfl,bz HQs.out 0 rfl,bz HQs.out 1 rfl,bz HQs.out 2 rfl,bz HQs.out 3 rfl⟩ fun hHeld=>?_
 refine tv 0 6 ?_
 refine tv 1 7 ?_
 refine tv 3 9 ?_
 refine tv 4 10 ?_
 refine ov 2 8 fun K hK=>?_
 refine goesK_ (t:=6) (cap:=cp) hfo hfn hfb #[.agg #[va0,va1,va2,va3]] (by rfl) rfl (by rfl) (by rfl) (by (try simp only [List.map_toArray,List.map_cons,List.map_nil]);first|done|rfl) ?_
 refine (HOF.out _ HMP.out _ _ HIs.out.low HIs.out.long HK1.out).mono ?_
 rintro e w3 ⟨⟨s3,rfl⟩,hj,hr⟩
 have HI3:=am (HIs.out.next hj hr HNC.out)
 have HP3:=am (hr.blk HPs.out HNP.out)
 have HQ3:=am (hr.blk HQs.out HNQ.out)
 have HK3:=am (HKs.out.then_ hr.2 (fun _ hk=>.inl hk))
 clear hj hr
 refine ⟨_,rfl,?_⟩
 refine hK.out _ _ ⟨(blk_cell HI3.out.fn 0).trans rfl,bz HP3.out 0 rfl,bz HP3.out 1 rfl,bz HP3.out 2 rfl,bz HP3.out 3 rfl,bz HQ3.out 0 rfl,bz HQ3.out 1 rfl,bz HQ3.out 2 rfl,bz HQ3.out 3 rfl⟩ (fun hHeld=>?_)
 clear hK K
 refine nv 8 ?_
 refine ov 5 11 fun K hK=>?_
 refine goesK_ (t:=9) (cap:=cp) hfo hfn hfb #[.agg #[vb0,vb1,vb2,vb3]] (by rfl) rfl (by rfl) (by rfl) (by (try simp only [List.map_toArray,List.map_cons,List.map_nil]);first|done|rfl) ?_
 refine (HOF.out _ HMQ.out _ _ HI3.out.low HI3.out.long HK2.out).mono ?_
 rintro e w4 ⟨⟨s4,rfl⟩,hj,hr⟩
 have HI4:=am (HI3.out.next hj hr HNC.out)
 have HP4:=am (hr.blk HP3.out HNP.out)
 have HQ4:=am (hr.blk HQ3.out HNQ.out)
 have HK4:=am (HK3.out.then_ hr.2 (fun _ hk=>.inl hk))
 clear hj hr
 refine ⟨_,rfl,?_⟩
 refine hK.out _ _ ⟨(blk_cell HI4.out.fn 0).trans rfl,bz HP4.out 0 rfl,bz HP4.out 1 rfl,bz HP4.out 2 rfl,bz HP4.out 3 rfl,bz HQ4.out 0 rfl,bz HQ4.out 1 rfl,bz HQ4.out 2 rfl,bz HQ4.out 3 rfl⟩ (fun hHeld=>?_)
 clear hK K
 refine nv 11 ?_
 refine ov 6 12 fun K hK=>?_
 refine gv #[.string s3,.string s4] ?_
 refine (Tryz.strings_Compare s3 s4 _).mono ?_
 rintro e w5 ⟨rfl,rfl⟩
 refine ⟨_,rfl,?_⟩
 refine hK.out _ _ ⟨(blk_cell HI4.out.fn 0).trans rfl,bz HP4.out 0 rfl,bz HP4.out 1 rfl,bz HP4.out 2 rfl,bz HP4.out 3 rfl,bz HQ4.out 0 rfl,bz HQ4.out 1 rfl,bz HQ4.out 2 rfl,bz HQ4.out 3 rfl⟩ (fun hHeld=>?_)
 clear hK K
 refine nv 12 ?_
 refine pv 7 5 ?_
 refine done_ (by kernel_rfl) ?_
 go_wp2
 go_ret
 exact ⟨⟨_,rfl⟩,HI4.out,HK4.out⟩
theorem SRow.reads_Hours {W0 W:World} {e base blk cap:Nat} {ns:List S54} (h:SRow W0 k54 e base blk cap W ns):ns.length≤cap∧ReadsRow (k54.K W0) 4 W (some ⟨blk,0,none⟩) ns.length ns:=by
 obtain ⟨A,c,e1,hl,hr⟩:=OwnRow.reads (R:=k54.K W0) (show OwnRow (k54.K W0) e 4 W base _ ns from h)
 cases e1
 exact ⟨hl,hr⟩
theorem sorted_Hours (W0 : World) (g : Option Nat) (xs : List S54) (h16 : xs.length ≤ 16) (fo : FuncId) (fn : Func) (cp : Array Value) (hfo : Tryz.prog.funcs[fo]? = some fn) (hfn : (fn.name == "runtime.NumGoroutine") = false) (hfb : fn.body.isSome = true)
 (hof:∀ p∈xs,∀ W cs,Below W0.heap.size W0 W→JL g W→k54.K W0 p cs→Calls Tryz.prog fo (#[.agg cs.toArray]++cp) W fun e W'=>(∃ s,e=.returned (.string s))∧JL g W'∧RG W0.heap.size (GL g) W W')
 (A:Option Addr) (c:Nat) (W:World) (hlow:Below W0.heap.size W0 W) (hj:JL g W) (hr:ReadsRow (k54.K W0) 4 W A xs.length xs) :
 Calls Tryz.prog 89 #[.slice A xs.length c,.func (.func fo) #[] cp] W fun e W'=>∃ A' c',e=.returned (.slice A' xs.length c')∧JL g W'∧RG W0.heap.size (GL g) W W'∧∃ ys,ys.length=xs.length∧(∀ y∈ys,y∈xs)∧(ys=[]∨∃ blk,A'=some ⟨blk,0,none⟩∧W.heap.size≤blk∧SRow W0 k54 54 W.heap.size blk c' W' ys):=by
 have h1:=fun W2 (hb:Below W.heap.size W W2)=>clone_Hours W0 xs h16 A c W2 (ReadsRow.imp_ hr hb (fun _ _ hp=>hp))
 have h2:∀ gc W2 A' c',Below W.heap.size W W2→W.heap.size≤gc→W2.heap[gc]?=some (.cells #[.func (.func fo) #[] cp] 61 (0,0))→(xs=[]∨∃ blk,A'=some ⟨blk,0,none⟩∧W.heap.size≤blk∧gc≠blk∧SRow W0 k54 54 W.heap.size blk c' W2 xs)→Calls Tryz.prog 155 #[.slice A' xs.length c',.func (.func 156) #[] #[.pointer (some ⟨gc,0,none⟩)]] W2 fun e W'=>e=.returned (.tuple #[])∧JL g W'∧RG W0.heap.size (GL g) W W'∧∃ ys,ys.length=xs.length∧(∀ y∈ys,y∈xs)∧(ys=[]∨∃ blk,A'=some ⟨blk,0,none⟩∧W.heap.size≤blk∧SRow W0 k54 54 W.heap.size blk c' W' ys):=by
  intro gc W2 A' c' hb hgc hfx hd
  have hnc:¬ GL g gc:=fun h=>by have:=GL.lt hj h;omega
  have hr2:RG W0.heap.size (GL g) W W2:=RG.of_below hb hlow.size
  have hj2:JL g W2:=hj.below hb
  rcases hd with rfl|⟨blk,rfl,hle,hne,hs⟩
  ·exact sstable_Hours A' c' _ 0 (by omega) W2 _ ((ins0_Hours _ _ W2).mono fun e W' ⟨h,hw⟩=>⟨h,by subst hw;exact ⟨hj2,hr2,[],rfl,fun _ h=>h,.inl rfl⟩⟩)
  ·have hng:¬ GL g blk:=fun h=>by have:=GL.lt hj h;omega
   refine sstable_Hours (some ⟨blk,0,none⟩) c' _ xs.length h16 W2 _ ((ins_Hours W0 (GL g) (SInv W0 W2 g gc 61 (.func (.func fo) #[] cp) blk) xs 156 _ #[.pointer (some ⟨gc,0,none⟩)] Tryz.func156 (by kernel_rfl) rfl (fun p hp q hq W3 cs ds hI k1 k2=>cmp_Hours W0 W2 g gc blk hnc xs fo fn cp hfo hfn hfb hof p hp q hq W3 cs ds hI k1 k2) (fun _ h=>h.drew) 54 W.heap.size blk c' hng (fun _ o u h=>h.set hng hne (Nat.le_trans hlow.size hle) o u) xs xs.length rfl (fun _ h=>h) (by omega) W2 ⟨hlow.trans hr2.1,hj2,hfx,RG.refl _ _ _⟩ hs).mono ?_)
   rintro e W' ⟨rfl,hI,ms,hsm,hl,hm⟩
   exact ⟨rfl,hI.long,hr2.cut hI.rg hle,ms,hl,hm,.inr ⟨blk,rfl,hle,hsm⟩⟩
 have H1:=am h1
 have H2:=am h2
 clear h1 h2 hof hr hlow hj
 go_in
 go_wp2_with (first|(go_at_call 155;refine (H2.out gc _ _ _ HB2.out (Nat.le_of_eq HG1.out.symm) HX2.out HD.out).mono ?_;rintro e w3 ⟨rfl,hq⟩;have HQ:=am hq;clear hq)|(go_at_call 154;refine (H1.out _ HB1.out).mono ?_;rintro e w2 ⟨A',c',rfl,hb,hd⟩;have HB2:=bS HB1 hb;have HX2:=bB HX1 hb;have hd2:xs=[]∨∃ blk,A'=some ⟨blk,0,none⟩∧W.heap.size≤blk∧gc≠blk∧SRow W0 k54 54 W.heap.size blk c' w2 xs:=hd.imp id (fun ⟨blk,e1,hle,hs⟩=>⟨blk,e1,Nat.le_trans HB1.out.size hle,fun e2=>absurd (blk_lt HX1.out) (Nat.not_lt.2 (e2 ▸ hle)),SRow.lower hs HB1.out.size⟩);have HD:=am hd2;clear hb hd hd2)|((with_reducible refine bv 3 #[.func (.func fo) #[] cp] 61 ?_);intro gc hgb w1 hbox hb;have HX1:=am hbox;have HB1:=am hb;have HG1:=am hgb;clear hb hbox hgb))
 go_ret
 obtain ⟨hj,hr,ys,hl,hm,hd⟩:=HQ.out
 exact ⟨_,_,rfl,hj,hr,ys,hl,hm,hd⟩
end Go.Proofs.YthofmfaeccdckaaGreatDoor.P
