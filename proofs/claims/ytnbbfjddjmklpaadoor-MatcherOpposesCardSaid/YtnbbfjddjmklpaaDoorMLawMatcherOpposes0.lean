/- What these functions of the program and of the plain reference compute, and plain lemmas on it: MatcherLaid, SealShaped, P0, Opens, MatcherOpens, MaxKeys, Plaw04Cut, PLabelLetter, PLabelName, Shelf, BytesAny, LabelValue. Conditions: as each lemma says. -/
import Derived.Test.YtnbbfjddjmklpaaDoorRows
import Derived.ProofKit
import Derived.LaidMore
import Derived.LaidSub
import Derived.Lay
import Derived.MakeChecks
import Derived.Stop.Joined
import Derived.SizedLaws
import Derived.Test.YtnbbfjddjmklpaaDoorProg
import Derived.Below
import Derived.Deep.Draws
import Derived.Deep.AppendLies
import Derived.Maps.AppendAt
import Derived.OwnWalk
import Derived.Laws.BytesArg
import Derived.Laws.MakeOwn
import Derived.Laws.OwnMore
import Derived.Deep.OwnRows
import Derived.Tactics
import Derived.Lib.ConvBytes
import Derived.Laws.Slices
import Derived.WalkKit
import Derived.KernelRfl
import Derived.RowKit3
import Derived.Deep.LoopGhost
import Derived.Deep.QuietTactic
import Derived.BigQuiet
import Derived.WideLaws
import Derived.Deep.DeepCutAuto
import Derived.Deep.CutBlock
import Derived.Deep.RegionHeld3
import Derived.Laws.Rows
import Derived.Lib.AppendStr
import Derived.ArgAppend
import Derived.Laws.IdiomCopy
import Derived.OrdersHeld
import Derived.Laws.BitsLemmas
import Derived.RowKit
import Derived.Test.YtnbbfjddjmklpaaDoorWWords
import Derived.Test.YtnbbfjddjmklpaaDoorWLast
import Derived.Test.YtnbbfjddjmklpaaDoorWTab
import Derived.Test.YtnbbfjddjmklpaaDoorWFour
import Derived.Test.YtnbbfjddjmklpaaDoorWQPut
import Derived.Test.YtnbbfjddjmklpaaDoorWApart
import Derived.Test.YtnbbfjddjmklpaaDoorWArr
import Derived.Test.YtnbbfjddjmklpaaDoorWZeros
import Derived.Test.YtnbbfjddjmklpaaDoorWFoot
import Derived.Test.YtnbbfjddjmklpaaDoorWKept
import Derived.Test.YtnbbfjddjmklpaaDoorWShare
import Derived.Test.YtnbbfjddjmklpaaDoorWN
import Derived.Test.YtnbbfjddjmklpaaDoorWFootNe
import Derived.Test.YtnbbfjddjmklpaaDoorWAt
import Derived.Test.YtnbbfjddjmklpaaDoorWEqStruct
import Derived.Test.YtnbbfjddjmklpaaDoorWRepsOne
import Derived.Test.YtnbbfjddjmklpaaDoorWInv
import Derived.Test.YtnbbfjddjmklpaaDoorWInvWords
import Derived.Test.YtnbbfjddjmklpaaDoorWGuard
import Derived.Test.YtnbbfjddjmklpaaDoorWNEv
import Derived.Test.YtnbbfjddjmklpaaDoorWMore
import Derived.ChangeArms
import Derived.ChangeSlices
import Derived.DataReads
import Derived.ChangeShapes
import Derived.Deep.Strs
import Derived.ChangeSame
import Derived.Lib.SmallJoins
import Derived.Shelf.Vars
import Derived.Shelf.Strings.Builder1
import Derived.Shelf.Strings.Builder2
import Derived.Shelf.Strings.OnBuilder
import Derived.Shelf.Small.Strs
import Derived.Shelf.Small.Wraps
import Derived.Shelf.Strings.BuilderF
import Derived.Shelf.Strings.BuilderK
import Derived.Shelf.Utf8.RuneCount
import Derived.Shelf.Strings.Builder2Cap
import Derived.Shelf.Strings.Search1
import Derived.Shelf.Strings.Search2
import Derived.Shelf.Strings.Search3
import Derived.Shelf.Strings.Cut
import Derived.Shelf.Strings.Count
import Derived.Shelf.LaysM
import Derived.Shelf.Strings.Shaped
import Derived.Shelf.Strings.Prefix
import Derived.Shelf.Strings.Split
import Derived.Shelf.Strings.SplitShaped
import Derived.Shelf.Unicode.Decode
import Derived.Shelf.Strings.RuneCount
import Derived.Shelf.Strings.Explode
import Derived.Shelf.Unicode.DecodeSlow
import Derived.Shelf.Unicode.DecodeAny
import Derived.Shelf.Strings.BuilderCap
import Derived.Shelf.Slices.Turned
import Derived.Shelf.Slices.Equal
import Derived.Shelf.Slices.Empties2
/- A world that meets the row's condition. Conditions: none. -/
namespace Go.Proofs.YtnbbfjddjmklpaaDoor
open Go.ChangeShapes Go.WideShapes Go.ChangeAt Go.RowKit

def laidSeat : List (String × DataW Unit) := [("unicode/utf8.acceptRanges", Rows.laid_unicode_utf8_acceptRanges), ("unicode/utf8.first", Rows.laid_unicode_utf8_first)]
theorem laid_met (os:Os) (args:Array Value):laidMetH Tryd.prog laidSeat ((World.laidAll Tryd.prog os laidSeat).forCall (fun _ _=>0) ⟨#[],args,[]⟩).memory:=by
 rw [MakeChecks.laidMetH_plain _ _ _ (by kernel_rfl)]
 exact laidMet_laidAll _ (by kernel_rfl) (by kernel_rfl)
theorem laid_shaped (os:Os) (args:Array Value):((World.laidAll Tryd.prog os laidSeat).forCall (fun _ _=>0) ⟨#[],args,[]⟩).Shaped Tryd.prog:=World.shaped_of_ZipB (by kernel_rfl) (by kernel_rfl)
end Go.Proofs.YtnbbfjddjmklpaaDoor

/- The wrap of a row over a listed variable, the world's shape kept: what a library's contract asks of a variable of the library's own is drawn out of the shape. Conditions: none. -/
namespace Go.Proofs.YtnbbfjddjmklpaaDoor
open Go
variable {H:Type} {enc:TypeId×Value→H}
theorem handed_and_shaped {a:Assume} {C:Checked} {os:Os} {f:FuncId} {fn:Func} {s:ChangeSpec} {conds:List PathCond} {apart fresh handsOn again:Bool} {X:World→Array Value→Prop}
  (hX:∀ (w w':World) (args:Array Value),w.heap=w'.heap→X w args→X w' args)
  (own:ownKnob C.prog.godebug=none) (started:os.Started) (noInit:C.prog.inits.idxOf? f=none) (hfn:C.prog.funcs[f]?=some fn)
  (witness:∃ (w:World) (tape:Tape) (i:Input),w.os=os∧(w.forCall tape i).Shaped C.prog∧i.vars=[]∧Input.okWide C.prog (w.forCall tape i) .any w.heap.size f i ∧
   ((s.pre enc C.prog fn conds apart (w.forCall tape i).memory i.args∧X (w.forCall tape i).memory i.args)∧sizedMet enc C.prog fn (OpenSpec.ofChange s) apart (w.forCall tape i).memory i.args)∧a.holds C.prog (lone (Frame.enter C.prog f i.args .normal) [] (w.forCall tape i)))
  (contract:∀ (W:World) (base:Nat) (args:Array Value) (ds gs:List (DataW H)) (before:List MemPlace),
   (∀ (j:Nat) t v,fn.params[j]?=some t→args[j]?=some v→Value.okWide C.prog W .any base t v) →
   DataW.Whole enc C.prog fn.params.toList s.vars apart W args.toList ds gs before →
   conds.all (PathCond.test C.prog ⟨fn.params.toList,ds,s.plain.varTypes C.prog,gs⟩)=true →
   (DataW.weightsEach C.prog (fn.params.toList++s.plain.varTypes C.prog) (ds++gs)).all (·≤reachBytes)=true→X W args→W.ShapedOpen C.prog →
   a.holds C.prog (lone (Frame.enter C.prog f args .normal) [] W) →
   Calls C.prog f args W fun e W'=>∃ v,e=.returned v∧s.post enc C.prog fn apart fresh handsOn again W args v W') :
  ReturnsInHanded a C os f .any (fun w args=>(s.pre enc C.prog fn conds apart w args∧X w args)∧sizedMet enc C.prog fn (OpenSpec.ofChange s) apart w args) (s.post enc C.prog fn apart fresh handsOn again):=by
 refine returnsInHanded_of_calls own started noInit witness fun w tape i _ hsh _ hok hpre hholds=>?_
 obtain ⟨_,_,_,fn',hfn',_,_,_,_,hval⟩:=hok
 obtain rfl:fn'=fn:=Option.some.inj (hfn'.symm.trans hfn)
 obtain ⟨⟨⟨ds,gs,before,hw,hc⟩,hx⟩,hz⟩:=hpre
 refine (contract (w.forCall tape i) w.heap.size i.args ds gs before hval (DataW.Whole.of_heap (w':=w.forCall tape i) (by rfl) hw) hc (hz.weights hw) (hX _ _ _ (by rfl) hx) hsh hholds).mono ?_
 rintro e W' ⟨v,rfl,hp⟩
 exact ChangeSpec.post_blind hp
end Go.Proofs.YtnbbfjddjmklpaaDoor

/- What one function of the program computes, as a Lean function, and a proof that its call comes to just that. Conditions: none. Written by wip/ownprint.py. -/
namespace Go.Proofs.YtnbbfjddjmklpaaDoor.P
open Go.RowKit Go.Proofs.YtnbbfjddjmklpaaDoorW.PrintWords Go.Proofs.YtnbbfjddjmklpaaDoorW.PrintLast Go.Proofs.YtnbbfjddjmklpaaDoorW.PrintMore
attribute [local go_sem] max2_int min2_int max_two min_two max_three min_three max_four min_four   -- for this text's walks alone
set_option linter.unusedVariables false
set_option linter.unusedSimpArgs false



def errW:Option Int→Value
 | none=>.nilIface
 | some c=>.iface 0 (.int .i64 c)
theorem errW_none:errW none=.nilIface:=rfl
theorem errW_some (c:Int):errW (some c)=.iface 0 (.int .i64 c):=rfl
theorem info9:(Tryd.prog.info? 9).map (fun i=>(i.zero,i.size,i.bytes))=some (some (.string ⟨#[]⟩),1,16):=by kernel_rfl
theorem info24:(Tryd.prog.info? 24).map (fun i=>(i.zero,i.size,i.bytes))=some (some (.agg #[(.string ⟨#[]⟩),(.int .i64 0),(.slice none 0 0)]),3,48):=by kernel_rfl
theorem info46:(Tryd.prog.info? 46).map (fun i=>(i.zero,i.size,i.bytes))=some (some (.agg #[(.string ⟨#[]⟩),(.string ⟨#[]⟩)]),2,32):=by kernel_rfl
-- the values' own types
structure S46 where
 f0:ByteArray
 f1:ByteArray
def z46:S46:=⟨(⟨#[]⟩:ByteArray),(⟨#[]⟩:ByteArray)⟩
def k46:Kd S46:=Kd.iso (Kd.pair Kd.string Kd.string) (fun x:S46=>(x.f0,x.f1))
theorem k46_open {w:World} {x:S46} {cs:List Value} (h:k46.K w x cs):cs=[.string x.f0,.string x.f1]:=by
 obtain ⟨_,_,rfl,rfl,rfl⟩:=h
 exact rfl
theorem k46_mk (w:World) (x:S46) :k46.K w x [.string x.f0,.string x.f1]:=⟨[.string x.f0],[.string x.f1],rfl,rfl,rfl⟩
theorem k46_mkM (w:World) (base:Nat) (ok:Nat→Prop) (x:S46) :k46.M w base ok x [.string x.f0,.string x.f1]:=⟨[.string x.f0],[.string x.f1],rfl,rfl,rfl⟩
def rd_T46 (xs:List S46) (i:Int):S46:=xs.getD i.toNat z46
theorem at_T46 {w:World} {A:Option Addr} {n:Nat} {xs:List S46} (h:Kd.C k46 w A n xs) (i:Int) (h0:0≤i) (h1:i<n):∃ ad ,A=some ad∧w.cell? (ad.add (i.toNat*2))=some (.string (rd_T46 xs i).f0)∧w.cell? ⟨(ad.add (i.toNat*2)).block,(ad.add (i.toNat*2)).off+1,none⟩=some (.string (rd_T46 xs i).f1):=by
 obtain ⟨ad,c,e,_,hK,hc0⟩:=Kd.C_get h z46 i h0 h1
 have hc:∀ j u,c[j]?=some u→w.cell? (ad.add (i.toNat*2+j))=some u:=hc0
 obtain rfl:=k46_open hK
 exact ⟨ad,e,hc 0 _ rfl,by rw [← add_field _ _ 1 (by omega)];exact hc 1 _ rfl⟩
structure S24 where
 f0:ByteArray
 f1:Int
 f2:(List ByteArray)
def z24:S24:=⟨(⟨#[]⟩:ByteArray),(0:Int),([]:List ByteArray)⟩
def k24:Kd S24:=Kd.iso (Kd.pair Kd.string (Kd.pair (Kd.int .i64) (Kd.slice 9 Kd.string))) (fun x:S24=>(x.f0,x.f1,x.f2))
theorem k24_open {w:World} {x:S24} {cs:List Value} (h:k24.K w x cs):∃ A2 c2,cs=[.string x.f0,.int .i64 x.f1,.slice A2 x.f2.length c2]∧x.f2.length≤c2∧Kd.string.C w A2 x.f2.length x.f2:=by
 obtain ⟨_,_,rfl,rfl,⟨_,_,rfl,rfl,⟨A2,c2,rfl,l2,g2⟩⟩⟩:=h
 exact ⟨A2,c2,rfl,l2,g2⟩
theorem k24_mk (w:World) (x:S24) {A2:Option Addr} {c2:Nat} (l2:x.f2.length≤c2) (g2:Kd.string.C w A2 x.f2.length x.f2):k24.K w x [.string x.f0,.int .i64 x.f1,.slice A2 x.f2.length c2]:=⟨[.string x.f0],[.int .i64 x.f1,.slice A2 x.f2.length c2],rfl,rfl,⟨[.int .i64 x.f1],[.slice A2 x.f2.length c2],rfl,rfl,⟨A2,c2,rfl,l2,g2⟩⟩⟩
theorem k24_mkF (W:World) (ok:Nat→Prop) (x:S24) {A2:Option Addr} {c2:Nat} (l2:x.f2.length≤c2) (g2:Kd.F Kd.string W ok A2 x.f2.length x.f2):Kd.FK k24 W ok x [.string x.f0,.int .i64 x.f1,.slice A2 x.f2.length c2]:=fun W2 hW=>k24_mk W2 x l2 (g2 W2 hW)
def rd_T24 (xs:List S24) (i:Int):S24:=xs.getD i.toNat z24
theorem at_T24 {w:World} {A:Option Addr} {n:Nat} {xs:List S24} (h:Kd.C k24 w A n xs) (i:Int) (h0:0≤i) (h1:i<n):∃ ad A2 c2,A=some ad∧w.cell? (ad.add (i.toNat*3))=some (.string (rd_T24 xs i).f0)∧w.cell? ⟨(ad.add (i.toNat*3)).block,(ad.add (i.toNat*3)).off+1,none⟩=some (.int .i64 (rd_T24 xs i).f1)∧w.cell? ⟨(ad.add (i.toNat*3)).block,(ad.add (i.toNat*3)).off+2,none⟩=some (.slice A2 (rd_T24 xs i).f2.length c2)∧(rd_T24 xs i).f2.length≤c2∧Kd.string.C w A2 (rd_T24 xs i).f2.length (rd_T24 xs i).f2:=by
 obtain ⟨ad,c,e,_,hK,hc0⟩:=Kd.C_get h z24 i h0 h1
 have hc:∀ j u,c[j]?=some u→w.cell? (ad.add (i.toNat*3+j))=some u:=hc0
 obtain ⟨A2,c2,rfl,l2,g2⟩:=k24_open hK
 exact ⟨ad,A2,c2,e,hc 0 _ rfl,by rw [← add_field _ _ 1 (by omega)];exact hc 1 _ rfl,by rw [← add_field _ _ 2 (by omega)];exact hc 2 _ rfl,l2,g2⟩
end Go.Proofs.YtnbbfjddjmklpaaDoor.P

/- What a value that came in reads as: each reading of a type is one of its kind's values, within bounds. Conditions: none. -/
namespace Go.Proofs.YtnbbfjddjmklpaaDoor.P
open Go.RowKit Go.Proofs.YtnbbfjddjmklpaaDoorW.PrintWords Go.Proofs.YtnbbfjddjmklpaaDoorW.PrintLast Go.Proofs.YtnbbfjddjmklpaaDoorW.PrintMore

def Opens {H:Type} (enc:TypeId×Value→H) (P:Program) (w:World) (base:Nat) (spare:Nat→Bool) (held:Bool) {α:Type} (d:Kd α) (ok:α→Prop) (t:TypeId):Prop :=
 ∀ fuel cs x,DataW.trod enc P w base spare held fuel t cs=some x→∃ a,d.K w a cs∧ok a
section
variable {H:Type} {enc:TypeId×Value→H} {P:Program} {w:World} {base:Nat} {spare:Nat→Bool} {held:Bool} {t e:TypeId}
theorem opens_string (ht:P.underlying t=some .string):Opens enc P w base spare held Kd.string (fun s=>s.size≤maxLen) t:=by
 intro fuel cs x h
 obtain ⟨s,rfl,_,hw⟩:=DataW.trod_string ht h
 exact ⟨s,rfl,hw⟩
theorem list_of {α:Type} (p:Nat→α→Prop):∀ n,(∀ i,i<n→∃ a,p i a)→∃ l:List α,l.length=n∧∀ i a,l[i]?=some a→p i a
 | 0,_=>⟨[],rfl,fun i a h=>by simp at h⟩
 | n+1,h=>by
  obtain ⟨l,hl,hp⟩:=list_of p n (fun i hi=>h i (by omega))
  obtain ⟨a,ha⟩:=h n (by omega)
  refine ⟨l++[a],by simp [hl],fun i b hb=>?_⟩
  rw [List.getElem?_append] at hb
  split at hb
  ·exact hp i b hb
  ·rename_i hi
   have:i=n:=by
    have:=(List.getElem?_eq_some_iff.1 hb).1
    simp at this
    omega
   subst this
   simp [hl] at hb
   subst hb
   exact ha
theorem opens_slice {α:Type} {d:Kd α} {ok:α→Prop} (ht:P.underlying t=some (.slice e)) (hc:P.cellsOf e=d.sz) (he:Opens enc P w base spare held d ok e) :
  Opens enc P w base spare held (Kd.slice e d) (fun l=>l.length≤maxLen∧∀ a∈l,ok a) t:=by
 intro fuel cs x h
 rcases DataW.trod_slice ht h with ⟨rfl,_⟩|⟨a,len,cap,elems,rest,n,_,rfl,_,hb,hl,hm,hlen,hel,_,_⟩
 ·exact ⟨[],⟨none,0,rfl,Nat.le_refl _,Kd.C_nil d w⟩,by simp,fun a ha=>by simp at ha⟩
 ·obtain ⟨l,hll,hp⟩:=list_of (fun i (b:α)=>∃ c,c.length=d.sz∧d.K w b c∧ok b∧∀ j u,c[j]?=some u→w.cell? (a.add (i*d.sz+j))=some u) len (by
   intro i hi
   have h1:=hel i hi
   rw [hc] at h1
   have h2:i<elems.length:=by omega
   rw [List.getElem?_eq_getElem h2] at h1
   obtain ⟨c,hcs,hct⟩:=Option.bind_eq_some_iff.1 h1
   obtain ⟨b,hK,hok⟩:=he _ _ _ hct
   obtain ⟨_,hcl,hcell⟩:=World.cells?_some hcs
   refine ⟨b,c,hcl,hK,hok,fun j u hj=>?_⟩
   have hjl:j<d.sz:=by rw [← hcl];exact (List.getElem?_eq_some_iff.1 hj).1
   have h3:=hcell j hjl
   rw [hj] at h3
   rw [← h3,Addr.add_add])
  refine ⟨l,⟨some a,cap,by rw [hll],by omega,?_⟩,by omega,?_⟩
  ·refine ⟨rfl,by unfold maxLen at hm;omega,fun _=>⟨a,rfl,fun j p hj=>?_⟩⟩
   obtain ⟨c,h1,h2,_,h3⟩:=hp j p hj
   exact ⟨c,h1,h2,h3⟩
  ·intro b hb
   obtain ⟨i,hi⟩:=List.getElem?_of_mem hb
   obtain ⟨_,_,_,h3,_⟩:=hp i b hi
   exact h3
theorem opened_slice {α:Type} {d:Kd α} {ok:List α→Prop} (hs:Opens enc P w base spare held (Kd.slice e d) ok t) {a:Option Addr} {len cap:Nat} {x:DataW H} {ps:List MemPlace}
  (h:DataW.Trod enc P w base spare held t (.slice a len cap) x ps):∃ l:List α,len=l.length∧d.C w a l.length l∧l.length≤cap∧ok l:=by
 obtain ⟨fuel,hf⟩:=h
 obtain ⟨l,⟨A,c,hcs,hle,hC⟩,ho⟩:=hs _ _ _ hf
 simp [Value.cells] at hcs
 obtain ⟨rfl,rfl,rfl⟩:=hcs
 exact ⟨l,rfl,hC,hle,ho⟩
end
end Go.Proofs.YtnbbfjddjmklpaaDoor.P

/- What labels and matchers that came in read as. Conditions: none. -/
namespace Go.Proofs.YtnbbfjddjmklpaaDoor.P
open Go.RowKit Go.Deep Go.ChangeShapes Go.Proofs.YtnbbfjddjmklpaaDoorW.PrintWords Go.Proofs.YtnbbfjddjmklpaaDoorW.PrintLast Go.Proofs.YtnbbfjddjmklpaaDoorW.PrintMore
variable {H:Type} {enc:TypeId×Value→H} {w:World} {base:Nat} {spare:Nat→Bool} {held:Bool}

theorem opens_label:Opens enc Tryd.prog w base spare held k46 (fun _=>True) 46:=by
 intro fuel cs x h
 obtain ⟨y0,y1,n,_,hl,h0,h1⟩:=trod_struct2 Tryd.underlying46 h
 have e0:Tryd.prog.cellsOf 9=1:=by kernel_rfl
 have e1:Tryd.prog.cellsOf 46=2:=by kernel_rfl
 dsimp only at h0 h1
 rw [e0] at h0 h1
 rw [e1] at hl
 obtain ⟨s0,q0,_,_⟩:=DataW.trod_string Tryd.underlying9 h0
 obtain ⟨s1,q1,_,_⟩:=DataW.trod_string Tryd.underlying9 h1
 match cs,hl with
 | [c0,c1],_ =>
  simp at q0 q1
  subst q0 q1
  exact ⟨⟨s0,s1⟩,k46_mk w ⟨s0,s1⟩,trivial⟩
theorem opens_words:Opens enc Tryd.prog w base spare held (Kd.slice 9 Kd.string) (fun l=>l.length≤maxLen∧∀ a∈l,a.size≤maxLen) 22 :=
 opens_slice Tryd.underlying22 (by kernel_rfl) (opens_string Tryd.underlying9)
theorem opens_matcher:Opens enc Tryd.prog w base spare held k24 (fun x=>(Lit.int .i64 x.f1).wf=true) 24:=by
 intro fuel cs x h
 obtain ⟨y0,y1,y2,n,_,hl,h0,h1,h2⟩:=trod_struct3 Tryd.underlying24 h
 have e0:Tryd.prog.cellsOf 9=1:=by kernel_rfl
 have e1:Tryd.prog.cellsOf 3=1:=by kernel_rfl
 have e2:Tryd.prog.cellsOf 22=1:=by kernel_rfl
 have e3:Tryd.prog.cellsOf 24=3:=by kernel_rfl
 dsimp only at h0 h1 h2
 rw [e0] at h0
 rw [e1] at h1
 rw [e2] at h2
 rw [e3] at hl
 obtain ⟨s0,q0,_,_⟩:=DataW.trod_string Tryd.underlying9 h0
 obtain ⟨n1,q1,_,w1⟩:=DataW.trod_int Tryd.underlying3 h1
 obtain ⟨l2,⟨A2,c2,q2,hle,hC⟩,_⟩:=opens_words _ _ _ h2
 match cs,hl with
 | [c0,c1,c3],_ =>
  simp at q0 q1 q2
  subst q0 q1 q2
  exact ⟨⟨s0,n1,l2⟩,k24_mk w ⟨s0,n1,l2⟩ hle hC,w1⟩
theorem opens_labels:Opens enc Tryd.prog w base spare held (Kd.slice 46 k46) (fun l=>l.length≤maxLen∧∀ a∈l,True) 38 :=
 opens_slice Tryd.underlying38 (by kernel_rfl) opens_label
theorem opens_matchers:Opens enc Tryd.prog w base spare held (Kd.slice 24 k24) (fun l=>l.length≤maxLen∧∀ a∈l,(Lit.int .i64 a.f1).wf=true) 39 :=
 opens_slice Tryd.underlying39 (by kernel_rfl) opens_matcher
theorem opened_matcher {r:Reach} {b0:Nat} {v:Value} {d:DataW H} {p:List MemPlace} (hv:Value.okWide Tryd.prog w r b0 24 v) (h:DataW.Trod enc Tryd.prog w base spare held 24 v d p) :
  ∃ (s:ByteArray) (n:Int) (A:Option Addr) (c:Nat) (l:List ByteArray),v=.agg #[.string s,.int .i64 n,.slice A l.length c]∧Kd.string.C w A l.length l∧l.length≤c∧(Lit.int .i64 n).wf=true:=by
 obtain ⟨c0,c1,c2,y0,y1,y2,m,rfl,_,_,hy0,hy1,hy2⟩:=Go.Joins.open_agg3 Tryd.underlying24 (by kernel_rfl) (by kernel_rfl) hv h
 obtain ⟨s0,q0,_,_⟩:=DataW.trod_string Tryd.underlying9 hy0
 obtain ⟨n1,q1,_,w1⟩:=DataW.trod_int Tryd.underlying3 hy1
 obtain ⟨l2,⟨A2,c3,q2,hle,hC⟩,_⟩:=opens_words _ _ _ hy2
 simp at q0 q1 q2
 subst q0 q1 q2
 exact ⟨s0,n1,A2,c3,l2,rfl,hC,hle,w1⟩
end Go.Proofs.YtnbbfjddjmklpaaDoor.P

/- The library's variable holds some number. Conditions: as each lemma says. -/
namespace Go.Proofs.YtnbbfjddjmklpaaDoor.P
open Go.RowKit Go.Proofs.YtnbbfjddjmklpaaDoorW.PrintWords Go.Proofs.YtnbbfjddjmklpaaDoorW.PrintLast Go.Proofs.YtnbbfjddjmklpaaDoorW.PrintMore

def KeysIn (w:World):Prop:=∃ m,w.cell? ⟨0,0,none⟩=some (.int .i64 m)
theorem KeysIn.of_shaped {w:World} (h:w.ShapedOpen Tryd.prog):KeysIn w :=
 cell_of_shapedOpen_int (zero:=#[.int .i64 0]) (t:=3) h (of_decide_eq_true (by kernel_rfl)) (by kernel_rfl) rfl (by kernel_rfl) (by kernel_rfl) Tryd.underlying3
theorem keys_step {w w':World} (h:KeysIn w) (hb:Below w.heap.size w w'):KeysIn w':=by
 obtain ⟨m,hm⟩:=h
 exact ⟨m,(hb.cell (World.block_lt_of_cell? w _ hm)).trans hm⟩
end Go.Proofs.YtnbbfjddjmklpaaDoor.P

/- What one function of the program computes, as a Lean function, and a proof that its call comes to just that. Conditions: none. Written by wip/ownprint.py. -/
namespace Go.Proofs.YtnbbfjddjmklpaaDoor.P
open Go.RowKit Go.Proofs.YtnbbfjddjmklpaaDoorW.PrintWords Go.Proofs.YtnbbfjddjmklpaaDoorW.PrintLast Go.Proofs.YtnbbfjddjmklpaaDoorW.PrintMore
attribute [local go_sem] max2_int min2_int max_two min_two max_three min_three max_four min_four   -- for this text's walks alone
set_option linter.unusedVariables false
set_option linter.unusedSimpArgs false

def transhipmentlaw04_cut.l0:Nat→List ByteArray→Int→Int→ByteArray→Int→List ByteArray→Option (ByteArray×Int×List ByteArray)
 | 0,_,_,_,_,_,_=>none
 | k+1,x22,x23,x24,x104000,x104001,x104002=>if x24<x23 then (if 0≤x24 then (if x24<(x22.length:Int) then (if 0≤(mn ((rdOf ByteArray.empty x22 x24).size:Int) 70) then (if (mn ((rdOf ByteArray.empty x22 x24).size:Int) 70)≤((rdOf ByteArray.empty x22 x24).size:Int) then (if x104002.length<8796093022208 then (transhipmentlaw04_cut.l0 k x22 x23 (wrap64 (x24+1)) x104000 x104001 (x104002++[(rdOf ByteArray.empty x22 x24).extract 0 ((mn ((rdOf ByteArray.empty x22 x24).size:Int) 70):Int).toNat])) else (none)) else (none)) else (none)) else (none)) else (none)) else (some (x104000,x104001,x104002))
def transhipmentlaw04_cut.f (k:Nat) (a0_0:ByteArray) (a0_1:Int) (l0_2:List ByteArray):Option (ByteArray×Int×List ByteArray):=if 0≤(mn (a0_0.size:Int) 70) then (if (mn (a0_0.size:Int) 70)≤(a0_0.size:Int) then (if 0≤(mn (l0_2.length:Int) 10) then (if (mn (l0_2.length:Int) 10)≤(l0_2.length:Int) then ((some (l0_2.take ((mn (l0_2.length:Int) 10):Int).toNat:List ByteArray)).bind fun y104=>(transhipmentlaw04_cut.l0 k y104 (y104.length:Int) 0 (a0_0.extract 0 ((mn (a0_0.size:Int) 70):Int).toNat) a0_1 ([]:List ByteArray))) else (none)) else (none)) else (none)) else (none)
def transhipmentlaw04_cut.T1:Bool×List (List Nat×List Nat):=(true,[([],[]),([0],[0]),([],[]),([2],[2]),([3],[3]),([4],[4]),([1,5],[1,5]),([],[]),([7],[7]),([6,8],[6,8]),([],[]),([10,9,0,1,2,3,4,5,6,7,8,9,10],[9,10])])
def transhipmentlaw04_cut.B1:List Nat:=[0,1,0,4,12,28,63,0,128,511,0,2047]
theorem transhipmentlaw04_cut.tab1:rtab .any (opsOf Tryd.f9 1)=transhipmentlaw04_cut.T1:=by kernel_rfl
theorem transhipmentlaw04_cut.bits1:waitsOk transhipmentlaw04_cut.T1.2 transhipmentlaw04_cut.B1=true:=by kernel_rfl
def transhipmentlaw04_cut.T5:Bool×List (List Nat×List Nat):=(true,[([],[]),([0],[0]),([],[]),([],[]),([3],[3]),([4],[4]),([2,5],[2,5]),([6],[6]),([1,7],[1,7]),([0,1,2,3,4,5,6,7,8],[]),([9,8,8,0,1,2,3,4,5,6,7,8],[8,9])])
def transhipmentlaw04_cut.B5:List Nat:=[0,1,0,0,8,24,60,124,255,511,1023]
theorem transhipmentlaw04_cut.tab5:rtab .any (opsOf Tryd.f9 5)=transhipmentlaw04_cut.T5:=by kernel_rfl
theorem transhipmentlaw04_cut.bits5:waitsOk transhipmentlaw04_cut.T5.2 transhipmentlaw04_cut.B5=true:=by kernel_rfl
set_option maxHeartbeats 8000000 in
set_option maxRecDepth 100000 in
theorem transhipmentlaw04_cut.calls (k:Nat) (a0_0:ByteArray) (a0_1:Int) (A0_2:Option Addr) (c0_2:Nat) (l0_2:List ByteArray) (r1:ByteArray) (r2:Int) (r3:List ByteArray) (w:World) (hr0_2:Kd.C Kd.string w A0_2 l0_2.length l0_2) (hc0_2:l0_2.length≤c0_2) (h:transhipmentlaw04_cut.f k a0_0 a0_1 l0_2=some (r1,r2,r3)) :
  Calls Tryd.prog 9 #[.agg #[.string a0_0,.int .i64 a0_1,.slice A0_2 l0_2.length c0_2]] w fun e w'=>∃ v2_:Value,e=.returned (.agg #[.string r1,.int .i64 r2,v2_])∧Kd.R Kd.string 9 w' w.heap.size (fun _=>True) v2_ r3∧Below w.heap.size w w':=by
 have hu24:=Tryd.underlying24
 have HR0_2:=Aside0.mk hr0_2
 have HC0_2:=Aside0.mk hc0_2
 clear hr0_2 hc0_2
 have HB:=Aside0.mk (Below.refl w.heap.size w)
 have H:(if 0≤(mn (a0_0.size:Int) 70) then (if (mn (a0_0.size:Int) 70)≤(a0_0.size:Int) then (if 0≤(mn (l0_2.length:Int) 10) then (if (mn (l0_2.length:Int) 10)≤(l0_2.length:Int) then ((some (l0_2.take ((mn (l0_2.length:Int) 10):Int).toNat:List ByteArray)).bind fun y104=>(transhipmentlaw04_cut.l0 k y104 (y104.length:Int) 0 (a0_0.extract 0 ((mn (a0_0.size:Int) 70):Int).toNat) a0_1 ([]:List ByteArray))) else (none)) else (none)) else (none)) else (none))=some (r1,r2,r3):=h
 clear h
 obtain ⟨ji2,hji2⟩:∃ j_:Int,(mn (a0_0.size:Int) 70)=j_:=⟨_,rfl⟩
 replace H:(if 0≤(ji2) then (if (ji2)≤(a0_0.size:Int) then (if 0≤(mn (l0_2.length:Int) 10) then (if (mn (l0_2.length:Int) 10)≤(l0_2.length:Int) then ((some (l0_2.take ((mn (l0_2.length:Int) 10):Int).toNat:List ByteArray)).bind fun y104=>(transhipmentlaw04_cut.l0 k y104 (y104.length:Int) 0 (a0_0.extract 0 ((ji2):Int).toNat) a0_1 ([]:List ByteArray))) else (none)) else (none)) else (none)) else (none))=some (r1,r2,r3):=by first|(rw [hji2] at H;exact H)|(simp only [hji2] at H ⊢;exact H)
 (try (have hji2h:ji2≤70:=by (rw [← hji2];unfold mn;(repeat' split)<;>omega)))
 (try (have hji2g:ji2≤64:=by omega))
 (try (have hji2l:0≤ji2:=by (rw [← hji2];unfold mn;(repeat' split)<;>omega)))
 (try (have hji2m:0≤ji2:=by omega))
 have hji2_:(if 70<(a0_0.size:Int) then 70 else (a0_0.size:Int))=ji2:=hji2
 by_cases c3:0≤(ji2)
 ·rw [if_pos c3] at H
  have c3b0:=eq_true c3
  have c3b1:decide (0≤(ji2))=true:=decide_eq_true c3
  clear c3
  by_cases c4:(ji2)≤(a0_0.size:Int)
  ·rw [if_pos c4] at H
   have c4b0:=eq_true c4
   have c4b1:decide ((ji2)≤(a0_0.size:Int))=true:=decide_eq_true c4
   clear c4
   obtain ⟨ji5,hji5⟩:∃ j_:Int,(mn (l0_2.length:Int) 10)=j_:=⟨_,rfl⟩
   replace H:(if 0≤(ji5) then (if (ji5)≤(l0_2.length:Int) then ((some (l0_2.take ((ji5):Int).toNat:List ByteArray)).bind fun y104=>(transhipmentlaw04_cut.l0 k y104 (y104.length:Int) 0 (a0_0.extract 0 ((ji2):Int).toNat) a0_1 ([]:List ByteArray))) else (none)) else (none))=some (r1,r2,r3):=by first|(rw [hji5] at H;exact H)|(simp only [hji5] at H ⊢;exact H)
   (try (have hji5h:ji5≤10:=by (rw [← hji5];unfold mn;(repeat' split)<;>omega)))
   (try (have hji5g:ji5≤64:=by omega))
   (try (have hji5l:0≤ji5:=by (rw [← hji5];unfold mn;(repeat' split)<;>omega)))
   (try (have hji5m:0≤ji5:=by omega))
   have hji5_:(if 10<(l0_2.length:Int) then 10 else (l0_2.length:Int))=ji5:=hji5
   by_cases c6:0≤(ji5)
   ·rw [if_pos c6] at H
    have c6b0:=eq_true c6
    have c6b1:decide (0≤(ji5))=true:=decide_eq_true c6
    clear c6
    by_cases c7:(ji5)≤(l0_2.length:Int)
    ·rw [if_pos c7] at H
     have c7b0:=eq_true c7
     have c7b1:decide ((ji5)≤(l0_2.length:Int))=true:=decide_eq_true c7
     clear c7
     obtain ⟨y104,hy104⟩:∃ y_:List ByteArray,y_=(l0_2.take ((ji5):Int).toNat):=⟨_,rfl⟩
     replace H:(transhipmentlaw04_cut.l0 k y104 (y104.length:Int) 0 (a0_0.extract 0 ((ji2):Int).toNat) a0_1 ([]:List ByteArray))=some (r1,r2,r3):=by first|(rw [hy104];with_reducible exact H)|(have H2_:=(Option.bind_some _ _).symm.trans H;rw [hy104];with_reducible exact H2_)|(have H2_:=(Option.bind_some _ _).symm.trans H;with_reducible exact H2_)|with_reducible exact H|(rw [hy104];exact H)|exact H
     have Ny104:=Aside0.mk hy104
     clear hy104
     have H':=Aside0.mk H
     clear H
     go_enter Tryd.func9,Tryd.ntmps9
     try go_wp2_with (first|((with_reducible refine gate_dst (N:=1) rfl ?_);refine box_event ?hg (N:=1) ?hd (cs:=#[.string a0_0,.int .i64 a0_1,.slice A0_2 l0_2.length c0_2]) (t:=24) ?hr ?_;(case hd=>rfl);(case hg=>rfl);(case hr=>first|(go_simp;done)|(go_simp;rfl)|(go_simp;simp [IntKind.wrap_u32]));intro gb101 hg w8 hbox hb;have n0_:=Aside0.mk (below_step (by repeat (first|(with_reducible first|exact HB.out|apply below_alloc|apply pw_below_drewN|apply below_drew1)|exact HB.out)) hb);have n1_:=Aside0.mk (hbox);have n2_:=Aside0.mk ((by rw [hg];exact (below_size (by repeat (first|(with_reducible first|exact HB.out|apply below_alloc|apply pw_below_drewN|apply below_drew1)|exact HB.out))):w.heap.size≤gb101));have n3_:=Aside0.mk ((by rw [hg];exact (below_size (by repeat (first|(with_reducible first|exact HB.out|apply below_alloc|apply pw_below_drewN|apply below_drew1)|exact HB.out))):w.heap.size≤gb101));clear HB;have HB:=n0_;have BK101:=n1_;have GW101:=n2_;have GE101:=n3_;clear n0_ n1_ n2_ n3_;clear hb hbox hg)|((with_reducible refine gate_dst (N:=2) rfl ?_);refine box_event ?hg (N:=2) ?hd (cs:=#[.string (⟨#[]⟩:ByteArray),.int .i64 0,.slice none 0 0]) (t:=24) ?hr ?_;(case hd=>rfl);(case hg=>rfl);(case hr=>first|(go_simp;done)|(go_simp;rfl)|(go_simp;simp [IntKind.wrap_u32]));intro gb102 hg w9 hbox hb;have n0_:=Aside0.mk (blk_below (g:=gb101) (o:=.cells #[.string a0_0,.int .i64 a0_1,.slice A0_2 l0_2.length c0_2] 24 (0,0)) (by (with_reducible repeat (first|refine blk_drewN ?_ _|refine blk_drew ?_|refine blk_alloc ?_ _));exact BK101.out) hb);have n1_:=Aside0.mk (below_step (by repeat (first|(with_reducible first|exact HB.out|apply below_alloc|apply pw_below_drewN|apply below_drew1|refine below_set ?_ GE101.out)|exact HB.out)) hb);have n2_:=Aside0.mk (hbox);have n3_:=Aside0.mk ((by rw [hg];exact (below_size (by repeat (first|(with_reducible first|exact HB.out|apply below_alloc|apply pw_below_drewN|apply below_drew1|refine below_set ?_ GE101.out)|exact HB.out))):w.heap.size≤gb102));have n4_:=Aside0.mk ((by rw [hg];exact (below_size (by repeat (first|(with_reducible first|exact HB.out|apply below_alloc|apply pw_below_drewN|apply below_drew1|refine below_set ?_ GE101.out)|exact HB.out))):w.heap.size≤gb102));have n5_:=Aside0.mk ((by rw [hg];exact Nat.ne_of_lt (blk_lt (g:=gb101) (o:=.cells #[.string a0_0,.int .i64 a0_1,.slice A0_2 l0_2.length c0_2] 24 (0,0)) (by (with_reducible repeat (first|refine blk_drewN ?_ _|refine blk_drew ?_|refine blk_alloc ?_ _));exact BK101.out)):gb101≠gb102));have n6_:=Aside0.mk ((by rw [hg];exact Nat.ne_of_gt (blk_lt (g:=gb101) (o:=.cells #[.string a0_0,.int .i64 a0_1,.slice A0_2 l0_2.length c0_2] 24 (0,0)) (by (with_reducible repeat (first|refine blk_drewN ?_ _|refine blk_drew ?_|refine blk_alloc ?_ _));exact BK101.out)):gb102≠gb101));clear BK101;clear HB;have BK101:=n0_;have HB:=n1_;have BK102:=n2_;have GW102:=n3_;have GE102:=n4_;have NB101_102:=n5_;have NB102_101:=n6_;clear n0_ n1_ n2_ n3_ n4_ n5_ n6_;clear hb hbox hg))
     have n0_:=Aside0.mk (blk_drew BK101.out)
     have n1_:=Aside0.mk (blk_drew BK102.out)
     have n2_:=Aside0.mk (below_drew1 HB.out)
     clear BK101
     clear BK102
     clear HB
     have BK101:=n0_
     have BK102:=n1_
     have HB:=n2_
     clear n0_ n1_ n2_
     refine start_ (n:=12) (S:=fun w'=>w'.cell? ⟨gb101,0,none⟩=some (.string a0_0)∧w'.cell? ⟨gb101,1,none⟩=some (.int .i64 a0_1)∧w'.cell? ⟨gb101,2,none⟩=some (.slice A0_2 l0_2.length c0_2)) (ds:=[]) #[false,false,false,false,false,false,false,false,false,false,false,false] (by kernel_rfl) rfl rfl ⟨(blk_cell BK101.out 0).trans rfl,(blk_cell BK101.out 1).trans rfl,(blk_cell BK101.out 2).trans rfl⟩ (fun hHeld=>?_);refine with_tabW transhipmentlaw04_cut.tab1 transhipmentlaw04_cut.bits1 (fun HT_ HW_=>?_)
     generalize w9.drew=w10 at BK101 BK102 HB hHeld ⊢
     refine pure_ (i:=0) (N:=some 6) (v:=?_) (a':=?_) #[true,false,false,false,false,false,false,false,false,false,false,false] rfl rfl (any_of HT_.out (by kernel_rfl)) (fun _ _ _ h=>h) (Or.inl ⟨by rfl,?_⟩) ?_ ?_
     rotate_left
     ·intro w'
      go_simp
      with_reducible rfl
     rotate_left
     ·simp only [Act.put,List.setIfInBounds_toArray,List.set_cons_zero,List.set_cons_succ,i64_w,i32_w]
      rfl
     refine pure_ (i:=2) (N:=some 8) (v:=?_) (a':=?_) #[true,false,true,false,false,false,false,false,false,false,false,false] rfl rfl (any_of HT_.out (by kernel_rfl)) (fun _ _ _ h=>h) (Or.inl ⟨by rfl,?_⟩) ?_ ?_
     rotate_left
     ·intro w'
      go_simp
      with_reducible rfl
     rotate_left
     ·simp only [Act.put,List.setIfInBounds_toArray,List.set_cons_zero,List.set_cons_succ,i64_w,i32_w]
      rfl
     refine pure_ (i:=7) (N:=some 13) (v:=?_) (a':=?_) #[true,false,true,false,false,false,false,true,false,false,false,false] rfl rfl (any_of HT_.out (by kernel_rfl)) (fun _ _ _ h=>h) (Or.inl ⟨by rfl,?_⟩) ?_ ?_
     rotate_left
     ·intro w'
      go_simp
      with_reducible rfl
     rotate_left
     ·simp only [Act.put,List.setIfInBounds_toArray,List.set_cons_zero,List.set_cons_succ,i64_w,i32_w]
      rfl
     refine take_ (i:=1) (N:=some 7) (v:=?_) (a':=?_) #[true,true,true,false,false,false,false,true,false,false,false,false] rfl rfl (take_ofW HT_.out HW_.out (by kernel_rfl)) (fun _ _ _ h=>h) (Or.inl ⟨by rfl,?_⟩) hHeld ?_ ?_
     rotate_left
     ·rintro w' ⟨s0,s1,s2⟩
      go_simp
      with_reducible rfl
     rotate_left
     ·simp only [Act.put,List.setIfInBounds_toArray,List.set_cons_zero,List.set_cons_succ,i64_w,i32_w]
      rfl
     refine take_ (i:=3) (N:=some 9) (v:=?_) (a':=?_) #[true,true,true,true,false,false,false,true,false,false,false,false] rfl rfl (take_ofW HT_.out HW_.out (by kernel_rfl)) (fun _ _ _ h=>h) (Or.inl ⟨by rfl,?_⟩) hHeld ?_ ?_
     rotate_left
     ·rintro w' ⟨s0,s1,s2⟩
      go_simp
      with_reducible rfl
     rotate_left
     ·simp only [Act.put,List.setIfInBounds_toArray,List.set_cons_zero,List.set_cons_succ,i64_w,i32_w]
      rfl
     refine pure_ (i:=4) (N:=some 10) (v:=?_) (a':=?_) #[true,true,true,true,true,false,false,true,false,false,false,false] rfl rfl (any_of HT_.out (by kernel_rfl)) (fun _ _ _ h=>h) (Or.inl ⟨by rfl,?_⟩) ?_ ?_
     rotate_left
     ·intro w'
      go_simp
      with_reducible rfl
     rotate_left
     ·simp only [Act.put,List.setIfInBounds_toArray,List.set_cons_zero,List.set_cons_succ,i64_w,i32_w]
      rfl
     refine pure_ (i:=5) (N:=some 11) (v:=?_) (a':=?_) #[true,true,true,true,true,true,false,true,false,false,false,false] rfl rfl (any_of HT_.out (by kernel_rfl)) (fun _ _ _ h=>h) (Or.inl ⟨by rfl,?_⟩) ?_ ?_
     rotate_left
     ·intro w'
      go_simp
      with_reducible rfl
     rotate_left
     ·simp only [Act.put,List.setIfInBounds_toArray,List.set_cons_zero,List.set_cons_succ,i64_w,i32_w]
      rfl
     refine pure_ (i:=6) (N:=some 12) (v:=?_) (a':=?_) #[true,true,true,true,true,true,true,true,false,false,false,false] rfl rfl (any_of HT_.out (by kernel_rfl)) (fun _ _ _ h=>h) (Or.inl ⟨by rfl,?_⟩) ?_ ?_
     rotate_left
     ·intro w'
      go_simp
      with_reducible rfl
     rotate_left
     ·simp only [Act.put,List.setIfInBounds_toArray,List.set_cons_zero,List.set_cons_succ,i64_w,i32_w]
      rfl
     refine take_ (i:=8) (N:=some 14) (v:=?_) (a':=?_) #[true,true,true,true,true,true,true,true,true,false,false,false] rfl rfl (take_ofW HT_.out HW_.out (by kernel_rfl)) (fun _ _ _ h=>h) (Or.inl ⟨by rfl,?_⟩) hHeld ?_ ?_
     rotate_left
     ·rintro w' ⟨s0,s1,s2⟩
      go_simp
      with_reducible rfl
     rotate_left
     ·simp only [Act.put,List.setIfInBounds_toArray,List.set_cons_zero,List.set_cons_succ,i64_w,i32_w]
      rfl
     refine pure_ (i:=9) (N:=some 15) (v:=?_) (a':=?_) #[true,true,true,true,true,true,true,true,true,true,false,false] rfl rfl (any_of HT_.out (by kernel_rfl)) (fun _ _ _ h=>h) (Or.inl ⟨by rfl,?_⟩) ?_ ?_
     rotate_left
     ·intro w'
      go_simp
      with_reducible rfl
     rotate_left
     ·simp only [Act.put,List.setIfInBounds_toArray,List.set_cons_zero,List.set_cons_succ,i64_w,i32_w]
      rfl
     refine one_ (i:=10) (N:=some 3) #[true,true,true,true,true,true,true,true,true,true,true,false] rfl rfl (one_of HT_.out (by kernel_rfl)) (by decide) (fun K hK=>?_)
     refine box_step ?hg (N:=3) ?hd (cs:=#[.string (⟨#[]⟩:ByteArray),.int .i64 0,.slice none 0 0]) (t:=24) ?hr ?_;(case hd=>rfl);(case hg=>rfl);(case hr=>first|(go_simp;done)|(go_simp;rfl)|(go_simp;simp [IntKind.wrap_u32]))
     intro gb103 hg w11 hbox hb
     have n0_:=Aside0.mk (blk_below (g:=gb101) (o:=.cells #[.string a0_0,.int .i64 a0_1,.slice A0_2 l0_2.length c0_2] 24 (0,0)) (by (with_reducible repeat (first|refine blk_drewN ?_ _|refine blk_drew ?_|refine blk_alloc ?_ _));exact BK101.out) hb)
     have n1_:=Aside0.mk (blk_below (g:=gb102) (o:=.cells #[.string (⟨#[]⟩:ByteArray),.int .i64 0,.slice none 0 0] 24 (0,0)) (by (with_reducible repeat (first|refine blk_drewN ?_ _|refine blk_drew ?_|refine blk_alloc ?_ _));exact BK102.out) hb)
     have n2_:=Aside0.mk (below_step (by repeat (first|(with_reducible first|exact HB.out|apply below_alloc|apply pw_below_drewN|apply below_drew1|refine below_set ?_ GE101.out|refine below_set ?_ GE102.out)|exact HB.out)) hb)
     have n3_:=Aside0.mk (hbox)
     have n4_:=Aside0.mk ((by rw [hg];exact (below_size (by repeat (first|(with_reducible first|exact HB.out|apply below_alloc|apply pw_below_drewN|apply below_drew1|refine below_set ?_ GE101.out|refine below_set ?_ GE102.out)|exact HB.out))):w.heap.size≤gb103))
     have n5_:=Aside0.mk ((by rw [hg];exact (below_size (by repeat (first|(with_reducible first|exact HB.out|apply below_alloc|apply pw_below_drewN|apply below_drew1|refine below_set ?_ GE101.out|refine below_set ?_ GE102.out)|exact HB.out))):w.heap.size≤gb103))
     have n6_:=Aside0.mk ((by rw [hg];exact Nat.ne_of_lt (blk_lt (g:=gb101) (o:=.cells #[.string a0_0,.int .i64 a0_1,.slice A0_2 l0_2.length c0_2] 24 (0,0)) (by (with_reducible repeat (first|refine blk_drewN ?_ _|refine blk_drew ?_|refine blk_alloc ?_ _));exact BK101.out)):gb101≠gb103))
     have n7_:=Aside0.mk ((by rw [hg];exact Nat.ne_of_gt (blk_lt (g:=gb101) (o:=.cells #[.string a0_0,.int .i64 a0_1,.slice A0_2 l0_2.length c0_2] 24 (0,0)) (by (with_reducible repeat (first|refine blk_drewN ?_ _|refine blk_drew ?_|refine blk_alloc ?_ _));exact BK101.out)):gb103≠gb101))
     have n8_:=Aside0.mk ((by rw [hg];exact Nat.ne_of_lt (blk_lt (g:=gb102) (o:=.cells #[.string (⟨#[]⟩:ByteArray),.int .i64 0,.slice none 0 0] 24 (0,0)) (by (with_reducible repeat (first|refine blk_drewN ?_ _|refine blk_drew ?_|refine blk_alloc ?_ _));exact BK102.out)):gb102≠gb103))
     have n9_:=Aside0.mk ((by rw [hg];exact Nat.ne_of_gt (blk_lt (g:=gb102) (o:=.cells #[.string (⟨#[]⟩:ByteArray),.int .i64 0,.slice none 0 0] 24 (0,0)) (by (with_reducible repeat (first|refine blk_drewN ?_ _|refine blk_drew ?_|refine blk_alloc ?_ _));exact BK102.out)):gb103≠gb102))
     clear BK101
     clear BK102
     clear HB
     have BK101:=n0_
     have BK102:=n1_
     have HB:=n2_
     have BK103:=n3_
     have GW103:=n4_
     have GE103:=n5_
     have NB101_103:=n6_
     have NB103_101:=n7_
     have NB102_103:=n8_
     have NB103_102:=n9_
     clear n0_ n1_ n2_ n3_ n4_ n5_ n6_ n7_ n8_ n9_
     clear hb hbox hg
     refine hK.out _ _ ⟨(blk_cell BK101.out 0).trans rfl,(blk_cell BK101.out 1).trans rfl,(blk_cell BK101.out 2).trans rfl⟩ (fun hHeld=>?_)
     clear hK K
     refine norm_ (a':=?_) ?_ ?_
     rotate_left
     ·show Act.put _ (some 3) _=_
      simp only [Act.put,List.setIfInBounds_toArray,List.set_cons_zero,List.set_cons_succ,i64_w,i32_w]
      rfl
     refine one_ (i:=11) (N:=none) #[true,true,true,true,true,true,true,true,true,true,true,true] rfl rfl (one_of HT_.out (by kernel_rfl)) (by decide) (fun K hK=>?_)
     have hs12:w11.cell? ⟨gb103,0,none⟩=some (.string (⟨#[]⟩:ByteArray)):=(blk_cell BK103.out 0).trans rfl
     have hfs12:=blk_frozen BK103.out 0
     have hns12_0:=NB101_103.out
     have hns12_1:=NB102_103.out
     have hms12_0:=NB103_101.out
     have hms12_1:=NB103_102.out
     have hs13:w11.cell? ⟨gb103,1,none⟩=some (.int .i64 0):=(blk_cell BK103.out 1).trans rfl
     have hfs13:=blk_frozen BK103.out 1
     have hns13_0:=NB101_103.out
     have hns13_1:=NB102_103.out
     have hms13_0:=NB103_101.out
     have hms13_1:=NB103_102.out
     have hs14:w11.cell? ⟨gb103,2,none⟩=some (.slice none 0 0):=(blk_cell BK103.out 2).trans rfl
     have hfs14:=blk_frozen BK103.out 2
     have hns14_0:=NB101_103.out
     have hns14_1:=NB102_103.out
     have hms14_0:=NB103_101.out
     have hms14_1:=NB103_102.out
     refine skip_ (w1:=?_) (by rfl) rfl ?_ ?_
     rotate_left
     ·go_simp
      rfl
     refine hK.out _ _ ⟨((cell_far (p:=⟨gb103,_,none⟩) NB101_103.out _).trans (((cell_far (p:=⟨gb103,_,none⟩) NB101_103.out _).trans (((cell_far (p:=⟨gb103,_,none⟩) NB101_103.out _).trans (hHeld.1)))))),((cell_far (p:=⟨gb103,_,none⟩) NB101_103.out _).trans (((cell_far (p:=⟨gb103,_,none⟩) NB101_103.out _).trans (((cell_far (p:=⟨gb103,_,none⟩) NB101_103.out _).trans (hHeld.2.1)))))),((cell_far (p:=⟨gb103,_,none⟩) NB101_103.out _).trans (((cell_far (p:=⟨gb103,_,none⟩) NB101_103.out _).trans (((cell_far (p:=⟨gb103,_,none⟩) NB101_103.out _).trans (hHeld.2.2))))))⟩ (fun hHeld=>?_)
     clear hK K
     refine done_ (done_of HT_.out (by kernel_rfl)) ?_
     have n0_:Aside0 ((((w11.setCell ⟨gb103,0,none⟩ (.string (a0_0.extract 0 ((ji2):Int).toNat))).setCell ⟨gb103,1,none⟩ (.int .i64 a0_1)).setCell ⟨gb103,2,none⟩ (.slice none 0 0)).heap[gb101]?=some (.cells #[.string a0_0,.int .i64 a0_1,.slice A0_2 l0_2.length c0_2] 24 (0,0))):=⟨by (with_reducible repeat (first|refine blk_drewN ?_ _|refine blk_drew ?_|refine blk_alloc ?_ _));refine blk_far ?_ NB101_103.out _;(with_reducible repeat (first|refine blk_drewN ?_ _|refine blk_drew ?_|refine blk_alloc ?_ _));refine blk_far ?_ NB101_103.out _;(with_reducible repeat (first|refine blk_drewN ?_ _|refine blk_drew ?_|refine blk_alloc ?_ _));refine blk_far ?_ NB101_103.out _;(with_reducible repeat (first|refine blk_drewN ?_ _|refine blk_drew ?_|refine blk_alloc ?_ _));exact BK101.out⟩
     have n1_:Aside0 ((((w11.setCell ⟨gb103,0,none⟩ (.string (a0_0.extract 0 ((ji2):Int).toNat))).setCell ⟨gb103,1,none⟩ (.int .i64 a0_1)).setCell ⟨gb103,2,none⟩ (.slice none 0 0)).heap[gb102]?=some (.cells #[.string (⟨#[]⟩:ByteArray),.int .i64 0,.slice none 0 0] 24 (0,0))):=⟨by (with_reducible repeat (first|refine blk_drewN ?_ _|refine blk_drew ?_|refine blk_alloc ?_ _));refine blk_far ?_ NB102_103.out _;(with_reducible repeat (first|refine blk_drewN ?_ _|refine blk_drew ?_|refine blk_alloc ?_ _));refine blk_far ?_ NB102_103.out _;(with_reducible repeat (first|refine blk_drewN ?_ _|refine blk_drew ?_|refine blk_alloc ?_ _));refine blk_far ?_ NB102_103.out _;(with_reducible repeat (first|refine blk_drewN ?_ _|refine blk_drew ?_|refine blk_alloc ?_ _));exact BK102.out⟩
     have n2_:Aside0 ((((w11.setCell ⟨gb103,0,none⟩ (.string (a0_0.extract 0 ((ji2):Int).toNat))).setCell ⟨gb103,1,none⟩ (.int .i64 a0_1)).setCell ⟨gb103,2,none⟩ (.slice none 0 0)).heap[gb103]?=some (.cells #[.string (a0_0.extract 0 ((ji2):Int).toNat),.int .i64 a0_1,.slice none 0 0] 24 (0,0))):=⟨by (with_reducible repeat (first|refine blk_drewN ?_ _|refine blk_drew ?_|refine blk_alloc ?_ _));refine blk_put (cs:=#[.string (a0_0.extract 0 ((ji2):Int).toNat),.int .i64 a0_1,.slice none 0 0]) ?_ 2 _ rfl;(with_reducible repeat (first|refine blk_drewN ?_ _|refine blk_drew ?_|refine blk_alloc ?_ _));refine blk_put (cs:=#[.string (a0_0.extract 0 ((ji2):Int).toNat),.int .i64 0,.slice none 0 0]) ?_ 1 _ rfl;(with_reducible repeat (first|refine blk_drewN ?_ _|refine blk_drew ?_|refine blk_alloc ?_ _));refine blk_put (cs:=#[.string (⟨#[]⟩:ByteArray),.int .i64 0,.slice none 0 0]) ?_ 0 _ rfl;(with_reducible repeat (first|refine blk_drewN ?_ _|refine blk_drew ?_|refine blk_alloc ?_ _));exact BK103.out⟩
     have n3_:Aside0 (Below w.heap.size w (((w11.setCell ⟨gb103,0,none⟩ (.string (a0_0.extract 0 ((ji2):Int).toNat))).setCell ⟨gb103,1,none⟩ (.int .i64 a0_1)).setCell ⟨gb103,2,none⟩ (.slice none 0 0))):=⟨by repeat (first|(with_reducible first|exact HB.out|apply below_alloc|apply pw_below_drewN|apply below_drew1|refine below_set ?_ GE101.out|refine below_set ?_ GE102.out|refine below_set ?_ GE103.out)|exact HB.out)⟩
     (try clear BK101)
     (try clear BK102)
     (try clear BK103)
     (try clear HB)
     generalize (((w11.setCell ⟨gb103,0,none⟩ (.string (a0_0.extract 0 ((ji2):Int).toNat))).setCell ⟨gb103,1,none⟩ (.int .i64 a0_1)).setCell ⟨gb103,2,none⟩ (.slice none 0 0))=w15 at n0_ n1_ n2_ n3_ ⊢
     have BK101:=n0_
     have BK102:=n1_
     have BK103:=n2_
     have HB:=n3_
     clear n0_ n1_ n2_ n3_
     have hnb16:=NB101_102.out
     have hnc16:=NB102_101.out
     have hnb17:=NB101_103.out
     have hnc17:=NB103_101.out
     have hcz18_0:w15.cell? ⟨gb101,0,none⟩=some (.string a0_0):=(blk_cell BK101.out 0).trans rfl
     have hcz18_1:w15.cell? ⟨gb101,1,none⟩=some (.int .i64 a0_1):=(blk_cell BK101.out 1).trans rfl
     have hcz18_2:w15.cell? ⟨gb101,2,none⟩=some (.slice A0_2 l0_2.length c0_2):=(blk_cell BK101.out 2).trans rfl
     have hfz18_0:=blk_frozen BK101.out 0
     have hfz18_1:=blk_frozen BK101.out 1
     have hfz18_2:=blk_frozen BK101.out 2
     have q19:((ji5):Int)≤((l0_2.length:Int):Int):=of_decide_eq_true (by first|(with_reducible assumption)|assumption)
     obtain ⟨i019,hi019,_,hsz19,_⟩:=info_parts info9
     have hroom19:l0_2.length≤c0_2:=HC0_2.out
     have hC19:Kd.C Kd.string _ A0_2 l0_2.length l0_2:=HR0_2.out
     have hcut19:=cut_to (P:=Tryd.prog) 22 9 .i64 Tryd.underlying22 hi019 A0_2 l0_2.length c0_2 (ji5) (of_decide_eq_true (by first|(with_reducible assumption)|assumption)) q19 hroom19
     have hr19:=Kd.C_take (m:=((ji5):Int).toNat) hC19 (by omega)
     have hy19:y104.length=((ji5):Int).toNat:=(by rw [Ny104.out,List.length_take];omega)
     rw [← Ny104.out] at hr19
     rw [← hy19] at hcut19
     have HR107:=Aside0.mk hr19
     have HC107:=Aside0.mk (show y104.length≤c0_2 from by omega)
     clear hr19 hC19 hroom19 hi019 hsz19
     have KY19:=Aside0.mk hy19
     clear hy19
     replace q19:=eq_true q19
     try go_wp2
     go_loopg [24] k (fun kq v24 w'=>∃ (x24_1:Int) (x104002_1:List ByteArray) (u104002:Value),v24=.int .i64 x24_1∧Aside0 (transhipmentlaw04_cut.l0 kq y104 (y104.length:Int) x24_1 (a0_0.extract 0 ((ji2):Int).toNat) a0_1 x104002_1=some (r1,r2,r3))∧Aside0 (kq≤k)∧Aside0 (Kd.R Kd.string 9 w' w.heap.size (fun _=>True) u104002 x104002_1)∧Aside0 (w'.heap[gb101]?=some (.cells #[.string a0_0,.int .i64 a0_1,(.slice A0_2 l0_2.length c0_2)] 24 (0,0)))∧Aside0 (w'.heap[gb102]?=some (.cells #[.string (⟨#[]⟩:ByteArray),.int .i64 0,(.slice none 0 0)] 24 (0,0)))∧Aside0 (w'.heap[gb103]?=some (.cells #[.string (a0_0.extract 0 ((ji2):Int).toNat),.int .i64 a0_1,u104002] 24 (0,0)))∧Aside0 (Below w.heap.size w w'))
     case atStart=>exact ⟨(0),(([]:List ByteArray)),(.slice none 0 0),(by first|rfl|(simp;done)|(simp [*];done)),H',⟨Nat.le_refl _⟩,⟨by first|exact Kd.R_nil _ _ _ _ _|exact Kd.N_nil _ _ _ _ _|exact Kd.V_nil _ _ _ _ _|exact Kd.Q_nil _ _ _ _ _|exact Kd.S_nil _ _ _ _ _⟩,⟨by (with_reducible repeat (first|refine blk_drewN ?_ _|refine blk_drew ?_|refine blk_alloc ?_ _));exact BK101.out⟩,⟨by (with_reducible repeat (first|refine blk_drewN ?_ _|refine blk_drew ?_|refine blk_alloc ?_ _));exact BK102.out⟩,⟨by (with_reducible repeat (first|refine blk_drewN ?_ _|refine blk_drew ?_|refine blk_alloc ?_ _));exact BK103.out⟩,⟨by repeat (first|(with_reducible first|exact HB.out|apply below_alloc|apply pw_below_drewN|apply below_drew1|refine below_set ?_ GE101.out|refine below_set ?_ GE102.out|refine below_set ?_ GE103.out)|exact HB.out)⟩⟩
     case round =>
      clear H'
      try clear c1
      try clear q1
      try clear p2
      try clear c3
      try clear c3b0
      try clear c3b1
      try clear c4
      try clear c4b0
      try clear c4b1
      try clear c6
      try clear c6b0
      try clear c6b1
      try clear c7
      try clear c7b0
      try clear c7b1
      try clear c9
      try clear c16
      try clear c17
      try clear q19
      try clear hcz18_0
      try clear hcz18_1
      try clear hcz18_2
      try clear hfz18_0
      try clear hfz18_1
      try clear hfz18_2
      try clear q19
      obtain ⟨x24_1,x104002_1,u104002,rfl,HA,HK1,HO_104002,BK101,BK102,BK103,HB⟩:=hrel
      cases gk with
      | zero=>exact absurd HA.out (by simp [transhipmentlaw04_cut.l0])
      | succ k1 =>
       have H:=HA.out
       clear HA
       simp only [transhipmentlaw04_cut.l0] at H
       by_cases c20:x24_1<(y104.length:Int)
       ·rw [if_pos c20] at H
        have c20b0:decide (x24_1<(y104.length:Int))=true:=decide_eq_true c20
        clear c20
        by_cases c21:0≤x24_1
        ·rw [if_pos c21] at H
         have c21b0:decide (0≤x24_1)=true:=decide_eq_true c21
         clear c21
         by_cases c22:x24_1<(y104.length:Int)
         ·rw [if_pos c22] at H
          have c22b0:decide (x24_1<(y104.length:Int))=true:=decide_eq_true c22
          clear c22
          obtain ⟨ji23,hji23⟩:∃ j_:Int,(mn ((rdOf ByteArray.empty y104 x24_1).size:Int) 70)=j_:=⟨_,rfl⟩
          replace H:(if 0≤(ji23) then (if (ji23)≤((rdOf ByteArray.empty y104 x24_1).size:Int) then (if x104002_1.length<8796093022208 then (transhipmentlaw04_cut.l0 k1 y104 (y104.length:Int) (wrap64 (x24_1+1)) (a0_0.extract 0 ((ji2):Int).toNat) a0_1 (x104002_1++[(rdOf ByteArray.empty y104 x24_1).extract 0 ((ji23):Int).toNat])) else (none)) else (none)) else (none))=some (r1,r2,r3):=by first|(rw [hji23] at H;exact H)|(simp only [hji23] at H ⊢;exact H)
          have hji23_:(if 70<((rdOf ByteArray.empty y104 x24_1).size:Int) then 70 else ((rdOf ByteArray.empty y104 x24_1).size:Int))=ji23:=hji23
          by_cases c24:0≤(ji23)
          ·rw [if_pos c24] at H
           have c24b0:=eq_true c24
           have c24b1:decide (0≤(ji23))=true:=decide_eq_true c24
           clear c24
           by_cases c25:(ji23)≤((rdOf ByteArray.empty y104 x24_1).size:Int)
           ·rw [if_pos c25] at H
            have c25b0:=eq_true c25
            have c25b1:decide ((ji23)≤((rdOf ByteArray.empty y104 x24_1).size:Int))=true:=decide_eq_true c25
            clear c25
            by_cases c26:x104002_1.length<8796093022208
            ·rw [if_pos c26] at H
             have LMc26:=Aside0.mk c26
             clear c26
             obtain ⟨y109,hy109⟩:∃ y_:List ByteArray,y_=(x104002_1++[(rdOf ByteArray.empty y104 x24_1).extract 0 ((ji23):Int).toNat]):=⟨_,rfl⟩
             replace H:(transhipmentlaw04_cut.l0 k1 y104 (y104.length:Int) (wrap64 (x24_1+1)) (a0_0.extract 0 ((ji2):Int).toNat) a0_1 y109)=some (r1,r2,r3):=by first|(rw [hy109];with_reducible exact H)|(have H2_:=(Option.bind_some _ _).symm.trans H;rw [hy109];with_reducible exact H2_)|(have H2_:=(Option.bind_some _ _).symm.trans H;with_reducible exact H2_)|with_reducible exact H|(rw [hy109];exact H)|exact H
             have Ny109:=Aside0.mk hy109
             clear hy109
             have H':=Aside0.mk H
             clear H
             have p108:0≤(x24_1:Int):=of_decide_eq_true (by first|(with_reducible assumption)|assumption)
             have q108:x24_1<(y104.length:Int):=of_decide_eq_true (by first|(with_reducible assumption)|assumption)
             obtain ⟨ad108,e108,hx108_0⟩:=Kd.at_string HR107.out x24_1 p108 q108
             cases e108
             replace hx108_0:=(HB.out.cell (World.block_lt_of_cell? w _ hx108_0)).trans hx108_0
             replace p108:=eq_true p108
             replace q108:=eq_true q108
             try go_wp2
             have n0_:=Aside0.mk (Kd.R_drew HO_104002.out)
             have n1_:=Aside0.mk (blk_drew BK101.out)
             have n2_:=Aside0.mk (blk_drew BK102.out)
             have n3_:=Aside0.mk (blk_drew BK103.out)
             have n4_:=Aside0.mk (below_drew1 HB.out)
             clear HO_104002
             clear BK101
             clear BK102
             clear BK103
             clear HB
             have HO_104002:=n0_
             have BK101:=n1_
             have BK102:=n2_
             have BK103:=n3_
             have HB:=n4_
             clear n0_ n1_ n2_ n3_ n4_
             refine start_ (n:=11) (S:=fun w'=>w'.cell? ⟨gb103,0,none⟩=some (.string (a0_0.extract 0 ((ji2):Int).toNat))∧w'.cell? ⟨gb103,1,none⟩=some (.int .i64 a0_1)∧w'.cell? ⟨gb103,2,none⟩=some (u104002)) (ds:=[10]) #[false,false,false,false,false,false,false,false,false,false,false] (by kernel_rfl) rfl rfl ⟨(blk_cell BK103.out 0).trans rfl,(blk_cell BK103.out 1).trans rfl,(blk_cell BK103.out 2).trans rfl⟩ (fun hHeld=>?_);refine with_tabW transhipmentlaw04_cut.tab5 transhipmentlaw04_cut.bits5 (fun HT_ HW_=>?_)
             generalize wr.drew=w27 at HO_104002 BK101 BK102 BK103 HB hHeld ⊢
             refine pure_ (i:=0) (N:=some 28) (v:=?_) (a':=?_) #[true,false,false,false,false,false,false,false,false,false,false] rfl rfl (any_of HT_.out (by kernel_rfl)) (fun _ _ _ h=>h) (Or.inl ⟨by rfl,?_⟩) ?_ ?_
             rotate_left
             ·intro w'
              go_simp
              with_reducible rfl
             rotate_left
             ·simp only [Act.put,List.setIfInBounds_toArray,List.set_cons_zero,List.set_cons_succ,i64_w,i32_w]
              rfl
             refine pure_ (i:=2) (N:=some 30) (v:=?_) (a':=?_) #[true,false,true,false,false,false,false,false,false,false,false] rfl rfl (any_of HT_.out (by kernel_rfl)) (fun _ _ _ h=>h) (Or.inl ⟨by rfl,?_⟩) ?_ ?_
             rotate_left
             ·intro w'
              go_simp
              with_reducible rfl
             rotate_left
             ·simp only [Act.put,List.setIfInBounds_toArray,List.set_cons_zero,List.set_cons_succ,i64_w,i32_w]
              rfl
             refine pure_ (i:=3) (N:=some 31) (v:=?_) (a':=?_) #[true,false,true,true,false,false,false,false,false,false,false] rfl rfl (any_of HT_.out (by kernel_rfl)) (fun _ _ _ h=>h) (Or.inl ⟨by rfl,?_⟩) ?_ ?_
             rotate_left
             ·intro w'
              go_simp
              with_reducible rfl
             rotate_left
             ·simp only [Act.put,List.setIfInBounds_toArray,List.set_cons_zero,List.set_cons_succ,i64_w,i32_w]
              rfl
             refine pure_ (i:=4) (N:=some 32) (v:=?_) (a':=?_) #[true,false,true,true,true,false,false,false,false,false,false] rfl rfl (any_of HT_.out (by kernel_rfl)) (fun _ _ _ h=>h) (Or.inl ⟨by rfl,?_⟩) ?_ ?_
             rotate_left
             ·intro w'
              go_simp
              with_reducible rfl
             rotate_left
             ·simp only [Act.put,List.setIfInBounds_toArray,List.set_cons_zero,List.set_cons_succ,i64_w,i32_w]
              rfl
             refine pure_ (i:=5) (N:=some 33) (v:=?_) (a':=?_) #[true,false,true,true,true,true,false,false,false,false,false] rfl rfl (any_of HT_.out (by kernel_rfl)) (fun _ _ _ h=>h) (Or.inl ⟨by rfl,?_⟩) ?_ ?_
             rotate_left
             ·intro w'
              go_simp
              with_reducible rfl
             rotate_left
             ·simp only [Act.put,List.setIfInBounds_toArray,List.set_cons_zero,List.set_cons_succ,i64_w,i32_w]
              rfl
             refine pure_ (i:=6) (N:=some 34) (v:=?_) (a':=?_) #[true,false,true,true,true,true,true,false,false,false,false] rfl rfl (any_of HT_.out (by kernel_rfl)) (fun _ _ _ h=>h) (Or.inl ⟨by rfl,?_⟩) ?_ ?_
             rotate_left
             ·intro w'
              go_simp
              with_reducible rfl
             rotate_left
             ·simp only [Act.put,List.setIfInBounds_toArray,List.set_cons_zero,List.set_cons_succ,i64_w,i32_w]
              rfl
             refine take_ (i:=1) (N:=some 29) (v:=?_) (a':=?_) #[true,true,true,true,true,true,true,false,false,false,false] rfl rfl (take_ofW HT_.out HW_.out (by kernel_rfl)) (fun _ _ _ h=>h) (Or.inl ⟨by rfl,?_⟩) hHeld ?_ ?_
             rotate_left
             ·rintro w' ⟨s0,s1,s2⟩
              go_simp
              with_reducible rfl
             rotate_left
             ·simp only [Act.put,List.setIfInBounds_toArray,List.set_cons_zero,List.set_cons_succ,i64_w,i32_w]
              rfl
             refine one_ (i:=7) (N:=some 35) #[true,true,true,true,true,true,true,true,false,false,false] rfl rfl (one_of HT_.out (by kernel_rfl)) (by decide) (fun K hK=>?_)
             refine value_ (w1:=?_) (v:=?_) (by rfl) rfl ?_ ?_
             rotate_left 2
             ·go_simp
              constructor
              ·rfl
              ·rfl
             refine hK.out _ _ ⟨(blk_cell (blk_alloc BK103.out _) 0).trans rfl,(blk_cell (blk_alloc BK103.out _) 1).trans rfl,(blk_cell (blk_alloc BK103.out _) 2).trans rfl⟩ (fun hHeld=>?_)
             clear hK K
             refine norm_ (a':=?_) ?_ ?_
             rotate_left
             ·show Act.put _ (some 35) _=_
              simp only [Act.put,List.setIfInBounds_toArray,List.set_cons_zero,List.set_cons_succ,i64_w,i32_w]
              rfl
             refine one_ (i:=8) (N:=some 36) #[true,true,true,true,true,true,true,true,true,false,false] rfl rfl (one_of HT_.out (by kernel_rfl)) (by decide) (fun K hK=>?_)
             refine Kd.R_append_step Kd.string (w0:=w) w.heap.size (by rfl) (.tmp 29) (.tmp 35) 22 9 (.string ⟨#[]⟩) 16 rfl Tryd.underlying22 info9 rfl (by decide) (by omega) u104002 x104002_1 ((rdOf ByteArray.empty y104 x24_1).extract 0 ((ji23):Int).toNat) [.string ((rdOf ByteArray.empty y104 x24_1).extract 0 ((ji23):Int).toNat)] (fun _=>True) (fun _=>False) rfl rfl ?aP (fun _ hk=>hk.elim) ?aF ?aO ?aB ?aS ?aL ?_
             (case aP=>exact rfl)
             (case aB=>exact (by repeat (first|(with_reducible first|exact HB.out|apply below_alloc|apply pw_below_drewN|apply below_drew1|refine below_set ?_ GE101.out|refine below_set ?_ GE102.out|refine below_set ?_ GE103.out)|exact HB.out)))
             (case aF=>exact (fun _ _=>trivial))
             (case aO=>exact (by (with_reducible repeat (first|apply Kd.R_alloc|apply Kd.R_drewN|apply Kd.R_drew));exact HO_104002.out))
             (case aS=>exact (below_size (by repeat (first|(with_reducible first|exact HB.out|apply below_alloc|apply pw_below_drewN|apply below_drew1|refine below_set ?_ GE101.out|refine below_set ?_ GE102.out|refine below_set ?_ GE103.out)|exact HB.out))))
             (case aL=>have:=LMc26.out;omega)
             intro v110 w28 ho hb hg hat
             rw [← Ny109.out] at ho
             have n0_:=Aside0.mk (blk_grown (g:=gb101) (o:=.cells #[.string a0_0,.int .i64 a0_1,.slice (some ad108) l0_2.length c0_2] 24 (0,0)) (by (with_reducible repeat (first|refine blk_drewN ?_ _|refine blk_drew ?_|refine blk_alloc ?_ _));exact BK101.out) hg (Kd.R_ne HO_104002.out BK101.out (by decide)))
             have n1_:=Aside0.mk (blk_grown (g:=gb102) (o:=.cells #[.string (⟨#[]⟩:ByteArray),.int .i64 0,.slice none 0 0] 24 (0,0)) (by (with_reducible repeat (first|refine blk_drewN ?_ _|refine blk_drew ?_|refine blk_alloc ?_ _));exact BK102.out) hg (Kd.R_ne HO_104002.out BK102.out (by decide)))
             have n2_:=Aside0.mk (blk_grown (g:=gb103) (o:=.cells #[.string (a0_0.extract 0 ((ji2):Int).toNat),.int .i64 a0_1,u104002] 24 (0,0)) (by (with_reducible repeat (first|refine blk_drewN ?_ _|refine blk_drew ?_|refine blk_alloc ?_ _));exact BK103.out) hg (Kd.R_ne HO_104002.out BK103.out (by decide)))
             have n3_:=Aside0.mk (hb)
             have n4_:=Aside0.mk (ho)
             clear BK101
             clear BK102
             clear BK103
             clear HB
             clear HO_104002
             have BK101:=n0_
             have BK102:=n1_
             have BK103:=n2_
             have HB:=n3_
             have HO111:=n4_
             clear n0_ n1_ n2_ n3_ n4_
             clear ho hb hg hat
             obtain ⟨Ao29,co29,eo29⟩:=Kd.R_slice HO111.out
             (first|subst eo29|(injection eo29 with f1_ f2_ f3_;have f4_:=f1_.symm;have f5_:=f3_.symm;clear f1_ f2_ f3_;subst f4_;subst f5_))
             refine hK.out _ _ ⟨(blk_cell BK103.out 0).trans rfl,(blk_cell BK103.out 1).trans rfl,(blk_cell BK103.out 2).trans rfl⟩ (fun hHeld=>?_)
             clear hK K
             refine norm_ (a':=?_) ?_ ?_
             rotate_left
             ·show Act.put _ (some 36) _=_
              simp only [Act.put,List.setIfInBounds_toArray,List.set_cons_zero,List.set_cons_succ,i64_w,i32_w]
              rfl
             refine pure_ (i:=9) (N:=some 37) (v:=?_) (a':=?_) #[true,true,true,true,true,true,true,true,true,true,false] rfl rfl (any_of HT_.out (by kernel_rfl)) (fun _ _ _ h=>h) (Or.inl ⟨by rfl,?_⟩) ?_ ?_
             rotate_left
             ·intro w'
              go_simp
              with_reducible rfl
             rotate_left
             ·simp only [Act.put,List.setIfInBounds_toArray,List.set_cons_zero,List.set_cons_succ,i64_w,i32_w]
              rfl
             refine last_ (i:=10) (N:=none) #[true,true,true,true,true,true,true,true,true,true,true] rfl rfl (one_of HT_.out (by kernel_rfl)) (by decide) (fun K hK=>?_)
             have hs30:w28.cell? ⟨gb103,2,none⟩=some (u104002):=(blk_cell BK103.out 2).trans rfl
             have hfs30:=blk_frozen BK103.out 2
             have hns30_0:=NB101_103.out
             have hns30_1:=NB102_103.out
             have hms30_0:=NB103_101.out
             have hms30_1:=NB103_102.out
             refine skip_ (w1:=?_) (by rfl) rfl ?_ ?_
             rotate_left
             ·go_simp
              rfl
             refine hK.out _ _ ?_
             clear hK K
             refine done_ (done_of HT_.out (by kernel_rfl)) ?_
             try go_wp2
             go_roundg k1
             case measure=>have:=HK1.out;omega
             case rel=>exact ⟨(wrap64 (x24_1+1)),(y109),(.slice Ao29 y109.length co29),(by first|rfl|(simp;done)|(simp [*];done)),H',⟨by have:=HK1.out;omega⟩,⟨by (with_reducible repeat (first|apply Kd.R_alloc|apply Kd.R_drewN|apply Kd.R_drew));exact Kd.R_mono (Kd.R_far (p:=⟨gb103,2,none⟩) (Kd.R_types HO111.out BK103.out (by decide)) (fun _ hk=>hk.2) (.slice Ao29 y109.length co29)) (fun _ hk=>trivial)⟩,⟨by (with_reducible repeat (first|refine blk_drewN ?_ _|refine blk_drew ?_|refine blk_alloc ?_ _));refine blk_far ?_ NB101_103.out _;(with_reducible repeat (first|refine blk_drewN ?_ _|refine blk_drew ?_|refine blk_alloc ?_ _));exact BK101.out⟩,⟨by (with_reducible repeat (first|refine blk_drewN ?_ _|refine blk_drew ?_|refine blk_alloc ?_ _));refine blk_far ?_ NB102_103.out _;(with_reducible repeat (first|refine blk_drewN ?_ _|refine blk_drew ?_|refine blk_alloc ?_ _));exact BK102.out⟩,⟨by (with_reducible repeat (first|refine blk_drewN ?_ _|refine blk_drew ?_|refine blk_alloc ?_ _));refine blk_put (cs:=#[.string (a0_0.extract 0 ((ji2):Int).toNat),.int .i64 a0_1,u104002]) ?_ 2 _ rfl;(with_reducible repeat (first|refine blk_drewN ?_ _|refine blk_drew ?_|refine blk_alloc ?_ _));exact BK103.out⟩,⟨by repeat (first|(with_reducible first|exact HB.out|apply below_alloc|apply pw_below_drewN|apply below_drew1|refine below_set ?_ GE101.out|refine below_set ?_ GE102.out|refine below_set ?_ GE103.out)|exact HB.out)⟩⟩
            ·rw [if_neg c26] at H
             exact absurd H (by simp)
           ·rw [if_neg c25] at H
            exact absurd H (by simp)
          ·rw [if_neg c24] at H
           exact absurd H (by simp)
         ·rw [if_neg c22] at H
          exact absurd H (by simp)
        ·rw [if_neg c21] at H
         exact absurd H (by simp)
       ·rw [if_neg c20] at H
        have c20b0:decide (x24_1<(y104.length:Int))=false:=decide_eq_false c20
        clear c20
        simp only [Option.some.injEq,Prod.mk.injEq] at H
        obtain ⟨rfl,rfl,rfl⟩:=H
        have hnb31:=NB103_101.out
        have hnc31:=NB101_103.out
        have hnb32:=NB103_102.out
        have hnc32:=NB102_103.out
        have hcz33_0:wr.cell? ⟨gb103,0,none⟩=some (.string (a0_0.extract 0 ((ji2):Int).toNat)):=(blk_cell BK103.out 0).trans rfl
        have hcz33_1:wr.cell? ⟨gb103,1,none⟩=some (.int .i64 a0_1):=(blk_cell BK103.out 1).trans rfl
        have hcz33_2:wr.cell? ⟨gb103,2,none⟩=some (u104002):=(blk_cell BK103.out 2).trans rfl
        have hfz33_0:=blk_frozen BK103.out 0
        have hfz33_1:=blk_frozen BK103.out 1
        have hfz33_2:=blk_frozen BK103.out 2
        have hnb34:=NB102_101.out
        have hnc34:=NB101_102.out
        have hcz35_0:wr.cell? ⟨gb102,0,none⟩=some (.string (⟨#[]⟩:ByteArray)):=(blk_cell BK102.out 0).trans rfl
        have hcz35_1:wr.cell? ⟨gb102,1,none⟩=some (.int .i64 0):=(blk_cell BK102.out 1).trans rfl
        have hcz35_2:wr.cell? ⟨gb102,2,none⟩=some (.slice none 0 0):=(blk_cell BK102.out 2).trans rfl
        have hfz35_0:=blk_frozen BK102.out 0
        have hfz35_1:=blk_frozen BK102.out 1
        have hfz35_2:=blk_frozen BK102.out 2
        obtain ⟨Ao36,co36,eo36⟩:=Kd.R_slice HO_104002.out
        subst eo36
        go_wp2
        refine bodyPost_ret (results_cell_row rfl _ _ gb102 24 #[.string (a0_0.extract 0 ((ji2):Int).toNat),.int .i64 a0_1,.slice Ao36 x104002_1.length co36] (0,0) _ rfl (by (with_reducible repeat (first|refine blk_drewN ?_ _|refine blk_drew ?_|refine blk_alloc ?_ _));refine blk_put (cs:=#[.string (a0_0.extract 0 ((ji2):Int).toNat),.int .i64 a0_1,.slice none 0 0]) ?_ 2 _ rfl;(with_reducible repeat (first|refine blk_drewN ?_ _|refine blk_drew ?_|refine blk_alloc ?_ _));refine blk_put (cs:=#[.string (a0_0.extract 0 ((ji2):Int).toNat),.int .i64 0,.slice none 0 0]) ?_ 1 _ rfl;(with_reducible repeat (first|refine blk_drewN ?_ _|refine blk_drew ?_|refine blk_alloc ?_ _));refine blk_put (cs:=#[.string (⟨#[]⟩:ByteArray),.int .i64 0,.slice none 0 0]) ?_ 0 _ rfl;(with_reducible repeat (first|refine blk_drewN ?_ _|refine blk_drew ?_|refine blk_alloc ?_ _));exact BK102.out) Tryd.underlying24 rfl (by kernel_rfl)) rfl ?_
        exact ⟨_,by first|rfl|(simp [errW_none,errW_some]<;>rfl)|(simp only [← hji2,← hji5];first|rfl|(simp [errW_none,errW_some]<;>rfl))|(simp [*,errW_none,errW_some]<;>rfl),by (with_reducible repeat (first|apply Kd.R_alloc|apply Kd.R_drewN|apply Kd.R_drew));exact Kd.R_mono (Kd.R_far (p:=⟨gb102,2,none⟩) (Kd.R_far (p:=⟨gb102,1,none⟩) (Kd.R_far (p:=⟨gb102,0,none⟩) (Kd.R_types HO_104002.out BK102.out (by decide)) (fun _ hk=>hk.2) (.string (a0_0.extract 0 ((ji2):Int).toNat))) (fun _ hk=>hk.2) (.int .i64 a0_1)) (fun _ hk=>hk.2) (.slice Ao36 x104002_1.length co36)) (fun _ hk=>trivial),by repeat (first|(with_reducible first|exact HB.out|apply below_alloc|apply pw_below_drewN|apply below_drew1|refine below_set ?_ GE101.out|refine below_set ?_ GE102.out|refine below_set ?_ GE103.out)|exact HB.out)⟩
    ·rw [if_neg c7] at H
     exact absurd H (by simp)
   ·rw [if_neg c6] at H
    exact absurd H (by simp)
  ·rw [if_neg c4] at H
   exact absurd H (by simp)
 ·rw [if_neg c3] at H
  exact absurd H (by simp)
end Go.Proofs.YtnbbfjddjmklpaaDoor.P

/- What one function of the program computes, as a Lean function, and a proof that its call comes to just that. Conditions: none. Written by wip/ownprint.py. -/
namespace Go.Proofs.YtnbbfjddjmklpaaDoor.P
open Go.RowKit Go.Proofs.YtnbbfjddjmklpaaDoorW.PrintWords Go.Proofs.YtnbbfjddjmklpaaDoorW.PrintLast Go.Proofs.YtnbbfjddjmklpaaDoorW.PrintMore
attribute [local go_sem] max2_int min2_int max_two min_two max_three min_three max_four min_four   -- for this text's walks alone
set_option linter.unusedVariables false
set_option linter.unusedSimpArgs false

def label_letter.f (a0:Int):Option (Bool):=if a0≥97 then (if a0≤122 then (some true) else (if a0≥65 then (if a0≤90 then (some true) else (some (a0 == 95))) else (some (a0 == 95)))) else (if a0≥65 then (if a0≤90 then (some true) else (some (a0 == 95))) else (some (a0 == 95)))
set_option maxHeartbeats 8000000 in
set_option maxRecDepth 100000 in
theorem label_letter.calls (a0:Int) (r:Bool) (w:World) (h:label_letter.f a0=some r) :
  Calls Tryd.prog 79 #[.int .u8 a0] w fun e w'=>e=.returned (.bool r)∧Drawn0 w w':=by
 have H:(if a0≥97 then (if a0≤122 then (some true) else (if a0≥65 then (if a0≤90 then (some true) else (some (a0 == 95))) else (some (a0 == 95)))) else (if a0≥65 then (if a0≤90 then (some true) else (some (a0 == 95))) else (some (a0 == 95))))=some r:=h
 clear h
 by_cases c2:a0≥97
 ·rw [if_pos c2] at H
  have c2b0:decide (97≤a0)=true:=decide_eq_true c2
  clear c2
  by_cases c3:a0≤122
  ·rw [if_pos c3] at H
   have c3b0:decide (a0≤122)=true:=decide_eq_true c3
   clear c3
   obtain rfl:=Option.some.inj H
   go_enter Tryd.func79,Tryd.ntmps79
   go_wp2
   (first|go_ret|go_ret2)
   exact ⟨by first|rfl|(simp;done)|(simp [*];done),by repeat (first|exact Drawn0.refl _|apply Drawn0.step)⟩
  ·rw [if_neg c3] at H
   have c3b0:decide (a0≤122)=false:=decide_eq_false c3
   clear c3
   by_cases c4:a0≥65
   ·rw [if_pos c4] at H
    have c4b0:decide (65≤a0)=true:=decide_eq_true c4
    clear c4
    by_cases c5:a0≤90
    ·rw [if_pos c5] at H
     have c5b0:decide (a0≤90)=true:=decide_eq_true c5
     clear c5
     obtain rfl:=Option.some.inj H
     go_enter Tryd.func79,Tryd.ntmps79
     go_wp2
     (first|go_ret|go_ret2)
     exact ⟨by first|rfl|(simp;done)|(simp [*];done),by repeat (first|exact Drawn0.refl _|apply Drawn0.step)⟩
    ·rw [if_neg c5] at H
     have c5b0:decide (a0≤90)=false:=decide_eq_false c5
     clear c5
     obtain rfl:=Option.some.inj H
     go_enter Tryd.func79,Tryd.ntmps79
     go_wp2
     (first|go_ret|go_ret2)
     exact ⟨by first|rfl|(simp;done)|(simp [*];done),by repeat (first|exact Drawn0.refl _|apply Drawn0.step)⟩
   ·rw [if_neg c4] at H
    have c4b0:decide (65≤a0)=false:=decide_eq_false c4
    clear c4
    obtain rfl:=Option.some.inj H
    go_enter Tryd.func79,Tryd.ntmps79
    go_wp2
    (first|go_ret|go_ret2)
    exact ⟨by first|rfl|(simp;done)|(simp [*];done),by repeat (first|exact Drawn0.refl _|apply Drawn0.step)⟩
 ·rw [if_neg c2] at H
  have c2b0:decide (97≤a0)=false:=decide_eq_false c2
  clear c2
  by_cases c6:a0≥65
  ·rw [if_pos c6] at H
   have c6b0:decide (65≤a0)=true:=decide_eq_true c6
   clear c6
   by_cases c7:a0≤90
   ·rw [if_pos c7] at H
    have c7b0:decide (a0≤90)=true:=decide_eq_true c7
    clear c7
    obtain rfl:=Option.some.inj H
    go_enter Tryd.func79,Tryd.ntmps79
    go_wp2
    (first|go_ret|go_ret2)
    exact ⟨by first|rfl|(simp;done)|(simp [*];done),by repeat (first|exact Drawn0.refl _|apply Drawn0.step)⟩
   ·rw [if_neg c7] at H
    have c7b0:decide (a0≤90)=false:=decide_eq_false c7
    clear c7
    obtain rfl:=Option.some.inj H
    go_enter Tryd.func79,Tryd.ntmps79
    go_wp2
    (first|go_ret|go_ret2)
    exact ⟨by first|rfl|(simp;done)|(simp [*];done),by repeat (first|exact Drawn0.refl _|apply Drawn0.step)⟩
  ·rw [if_neg c6] at H
   have c6b0:decide (65≤a0)=false:=decide_eq_false c6
   clear c6
   obtain rfl:=Option.some.inj H
   go_enter Tryd.func79,Tryd.ntmps79
   go_wp2
   (first|go_ret|go_ret2)
   exact ⟨by first|rfl|(simp;done)|(simp [*];done),by repeat (first|exact Drawn0.refl _|apply Drawn0.step)⟩
end Go.Proofs.YtnbbfjddjmklpaaDoor.P

/- What one function of the program computes, as a Lean function, and a proof that its call comes to just that. Conditions: none. Written by wip/ownprint.py. -/
namespace Go.Proofs.YtnbbfjddjmklpaaDoor.P
open Go.RowKit Go.Proofs.YtnbbfjddjmklpaaDoorW.PrintWords Go.Proofs.YtnbbfjddjmklpaaDoorW.PrintLast Go.Proofs.YtnbbfjddjmklpaaDoorW.PrintMore
attribute [local go_sem] max2_int min2_int max_two min_two max_three min_three max_four min_four   -- for this text's walks alone
set_option linter.unusedVariables false
set_option linter.unusedSimpArgs false

def label_name.l0:Nat→ByteArray→Int→Int→Option (Bool)
 | 0,_,_,_=>none
 | k+1,x0,x6,x7=>if x7<x6 then (if 0≤x7 then (if x7<(x0.size:Int) then ((label_letter.f (bt x0 x7)).bind fun t112=>(if t112=true then (label_name.l0 k x0 x6 (wrap64 (x7+1))) else (if x7=0 then (some false) else (if (bt x0 x7)<48 then (some false) else (if (bt x0 x7)>57 then (some false) else (label_name.l0 k x0 x6 (wrap64 (x7+1)))))))) else (none)) else (none)) else (if x0.toList=([]:List UInt8) then (some false) else (some (decide ((x0.size:Int)≤64))))
def label_name.f (k:Nat) (a0:ByteArray):Option (Bool):=label_name.l0 k a0 (a0.size:Int) 0
set_option maxHeartbeats 8000000 in
set_option maxRecDepth 100000 in
theorem label_name.calls (k:Nat) (a0:ByteArray) (r:Bool) (w:World) (h:label_name.f k a0=some r) :
  Calls Tryd.prog 66 #[.string a0] w fun e w'=>e=.returned (.bool r)∧Drawn0 w w':=by
 have H:(label_name.l0 k a0 (a0.size:Int) 0)=some r:=h
 clear h
 have H':=Aside0.mk H
 clear H
 go_enter Tryd.func66,Tryd.ntmps66
 go_wp2
 go_loopg [7] k (fun kq v7 w'=>∃ (x7_1:Int),v7=.int .i64 x7_1∧Aside0 (label_name.l0 kq a0 (a0.size:Int) x7_1=some r)∧Aside0 (kq≤k)∧Drawn0 w w')
 case atStart=>exact ⟨(0),(by first|rfl|(simp;done)|(simp [*];done)),H',⟨Nat.le_refl _⟩,by repeat (first|exact Drawn0.refl _|apply Drawn0.step)⟩
 case round =>
  clear H'
  obtain ⟨x7_1,rfl,HA,HK1,⟨m1,rfl⟩⟩:=hrel
  cases gk with
  | zero=>exact absurd HA.out (by simp [label_name.l0])
  | succ k1 =>
   have H:=HA.out
   clear HA
   simp only [label_name.l0] at H
   by_cases c2:x7_1<(a0.size:Int)
   ·rw [if_pos c2] at H
    have c2b0:decide (x7_1<(a0.size:Int))=true:=decide_eq_true c2
    clear c2
    by_cases c3:0≤x7_1
    ·rw [if_pos c3] at H
     have c3b0:decide (0≤x7_1)=true:=decide_eq_true c3
     clear c3
     by_cases c4:x7_1<(a0.size:Int)
     ·rw [if_pos c4] at H
      have c4b0:decide (x7_1<(a0.size:Int))=true:=decide_eq_true c4
      clear c4
      replace H:=Option.bind_eq_some_iff.mp H
      obtain ⟨t112,A60,H⟩:=H
      replace H:(if t112=true then (label_name.l0 k1 a0 (a0.size:Int) (wrap64 (x7_1+1))) else (if x7_1=0 then (some false) else (if (bt a0 x7_1)<48 then (some false) else (if (bt a0 x7_1)>57 then (some false) else (label_name.l0 k1 a0 (a0.size:Int) (wrap64 (x7_1+1)))))))=some r:=H
      have A6:=Aside0.mk A60
      clear A60
      by_cases c7:t112=true
      ·subst c7
       have H1:(label_name.l0 k1 a0 (a0.size:Int) (wrap64 (x7_1+1)))=some r:=by rw [if_pos rfl] at H;exact H
       clear H
       have H:=H1
       clear H1
       have H':=Aside0.mk H
       clear H
       have p5:0≤(x7_1:Int):=of_decide_eq_true (by first|(with_reducible assumption)|assumption)
       have q5:x7_1<(a0.size:Int):=of_decide_eq_true (by first|(with_reducible assumption)|assumption)
       have hx5:=bt_at a0 x7_1
       replace p5:=eq_true p5
       replace q5:=eq_true q5
       go_wp2_with (first|((with_reducible refine gate_callee (f:=79) rfl ?_);refine goesL_ (some 14) rfl rfl Tryd.func79 (by kernel_rfl) rfl #[.int .u8 (bt a0 x7_1)] rfl (by (try simp only [List.map_toArray,List.map_cons,List.map_nil]);first|done|rfl|(simp only [List.length_drop,List.length_take];rfl)) ?_;(with_reducible refine (label_letter.calls (bt a0 x7_1) true _ A6.out).mono ?_);rintro e w' ⟨rfl,⟨nd,rfl⟩⟩;refine ⟨_,rfl,?_⟩))
       go_roundg k1
       case measure=>have:=HK1.out;omega
       case rel=>exact ⟨(wrap64 (x7_1+1)),(by first|rfl|(simp;done)|(simp [*];done)),H',⟨by have:=HK1.out;omega⟩,by repeat (first|exact Drawn0.refl _|apply Drawn0.step)⟩
      ·replace c7:=Bool.eq_false_iff.mpr c7
       subst c7
       have H1:(if x7_1=0 then (some false) else (if (bt a0 x7_1)<48 then (some false) else (if (bt a0 x7_1)>57 then (some false) else (label_name.l0 k1 a0 (a0.size:Int) (wrap64 (x7_1+1))))))=some r:=by rw [if_neg (show ¬ (false=true) by decide)] at H;exact H
       clear H
       have H:=H1
       clear H1
       by_cases c8:x7_1=0
       ·rw [if_pos c8] at H
        have c8b0:(x7_1 == 0)=true:=beq_iff_eq.mpr c8
        have c8b1:(x7_1 != 0)=false:=bne_eq_false_iff_eq.mpr c8
        clear c8
        obtain rfl:=Option.some.inj H
        have p5:0≤(x7_1:Int):=of_decide_eq_true (by first|(with_reducible assumption)|assumption)
        have q5:x7_1<(a0.size:Int):=of_decide_eq_true (by first|(with_reducible assumption)|assumption)
        have hx5:=bt_at a0 x7_1
        replace p5:=eq_true p5
        replace q5:=eq_true q5
        go_wp2_with (first|((with_reducible refine gate_callee (f:=79) rfl ?_);refine goesL_ (some 14) rfl rfl Tryd.func79 (by kernel_rfl) rfl #[.int .u8 (bt a0 x7_1)] rfl (by (try simp only [List.map_toArray,List.map_cons,List.map_nil]);first|done|rfl|(simp only [List.length_drop,List.length_take];rfl)) ?_;(with_reducible refine (label_letter.calls (bt a0 x7_1) false _ A6.out).mono ?_);rintro e w' ⟨rfl,⟨nd,rfl⟩⟩;refine ⟨_,rfl,?_⟩))
        (first|go_ret|go_ret2)
        exact ⟨by first|rfl|(simp;done)|(simp [*];done),by repeat (first|exact Drawn0.refl _|apply Drawn0.step)⟩
       ·rw [if_neg c8] at H
        have c8b0:(x7_1 == 0)=false:=beq_eq_false_iff_ne.mpr c8
        have c8b1:(x7_1 != 0)=true:=bne_iff_ne.mpr c8
        by_cases c9:(bt a0 x7_1)<48
        ·rw [if_pos c9] at H
         have c9b0:decide ((bt a0 x7_1)<48)=true:=decide_eq_true c9
         clear c9
         obtain rfl:=Option.some.inj H
         have p5:0≤(x7_1:Int):=of_decide_eq_true (by first|(with_reducible assumption)|assumption)
         have q5:x7_1<(a0.size:Int):=of_decide_eq_true (by first|(with_reducible assumption)|assumption)
         have hx5:=bt_at a0 x7_1
         replace p5:=eq_true p5
         replace q5:=eq_true q5
         go_wp2_with (first|((with_reducible refine gate_callee (f:=79) rfl ?_);refine goesL_ (some 14) rfl rfl Tryd.func79 (by kernel_rfl) rfl #[.int .u8 (bt a0 x7_1)] rfl (by (try simp only [List.map_toArray,List.map_cons,List.map_nil]);first|done|rfl|(simp only [List.length_drop,List.length_take];rfl)) ?_;(with_reducible refine (label_letter.calls (bt a0 x7_1) false _ A6.out).mono ?_);rintro e w' ⟨rfl,⟨nd,rfl⟩⟩;refine ⟨_,rfl,?_⟩))
         (first|go_ret|go_ret2)
         exact ⟨by first|rfl|(simp;done)|(simp [*];done),by repeat (first|exact Drawn0.refl _|apply Drawn0.step)⟩
        ·rw [if_neg c9] at H
         have c9b0:decide ((bt a0 x7_1)<48)=false:=decide_eq_false c9
         clear c9
         by_cases c10:(bt a0 x7_1)>57
         ·rw [if_pos c10] at H
          have c10b0:decide (57<(bt a0 x7_1))=true:=decide_eq_true c10
          clear c10
          obtain rfl:=Option.some.inj H
          have p5:0≤(x7_1:Int):=of_decide_eq_true (by first|(with_reducible assumption)|assumption)
          have q5:x7_1<(a0.size:Int):=of_decide_eq_true (by first|(with_reducible assumption)|assumption)
          have hx5:=bt_at a0 x7_1
          replace p5:=eq_true p5
          replace q5:=eq_true q5
          go_wp2_with (first|((with_reducible refine gate_callee (f:=79) rfl ?_);refine goesL_ (some 14) rfl rfl Tryd.func79 (by kernel_rfl) rfl #[.int .u8 (bt a0 x7_1)] rfl (by (try simp only [List.map_toArray,List.map_cons,List.map_nil]);first|done|rfl|(simp only [List.length_drop,List.length_take];rfl)) ?_;(with_reducible refine (label_letter.calls (bt a0 x7_1) false _ A6.out).mono ?_);rintro e w' ⟨rfl,⟨nd,rfl⟩⟩;refine ⟨_,rfl,?_⟩))
          (first|go_ret|go_ret2)
          exact ⟨by first|rfl|(simp;done)|(simp [*];done),by repeat (first|exact Drawn0.refl _|apply Drawn0.step)⟩
         ·rw [if_neg c10] at H
          have c10b0:decide (57<(bt a0 x7_1))=false:=decide_eq_false c10
          clear c10
          have H':=Aside0.mk H
          clear H
          have p5:0≤(x7_1:Int):=of_decide_eq_true (by first|(with_reducible assumption)|assumption)
          have q5:x7_1<(a0.size:Int):=of_decide_eq_true (by first|(with_reducible assumption)|assumption)
          have hx5:=bt_at a0 x7_1
          replace p5:=eq_true p5
          replace q5:=eq_true q5
          go_wp2_with (first|((with_reducible refine gate_callee (f:=79) rfl ?_);refine goesL_ (some 14) rfl rfl Tryd.func79 (by kernel_rfl) rfl #[.int .u8 (bt a0 x7_1)] rfl (by (try simp only [List.map_toArray,List.map_cons,List.map_nil]);first|done|rfl|(simp only [List.length_drop,List.length_take];rfl)) ?_;(with_reducible refine (label_letter.calls (bt a0 x7_1) false _ A6.out).mono ?_);rintro e w' ⟨rfl,⟨nd,rfl⟩⟩;refine ⟨_,rfl,?_⟩))
          go_roundg k1
          case measure=>have:=HK1.out;omega
          case rel=>exact ⟨(wrap64 (x7_1+1)),(by first|rfl|(simp;done)|(simp [*];done)),H',⟨by have:=HK1.out;omega⟩,by repeat (first|exact Drawn0.refl _|apply Drawn0.step)⟩
     ·rw [if_neg c4] at H
      exact absurd H (by simp)
    ·rw [if_neg c3] at H
     exact absurd H (by simp)
   ·rw [if_neg c2] at H
    have c2b0:decide (x7_1<(a0.size:Int))=false:=decide_eq_false c2
    clear c2
    by_cases c11:a0.toList=([]:List UInt8)
    ·rw [if_pos c11] at H
     have c11b0:(a0.toList == ([]:List UInt8))=true:=beq_iff_eq.mpr c11
     have c11b1:(a0.toList != ([]:List UInt8))=false:=bne_eq_false_iff_eq.mpr c11
     clear c11
     obtain rfl:=Option.some.inj H
     go_wp2
     (first|go_ret|go_ret2)
     exact ⟨by first|rfl|(simp;done)|(simp [*];done),by repeat (first|exact Drawn0.refl _|apply Drawn0.step)⟩
    ·rw [if_neg c11] at H
     have c11b0:(a0.toList == ([]:List UInt8))=false:=beq_eq_false_iff_ne.mpr c11
     have c11b1:(a0.toList != ([]:List UInt8))=true:=bne_iff_ne.mpr c11
     obtain rfl:=Option.some.inj H
     go_wp2
     (first|go_ret|go_ret2)
     exact ⟨by first|rfl|(simp;done)|(simp [*];done),by repeat (first|exact Drawn0.refl _|apply Drawn0.step)⟩
end Go.Proofs.YtnbbfjddjmklpaaDoor.P

/-
 DERIVED: THE SHELF's CONTRACTS AT THIS DUMP,IN PLAIN WORDS (tools/lay-plain.mjs out of 'TrydShelf.lean',which tools/lay-shelf.mjs wrote): THE SAME DECLARATIONS UNDER THE SAME NAMES: 'import','namespace','open','def','theorem' AND NOTHING ELSE: no command of the shelf's: FOR A HAND-IN. Each laying: the table of numbers ('.._ren') and one theorem,a field a fact of the dump's own or the kernel's comparison;each contract: ONE APPLICATION.
-/
namespace Go.Proofs
open Go.Shelf
open Go.RowKit in
open Go.RowKit in
open Go.RowKit in
open Go.RowKit in
open Go.RowKit in
def Tryd.lays156_ren:Go.Shelf.Ren:=⟨fun|156=>24|165=>44|166=>45|169=>46|240=>59|241=>60|276=>70|277=>71|n=>n,fun|31=>22|9=>9|3=>3|4=>4|0=>0|20=>20|72=>69|76=>73|70=>66|37=>67|75=>72|127=>83|164=>88|5=>5|80=>75|n=>n,fun|n=>n⟩
theorem Tryd.lays156:Go.Proofs.Lays.n156 Tryd.prog Tryd.lays156_ren:={
 mixed:=by kernel_rfl
 f156:=Tryd.func24.trans (congrArg some (by kernel_rfl))
 f165:=Tryd.func44.trans (congrArg some (by kernel_rfl))
 f166:=Tryd.func45.trans (congrArg some (by kernel_rfl))
 f169:=Tryd.func46.trans (congrArg some (by kernel_rfl))
 f240:=Tryd.func59.trans (congrArg some (by kernel_rfl))
 f241:=Tryd.func60.trans (congrArg some (by kernel_rfl))
 f276:=Tryd.func70.trans (congrArg some (by kernel_rfl))
 f277:=Tryd.func71.trans (congrArg some (by kernel_rfl))
 t0:=Tryd.underlying0
 a0:=Tryd.isAgg0
 z0:=Tryd.sizeOf0
 v0:=Tryd.zeroValue0
 t3:=Tryd.underlying3
 a3:=Tryd.isAgg3
 z3:=Tryd.sizeOf3
 v3:=Tryd.zeroValue3
 t4:=Tryd.underlying4
 a4:=Tryd.isAgg4
 z4:=Tryd.sizeOf4
 v4:=Tryd.zeroValue4
 t9:=Tryd.underlying9
 a9:=Tryd.isAgg9
 z9:=Tryd.sizeOf9
 v9:=Tryd.zeroValue9
 t20:=Tryd.underlying20
 a20:=Tryd.isAgg20
 z20:=Tryd.sizeOf20
 v20:=Tryd.zeroValue20
 t31:=Tryd.underlying22
 a31:=Tryd.isAgg22
 z31:=Tryd.sizeOf22
 v31:=Tryd.zeroValue22
 t37:=Tryd.underlying67
 a37:=Tryd.isAgg67
 z37:=Tryd.sizeOf67
 v37:=Tryd.zeroValue67
 t70:=Tryd.underlying66
 a70:=Tryd.isAgg66
 z70:=Tryd.sizeOf66
 v70:=Tryd.zeroValue66
 t72:=Tryd.underlying69
 a72:=Tryd.isAgg69
 z72:=Tryd.sizeOf69
 v72:=Tryd.zeroValue69
 t75:=Tryd.underlying72
 a75:=Tryd.isAgg72
 z75:=Tryd.sizeOf72
 v75:=Tryd.zeroValue72
 t76:=Tryd.underlying73
 a76:=Tryd.isAgg73
 z76:=Tryd.sizeOf73
 v76:=Tryd.zeroValue73
 t127:=Tryd.underlying83
 a127:=Tryd.isAgg83
 z127:=Tryd.sizeOf83
 v127:=Tryd.zeroValue83
 t164:=Tryd.underlying88
 a164:=Tryd.isAgg88
 z164:=Tryd.sizeOf88
 v164:=Tryd.zeroValue88 }
theorem Tryd.Builder_Extra_156:Builder.Extra Tryd.prog Tryd.lays156_ren:={
 sizeBuilder:=by kernel_rfl
 liesBuilder:=by kernel_rfl
 t5:=Tryd.underlying5
 a5:=Tryd.isAgg5
 z5:=Tryd.sizeOf5
 v5:=Tryd.zeroValue5
 infoByte:=by kernel_rfl
 cellsByte:=by kernel_rfl
 sizeByte:=by kernel_rfl
 neB5:=by decide }
open Go.RowKit in
theorem Tryd.strings_Join_none (a:Option Addr) (c:Nat) (sep:ByteArray) (w:World) :
  Calls Tryd.prog 24 #[.slice a 0 c,.string sep] w fun e w'=>e=.returned (.string ⟨#[]⟩)∧w'=w:=Any.strings_Join_none Tryd.lays156 Tryd.Builder_Extra_156 a c sep w
open Go.RowKit in
theorem Tryd.strings_Join (bk o c:Nat) (xs:List ByteArray) (sep:ByteArray) (w:World) (hcells:∀ (j:Nat) x,xs[j]?=some x→w.cell? ⟨bk,o+j,none⟩=some (.string x)) (hbk:bk<w.heap.size) (hN:xs.length≤140737488355328) (hcap:xs.length≤c) (hlen:(Lib.join (xs.map (·.data.toList)) sep.data.toList).length≤140737488355328) :
  Calls Tryd.prog 24 #[.slice (some ⟨bk,o,none⟩) xs.length c,.string sep] w fun e w'=>e=.returned (.string ⟨(Lib.join (xs.map (·.data.toList)) sep.data.toList).toArray⟩)∧Below w.heap.size w w':=Any.strings_Join Tryd.lays156 Tryd.Builder_Extra_156 bk o c xs sep w hcells hbk hN hcap hlen
def Tryd.lays137_ren:Go.Shelf.Ren:=⟨fun|137=>69|217=>72|266=>81|n=>n,fun|9=>9|5=>5|3=>3|n=>n,fun|n=>n⟩
theorem Tryd.lays137:Go.Proofs.Lays.n137 Tryd.prog Tryd.lays137_ren:={
 mixed:=by kernel_rfl
 f137:=Tryd.func69.trans (congrArg some (by kernel_rfl))
 f217:=Tryd.func72.trans (congrArg some (by kernel_rfl))
 f266:=Tryd.func81.trans (congrArg some (by kernel_rfl))
 t3:=Tryd.underlying3
 a3:=Tryd.isAgg3
 z3:=Tryd.sizeOf3
 v3:=Tryd.zeroValue3
 t5:=Tryd.underlying5
 a5:=Tryd.isAgg5
 z5:=Tryd.sizeOf5
 v5:=Tryd.zeroValue5
 t9:=Tryd.underlying9
 a9:=Tryd.isAgg9
 z9:=Tryd.sizeOf9
 v9:=Tryd.zeroValue9 }
open Go.RowKit in
theorem Tryd.strings_IndexByte (s:ByteArray) (c:Int) (w:World) :
  Calls Tryd.prog 69 #[.string s,.int .u8 c] w fun e w'=>e=.returned (.int .i64 (Lib.indexByte s.data.toList c.toNat.toUInt8))∧w'=w:=Any.strings_IndexByte Tryd.lays137 s c w
open Go.RowKit in
def Tryd.lays104_ren:Go.Shelf.Ren:=⟨fun|104=>28|211=>50|207=>65|n=>n,fun|9=>9|4=>4|24=>57|3=>3|n=>n,fun|n=>n⟩
theorem Tryd.lays104:Go.Proofs.Lays.n104 Tryd.prog Tryd.lays104_ren:={
 mixed:=by kernel_rfl
 f104:=Tryd.func28.trans (congrArg some (by kernel_rfl))
 f207:=Tryd.func65.trans (congrArg some (by kernel_rfl))
 f211:=Tryd.func50.trans (congrArg some (by kernel_rfl))
 t3:=Tryd.underlying3
 a3:=Tryd.isAgg3
 z3:=Tryd.sizeOf3
 v3:=Tryd.zeroValue3
 t4:=Tryd.underlying4
 a4:=Tryd.isAgg4
 z4:=Tryd.sizeOf4
 v4:=Tryd.zeroValue4
 t9:=Tryd.underlying9
 a9:=Tryd.isAgg9
 z9:=Tryd.sizeOf9
 v9:=Tryd.zeroValue9
 t24:=Tryd.underlying57
 a24:=Tryd.isAgg57
 z24:=Tryd.sizeOf57
 v24:=Tryd.zeroValue57 }
open Go.RowKit in
theorem Tryd.strings_CutSuffix (s p:ByteArray) (w:World) (hs:s.size≤9223372036854775807) :
  Calls Tryd.prog 28 #[.string s,.string p] w fun e w'=>e=.returned (.tuple #[.string ⟨(Lib.trimSuffix s.data.toList p.data.toList).toArray⟩,.bool (Lib.hasSuffix s.data.toList p.data.toList)])∧w'=w:=Any.strings_CutSuffix Tryd.lays104 s p w hs
open Go.RowKit in
open Go.RowKit in
open Go.RowKit in
open Go.RowKit in
open Go.RowKit in
open Go.RowKit in
open Go.RowKit in
open Go.RowKit in
open Go.RowKit in
open Go.RowKit Go.Lib in
open Go.RowKit Go.Lib in
open Go.RowKit Go.Lib in
open Go.RowKit Go.Lib in
def Tryd.lays219_ren:Go.Shelf.Ren:=⟨fun|219=>61|217=>72|225=>73|224=>74|267=>75|266=>81|314=>82|n=>n,fun|9=>9|3=>3|4=>4|5=>5|46=>92|146=>97|51=>96|n=>n,fun|1=>0|n=>n⟩
theorem Tryd.lays219:Go.Proofs.Lays.n219 Tryd.prog Tryd.lays219_ren:={
 mixed:=by kernel_rfl
 f217:=Tryd.func72.trans (congrArg some (by kernel_rfl))
 f219:=Tryd.func61.trans (congrArg some (by kernel_rfl))
 f224:=Tryd.func74.trans (congrArg some (by kernel_rfl))
 f225:=Tryd.func73.trans (congrArg some (by kernel_rfl))
 f266:=Tryd.func81.trans (congrArg some (by kernel_rfl))
 f267:=Tryd.func75.trans (congrArg some (by kernel_rfl))
 f314:=Tryd.func82.trans (congrArg some (by kernel_rfl))
 t3:=Tryd.underlying3
 a3:=Tryd.isAgg3
 z3:=Tryd.sizeOf3
 v3:=Tryd.zeroValue3
 t4:=Tryd.underlying4
 a4:=Tryd.isAgg4
 z4:=Tryd.sizeOf4
 v4:=Tryd.zeroValue4
 t5:=Tryd.underlying5
 a5:=Tryd.isAgg5
 z5:=Tryd.sizeOf5
 v5:=Tryd.zeroValue5
 t9:=Tryd.underlying9
 a9:=Tryd.isAgg9
 z9:=Tryd.sizeOf9
 v9:=Tryd.zeroValue9
 t46:=Tryd.underlying92
 a46:=Tryd.isAgg92
 z46:=Tryd.sizeOf92
 v46:=Tryd.zeroValue92
 t51:=Tryd.underlying96
 a51:=Tryd.isAgg96
 z51:=Tryd.sizeOf96
 v51:=Tryd.zeroValue96
 t146:=Tryd.underlying97
 a146:=Tryd.isAgg97
 z146:=Tryd.sizeOf97
 v146:=Tryd.zeroValue97
 g1:=by kernel_rfl }
open Go.RowKit Go.Lib in
theorem Tryd.stringslite_Index_one (s:ByteArray) (c:UInt8) (w:World) :
  Calls Tryd.prog 61 #[.string s,.string ⟨#[c]⟩] w fun e w'=>e=.returned (.int .i64 (Lib.indexByte s.data.toList c))∧w'=w:=Any.stringslite_Index_one Tryd.lays219 s c w
open Go.RowKit Go.Lib in
open Go.RowKit Go.Lib in
open Go.RowKit Go.Lib in
open Go.RowKit Go.Lib in
open Go.RowKit Go.Lib in
open Go.RowKit Go.Lib in
open Go.RowKit Go.Lib in
open Go.RowKit Go.Lib in
open Go.RowKit Go.Lib in
open Go.RowKit Go.Lib in
open Go.RowKit Go.Lib in
open Go.RowKit Go.Lib in
open Go.RowKit Go.Lib in
open Go.RowKit Go.Lib in
def Tryd.lays102_ren:Go.Shelf.Ren:=⟨fun|102=>27|209=>49|207=>65|n=>n,fun|9=>9|4=>4|3=>3|n=>n,fun|n=>n⟩
theorem Tryd.lays102:Go.Proofs.Lays.n102 Tryd.prog Tryd.lays102_ren:={
 mixed:=by kernel_rfl
 f102:=Tryd.func27.trans (congrArg some (by kernel_rfl))
 f207:=Tryd.func65.trans (congrArg some (by kernel_rfl))
 f209:=Tryd.func49.trans (congrArg some (by kernel_rfl))
 t3:=Tryd.underlying3
 a3:=Tryd.isAgg3
 z3:=Tryd.sizeOf3
 v3:=Tryd.zeroValue3
 t4:=Tryd.underlying4
 a4:=Tryd.isAgg4
 z4:=Tryd.sizeOf4
 v4:=Tryd.zeroValue4
 t9:=Tryd.underlying9
 a9:=Tryd.isAgg9
 z9:=Tryd.sizeOf9
 v9:=Tryd.zeroValue9 }
open Go.RowKit Go.Lib in
theorem Tryd.strings_TrimSuffix (s p:ByteArray) (w:World) (hs:s.size≤9223372036854775807) :
  Calls Tryd.prog 27 #[.string s,.string p] w fun e w'=>e=.returned (.string ⟨(Lib.trimSuffix s.data.toList p.data.toList).toArray⟩)∧w'=w:=Any.strings_TrimSuffix Tryd.lays102 s p w hs
open Go.RowKit Go.Lib in
open Go.RowKit Go.Lib in
def Tryd.lays146_ren:Go.Shelf.Ren:=⟨fun|146=>26|221=>48|268=>62|138=>63|143=>64|195=>76|197=>77|218=>78|219=>61|260=>83|217=>72|225=>73|224=>74|267=>75|266=>81|314=>82|n=>n,fun|9=>9|31=>22|3=>3|4=>4|0=>0|105=>94|21=>21|5=>5|46=>92|119=>99|139=>102|138=>101|146=>97|51=>96|n=>n,fun|1=>0|3=>1|4=>2|n=>n⟩
theorem Tryd.lays146:Go.Proofs.Lays.n146 Tryd.prog Tryd.lays146_ren:={
 mixed:=by kernel_rfl
 f138:=Tryd.func63.trans (congrArg some (by kernel_rfl))
 f143:=Tryd.func64.trans (congrArg some (by kernel_rfl))
 f146:=Tryd.func26.trans (congrArg some (by kernel_rfl))
 f195:=Tryd.func76.trans (congrArg some (by kernel_rfl))
 f197:=Tryd.func77.trans (congrArg some (by kernel_rfl))
 f217:=Tryd.func72.trans (congrArg some (by kernel_rfl))
 f218:=Tryd.func78.trans (congrArg some (by kernel_rfl))
 f219:=Tryd.func61.trans (congrArg some (by kernel_rfl))
 f221:=Tryd.func48.trans (congrArg some (by kernel_rfl))
 f224:=Tryd.func74.trans (congrArg some (by kernel_rfl))
 f225:=Tryd.func73.trans (congrArg some (by kernel_rfl))
 f260:=Tryd.func83.trans (congrArg some (by kernel_rfl))
 f266:=Tryd.func81.trans (congrArg some (by kernel_rfl))
 f267:=Tryd.func75.trans (congrArg some (by kernel_rfl))
 f268:=Tryd.func62.trans (congrArg some (by kernel_rfl))
 f314:=Tryd.func82.trans (congrArg some (by kernel_rfl))
 t0:=Tryd.underlying0
 a0:=Tryd.isAgg0
 z0:=Tryd.sizeOf0
 v0:=Tryd.zeroValue0
 t3:=Tryd.underlying3
 a3:=Tryd.isAgg3
 z3:=Tryd.sizeOf3
 v3:=Tryd.zeroValue3
 t4:=Tryd.underlying4
 a4:=Tryd.isAgg4
 z4:=Tryd.sizeOf4
 v4:=Tryd.zeroValue4
 t5:=Tryd.underlying5
 a5:=Tryd.isAgg5
 z5:=Tryd.sizeOf5
 v5:=Tryd.zeroValue5
 t9:=Tryd.underlying9
 a9:=Tryd.isAgg9
 z9:=Tryd.sizeOf9
 v9:=Tryd.zeroValue9
 t21:=Tryd.underlying21
 a21:=Tryd.isAgg21
 z21:=Tryd.sizeOf21
 v21:=Tryd.zeroValue21
 t31:=Tryd.underlying22
 a31:=Tryd.isAgg22
 z31:=Tryd.sizeOf22
 v31:=Tryd.zeroValue22
 t46:=Tryd.underlying92
 a46:=Tryd.isAgg92
 z46:=Tryd.sizeOf92
 v46:=Tryd.zeroValue92
 t51:=Tryd.underlying96
 a51:=Tryd.isAgg96
 z51:=Tryd.sizeOf96
 v51:=Tryd.zeroValue96
 t105:=Tryd.underlying94
 a105:=Tryd.isAgg94
 z105:=Tryd.sizeOf94
 v105:=Tryd.zeroValue94
 t119:=Tryd.underlying99
 a119:=Tryd.isAgg99
 z119:=Tryd.sizeOf99
 t138:=Tryd.underlying101
 a138:=Tryd.isAgg101
 z138:=Tryd.sizeOf101
 v138:=Tryd.zeroValue101
 t139:=Tryd.underlying102
 a139:=Tryd.isAgg102
 z139:=Tryd.sizeOf102
 v139:=Tryd.zeroValue102
 t146:=Tryd.underlying97
 a146:=Tryd.isAgg97
 z146:=Tryd.sizeOf97
 v146:=Tryd.zeroValue97
 g1:=by kernel_rfl
 g3:=by kernel_rfl
 g4:=by kernel_rfl }
open Go.RowKit Go.Lib in
theorem Tryd.strings_Split (s sep:ByteArray) (m:Int) (w:World) (hs:s.size<4294967281) (hm:w.cell? ⟨0,0,none⟩=some (.int .i64 m)) (h1:1≤sep.size) :
  Calls Tryd.prog 26 #[.string s,.string sep] w fun e w' =>
   e=.returned (.slice (some ⟨w.heap.size,0,none⟩) (Lib.countB s sep+1) (Lib.countB s sep+1))∧w'=w.alloc (.cells ((Lib.splitB sep 0 (Lib.countB s sep) s).map Value.string).toArray 9):=Any.strings_Split Tryd.lays146 (by kernel_rfl) s sep m w hs hm h1
open Go.RowKit Go.Lib in
open Go.RowKit Go.Lib in
open Go.RowKit Go.Lib in
open Go.RowKit Go.Lib in
open Go.RowKit Go.Lib in
open Go.RowKit Go.Lib in
open Go.RowKit Go.Lib in
open Go.RowKit Go.Lib in
open Go.Lib in
open Go.Lib in
def Tryd.lays110_ren:Go.Shelf.Ren:=⟨fun|110=>38|109=>53|n=>n,fun|31=>22|9=>9|4=>4|3=>3|0=>0|n=>n,fun|n=>n⟩
theorem Tryd.lays110:Go.Proofs.Lays.n110 Tryd.prog Tryd.lays110_ren:={
 mixed:=by kernel_rfl
 f109:=Tryd.func53.trans (congrArg some (by kernel_rfl))
 f110:=Tryd.func38.trans (congrArg some (by kernel_rfl))
 t0:=Tryd.underlying0
 a0:=Tryd.isAgg0
 z0:=Tryd.sizeOf0
 v0:=Tryd.zeroValue0
 t3:=Tryd.underlying3
 a3:=Tryd.isAgg3
 z3:=Tryd.sizeOf3
 v3:=Tryd.zeroValue3
 t4:=Tryd.underlying4
 a4:=Tryd.isAgg4
 z4:=Tryd.sizeOf4
 v4:=Tryd.zeroValue4
 t9:=Tryd.underlying9
 a9:=Tryd.isAgg9
 z9:=Tryd.sizeOf9
 v9:=Tryd.zeroValue9
 t31:=Tryd.underlying22
 a31:=Tryd.isAgg22
 z31:=Tryd.sizeOf22
 v31:=Tryd.zeroValue22 }
open Go.Lib in
theorem Tryd.slices_Contains_string (b off n c:Nat) (zs:List ByteArray) (x:ByteArray) (w:World) (hz:n≤zs.length) (hbig:n≤9223372036854775807) (hc:∀ j,j<zs.length→w.cell? ⟨b,off+j,none⟩=some (.string (zs.getD j ByteArray.empty))) :
  Calls Tryd.prog 38 #[.slice (some ⟨b,off,none⟩) n c,.string x] w fun e w'=>e=.returned (.bool (Lib.containsS (zs.take n) x))∧w'=w:=Any.slices_Contains_string Tryd.lays110 b off n c zs x w hz hbig hc
open Go.Lib in
theorem Tryd.slices_Contains_string_empty (a:Option Addr) (c:Nat) (x:ByteArray) (w:World) :
  Calls Tryd.prog 38 #[.slice a 0 c,.string x] w fun e w'=>e=.returned (.bool false)∧w'=w:=Any.slices_Contains_string_empty Tryd.lays110 a c x w
end Go.Proofs

/- Is there a byte of some kind among bytes? Conditions: as each lemma says. -/
namespace Go.Proofs.YtnbbfjddjmklpaaDoor.P
open Go.RowKit Go.Proofs.YtnbbfjddjmklpaaDoorW.PrintWords Go.Proofs.YtnbbfjddjmklpaaDoorW.PrintLast Go.Proofs.YtnbbfjddjmklpaaDoorW.PrintMore
set_option linter.unusedSimpArgs false
set_option linter.unusedVariables false

def Tells (F:Nat) (p:Int→Bool):Prop:=(F=80∨F=57)∧∀ (c:Int),0≤c→c<256→∀ w:World,Calls Tryd.prog F #[.int .u8 c] w fun e w'=>e=.returned (.bool (p c))∧w'=w
def FoundAt (p:Int→Bool) (xs:List Int) (w:World) (e:Ending) (w':World):Prop:=∃ r:Int,e=.returned (.int .i64 r)∧decide (0≤r)=xs.any p∧w'=w
theorem any_take (p:Int→Bool) (xs:List Int) (k:Nat) (hk:k<xs.length) (h:(xs.take k).any p=false) (h2:p (xs.getD k 0)=false):(xs.take (k+1)).any p=false:=by
 rw [List.take_succ_eq_append_getElem hk,List.any_append,h]
 rw [List.getD_eq_getElem?_getD,List.getElem?_eq_getElem hk] at h2
 simpa using h2
theorem any_at (p:Int→Bool) (xs:List Int) (k:Nat) (hk:k<xs.length) (h2:p (xs.getD k 0)=true):xs.any p=true:=by
 rw [List.getD_eq_getElem?_getD,List.getElem?_eq_getElem hk] at h2
 exact List.any_eq_true.2 ⟨_,List.getElem_mem hk,h2⟩
set_option maxHeartbeats 1000000 in
theorem index_bytes (F:Nat) (p:Int→Bool) (hF:Tells F p) (g n cap:Nat) (xs:List Int) (w:World) (hn:xs.length=n) (hm:n≤9223372036854775807) (hc:∀ j,j<n→w.cell? ⟨g,j,none⟩=some (.int .u8 (xs.getD j 0))) (hb:∀ j,j<n→0≤xs.getD j 0∧xs.getD j 0<256) :
  Calls Tryd.prog 68 #[.slice (some ⟨g,0,none⟩) n cap,.func (.func F) #[] #[]] w (FoundAt p xs w):=by
 obtain ⟨hf,hF⟩:=hF
 rcases hf with rfl|rfl
 all_goals
  have HF:=Aside0.mk hF
  have HN:=Aside0.mk hn
  have HC:=Aside0.mk hc
  have HB:=Aside0.mk hb
  clear hn hc hb hF
  go_enter Tryd.func68,Tryd.ntmps68
  go_wp2
  go_loop [8] (fun i=>∃ k:Nat,k≤n∧i=.int .i64 k∧Aside0 ((xs.take k).any p=false)) (fun i=>n-(intOf i).toNat)
  case atStart=>exact ⟨0,Nat.zero_le _,rfl,⟨rfl⟩⟩
  case round =>
   obtain ⟨k,hk,rfl,hno⟩:=hrel
   by_cases hlt:k<n
   ·have hcell:=HC.out k hlt
    have hbd:=HB.out k hlt
    obtain ⟨c,hcv⟩:∃ c,xs.getD k 0=c:=⟨_,rfl⟩
    rw [hcv] at hcell hbd
    have HV:=Aside0.mk hcv
    have HBD:=Aside0.mk hbd
    clear hcv hbd
    cases ho:p c with
    | true =>
     have HO:=Aside0.mk ho
     have hcall:=fun W=>(HF.out c HBD.out.1 HBD.out.2 W)
     rw [ho] at hcall
     have HCALL:=Aside0.mk hcall
     clear ho hcall
     go_wp2_with (with_reducible refine (HCALL.out _).mono ?_;rintro e w' ⟨rfl,rfl⟩)
     go_ret
     exact ⟨(k:Int),rfl,by rw [any_at p xs k (by have:=HN.out;omega) (by rw [HV.out];exact HO.out)];simp,rfl⟩
    | false =>
     have HO:=Aside0.mk ho
     have hcall:=fun W=>(HF.out c HBD.out.1 HBD.out.2 W)
     rw [ho] at hcall
     have HCALL:=Aside0.mk hcall
     clear ho hcall
     go_wp2_with (with_reducible refine (HCALL.out _).mono ?_;rintro e w' ⟨rfl,rfl⟩)
     go_round
     case rel=>exact ⟨k+1,by omega,by go_num,⟨any_take p xs k (by have:=HN.out;omega) hno.out (by rw [HV.out];exact HO.out)⟩⟩
     case measure=>simp [intOf];omega
   ·go_wp2
    go_ret
    exact ⟨-1,rfl,by have:=hno.out;rw [List.take_of_length_le (by have:=HN.out;omega)] at this;rw [this];decide,rfl⟩
theorem contains_bytes (F:Nat) (p:Int→Bool) (hF:Tells F p) (g n cap:Nat) (xs:List Int) (w:World) (hn:xs.length=n) (hm:n≤9223372036854775807) (hc:∀ j,j<n→w.cell? ⟨g,j,none⟩=some (.int .u8 (xs.getD j 0))) (hb:∀ j,j<n→0≤xs.getD j 0∧xs.getD j 0<256) :
  Calls Tryd.prog 56 #[.slice (some ⟨g,0,none⟩) n cap,.func (.func F) #[] #[]] w fun e w'=>e=.returned (.bool (xs.any p))∧w'=w:=by
 obtain ⟨hf,hF⟩:=hF
 have HI:=Aside0.mk (index_bytes F p ⟨hf,hF⟩ g n cap xs w hn hm hc hb)
 rcases hf with rfl|rfl
 all_goals
  clear hn hc hb hF
  go_enter Tryd.func56,Tryd.ntmps56
  go_wp2_with (go_at_call 68;refine HI.out.mono ?_;rintro e w' ⟨r,rfl,hr,rfl⟩;have HR:=Aside0.mk hr;clear hr)
  go_ret
  exact ⟨congrArg (fun b:Bool=>Ending.returned (.bool b)) HR.out,rfl⟩
theorem text_bytes (F:Nat) (p:Int→Bool) (hF:Tells F p) (nm:ByteArray) (w:World) (g cap:Nat) (hg:g=w.heap.size) (hs:nm.size≤64) :
  Calls Tryd.prog 56 #[.slice (some ⟨g,0,none⟩) nm.size cap,.func (.func F) #[] #[]] (Lib.bytesWorld w 5 nm) fun e w'=>e=.returned (.bool ((bytesOf nm).any p))∧w'=Lib.bytesWorld w 5 nm:=by
 subst hg
 have hr:=bytes_reads w 5 nm (by omega)
 refine contains_bytes F p hF w.heap.size nm.size _ (bytesOf nm) _ (bytesOf_length nm) (by omega) (fun j hj=>?_) (fun j hj=>?_)
 ·obtain ⟨_,_,h⟩:=hr
  obtain ⟨ad,e,h2⟩:=h (by omega)
  cases e
  have:=h2 j hj
  rw [add_plain] at this
  exact this
 ·have h1:=bt_range nm (j:Int)
  have h2:=rd_bytesOf nm (j:Int)
  unfold rd at h2
  rw [Int.toNat_natCast] at h2
  rw [h2]
  omega
def unprB (c:Int):Bool:=decide (c<32) || decide (126<c)
theorem unpr_any:Tells 80 unprB:=by
 refine ⟨.inl rfl,?_⟩
 intro c h0 h1 w
 unfold unprB
 by_cases h:c<32
 ·rw [decide_eq_true h]
  go_enter Tryd.func80,Tryd.ntmps80
  go_wp2
  go_ret
  exact ⟨rfl,rfl⟩
 ·rw [decide_eq_false h]
  go_enter Tryd.func80,Tryd.ntmps80
  go_wp2
  go_ret
  exact ⟨rfl,rfl⟩
def signB (c:Int):Bool:=decide (0≤Lib.indexByte [95,45,46,47,58] c.toNat.toUInt8)
def plainB (c:Int):Bool:=(decide (97≤c) && decide (c≤122)) || (decide (65≤c) && decide (c≤90)) || (decide (48≤c) && decide (c≤57)) || signB c
theorem plain_any (c:Int) (h0:0≤c) (h1:c<256) (w:World):Calls Tryd.prog 58 #[.int .u8 c] w fun e w'=>e=.returned (.bool (plainB c))∧w'=w:=by
 have hc:(97≤c∧c≤122)∨(65≤c∧c≤90)∨(48≤c∧c≤57)∨c<48∨(58≤c∧c≤64)∨(91≤c∧c≤96)∨123≤c:=by omega
 have hi:=fun W=>Tryd.strings_IndexByte ⟨#[95,45,46,47,58]⟩ c W
 rcases hc with ⟨h,h'⟩|⟨h,h'⟩|⟨h,h'⟩|h|⟨h,h'⟩|⟨h,h'⟩|h
 ·have e:plainB c=true:=by unfold plainB;rw [decide_eq_true h,decide_eq_true h'];rfl
  rw [e]
  have da:decide (97≤c)=true:=decide_eq_true h
  have db:decide (c≤122)=true:=decide_eq_true h'
  clear e hi
  go_enter Tryd.func58,Tryd.ntmps58
  go_wp2
  go_ret
  exact ⟨rfl,rfl⟩
 ·have e:plainB c=true:=by unfold plainB;rw [decide_eq_true h,decide_eq_true h'];simp
  rw [e]
  have da:decide (97≤c)=false:=by simp;omega
  have db:decide (65≤c)=true:=decide_eq_true h
  have dc:decide (c≤90)=true:=decide_eq_true h'
  clear e hi
  go_enter Tryd.func58,Tryd.ntmps58
  go_wp2
  go_ret
  exact ⟨rfl,rfl⟩
 ·have e:plainB c=true:=by unfold plainB;rw [decide_eq_true h,decide_eq_true h'];simp
  rw [e]
  have da:decide (97≤c)=false:=by simp;omega
  have db:decide (65≤c)=false:=by simp;omega
  have dc:decide (48≤c)=true:=decide_eq_true h
  have dd:decide (c≤57)=true:=decide_eq_true h'
  clear e hi
  go_enter Tryd.func58,Tryd.ntmps58
  go_wp2
  go_ret
  exact ⟨rfl,rfl⟩
 all_goals
  have e:plainB c=signB c:=by
   unfold plainB
   have d1:(decide (97≤c) && decide (c≤122))=false:=by simp;omega
   have d2:(decide (65≤c) && decide (c≤90))=false:=by simp;omega
   have d3:(decide (48≤c) && decide (c≤57))=false:=by simp;omega
   rw [d1,d2,d3]
   simp
  rw [e]
  unfold signB
  have HI:=Aside0.mk hi
  clear e hi
  generalize Lib.indexByte [95,45,46,47,58] c.toNat.toUInt8=q at *
 all_goals
  first
  | (have da:decide (97≤c)=false:=by simp;omega
     have db:decide (65≤c)=false:=by simp;omega
     have dc:decide (48≤c)=false:=by simp;omega
     go_enter Tryd.func58,Tryd.ntmps58
     go_wp2_with (go_at_call 69;refine (HI.out _).mono ?_;rintro e w' ⟨rfl,rfl⟩)
     go_ret
     exact ⟨rfl,rfl⟩)
  | (have da:decide (97≤c)=false:=by simp;omega
     have db:decide (65≤c)=false:=by simp;omega
     have dc:decide (48≤c)=true:=by simp;omega
     have dd:decide (c≤57)=false:=by simp;omega
     go_enter Tryd.func58,Tryd.ntmps58
     go_wp2_with (go_at_call 69;refine (HI.out _).mono ?_;rintro e w' ⟨rfl,rfl⟩)
     go_ret
     exact ⟨rfl,rfl⟩)
  | (have da:decide (97≤c)=false:=by simp;omega
     have db:decide (65≤c)=true:=by simp;omega
     have dc:decide (c≤90)=false:=by simp;omega
     have dd:decide (48≤c)=true:=by simp;omega
     have de:decide (c≤57)=false:=by simp;omega
     go_enter Tryd.func58,Tryd.ntmps58
     go_wp2_with (go_at_call 69;refine (HI.out _).mono ?_;rintro e w' ⟨rfl,rfl⟩)
     go_ret
     exact ⟨rfl,rfl⟩)
  | (have da:decide (97≤c)=true:=by simp;omega
     have db:decide (c≤122)=false:=by simp;omega
     have dc:decide (65≤c)=true:=by simp;omega
     have dd:decide (c≤90)=false:=by simp;omega
     have de:decide (48≤c)=true:=by simp;omega
     have df:decide (c≤57)=false:=by simp;omega
     go_enter Tryd.func58,Tryd.ntmps58
     go_wp2_with (go_at_call 69;refine (HI.out _).mono ?_;rintro e w' ⟨rfl,rfl⟩)
     go_ret
     exact ⟨rfl,rfl⟩)
theorem unplain_any:Tells 57 (fun c=>!plainB c):=by
 refine ⟨.inr rfl,?_⟩
 intro c h0 h1 w
 show Calls _ _ _ _ fun e w'=>e=.returned (.bool (!plainB c))∧w'=w
 have hc:=fun W=>plain_any c h0 h1 W
 generalize plainB c=q at *
 have HC:=Aside0.mk hc
 clear hc
 go_enter Tryd.func57,Tryd.ntmps57
 go_wp2_with (go_at_call 58;refine (HC.out _).mono ?_;rintro e w' ⟨rfl,rfl⟩)
 go_ret
 exact ⟨rfl,rfl⟩
end Go.Proofs.YtnbbfjddjmklpaaDoor.P

/- label.value: may a value be? matcher.word: may a word be? Conditions: none. -/
namespace Go.Proofs.YtnbbfjddjmklpaaDoor.P
open Go.RowKit Go.Proofs.YtnbbfjddjmklpaaDoorW.PrintWords Go.Proofs.YtnbbfjddjmklpaaDoorW.PrintLast Go.Proofs.YtnbbfjddjmklpaaDoorW.PrintMore
set_option linter.unusedSimpArgs false
set_option linter.unusedVariables false

def valB (s:ByteArray):Bool:=decide (s.size≠0) && decide (s.size≤64) && !(bytesOf s).any unprB
theorem empty_of (s:ByteArray) (hz:s.size=0):s=ByteArray.empty:=by
 apply ByteArray.ext
 apply Array.ext'
 exact List.length_eq_zero_iff.1 (by rw [data_length];exact hz)
set_option maxHeartbeats 1000000 in
theorem value_any (s:ByteArray) (w:World):Calls Tryd.prog 67 #[.string s] w fun e w'=>e=.returned (.bool (valB s))∧Below w.heap.size w w':=by
 by_cases hz:s.size=0
 ·have e:valB s=false:=by unfold valB;simp [hz]
  obtain rfl:=empty_of s hz
  have HE:=Aside0.mk e
  clear e hz
  go_enter Tryd.func67,Tryd.ntmps67
  go_wp2
  go_ret
  exact ⟨congrArg (fun b:Bool=>Ending.returned (.bool b)) HE.out.symm,Below.refl _ _⟩
 have z0:¬ s.toList=[]:=fun h=>hz (by rw [← data_length,← ByteArray.toList_eq,h];rfl)
 have z1:(s.toList == ([]:List UInt8))=false:=beq_eq_false_iff_ne.2 z0
 have z2:(s.toList != ([]:List UInt8))=true:=bne_iff_ne.2 z0
 by_cases hs:s.size≤64
 ·have e:valB s=!(bytesOf s).any unprB:=by unfold valB;simp [hz,hs]
  have hcv:=fun W=>Lib.run_convert_string_bytes (P:=Tryd.prog) W 9 67 5 s Tryd.underlying9 Tryd.underlying67 Tryd.underlying5
  have hcall:=fun W g cap hg=>text_bytes _ _ unpr_any s W g cap hg hs
  have d1:decide ((s.size:Int)≤64)=true:=decide_eq_true (by omega)
  rw [e]
  generalize (bytesOf s).any unprB=q at *
  have HCALL:=Aside0.mk hcall
  clear hcall e hz
  go_enter Tryd.func67,Tryd.ntmps67
  go_wp2_with (go_at_call 56;refine (HCALL.out _ _ _ (by simp)).mono ?_;rintro e w' ⟨rfl,rfl⟩)
  go_ret
  exact ⟨rfl,bytes_below (Below.refl _ _) (Nat.le_refl _) _ _⟩
 ·have e:valB s=false:=by unfold valB;simp [hz,hs]
  have HE:=Aside0.mk e
  have d1:decide ((s.size:Int)≤64)=false:=decide_eq_false (by omega)
  clear e hz
  go_enter Tryd.func67,Tryd.ntmps67
  go_wp2
  go_ret
  exact ⟨congrArg (fun b:Bool=>Ending.returned (.bool b)) HE.out.symm,Below.refl _ _⟩
def label_value.f (a0:ByteArray):Option Bool:=some (valB a0)
theorem label_value.calls (a0:ByteArray) (r:Bool) (w:World) (h:label_value.f a0=some r):Calls Tryd.prog 67 #[.string a0] w fun e w'=>e=.returned (.bool r)∧Below w.heap.size w w':=by
 obtain rfl:=Option.some.inj h
 exact value_any a0 w
def wordB (s:ByteArray):Bool:=decide (s.size≤64) && !(bytesOf s).any (fun c=>!plainB c)
set_option maxHeartbeats 1000000 in
theorem word_any (s:ByteArray) (w:World):Calls Tryd.prog 40 #[.string s] w fun e w'=>e=.returned (.bool (wordB s))∧Below w.heap.size w w':=by
 by_cases hs:s.size≤64
 ·have e:wordB s=!(bytesOf s).any (fun c=>!plainB c):=by unfold wordB;simp [hs]
  have hcv:=fun W=>Lib.run_convert_string_bytes (P:=Tryd.prog) W 9 67 5 s Tryd.underlying9 Tryd.underlying67 Tryd.underlying5
  have hcall:=fun W g cap hg=>text_bytes _ _ unplain_any s W g cap hg hs
  have d1:decide ((s.size:Int)≤64)=true:=decide_eq_true (by omega)
  rw [e]
  generalize (bytesOf s).any (fun c=>!plainB c)=q at *
  have HCALL:=Aside0.mk hcall
  clear hcall e
  go_enter Tryd.func40,Tryd.ntmps40
  go_wp2_with (go_at_call 56;refine (HCALL.out _ _ _ (by simp)).mono ?_;rintro e w' ⟨rfl,rfl⟩)
  go_ret
  exact ⟨rfl,bytes_below (Below.refl _ _) (Nat.le_refl _) _ _⟩
 ·have e:wordB s=false:=by unfold wordB;simp [hs]
  have HE:=Aside0.mk e
  have d1:decide ((s.size:Int)≤64)=false:=decide_eq_false (by omega)
  clear e
  go_enter Tryd.func40,Tryd.ntmps40
  go_wp2
  go_ret
  exact ⟨congrArg (fun b:Bool=>Ending.returned (.bool b)) HE.out.symm,Below.refl _ _⟩
def matcher_word.f (a0:ByteArray):Option Bool:=some (wordB a0)
theorem matcher_word.calls (a0:ByteArray) (r:Bool) (w:World) (h:matcher_word.f a0=some r):Calls Tryd.prog 40 #[.string a0] w fun e w'=>e=.returned (.bool r)∧Below w.heap.size w w':=by
 obtain rfl:=Option.some.inj h
 exact word_any a0 w
end Go.Proofs.YtnbbfjddjmklpaaDoor.P
