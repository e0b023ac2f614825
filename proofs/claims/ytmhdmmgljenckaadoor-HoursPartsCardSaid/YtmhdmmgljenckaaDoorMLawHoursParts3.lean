/- What these functions of the program and of the plain reference compute, and plain lemmas on it: PureHoursParts. Conditions: as each lemma says. -/
import Derived.Test.YtmhdmmgljenckaaDoorMLawHoursParts2
/- Hours that are parted have just the ticks of both parts. Conditions: none. -/
set_option linter.unusedVariables false
namespace Go.Proofs.YtmhdmmgljenckaaDoor.Pure
open Go.RowKit Go.Proofs.YtmhdmmgljenckaaDoor.P Go.Proofs.YtmhdmmgljenckaaDoorW.PrintWords Go.Proofs.YtmhdmmgljenckaaDoorW.PrintLast Go.Proofs.YtmhdmmgljenckaaDoorW.PrintMore
theorem HoursParts (nm:ByteArray) (d f t:Int) (a1 a2 a3:Int) (ws:nm.size≤maxLen) (w1:(Lit.int .i64 d).wf=true) (w2:(Lit.int .i64 f).wf=true) (w3:(Lit.int .i64 t).wf=true) (w4:(Lit.int .i64 a1).wf=true) (w5:(Lit.int .i64 a2).wf=true) (w6:(Lit.int .i64 a3).wf=true) :
  ∃ k,transhipmentlaw07_HoursParts.f k nm d f t a1 a2 a3=some true:=⟨0,rfl⟩
end Go.Proofs.YtmhdmmgljenckaaDoor.Pure
