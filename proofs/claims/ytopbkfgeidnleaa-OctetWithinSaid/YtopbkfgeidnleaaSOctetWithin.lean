/- The one statement about numbers and lists that is left of the law OctetWithin, behind its walk. -/
import Derived.Test.YtopbkfgeidnleaaX2
import Derived.Test.YtopbkfgeidnleaaXO
namespace Go.Proofs.Ytopbkfgeidnleaa.X
open Go.RowKit Go.Proofs.YtopbkfgeidnleaaW.PrintWords Go.Proofs.YtopbkfgeidnleaaW.PrintLast Go.Proofs.YtopbkfgeidnleaaW.PrintMore
namespace OctetWithin
def wf26 (x : S26) : Prop := (XO.wfI .i64) x.f0 ∧ (XO.wfI .i64) x.f1 ∧ (XO.wfI .i64) x.f2
def flyleaflaw01_OctetWithin.Pure : Prop := ∀ (x0 : S26), wf26 x0 → ∃ k, flyleaflaw01_OctetWithin.f k x0.f0 x0.f1 x0.f2 = some true
end OctetWithin
end Go.Proofs.Ytopbkfgeidnleaa.X
