/- The one statement about numbers and lists that is left of the law OctetParts, behind its walk. -/
import Derived.Test.YtopbkfgeidnleaaX7
import Derived.Test.YtopbkfgeidnleaaXO
namespace Go.Proofs.Ytopbkfgeidnleaa.X
open Go.RowKit Go.Proofs.YtopbkfgeidnleaaW.PrintWords Go.Proofs.YtopbkfgeidnleaaW.PrintLast Go.Proofs.YtopbkfgeidnleaaW.PrintMore
namespace OctetParts
def wf26 (x : S26) : Prop := (XO.wfI .i64) x.f0 ∧ (XO.wfI .i64) x.f1 ∧ (XO.wfI .i64) x.f2
def flyleaflaw01_OctetParts.Pure : Prop := ∀ (x0 : ByteArray) (x1 : S26) (x2 : Int), x0.size ≤ 140737488351232 → wf26 x1 → (XO.wfI .i64) x2 → ∃ k, flyleaflaw01_OctetParts.f k x0 x1.f0 x1.f1 x1.f2 x2 = some true
end OctetParts
end Go.Proofs.Ytopbkfgeidnleaa.X
