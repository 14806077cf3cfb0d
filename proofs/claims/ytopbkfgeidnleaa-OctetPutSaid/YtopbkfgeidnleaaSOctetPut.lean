/- The one statement about numbers and lists that is left of the law OctetPut, behind its walk. -/
import Derived.Test.YtopbkfgeidnleaaX2
import Derived.Test.YtopbkfgeidnleaaXO
namespace Go.Proofs.Ytopbkfgeidnleaa.X
open Go.RowKit Go.Proofs.YtopbkfgeidnleaaW.PrintWords Go.Proofs.YtopbkfgeidnleaaW.PrintLast Go.Proofs.YtopbkfgeidnleaaW.PrintMore
namespace OctetPut
def flyleaflaw01_OctetPut.Pure : Prop := ∀ (x0 : Int) (x1 : Int) (x2 : Int), (XO.wfI .u64) x0 → (XO.wfI .i64) x1 → (XO.wfI .i64) x2 → ∃ k, flyleaflaw01_OctetPut.f k x0 x1 x2 = some true
end OctetPut
end Go.Proofs.Ytopbkfgeidnleaa.X
