/- The one statement about numbers and lists that is left of the law OctetRound, behind its walk. -/
import Derived.Test.YtopbkfgeidnleaaX1
import Derived.Test.YtopbkfgeidnleaaXO
namespace Go.Proofs.Ytopbkfgeidnleaa.X
open Go.RowKit Go.Proofs.YtopbkfgeidnleaaW.PrintWords Go.Proofs.YtopbkfgeidnleaaW.PrintLast Go.Proofs.YtopbkfgeidnleaaW.PrintMore
namespace OctetRound
def flyleaflaw01_OctetRound.Pure : Prop := ∀ (x0 : Int) (x1 : Int), (XO.wfI .i64) x0 → (XO.wfI .i64) x1 → ∃ k, flyleaflaw01_OctetRound.f k x0 x1 = some true
end OctetRound
end Go.Proofs.Ytopbkfgeidnleaa.X
