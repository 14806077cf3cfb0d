/- The one statement about numbers and lists that is left of the law OctetTexts, behind its walk. -/
import Derived.Test.YtopbkfgeidnleaaX5
import Derived.Test.YtopbkfgeidnleaaXO
namespace Go.Proofs.Ytopbkfgeidnleaa.X
open Go.RowKit Go.Proofs.YtopbkfgeidnleaaW.PrintWords Go.Proofs.YtopbkfgeidnleaaW.PrintLast Go.Proofs.YtopbkfgeidnleaaW.PrintMore
namespace OctetTexts
def flyleaflaw01_OctetTexts.Pure : Prop := ∀ (x0 : ByteArray) (x1 : Int) (x2 : ByteArray), x0.size ≤ 140737488351232 → (XO.wfI .i64) x1 → x2.size ≤ 140737488351232 → ∃ k, flyleaflaw01_OctetTexts.f k x0 x1 x2 = some true
end OctetTexts
end Go.Proofs.Ytopbkfgeidnleaa.X
