/- The one statement about numbers and lists that is left of the law OctetBack, behind its walk. -/
import Derived.Test.YtopbkfgeidnleaaX4
import Derived.Test.YtopbkfgeidnleaaXO
namespace Go.Proofs.Ytopbkfgeidnleaa.X
open Go.RowKit Go.Proofs.YtopbkfgeidnleaaW.PrintWords Go.Proofs.YtopbkfgeidnleaaW.PrintLast Go.Proofs.YtopbkfgeidnleaaW.PrintMore
namespace OctetBack
def wf32 (x : S32) : Prop := (XO.wfI .i64) x.f0 ∧ (XO.wfI .i64) x.f1
def flyleaflaw01_OctetBack.Pure : Prop := ∀ (x0 : ByteArray) (x1 : S32) (x2 : Int), x0.size ≤ 140737488351232 → wf32 x1 → (XO.wfI .u64) x2 → ∃ k, flyleaflaw01_OctetBack.f k x0 x1.f0 x1.f1 x2 = some true
end OctetBack
end Go.Proofs.Ytopbkfgeidnleaa.X
