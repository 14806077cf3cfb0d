/- The one statement about numbers and lists that is left of the law RelocOrder, behind its walk. -/
import Derived.Test.YtkjmecbbdccfoaaX11
import Derived.Test.YtkjmecbbdccfoaaXO
namespace Go.Proofs.Ytkjmecbbdccfoaa.X
open Go.RowKit Go.Proofs.YtkjmecbbdccfoaaW.PrintWords Go.Proofs.YtkjmecbbdccfoaaW.PrintLast Go.Proofs.YtkjmecbbdccfoaaW.PrintMore
namespace RelocOrder
def flyleaflaw11_RelocOrder.Pure : Prop := ∀ (x0 : Int) (x1 : Int), (XO.wfI .i64) x0 → (XO.wfI .i64) x1 → ∃ k, flyleaflaw11_RelocOrder.f k x0 x1 = some true
end RelocOrder
end Go.Proofs.Ytkjmecbbdccfoaa.X
