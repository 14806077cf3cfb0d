/- The one statement about numbers and lists that is left of the law RelocKinds, behind its walk. -/
import Derived.Test.YtkjmecbbdccfoaaX12
import Derived.Test.YtkjmecbbdccfoaaXO
namespace Go.Proofs.Ytkjmecbbdccfoaa.X
open Go.RowKit Go.Proofs.YtkjmecbbdccfoaaW.PrintWords Go.Proofs.YtkjmecbbdccfoaaW.PrintLast Go.Proofs.YtkjmecbbdccfoaaW.PrintMore
namespace RelocKinds
def flyleaflaw11_RelocKinds.Pure : Prop := ∀ (x0 : Int) (x1 : Int) (x2 : Int), (XO.wfI .i64) x0 → (XO.wfI .i64) x1 → (XO.wfI .i64) x2 → ∃ k, flyleaflaw11_RelocKinds.f k x0 x1 x2 = some true
end RelocKinds
end Go.Proofs.Ytkjmecbbdccfoaa.X
