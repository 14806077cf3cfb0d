/- The one statement about numbers and lists that is left of the law RelocValues, behind its walk. -/
import Derived.Test.YtkjmecbbdccfoaaX4
import Derived.Test.YtkjmecbbdccfoaaXO
namespace Go.Proofs.Ytkjmecbbdccfoaa.X
open Go.RowKit Go.Proofs.YtkjmecbbdccfoaaW.PrintWords Go.Proofs.YtkjmecbbdccfoaaW.PrintLast Go.Proofs.YtkjmecbbdccfoaaW.PrintMore
namespace RelocValues
def wf23 (x : S23) : Prop := (XO.wfI .i64) x.f0 ∧ (XO.wfI .i64) x.f1 ∧ (XO.wfI .i64) x.f2 ∧ (XO.wfI .i64) x.f3
def flyleaflaw11_RelocValues.Pure : Prop := ∀ (x0 : S23) (x1 : Int) (x2 : Int), wf23 x0 → (XO.wfI .i64) x1 → (XO.wfI .i64) x2 → ∃ k, flyleaflaw11_RelocValues.f k x0.f0 x0.f1 x0.f2 x0.f3 x1 x2 = some true
end RelocValues
end Go.Proofs.Ytkjmecbbdccfoaa.X
