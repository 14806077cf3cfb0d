/- The one statement about numbers and lists that is left of the law RelocBack, behind its walk. -/
import Derived.Test.YtkjmecbbdccfoaaX6
import Derived.Test.YtkjmecbbdccfoaaXO
namespace Go.Proofs.Ytkjmecbbdccfoaa.X
open Go.RowKit Go.Proofs.YtkjmecbbdccfoaaW.PrintWords Go.Proofs.YtkjmecbbdccfoaaW.PrintLast Go.Proofs.YtkjmecbbdccfoaaW.PrintMore
namespace RelocBack
def wf23 (x : S23) : Prop := (XO.wfI .i64) x.f0 ∧ (XO.wfI .i64) x.f1 ∧ (XO.wfI .i64) x.f2 ∧ (XO.wfI .i64) x.f3
def flyleaflaw11_RelocBack.Pure : Prop := ∀ (x0 : List (S23)) (x1 : Int), (XO.wfL wf23) x0 → (XO.wfI .i64) x1 → ∃ k, flyleaflaw11_RelocBack.f k x0 x1 = some true
end RelocBack
end Go.Proofs.Ytkjmecbbdccfoaa.X
