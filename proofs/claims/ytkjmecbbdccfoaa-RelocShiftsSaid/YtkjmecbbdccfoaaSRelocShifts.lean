/- The one statement about numbers and lists that is left of the law RelocShifts, behind its walk. -/
import Derived.Test.YtkjmecbbdccfoaaX3
import Derived.Test.YtkjmecbbdccfoaaXO
namespace Go.Proofs.Ytkjmecbbdccfoaa.X
open Go.RowKit Go.Proofs.YtkjmecbbdccfoaaW.PrintWords Go.Proofs.YtkjmecbbdccfoaaW.PrintLast Go.Proofs.YtkjmecbbdccfoaaW.PrintMore
namespace RelocShifts
def wf23 (x : S23) : Prop := (XO.wfI .i64) x.f0 ∧ (XO.wfI .i64) x.f1 ∧ (XO.wfI .i64) x.f2 ∧ (XO.wfI .i64) x.f3
def wf24 (x : S24) : Prop := (XO.wfI .i64) x.f0 ∧ (XO.wfI .i64) x.f1 ∧ (XO.wfI .i64) x.f2
def flyleaflaw11_RelocShifts.Pure : Prop := ∀ (x0 : S23) (x1 : S24), wf23 x0 → wf24 x1 → ∃ k, flyleaflaw11_RelocShifts.f k x0.f0 x0.f1 x0.f2 x0.f3 x1.f0 x1.f1 x1.f2 = some true
end RelocShifts
end Go.Proofs.Ytkjmecbbdccfoaa.X
