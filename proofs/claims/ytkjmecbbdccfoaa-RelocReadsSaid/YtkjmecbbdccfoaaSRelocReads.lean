/- The one statement about numbers and lists that is left of the law RelocReads, behind its walk. -/
import Derived.Test.YtkjmecbbdccfoaaX11
import Derived.Test.YtkjmecbbdccfoaaXO
namespace Go.Proofs.Ytkjmecbbdccfoaa.X
open Go.RowKit Go.Proofs.YtkjmecbbdccfoaaW.PrintWords Go.Proofs.YtkjmecbbdccfoaaW.PrintLast Go.Proofs.YtkjmecbbdccfoaaW.PrintMore
namespace RelocReads
def wf23 (x : S23) : Prop := (XO.wfI .i64) x.f0 ∧ (XO.wfI .i64) x.f1 ∧ (XO.wfI .i64) x.f2 ∧ (XO.wfI .i64) x.f3
def wf36 (x : S36) : Prop := (XO.wfI .i64) x.f0 ∧ (XO.wfI .i64) x.f1
def flyleaflaw11_RelocReads.Pure : Prop := ∀ (x0 : List (S23)) (x1 : ByteArray) (x2 : S36), (XO.wfL wf23) x0 → x1.size ≤ 140737488351232 → wf36 x2 → ∃ k, flyleaflaw11_RelocReads.f k x0 x1 x2.f0 x2.f1 = some true
end RelocReads
end Go.Proofs.Ytkjmecbbdccfoaa.X
