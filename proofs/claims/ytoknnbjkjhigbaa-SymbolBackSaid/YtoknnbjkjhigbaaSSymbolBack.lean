/- The one statement about numbers and lists that is left of the law SymbolBack, behind its walk. -/
import Derived.Test.YtoknnbjkjhigbaaX8
import Derived.Test.YtoknnbjkjhigbaaXO
namespace Go.Proofs.Ytoknnbjkjhigbaa.X
open Go.RowKit Go.Proofs.YtoknnbjkjhigbaaW.PrintWords Go.Proofs.YtoknnbjkjhigbaaW.PrintLast Go.Proofs.YtoknnbjkjhigbaaW.PrintMore
namespace SymbolBack
def wf37 (x : S37) : Prop := (XO.wfI .i64) x.f0 ∧ XO.wfB x.f1 ∧ (XO.wfI .i64) x.f2
def flyleaflaw10_SymbolBack.Pure : Prop := ∀ (x0 : S37) (x1 : Int), wf37 x0 → (XO.wfI .i64) x1 → ∃ k, flyleaflaw10_SymbolBack.f k x0.f0 x0.f1 x0.f2 x1 = some true
end SymbolBack
end Go.Proofs.Ytoknnbjkjhigbaa.X
