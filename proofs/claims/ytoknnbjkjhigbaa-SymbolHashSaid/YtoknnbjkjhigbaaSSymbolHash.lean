/- The one statement about numbers and lists that is left of the law SymbolHash, behind its walk. -/
import Derived.Test.YtoknnbjkjhigbaaX2
import Derived.Test.YtoknnbjkjhigbaaXO
namespace Go.Proofs.Ytoknnbjkjhigbaa.X
open Go.RowKit Go.Proofs.YtoknnbjkjhigbaaW.PrintWords Go.Proofs.YtoknnbjkjhigbaaW.PrintLast Go.Proofs.YtoknnbjkjhigbaaW.PrintMore
namespace SymbolHash
def flyleaflaw10_SymbolHash.Pure : Prop := ∀ (x0 : ByteArray), x0.size ≤ 140737488351232 → ∃ k, flyleaflaw10_SymbolHash.f k x0 = some true
end SymbolHash
end Go.Proofs.Ytoknnbjkjhigbaa.X
