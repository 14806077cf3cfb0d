/- What is known of the functions of this chapter. -/
import Derived.Test.YthfhlfkcphojkaaL1W
import Derived.Test.YthfhlfkcphojkaaProg
import Derived.KernelRfl
namespace Go.Proofs.Ythfhlfkcphojkaa.L
open Go.L1 Go.IntWalk
set_option linter.unusedVariables false
def T : Tb := tb [3, 4, 5, 6, 7, 8, 9, 10, 11, 12, 13, 14, 15, 16, 17, 18, 19, 20, 21, 22, 23, 24, 25] [7, 9, 10, 11, 12, 13, 14, 15, 16, 17, 18, 19, 20, 21, 22, 23, 24] [12, 13, 16, 18, 20, 21, 22, 24] [7, 9, 10, 11, 14, 15, 17, 19]
theorem tabok : ∀ C : Cx, C.P = Try.prog → TbOk C T := tb_ok (by kernel_rfl) (by kernel_rfl)
end Go.Proofs.Ythfhlfkcphojkaa.L

