/- What is known of the functions of this chapter. -/
import Derived.Test.YtgljofdhdnhekaaL1V
import Derived.Test.YtgljofdhdnhekaaProg
import Derived.KernelRfl
namespace Go.Proofs.Ytgljofdhdnhekaa.L
open Go.L1 Go.IntWalk
set_option linter.unusedVariables false
def T : Tb := tb [3, 4, 5, 6, 7, 8, 9, 10, 11, 12, 13, 14, 15, 16, 17, 18, 19, 20, 21, 22, 23, 24, 25] [7, 8, 9, 10, 11, 12, 13, 14, 15, 16, 17, 18, 23, 24] [12, 14] [7, 8, 9, 10, 11, 13, 15, 16, 17, 18, 23, 24]
theorem tabok : ∀ C : Cx, C.P = Try.prog → TbOk C T := tb_ok (by kernel_rfl) (by kernel_rfl)
end Go.Proofs.Ytgljofdhdnhekaa.L

