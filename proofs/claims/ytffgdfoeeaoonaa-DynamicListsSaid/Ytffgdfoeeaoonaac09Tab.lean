/- What is known of the functions of this chapter. -/
import Derived.Test.YtffgdfoeeaoonaaL1U
import Derived.Test.YtffgdfoeeaoonaaProg
import Derived.KernelRfl
namespace Go.Proofs.Ytffgdfoeeaoonaa.L
open Go.L1 Go.IntWalk
set_option linter.unusedVariables false
def ext : FuncId → Option (List Value → Hp → Option (Ending × Hp)) := fun F => if F = 28 then some idExt else none
def T : Tb := tbx [3, 4, 5, 6, 7, 8, 9, 10, 11, 12, 13, 14, 15, 16, 17, 18, 19, 20, 21, 22, 23, 24, 25, 26, 27] [7, 8, 9, 10, 11, 12, 13, 14, 15, 16, 17, 18, 21, 23, 24, 25, 27] [10, 12, 13, 17, 18, 21, 24, 25, 27] [7, 8, 9, 11, 14, 15, 16, 23] ext
theorem tabok : ∀ C : Cx, C.P = Try.prog → TbOk C T := tbx_ok (by kernel_rfl) (by kernel_rfl) (fun C hC F g hg args H e H' h => by
  unfold ext at hg
  split at hg
  · rename_i hF
    subst hF
    cases hg
    exact id_ok Try.func28 (by kernel_rfl) (by kernel_rfl) (by kernel_rfl) (by kernel_rfl) hC h
  · cases hg)
end Go.Proofs.Ytffgdfoeeaoonaa.L

