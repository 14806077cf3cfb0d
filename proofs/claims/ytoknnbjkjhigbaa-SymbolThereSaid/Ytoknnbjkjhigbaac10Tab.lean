/- What is known of the functions of this chapter. -/
import Derived.Test.Ytoknnbjkjhigbaac08S
import Derived.Test.YtoknnbjkjhigbaaProg
import Derived.KernelRfl
namespace Go.Proofs.Ytoknnbjkjhigbaa.L
open Go.L1 Go.IntWalk
set_option linter.unusedVariables false
def ext : FuncId → Option (List Value → Hp → Option (Ending × Hp)) := fun F => if F = 39 then some idExt else if F = 38 then some repExt else none
def T : Tb := tbx [3, 4, 5, 6, 7, 8, 9, 10, 11, 12, 13, 14, 15, 16, 17, 18, 19, 20, 21, 22, 23, 24, 25, 26, 27, 28, 29, 30, 31, 32, 33, 34, 35, 36, 37, 39]
  [7, 8, 9, 10, 11, 12, 13, 14, 15, 16, 17, 18, 19, 21, 22, 24, 25, 27, 29, 30, 31, 32, 34, 36, 37, 39]
  [8, 9, 16, 17, 18, 19, 21, 22, 27, 29, 30, 31, 32, 34, 36, 37, 38, 39] [7, 10, 11, 12, 13, 14, 15, 24, 25] ext
theorem tabok : ∀ C : Cx, C.P = Try.prog → TbOk C T := tbx_ok (by kernel_rfl) (by kernel_rfl) (fun C hC F g hg args H e H' h => by
  unfold ext at hg
  split at hg
  · rename_i hF
    subst hF
    cases hg
    exact id_ok Try.func39 (by kernel_rfl) (by kernel_rfl) (by kernel_rfl) (by kernel_rfl) hC h
  · split at hg
    · rename_i hF
      subst hF
      cases hg
      exact rep_ok hC h
    · cases hg)
end Go.Proofs.Ytoknnbjkjhigbaa.L

