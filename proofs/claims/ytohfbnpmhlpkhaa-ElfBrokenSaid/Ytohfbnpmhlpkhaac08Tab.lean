/- What is known of the functions of this chapter. -/
import Derived.Test.Ytohfbnpmhlpkhaac08S
import Derived.Test.YtohfbnpmhlpkhaaProg
import Derived.KernelRfl
namespace Go.Proofs.Ytohfbnpmhlpkhaa.L
open Go.L1 Go.IntWalk
set_option linter.unusedVariables false
def ext : FuncId → Option (List Value → Hp → Option (Ending × Hp)) := fun F => if F = 56 then some idExt else if F = 51 then some repExt else none
def T : Tb := tbx [3, 4, 5, 6, 7, 8, 9, 10, 11, 12, 13, 14, 15, 16, 17, 18, 19, 20, 21, 22, 23, 24, 25, 26, 27, 28, 29, 30, 31, 32, 33, 34, 35, 36, 37, 38, 39, 40, 41, 42, 43, 44, 45, 46, 47, 48, 49, 50, 52, 53, 54, 55, 61]
  [10, 11, 12, 13, 14, 15, 16, 17, 18, 19, 20, 21, 22, 23, 24, 25, 26, 27, 28, 29, 31, 32, 34, 35, 36, 37, 38, 39, 40, 41, 42, 43, 44, 45, 46, 47, 48, 50, 52, 53, 54, 55, 61]
  [11, 18, 21, 26, 27, 28, 29, 31, 32, 34, 35, 37, 38, 39, 40, 41, 42, 44, 45, 46, 47, 48, 50, 51, 52, 54, 55, 61] [10, 12, 14, 15, 16, 19, 20, 22, 23, 24, 25, 43] ext
theorem tabok : ∀ C : Cx, C.P = Try.prog → TbOk C T := tbx_ok (by kernel_rfl) (by kernel_rfl) (fun C hC F g hg args H e H' h => by
  unfold ext at hg
  split at hg
  · rename_i hF
    subst hF
    cases hg
    exact id_ok Try.func56 (by kernel_rfl) (by kernel_rfl) (by kernel_rfl) (by kernel_rfl) hC h
  · split at hg
    · rename_i hF
      subst hF
      cases hg
      exact rep_ok hC h
    · cases hg)
end Go.Proofs.Ytohfbnpmhlpkhaa.L

