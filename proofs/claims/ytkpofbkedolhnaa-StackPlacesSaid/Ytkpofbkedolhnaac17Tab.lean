/- What is known of the functions of this chapter. -/
import Derived.Test.YtkpofbkedolhnaashJ
import Derived.Test.YtkpofbkedolhnaaProg
import Derived.KernelRfl
namespace Go.Proofs.Ytkpofbkedolhnaa.L
open Go.L1 Go.IntWalk
set_option linter.unusedVariables false
def ext : FuncId → Option (List Value → Hp → Option (Ending × Hp)) := fun F => if F = 48 then some idExt else if F = 42 then some repExt else if F = 40 then some joinExt else if F = 39 then some hasExt else none
def T : Tb := tbx [3, 4, 5, 6, 8, 9, 10, 11, 12, 13, 14, 15, 17, 18, 19, 20, 21, 22, 23, 24, 25, 26, 27, 28, 29, 30, 31, 32, 33, 41, 43, 44, 45, 48, 51]
  [8, 9, 10, 11, 12, 13, 14, 15, 17, 18, 19, 20, 21, 24, 25, 27, 29, 30, 31, 32, 33, 43, 44, 45, 48, 51]
  [14, 15, 17, 24, 27, 31, 32, 33, 39, 40, 42, 43, 44, 45, 48, 51] [8, 10, 11, 12, 13, 18, 19, 20, 21, 25, 29, 30] ext
theorem tabok : ∀ C : Cx, C.P = Try.prog → TbOk C T := tbx_ok (by kernel_rfl) (by kernel_rfl) (fun C hC F g hg args H e H' h => by
  unfold ext at hg
  split at hg
  · rename_i hF
    subst hF
    cases hg
    exact id_ok Try.func48 (by kernel_rfl) (by kernel_rfl) (by kernel_rfl) (by kernel_rfl) hC h
  · split at hg
    · rename_i hF
      subst hF
      cases hg
      exact rep_ok hC h
    · split at hg
      · rename_i hF
        subst hF
        cases hg
        exact join_ok hC h
      · split at hg
        · rename_i hF
          subst hF
          cases hg
          exact has_ok hC h
        · cases hg)
end Go.Proofs.Ytkpofbkedolhnaa.L

