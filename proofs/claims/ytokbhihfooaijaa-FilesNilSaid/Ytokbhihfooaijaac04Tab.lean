/- What is known of the functions of this chapter. -/
import Derived.Test.YtokbhihfooaijaashC
import Derived.Test.YtokbhihfooaijaaProg
import Derived.KernelRfl
namespace Go.Proofs.Ytokbhihfooaijaa.L
open Go.L1 Go.IntWalk
set_option linter.unusedVariables false
def ext : FuncId → Option (List Value → Hp → Option (Ending × Hp)) := fun F => if F = 62 then some idExt else if F = 45 then some repExt else if F = 59 then some ixExt else if F = 36 then some hasExt else none
def T : Tb := tbx [0, 1, 2, 3, 4, 5, 6, 7, 8, 9, 10, 11, 12, 13, 14, 15, 16, 17, 18, 19, 20, 21, 22, 23, 24, 25, 26, 27, 28, 29, 30, 31, 32, 33, 34, 35, 36, 37, 38, 39, 40, 41, 42, 43, 44, 45, 46, 47, 48, 49, 50, 51, 52, 53, 54, 55, 56, 57, 58, 60, 61, 62, 63, 64, 65, 66, 67, 68, 69, 70, 71, 72, 73, 74, 75, 76, 77, 78, 79, 80, 81, 82, 83, 84, 85, 86, 87, 88, 89, 90, 91, 92, 93]
  [9, 14, 15, 21, 22, 23, 25, 26, 28, 30, 31, 32, 34, 35, 36, 38, 39, 45, 47, 48, 52, 53, 59, 60, 61, 71]
  [14, 15, 21, 22, 23, 25, 26, 28, 30, 31, 32, 34, 35, 36, 38, 39, 45, 47, 48, 52, 53, 59, 60, 61, 71] [] ext
theorem tabok : ∀ C : Cx, C.P = Try.prog → TbOk C T := tbx_ok (by kernel_rfl) (by kernel_rfl) (fun C hC F g hg args H e H' h => by
  unfold ext at hg
  split at hg
  · rename_i hF
    subst hF
    cases hg
    exact id_ok Try.func62 (by kernel_rfl) (by kernel_rfl) (by kernel_rfl) (by kernel_rfl) hC h
  · split at hg
    · rename_i hF
      subst hF
      cases hg
      exact rep_ok hC h
    · split at hg
      · rename_i hF
        subst hF
        cases hg
        exact ix_ok hC h
      · split at hg
        · rename_i hF
          subst hF
          cases hg
          exact has_ok hC h
        · cases hg)
end Go.Proofs.Ytokbhihfooaijaa.L

