/- Numbers in bytes: the reference. -/
import Derived.Test.YtkjmecbbdccfoaaQNum
import Derived.Test.YtkjmecbbdccfoaaX0
import Derived.Test.YtkjmecbbdccfoaaX1
import Derived.Test.YtkjmecbbdccfoaaX2
import Derived.Test.YtkjmecbbdccfoaaX3
import Derived.Test.YtkjmecbbdccfoaaX4
import Derived.Test.YtkjmecbbdccfoaaX5
import Derived.Test.YtkjmecbbdccfoaaX6
namespace Go.Proofs.Ytkjmecbbdccfoaa.X
open Go.RowKit Go.Proofs.YtkjmecbbdccfoaaW.PrintWords Go.Proofs.YtkjmecbbdccfoaaW.PrintLast Go.Proofs.YtkjmecbbdccfoaaW.PrintMore
namespace Oct
/-- The same from above: the bytes from place i on, as far as w. -/
def tv (s : ByteArray) (a : Int) (w : Nat) : Nat → Int
  | 0 => 0
  | d + 1 => tv s a w d * 256 + bt s (a + ((w - (d + 1) : Nat) : Int))
theorem tv_range (s : ByteArray) (a : Int) (w : Nat) : ∀ d, 0 ≤ tv s a w d ∧ tv s a w d < 256 ^ d
  | 0 => ⟨Int.le_refl _, show (0 : Int) < 256 ^ 0 by decide⟩
  | d + 1 => by
    obtain ⟨h0, h1⟩ := tv_range s a w d
    obtain ⟨b0, b1⟩ := bt_range s (a + ((w - (d + 1) : Nat) : Int))
    have e : (256 : Int) ^ (d + 1) = 256 ^ d * 256 := Int.pow_succ _ _
    simp only [tv]
    omega
theorem gv_tv (s : ByteArray) (a : Int) (w : Nat) : ∀ d, d ≤ w → gv s a w = gv s a (w - d) + 256 ^ (w - d) * tv s a w d
  | 0, _ => by simp [tv]
  | d + 1, h => by
    rw [gv_tv s a w d (by omega)]
    obtain ⟨m, hm⟩ : ∃ m, w - d = m + 1 := ⟨w - d - 1, by omega⟩
    have hm' : w - (d + 1) = m := by omega
    rw [hm, hm']
    simp only [gv, tv, hm']
    have e : (256 : Int) ^ (m + 1) = 256 ^ m * 256 := Int.pow_succ _ _
    rw [e, Int.mul_add, Int.mul_comm (bt s (a + (m : Int))) (256 ^ m), show (256 : Int) ^ m * 256 * tv s a w d = 256 ^ m * (tv s a w d * 256) by rw [Int.mul_assoc, Int.mul_comm 256 (tv s a w d)]]
    omega
end Oct
end Go.Proofs.Ytkjmecbbdccfoaa.X
