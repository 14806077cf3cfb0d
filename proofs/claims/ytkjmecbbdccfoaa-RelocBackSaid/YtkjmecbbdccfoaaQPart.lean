/- Parts of a text: what Part comes to, of the program and of the reference. -/
import Derived.Test.YtkjmecbbdccfoaaQNum
import Derived.Test.YtkjmecbbdccfoaaX0
import Derived.Test.YtkjmecbbdccfoaaX1
import Derived.Test.YtkjmecbbdccfoaaX2
import Derived.Test.YtkjmecbbdccfoaaX3
import Derived.Test.YtkjmecbbdccfoaaX4
import Derived.Test.YtkjmecbbdccfoaaX5
import Derived.Test.YtkjmecbbdccfoaaX6
namespace Go.Proofs.Ytkjmecbbdccfoaa.X
open Go.RowKit Go.Proofs.YtkjmecbbdccfoaaW.PrintWords Go.Proofs.YtkjmecbbdccfoaaW.PrintLast Go.Proofs.YtkjmecbbdccfoaaW.PrintMore
namespace Oct
def noneB : ByteArray := ⟨#[]⟩
def partV (s : ByteArray) (a n : Int) : ByteArray × Bool := if 0 ≤ a ∧ 0 ≤ n ∧ a ≤ (s.size : Int) ∧ n ≤ (s.size : Int) - a then (s.extract a.toNat (a + n).toNat, true) else (noneB, false)
theorem part_f (s : ByteArray) (a n : Int) (hz : (s.size : Int) ≤ 9223372036854775807) : octet_Part.f s a n = some (partV s a n) := by
  unfold octet_Part.f partV
  rw [within_f a n s.size (by omega) hz]
  simp only [Option.bind_some]
  by_cases h : 0 ≤ a ∧ 0 ≤ n ∧ a ≤ (s.size : Int) ∧ n ≤ (s.size : Int) - a
  · rw [if_pos (decide_eq_true h), if_pos h, if_pos (by omega), PB.wrap_ok (a + n) (by omega) (by omega), if_pos (by omega), if_pos (by omega)]
  · rw [if_neg (by simpa using h), if_neg h]
    rfl
end Oct
end Go.Proofs.Ytkjmecbbdccfoaa.X
