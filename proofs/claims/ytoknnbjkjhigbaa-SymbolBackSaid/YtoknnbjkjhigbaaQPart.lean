/- Parts of a text: what Part comes to, of the program and of the reference. -/
import Derived.Test.YtoknnbjkjhigbaaQNum
import Derived.Test.YtoknnbjkjhigbaaX0
import Derived.Test.YtoknnbjkjhigbaaX1
import Derived.Test.YtoknnbjkjhigbaaX2
import Derived.Test.YtoknnbjkjhigbaaX3
import Derived.Test.YtoknnbjkjhigbaaX4
import Derived.Test.YtoknnbjkjhigbaaX5
import Derived.Test.YtoknnbjkjhigbaaX6
import Derived.Test.YtoknnbjkjhigbaaX7
import Derived.Test.YtoknnbjkjhigbaaX8

namespace Go.Proofs.Ytoknnbjkjhigbaa.X
open Go.RowKit Go.Proofs.YtoknnbjkjhigbaaW.PrintWords Go.Proofs.YtoknnbjkjhigbaaW.PrintLast Go.Proofs.YtoknnbjkjhigbaaW.PrintMore
namespace Oct
def noneB : ByteArray := ⟨#[]⟩
def partV (s : ByteArray) (a n : Int) : ByteArray × Bool := if 0 ≤ a ∧ 0 ≤ n ∧ a ≤ (s.size : Int) ∧ n ≤ (s.size : Int) - a then (s.extract a.toNat (a + n).toNat, true) else (noneB, false)
theorem part_f (s : ByteArray) (a n : Int) (hz : (s.size : Int) ≤ 9223372036854775807) : octet_Part.f s a n = some (partV s a n) := by
  unfold octet_Part.f partV
  rw [within_f a n s.size (by omega) hz]
  simp only [Option.bind_some]
  by_cases h : 0 ≤ a ∧ 0 ≤ n ∧ a ≤ (s.size : Int) ∧ n ≤ (s.size : Int) - a
  · rw [if_pos (decide_eq_true h), if_pos h, if_pos (by omega), PB.wrap_ok (a + n) (by omega) (by omega), if_pos (by omega), if_pos (by omega)]
  · rw [if_neg (by simpa using h), if_neg h]
    rfl
end Oct
end Go.Proofs.Ytoknnbjkjhigbaa.X
