/- Filled up with bytes 0: the program. -/
import Derived.Test.YtoknnbjkjhigbaaQRFill
import Derived.Test.YtoknnbjkjhigbaaX0
import Derived.Test.YtoknnbjkjhigbaaX1
import Derived.Test.YtoknnbjkjhigbaaX2
import Derived.Test.YtoknnbjkjhigbaaX3
import Derived.Test.YtoknnbjkjhigbaaX4
import Derived.Test.YtoknnbjkjhigbaaX5
import Derived.Test.YtoknnbjkjhigbaaX6
import Derived.Test.YtoknnbjkjhigbaaX7
import Derived.Test.YtoknnbjkjhigbaaX8

namespace Go.Proofs.Ytoknnbjkjhigbaa.X
open Go.RowKit Go.Proofs.YtoknnbjkjhigbaaW.PrintWords Go.Proofs.YtoknnbjkjhigbaaW.PrintLast Go.Proofs.YtoknnbjkjhigbaaW.PrintMore
namespace Oct
theorem repeat_zero (c : Nat) : repeatB ⟨#[0]⟩ c = zeroB c := by
  apply ba_ext
  rw [zeroB, strOfNums_data, List.map_replicate]
  show Lib.repeatL [0] c = _
  induction c with
  | zero => rfl
  | succ c ih => rw [List.replicate_succ, ← ih]; rfl
theorem fill_f (s : ByteArray) (n : Int) (hz : (s.size : Int) ≤ 140737488355328) (hn : n ≤ 140737488355328) : octet_Fill.f s n = some (fillV s n) := by
  unfold octet_Fill.f fillV
  have hm : mx n 0 = max n 0 := by unfold mx; omega
  rw [hm]
  by_cases h : n ≤ (s.size : Int)
  · rw [if_pos (by omega), if_pos (by omega), if_pos (by omega), if_pos h, show (max n 0).toNat = n.toNat by omega]
  · rw [if_neg (by omega), if_neg h, PB.wrap_ok _ (by omega) (by omega)]
    unfold strings_Repeat.f
    rw [if_pos (by omega), if_pos (by omega), if_pos (by show 1 * _ ≤ _; omega)]
    simp only [Option.bind_some]
    rw [repeat_zero, zeroB_size, if_pos (by omega), show (max n 0 - (s.size : Int)).toNat = n.toNat - s.size by omega]
end Oct
end Go.Proofs.Ytoknnbjkjhigbaa.X
