/- Filled up with bytes 0: the reference. -/
import Derived.Test.YtkjmecbbdccfoaaQRPut
import Derived.Test.YtkjmecbbdccfoaaX0
import Derived.Test.YtkjmecbbdccfoaaX1
import Derived.Test.YtkjmecbbdccfoaaX2
import Derived.Test.YtkjmecbbdccfoaaX3
import Derived.Test.YtkjmecbbdccfoaaX4
import Derived.Test.YtkjmecbbdccfoaaX5
import Derived.Test.YtkjmecbbdccfoaaX6
namespace Go.Proofs.Ytkjmecbbdccfoaa.X
open Go.RowKit Go.Proofs.YtkjmecbbdccfoaaW.PrintWords Go.Proofs.YtkjmecbbdccfoaaW.PrintLast Go.Proofs.YtkjmecbbdccfoaaW.PrintMore
namespace Oct
def zeroB (c : Nat) : ByteArray := strOfNums (List.replicate c 0)
def fillV (s : ByteArray) (n : Int) : ByteArray := if n ≤ (s.size : Int) then s.extract 0 n.toNat else s ++ zeroB (n.toNat - s.size)
theorem zeroB_size (c : Nat) : (zeroB c).size = c := by rw [zeroB, strOfNums_size, List.length_replicate]
theorem rfill_f (s : ByteArray) (n : Int) (hz : (s.size : Int) ≤ 140737488355328) (hn : n ≤ 140737488355328) : flyleafref01_Fill.f s n = some (fillV s n) := by
  unfold flyleafref01_Fill.f fillV
  by_cases h0 : n < 0
  · rw [if_pos h0, if_pos (by omega), show n.toNat = 0 by omega]
    exact congrArg some (ba_ext (by rw [Lib.extract_data]; rfl))
  · rw [if_neg h0]
    by_cases h : n ≤ (s.size : Int)
    · rw [if_pos h, if_pos (by omega), if_pos h, if_pos h]
    · rw [if_neg (by omega), if_neg h, PB.wrap_ok _ (by omega) (by omega), if_pos (by omega), if_pos (by omega)]
      simp only [Option.bind_some]
      rw [if_pos (by rw [strOfNums_size, List.length_replicate]; omega), show (n - (s.size : Int)).toNat = n.toNat - s.size by omega]
      rfl
end Oct
end Go.Proofs.Ytkjmecbbdccfoaa.X
