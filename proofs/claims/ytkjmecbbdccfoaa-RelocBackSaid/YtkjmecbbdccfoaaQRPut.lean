/- Bytes that are put: what Put of the reference comes to. -/
import Derived.Test.YtkjmecbbdccfoaaQOct
import Derived.Lib.Strings
import Derived.Test.YtkjmecbbdccfoaaX0
import Derived.Test.YtkjmecbbdccfoaaX1
import Derived.Test.YtkjmecbbdccfoaaX2
import Derived.Test.YtkjmecbbdccfoaaX3
import Derived.Test.YtkjmecbbdccfoaaX4
import Derived.Test.YtkjmecbbdccfoaaX5
import Derived.Test.YtkjmecbbdccfoaaX6
namespace Go.Proofs.Ytkjmecbbdccfoaa.X
open Go.RowKit Go.Proofs.YtkjmecbbdccfoaaW.PrintWords Go.Proofs.YtkjmecbbdccfoaaW.PrintLast Go.Proofs.YtkjmecbbdccfoaaW.PrintMore
namespace Oct
theorem ba_ext {a b : ByteArray} (h : a.data.toList = b.data.toList) : a = b := by
  cases a; cases b
  simp only [ByteArray.mk.injEq]
  exact Array.toList_inj.1 h
theorem data_app (a b : ByteArray) : (a ++ b).data.toList = a.data.toList ++ b.data.toList := by rw [ByteArray.data_append, Array.toList_append]
theorem strOfNums_app (xs ys : List Int) : strOfNums (xs ++ ys) = strOfNums xs ++ strOfNums ys := ba_ext (by rw [data_app, strOfNums_data, strOfNums_data, strOfNums_data, List.map_append])
theorem putL_succ (n : Int) (i : Nat) : putL n (i + 1) = putL n i ++ [byteN n i] := by unfold putL; rw [List.range_succ, List.map_append]; rfl
theorem putB_succ (n : Int) (i : Nat) : putB n (i + 1) = putB n i ++ strOfNums [byteN n i] := by rw [putB, putL_succ, strOfNums_app]; rfl
theorem pow2_256 (i : Nat) : (2 : Int) ^ (8 * i) = 256 ^ i := by rw [Int.pow_mul]; rfl
theorem byteN_256 (n : Int) (i : Nat) : byteN n i = n / 256 ^ i % 256 := by rw [byteN, pow2_256]
theorem mn_mx (w : Int) : (mn (mx w 0) 8).toNat ≤ 8 ∧ (0 ≤ w → w ≤ 8 → (mn (mx w 0) 8).toNat = w.toNat) ∧ (w < 0 → (mn (mx w 0) 8).toNat = 0) ∧ (8 < w → (mn (mx w 0) 8).toNat = 8) := by
  unfold mn mx
  refine ⟨?_, ?_, ?_, ?_⟩ <;> split <;> split <;> omega
end Oct
end Go.Proofs.Ytkjmecbbdccfoaa.X
