/- Bytes of texts that are put together, and the numbers in them. -/
import Derived.Test.YtkjmecbbdccfoaaQNum
import Derived.Test.YtkjmecbbdccfoaaQRPut
import Derived.Test.YtkjmecbbdccfoaaX0
import Derived.Test.YtkjmecbbdccfoaaX1
import Derived.Test.YtkjmecbbdccfoaaX2
import Derived.Test.YtkjmecbbdccfoaaX3
import Derived.Test.YtkjmecbbdccfoaaX4
import Derived.Test.YtkjmecbbdccfoaaX5
import Derived.Test.YtkjmecbbdccfoaaX6
namespace Go.Proofs.Ytkjmecbbdccfoaa.X
open Go.RowKit Go.Proofs.YtkjmecbbdccfoaaW.PrintWords Go.Proofs.YtkjmecbbdccfoaaW.PrintLast Go.Proofs.YtkjmecbbdccfoaaW.PrintMore
namespace Oct
theorem bt_list (s : ByteArray) (i : Nat) : bt s (i : Int) = ((s.data.toList.getD i 0).toNat : Int) := by
  rw [← rd_bytesOf]
  unfold rd bytesOf
  rw [Int.toNat_natCast, List.getD_eq_getElem?_getD, List.getD_eq_getElem?_getD, List.getElem?_map]
  cases s.data.toList[i]? <;> rfl
theorem size_list (s : ByteArray) : s.data.toList.length = s.size := by rw [Array.length_toList]; rfl
theorem bt_app_l (a b : ByteArray) (i : Nat) (h : i < a.size) : bt (a ++ b) (i : Int) = bt a (i : Int) := by
  rw [bt_list, bt_list, data_app, List.getD_eq_getElem?_getD, List.getD_eq_getElem?_getD, List.getElem?_append_left (by rw [size_list]; exact h)]
theorem bt_app_r (a b : ByteArray) (i : Nat) : bt (a ++ b) ((a.size + i : Nat) : Int) = bt b (i : Int) := by
  rw [bt_list, bt_list, data_app, List.getD_eq_getElem?_getD, List.getD_eq_getElem?_getD, List.getElem?_append_right (by rw [size_list]; omega), size_list, show a.size + i - a.size = i by omega]
theorem bt_part (s : ByteArray) (a n i : Nat) (h : i < n) : bt (s.extract a (a + n)) (i : Int) = bt s ((a + i : Nat) : Int) := by
  rw [bt_list, bt_list, Lib.extract_data, List.getD_eq_getElem?_getD, List.getD_eq_getElem?_getD, List.getElem?_take_of_lt (by omega), List.getElem?_drop]
theorem put_bt (n : Int) (w j : Nat) (hj : j < w) : bt (putB n w) (j : Int) = byteN n j := by
  have r0 : 0 ≤ byteN n j := Int.emod_nonneg _ (by decide)
  have r1 : byteN n j < 256 := Int.emod_lt_of_pos _ (by decide)
  rw [bt_list, putB, strOfNums_data, putL, List.getD_eq_getElem?_getD, List.getElem?_map, List.getElem?_map, List.getElem?_range hj]
  simp only [Option.map_some, Option.getD_some]
  rw [UInt8.toNat_ofNat', Nat.mod_eq_of_lt (by omega)]
  omega
theorem mod_step (n : Int) (hn : 0 ≤ n) (v : Nat) : n % 256 ^ (v + 1) = n % 256 ^ v + byteN n v * 256 ^ v := by
  obtain ⟨m, rfl⟩ := Int.eq_ofNat_of_zero_le hn
  rw [byteN_256, pow256, pow256]
  have e : m % 256 ^ (v + 1) = m % 256 ^ v + (m / 256 ^ v % 256) * 256 ^ v := by rw [Nat.pow_succ, Nat.mod_mul, Nat.mul_comm (256 ^ v)]
  generalize 256 ^ (v + 1) = A at e ⊢
  generalize 256 ^ v = B at e ⊢
  have : ((m % A : Nat) : Int) = ((m % B + m / B % 256 * B : Nat) : Int) := by rw [e]
  rw [Int.natCast_add, Int.natCast_mul, Int.natCast_emod, Int.natCast_emod, Int.natCast_emod, Int.natCast_ediv] at this
  exact this
/-- A number's bytes stand at a place. -/
def stands (s : ByteArray) (a : Nat) (n : Int) (w : Nat) : Prop := a + w ≤ s.size ∧ ∀ j, j < w → bt s ((a + j : Nat) : Int) = byteN n j
theorem gv_stands (s : ByteArray) (a w : Nat) (n : Int) (hn : 0 ≤ n) (h : stands s a n w) : ∀ v, v ≤ w → gv s (a : Int) v = n % 256 ^ v
  | 0, _ => by simp [gv]
  | v + 1, hv => by
    have e : ((a : Int) + (v : Int)) = ((a + v : Nat) : Int) := by omega
    rw [gv, gv_stands s a w n hn h v (by omega), e, h.2 v (by omega), mod_step n hn]
theorem getV_stands (s : ByteArray) (a w : Nat) (n : Int) (hn : 0 ≤ n) (hw1 : 1 ≤ w) (hw8 : w ≤ 8) (h : stands s a n w) : getV s (a : Int) (w : Int) = (n % 256 ^ w, true) := by
  have m : may s (a : Int) (w : Int) = true := decide_eq_true (by have := h.1; omega)
  unfold getV
  rw [if_pos m, Int.toNat_natCast, gv_stands s a w n hn h w (Nat.le_refl _)]
theorem stands_put (n : Int) (w : Nat) : stands (putB n w) 0 n w := ⟨by rw [putB_size]; omega, fun j hj => by rw [Nat.zero_add]; exact put_bt n w j hj⟩
theorem stands_l {s : ByteArray} {a : Nat} {n : Int} {w : Nat} (h : stands s a n w) (t : ByteArray) : stands (s ++ t) a n w :=
  ⟨by rw [ByteArray.size_append]; have := h.1; omega, fun j hj => by rw [bt_app_l s t _ (by have := h.1; omega)]; exact h.2 j hj⟩
theorem stands_r {s : ByteArray} {a : Nat} {n : Int} {w : Nat} (h : stands s a n w) (t : ByteArray) : stands (t ++ s) (t.size + a) n w :=
  ⟨by rw [ByteArray.size_append]; have := h.1; omega, fun j hj => by rw [Nat.add_assoc, bt_app_r t s]; exact h.2 j hj⟩
theorem stands_part {s : ByteArray} {a : Nat} {n : Int} {w : Nat} (b c : Nat) (h : stands s (b + a) n w) (hc : a + w ≤ c) (hs : b + c ≤ s.size) : stands (s.extract b (b + c)) a n w :=
  ⟨by rw [ByteArray.size_extract]; omega, fun j hj => by rw [bt_part s b c _ (by omega), ← Nat.add_assoc]; exact h.2 j hj⟩
end Oct
end Go.Proofs.Ytkjmecbbdccfoaa.X
