/- Numbers in bytes: what Get and Set of package octet come to, and of the reference. -/
import Derived.Test.YtkjmecbbdccfoaaQOct
import Derived.Laws.BitsAllLaws
import Derived.Test.YtkjmecbbdccfoaaX0
import Derived.Test.YtkjmecbbdccfoaaX1
import Derived.Test.YtkjmecbbdccfoaaX2
import Derived.Test.YtkjmecbbdccfoaaX3
import Derived.Test.YtkjmecbbdccfoaaX4
import Derived.Test.YtkjmecbbdccfoaaX5
import Derived.Test.YtkjmecbbdccfoaaX6
namespace Go.Proofs.Ytkjmecbbdccfoaa.X
open Go.RowKit Go.Proofs.YtkjmecbbdccfoaaW.PrintWords Go.Proofs.YtkjmecbbdccfoaaW.PrintLast Go.Proofs.YtkjmecbbdccfoaaW.PrintMore
namespace Oct
/-- The number in the bytes from place a on, the least first. -/
def gv (s : ByteArray) (a : Int) : Nat → Int
  | 0 => 0
  | w + 1 => gv s a w + bt s (a + w) * 256 ^ w
theorem gv_range (s : ByteArray) (a : Int) : ∀ w, 0 ≤ gv s a w ∧ gv s a w < 256 ^ w
  | 0 => ⟨Int.le_refl _, show (0 : Int) < 256 ^ 0 by decide⟩
  | w + 1 => by
    obtain ⟨h0, h1⟩ := gv_range s a w
    obtain ⟨b0, b1⟩ := bt_range s (a + w)
    have hp := pow256_pos w
    have e : (256 : Int) ^ (w + 1) = 256 ^ w * 256 := Int.pow_succ _ _
    have m0 : 0 ≤ bt s (a + w) * 256 ^ w := Int.mul_nonneg b0 (by omega)
    have m1 : bt s (a + w) * 256 ^ w ≤ 255 * 256 ^ w := Int.mul_le_mul_of_nonneg_right b1 (by omega)
    simp only [gv]
    omega
/-- One byte more, by 'or'. -/
theorem or_byte (x b : Int) (i : Nat) (hi : i < 8) (h0 : 0 ≤ x) (h1 : x < 256 ^ i) (b0 : 0 ≤ b) (b1 : b ≤ 255) :
    Go.bits .or .u64 x (shl .u64 (IntKind.u64.wrap b) (8 * (i : Int))) = x + b * 256 ^ i := by
  have hp := pow256_pos i
  have hp8 : (256 : Int) ^ (i + 1) ≤ 256 ^ 8 := pow256_le (by omega)
  have e8 : (256 : Int) ^ 8 = 18446744073709551616 := by decide
  have e : (256 : Int) ^ (i + 1) = 256 ^ i * 256 := Int.pow_succ _ _
  have m0 : 0 ≤ b * 256 ^ i := Int.mul_nonneg b0 (by omega)
  have m1 : b * 256 ^ i ≤ 255 * 256 ^ i := Int.mul_le_mul_of_nonneg_right b1 (by omega)
  have e2 : (2 : Int) ^ (8 * i) = 256 ^ i := by rw [Int.pow_mul]; rfl
  have hs : shl .u64 (IntKind.u64.wrap b) (8 * (i : Int)) = b * 256 ^ i := by
    unfold shl
    rw [PB.u64_in b b0 (by omega), show (8 * (i : Int)).toNat = 8 * i by omega, show min (8 * i) IntKind.u64.bits = 8 * i from Nat.min_eq_left (by show 8 * i ≤ 64; omega), e2, PB.u64_in _ m0 (by omega)]
  rw [hs, u64_or x (b * 256 ^ i) h0 (by omega) m0 (by omega)]
  have hm : (b * 256 ^ i).toNat % 2 ^ (8 * i) = 0 := by
    have : (b * 256 ^ i).toNat = b.toNat * 2 ^ (8 * i) := by
      obtain ⟨c, rfl⟩ := Int.eq_ofNat_of_zero_le b0
      rw [← e2]
      have : ((c : Int) * 2 ^ (8 * i)) = ((c * 2 ^ (8 * i) : Nat) : Int) := by push_cast; rfl
      rw [this, Int.toNat_natCast, Int.toNat_natCast]
    rw [this]
    exact Nat.mul_mod_left _ _
  have hx : x.toNat < 2 ^ (8 * i) := by
    have : ((2 ^ (8 * i) : Nat) : Int) = 256 ^ i := by push_cast; exact e2
    omega
  rw [Nat.or_comm, nat_join (8 * i) _ _ hm hx]
  omega
theorem get_loop (s : ByteArray) (a : Int) (w : Nat) (hw : w ≤ 8) (ha : 0 ≤ a) (hs : a + w ≤ s.size) (hz : (s.size : Int) ≤ 9223372036854775807) : ∀ (d i : Nat), i + d = w →
    Ev (fun k => octet_Get.l0 k s a (gv s a i) (w : Int) (i : Int)) (gv s a w, true) := by
  intro d
  induction d with
  | zero =>
    intro i hi
    refine PB.ev_one fun k => ?_
    obtain rfl : i = w := by omega
    simp only [octet_Get.l0]
    rw [if_neg (by omega)]
  | succ d ih =>
    intro i hi
    refine PB.ev_succ (f := fun k => octet_Get.l0 k s a (gv s a (i + 1)) (w : Int) ((i + 1 : Nat) : Int)) (fun k => ?_) (ih (i + 1) (by omega))
    simp only [octet_Get.l0]
    have e1 : wrap64 (a + (i : Int)) = a + i := PB.wrap_ok _ (by omega) (by omega)
    have e2 : wrap64 (8 * (i : Int)) = 8 * (i : Int) := PB.wrap_ok _ (by omega) (by omega)
    have e3 : wrap64 ((i : Int) + 1) = ((i + 1 : Nat) : Int) := by rw [PB.wrap_ok _ (by omega) (by omega)]; omega
    obtain ⟨g0, g1⟩ := gv_range s a i
    obtain ⟨b0, b1⟩ := bt_range s (a + i)
    rw [if_pos (by omega), e1, if_pos (by omega), if_pos (by omega), e2, if_pos (by omega), e3, or_byte _ _ i (by omega) g0 g1 b0 b1]
    rfl
/-- May a number of that width be there? -/
def may (s : ByteArray) (a w : Int) : Bool := decide (1 ≤ w ∧ w ≤ 8 ∧ 0 ≤ a ∧ a ≤ s.size ∧ w ≤ s.size - a)
def getV (s : ByteArray) (a w : Int) : Int × Bool := if may s a w = true then (gv s a w.toNat, true) else (0, false)
theorem within_f (a n l : Int) (hl0 : 0 ≤ l) (hl : l ≤ 9223372036854775807) : octet_Within.f a n l = some (decide (0 ≤ a ∧ 0 ≤ n ∧ a ≤ l ∧ n ≤ l - a)) := by
  unfold octet_Within.f
  by_cases c1 : a ≥ 0
  · rw [if_pos c1]
    by_cases c2 : n ≥ 0
    · rw [if_pos c2]
      by_cases c3 : a ≤ l
      · rw [if_pos c3, PB.wrap_ok _ (by omega) (by omega)]
        exact congrArg some (decide_eq_decide.2 ⟨fun h => ⟨c1, c2, c3, h⟩, fun h => h.2.2.2⟩)
      · rw [if_neg c3]
        exact congrArg some (decide_eq_false fun h => c3 h.2.2.1).symm
    · rw [if_neg c2]
      exact congrArg some (decide_eq_false fun h => c2 h.2.1).symm
  · rw [if_neg c1]
    exact congrArg some (decide_eq_false fun h => c1 h.1).symm
theorem number_f (s : ByteArray) (a w : Int) (hz : (s.size : Int) ≤ 9223372036854775807) : octet_number.f s a w = some (may s a w) := by
  unfold octet_number.f may
  by_cases c1 : w ≥ 1
  · rw [if_pos c1]
    by_cases c2 : w ≤ 8
    · rw [if_pos c2, within_f a w _ (by omega) hz]
      exact congrArg some (decide_eq_decide.2 ⟨fun h => ⟨c1, c2, h.1, h.2.2⟩, fun h => ⟨h.2.2.1, by omega, h.2.2.2⟩⟩)
    · rw [if_neg c2]
      exact congrArg some (decide_eq_false fun h => c2 h.2.1).symm
  · rw [if_neg c1]
    exact congrArg some (decide_eq_false fun h => c1 h.1).symm
theorem get_ev (s : ByteArray) (a w : Int) (hz : (s.size : Int) ≤ 9223372036854775807) : Ev (fun k => octet_Get.f k s a w) (getV s a w) := by
  unfold octet_Get.f getV
  refine Ev.bind (PB.ev_const fun k => number_f s a w hz) ?_
  by_cases h : may s a w = true
  · have h1 := of_decide_eq_true h
    refine Ev.congr (fun k => if_pos h) ?_
    rw [if_pos h]
    obtain ⟨m, rfl⟩ := Int.eq_ofNat_of_zero_le (show 0 ≤ w by omega)
    rw [Int.toNat_natCast]
    exact get_loop s a m (by omega) (by omega) (by omega) hz m 0 (by omega)
  · refine Ev.congr (fun k => if_neg h) ?_
    rw [if_neg h]
    exact Ev.now _
end Oct
end Go.Proofs.Ytkjmecbbdccfoaa.X
