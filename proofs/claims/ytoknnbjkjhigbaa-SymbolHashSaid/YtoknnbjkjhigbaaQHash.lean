/- The hash of a name. -/
import Derived.Test.YtoknnbjkjhigbaaPB
import Derived.Laws.BitsAllLaws
import Derived.Test.YtoknnbjkjhigbaaX2
namespace Go.Proofs.Ytoknnbjkjhigbaa.X
open Go.RowKit Go.Proofs.YtoknnbjkjhigbaaW.PrintWords Go.Proofs.YtoknnbjkjhigbaaW.PrintLast Go.Proofs.YtoknnbjkjhigbaaW.PrintMore
namespace Hash
theorem nat_hi (q r : Nat) (hq : q < 16) (hr : r < 2 ^ 28) : (2 ^ 28 * q + r) &&& 4026531840 = 2 ^ 28 * q := by
  have e : (4026531840 : Nat) = 2 ^ 28 * 15 + 0 := by decide
  have eq15 : q &&& 15 = q := by rw [show (15 : Nat) = 2 ^ 4 - 1 from rfl, Nat.and_two_pow_sub_one_eq_mod]; exact Nat.mod_eq_of_lt hq
  rw [e]
  apply Nat.eq_of_testBit_eq
  intro j
  have e2 : (2 ^ 28 * q).testBit j = if j < 28 then (0 : Nat).testBit j else q.testBit (j - 28) := Nat.testBit_two_pow_mul_add q (by decide : 0 < 2 ^ 28) j
  rw [e2, Nat.testBit_and, Nat.testBit_two_pow_mul_add _ hr, Nat.testBit_two_pow_mul_add _ (by decide : 0 < 2 ^ 28)]
  by_cases c : j < 28
  · simp [c]
  · rw [if_neg c, if_neg c, if_neg c, ← Nat.testBit_and, eq15]
theorem not_meets : ∀ q : Fin 16, q.val &&& (15 - q.val) = 0 := by decide
theorem nat_lo (q r : Nat) (hq : q < 16) (hr : r < 2 ^ 28) : (2 ^ 28 * q + r) &&& (4294967295 - 2 ^ 28 * q) = r := by
  have e : 4294967295 - 2 ^ 28 * q = 2 ^ 28 * (15 - q) + (2 ^ 28 - 1) := by omega
  have e0 : q &&& (15 - q) = 0 := not_meets ⟨q, hq⟩
  rw [e]
  apply Nat.eq_of_testBit_eq
  intro j
  rw [Nat.testBit_and, Nat.testBit_two_pow_mul_add _ hr, Nat.testBit_two_pow_mul_add _ (by decide : 2 ^ 28 - 1 < 2 ^ 28), Nat.testBit_two_pow_sub_one]
  by_cases c : j < 28
  · simp [c]
  · rw [if_neg c, if_neg c, ← Nat.testBit_and, e0, Nat.zero_testBit, Nat.testBit_lt_two_pow (Nat.lt_of_lt_of_le hr (Nat.pow_le_pow_right (by decide) (by omega)))]
/-- One byte more. -/
def stepV (h c : Int) : Nat := let H := (h * 16 + c).toNat % 4294967296; (H % 268435456) ^^^ (H / 268435456 * 16)
theorem stepV_lt (h c : Int) : stepV h c < 268435456 := by
  unfold stepV
  exact Nat.xor_lt_two_pow (n := 28) (Nat.mod_lt _ (by decide)) (by have := Nat.mod_lt (h * 16 + c).toNat (show 0 < 4294967296 by decide); omega)
theorem stepV_small (h c : Int) (h0 : 0 ≤ h) (c0 : 0 ≤ c) (hs : h * 16 + c < 268435456) : (stepV h c : Int) = h * 16 + c := by
  unfold stepV
  have e1 : (h * 16 + c).toNat % 4294967296 = (h * 16 + c).toNat := Nat.mod_eq_of_lt (by omega)
  have e2 : (h * 16 + c).toNat % 268435456 = (h * 16 + c).toNat := Nat.mod_eq_of_lt (by omega)
  have e3 : (h * 16 + c).toNat / 268435456 = 0 := Nat.div_eq_of_lt (by omega)
  simp only [e1, e2, e3, Nat.zero_mul, Nat.xor_zero]
  omega
theorem step_f (h c : Int) (h0 : 0 ≤ h) (h1 : h < 268435456) (c0 : 0 ≤ c) (c1 : c ≤ 255) : symbol_Hash_1.f c h = some (stepV h c : Int) := by
  unfold symbol_Hash_1.f stepV
  have e : ((h * 16) % 4294967296 + c % 4294967296) % 4294967296 = (((h * 16 + c).toNat % 4294967296 : Nat) : Int) := by omega
  have hH := Nat.mod_lt (h * 16 + c).toNat (show 0 < 4294967296 by decide)
  simp only [e]
  generalize (h * 16 + c).toNat % 4294967296 = H at *
  have hq : H / 268435456 < 16 := by omega
  have hr : H % 268435456 < 2 ^ 28 := Nat.mod_lt _ (by decide)
  have hs : H = 2 ^ 28 * (H / 268435456) + H % 268435456 := by omega
  have a1 : Go.bits .and .u32 (H : Int) 4026531840 = ((2 ^ 28 * (H / 268435456) : Nat) : Int) := by
    have := u32_and_nat H 4026531840 hH (by decide)
    rw [show ((4026531840 : Nat) : Int) = 4026531840 from rfl] at this
    rw [this]
    have g := nat_hi (H / 268435456) (H % 268435456) hq hr
    rw [← hs] at g
    rw [g]
  have a2 : Go.bits .andNot .u32 (H : Int) ((2 ^ 28 * (H / 268435456) : Nat) : Int) = ((H % 268435456 : Nat) : Int) := by
    rw [u32_andNot_nat H (2 ^ 28 * (H / 268435456)) hH (by omega)]
    have := nat_lo (H / 268435456) (H % 268435456) hq hr
    rw [← hs] at this
    rw [this]
  rw [a1, a2, show (((2 ^ 28 * (H / 268435456) : Nat) : Int) / 16777216) = ((H / 268435456 * 16 : Nat) : Int) by omega, u32_xor_nat _ _ (by omega) (by omega)]
def hashV (s : ByteArray) : Nat → Int
  | 0 => 0
  | i + 1 => (stepV (hashV s i) (bt s i) : Int)
theorem hashV_range (s : ByteArray) : ∀ i, 0 ≤ hashV s i ∧ hashV s i < 268435456
  | 0 => ⟨Int.le_refl _, show (0 : Int) < 268435456 by decide⟩
  | i + 1 => by
    have := stepV_lt (hashV s i) (bt s i)
    simp only [hashV]
    omega
theorem hash_loop (s : ByteArray) (hz : (s.size : Int) ≤ 9223372036854775807) : ∀ (d i : Nat), i + d = s.size → Ev (fun k => symbol_Hash.l0 k s (s.size : Int) (i : Int) (hashV s i)) (hashV s s.size) := by
  intro d
  induction d with
  | zero =>
    intro i hi
    refine PB.ev_one fun k => ?_
    obtain rfl : i = s.size := by omega
    simp only [symbol_Hash.l0]
    rw [if_neg (by omega)]
  | succ d ih =>
    intro i hi
    obtain ⟨h0, h1⟩ := hashV_range s i
    obtain ⟨b0, b1⟩ := bt_range s (i : Int)
    refine PB.ev_succ (f := fun k => symbol_Hash.l0 k s (s.size : Int) ((i + 1 : Nat) : Int) (hashV s (i + 1))) (fun k => ?_) (ih (i + 1) (by omega))
    simp only [symbol_Hash.l0]
    rw [if_pos (by omega), if_pos (by omega), if_pos (by omega), step_f _ _ h0 h1 b0 b1, show wrap64 ((i : Int) + 1) = ((i + 1 : Nat) : Int) by rw [PB.wrap_ok _ (by omega) (by omega)]; omega]
    rfl
theorem hash_ev (s : ByteArray) (hz : (s.size : Int) ≤ 9223372036854775807) : Ev (fun k => symbol_Hash.f k s) (hashV s s.size) := by
  unfold symbol_Hash.f
  exact hash_loop s hz s.size 0 (by omega)
end Hash
end Go.Proofs.Ytoknnbjkjhigbaa.X
