/- Small facts about numbers: what and, shifts and wraps come to; loops by the number of rounds that are left. -/
import Derived.Test.YtkjmecbbdccfoaaWMore
import Derived.Laws.Bits64
import Derived.KernelRfl
namespace Go.PB
open Go.RowKit Go.Proofs.YtkjmecbbdccfoaaW.PrintWords Go.Proofs.YtkjmecbbdccfoaaW.PrintMore
theorem bits_and_nat64 (k : IntKind) (hk : k.bits = 64) (a b : Int) : bits .and k a b = k.wrap (((a % 18446744073709551616).toNat &&& (b % 18446744073709551616).toNat : Nat) : Int) := by
  unfold bits
  simp only [BitVec.toNat_and, BitVec.toNat_ofInt, hk]
  rfl
theorem and_mask (k : IntKind) (hk : k.bits = 64) (hw : ∀ n : Int, 0 ≤ n → n < 9223372036854775808 → k.wrap n = n) (a : Int) (j : Nat) (hj : j ≤ 63) (m : Int) (hm : m = 2 ^ j - 1) : bits .and k a m = a % 2 ^ j := by
  rw [bits_and_nat64 k hk]
  have h2 : (2:Int) ^ j ≤ 2 ^ 63 := by exact_mod_cast Nat.pow_le_pow_right (by omega) hj
  have h1 : (1:Int) ≤ 2 ^ j := by exact_mod_cast Nat.one_le_two_pow
  have e63 : (2:Int)^63 = 9223372036854775808 := by decide
  have hb : (m % 18446744073709551616).toNat = 2 ^ j - 1 := by
    rw [hm, Int.emod_eq_of_lt (by omega) (by omega)]
    have : (2:Int)^j = ((2^j : Nat) : Int) := by push_cast; rfl
    omega
  rw [hb, Nat.and_two_pow_sub_one_eq_mod]
  have e : (((a % 18446744073709551616).toNat % 2 ^ j : Nat) : Int) = a % 2 ^ j := by
    push_cast
    rw [Int.toNat_of_nonneg (by omega), Int.emod_emod_of_dvd]
    have : (18446744073709551616 : Int) = 2 ^ 64 := by decide
    rw [this]
    exact ⟨2 ^ (64 - j), by rw [← Int.pow_add]; congr 1; omega⟩
  rw [e]
  exact hw _ (Int.emod_nonneg _ (by omega)) (by have := Int.emod_lt_of_pos a (show (0:Int) < 2^j by omega); omega)
theorem i64_in (n : Int) (h0 : -9223372036854775808 ≤ n) (h1 : n < 9223372036854775808) : IntKind.i64.wrap n = n := by rw [IntKind.wrap_i64]; omega
theorem u64_in (n : Int) (h0 : 0 ≤ n) (h1 : n < 18446744073709551616) : IntKind.u64.wrap n = n := by rw [IntKind.wrap_u64]; omega
theorem and_i64 (a : Int) (j : Nat) (hj : j ≤ 63) (m : Int) (hm : m = 2 ^ j - 1) : bits .and .i64 a m = a % 2 ^ j := and_mask .i64 rfl (fun n h0 h1 => i64_in n (by omega) h1) a j hj m hm
theorem and_u64 (a : Int) (j : Nat) (hj : j ≤ 63) (m : Int) (hm : m = 2 ^ j - 1) : bits .and .u64 a m = a % 2 ^ j := and_mask .u64 rfl (fun n h0 h1 => u64_in n h0 (by omega)) a j hj m hm
theorem wrap_ok (n : Int) (h0 : -9223372036854775808 ≤ n) (h1 : n < 9223372036854775808) : wrap64 n = n := by unfold wrap64; omega
theorem wfI_i64 {n : Int} (h : (Lit.int .i64 n).wf = true) : -9223372036854775808 ≤ n ∧ n < 9223372036854775808 := by
  simp [Lit.wf, IntKind.min, IntKind.max, IntKind.bits, IntKind.signed] at h; omega
theorem wfI_u64 {n : Int} (h : (Lit.int .u64 n).wf = true) : 0 ≤ n ∧ n < 18446744073709551616 := by
  simp [Lit.wf, IntKind.min, IntKind.max, IntKind.bits, IntKind.signed] at h; omega
/-- A step that leaves one round less. -/
theorem ev_succ {α : Type} {g f : Nat → Option α} {r : α} (h : ∀ k, g (k + 1) = f k) (k : Ev f r) : Ev g r := Ev.step h k
theorem ev_const {α : Type} {g : Nat → Option α} {r : α} (h : ∀ k, g k = some r) : Ev g r := ⟨0, fun k _ => h k⟩
theorem ev_one {α : Type} {g : Nat → Option α} {r : α} (h : ∀ k, g (k + 1) = some r) : Ev g r := ⟨1, fun k hk => by obtain ⟨m, rfl⟩ : ∃ m, k = m + 1 := ⟨k - 1, by omega⟩; exact h m⟩
end Go.PB
