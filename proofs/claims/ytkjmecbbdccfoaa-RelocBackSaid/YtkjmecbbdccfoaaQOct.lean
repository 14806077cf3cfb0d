/- What the functions of package octet come to, as plain values. -/
import Derived.Test.YtkjmecbbdccfoaaPB
import Derived.Test.YtkjmecbbdccfoaaX0
import Derived.Test.YtkjmecbbdccfoaaX1
import Derived.Test.YtkjmecbbdccfoaaX2
import Derived.Test.YtkjmecbbdccfoaaX3
import Derived.Test.YtkjmecbbdccfoaaX4
import Derived.Test.YtkjmecbbdccfoaaX5
import Derived.Test.YtkjmecbbdccfoaaX6
namespace Go.Proofs.Ytkjmecbbdccfoaa.X
open Go.RowKit Go.Proofs.YtkjmecbbdccfoaaW.PrintWords Go.Proofs.YtkjmecbbdccfoaaW.PrintLast Go.Proofs.YtkjmecbbdccfoaaW.PrintMore
namespace Oct
/-- A number's byte at place j, the least first. -/
def byteN (n : Int) (j : Nat) : Int := n / 2 ^ (8 * j) % 256
def putL (n : Int) (w : Nat) : List Int := (List.range w).map (byteN n)
def putB (n : Int) (w : Nat) : ByteArray := strOfNums (putL n w)
theorem pow256 (w : Nat) : (256 : Int) ^ w = ((256 ^ w : Nat) : Int) := (Int.natCast_pow 256 w).symm
theorem pow256_pos (w : Nat) : (0 : Int) < 256 ^ w := by rw [pow256]; exact_mod_cast Nat.pow_pos (by decide)
theorem pow256_le {a b : Nat} (h : a ≤ b) : (256 : Int) ^ a ≤ 256 ^ b := by rw [pow256, pow256]; exact_mod_cast Nat.pow_le_pow_right (by decide) h
theorem putL_length (n : Int) (w : Nat) : (putL n w).length = w := by simp [putL]
theorem putB_size (n : Int) (w : Nat) : (putB n w).size = w := by rw [putB, strOfNums_size, putL_length]
theorem putL_take (n : Int) (w v : Nat) (h : w ≤ v) : (putL n v).take w = putL n w := by
  unfold putL
  rw [← List.map_take, List.take_range, Nat.min_eq_left h]
theorem set_take (xs : List Int) (i : Nat) (b : Int) (h : i < xs.length) : (xs.set i b).take (i + 1) = xs.take i ++ [b] := by
  rw [List.take_succ_eq_append_getElem (by simpa using h), List.getElem_set_self, List.take_set_of_le (Nat.le_refl _)]
theorem put_loop (n : Int) (w : Nat) (hw : w ≤ 8) : ∀ (d i : Nat), i + d = w → ∀ xs : List Int, xs.length = w →
    Ev (fun k => octet_Put.l0 k n xs (w : Int) (i : Int)) (strOfNums (xs.take i ++ (List.range d).map fun j => byteN n (i + j))) := by
  intro d
  induction d with
  | zero =>
    intro i hi xs hx
    refine PB.ev_one fun k => ?_
    simp only [octet_Put.l0]
    rw [if_neg (by omega), List.take_of_length_le (by omega)]
    simp
  | succ d ih =>
    intro i hi xs hx
    refine PB.ev_succ (f := fun k => octet_Put.l0 k n (xs.set i (byteN n i)) (w : Int) ((i + 1 : Nat) : Int)) (fun k => ?_) ?_
    · simp only [octet_Put.l0]
      have e8 : wrap64 (8 * (i : Int)) = 8 * (i : Int) := PB.wrap_ok _ (by omega) (by omega)
      have e1 : wrap64 ((i : Int) + 1) = ((i + 1 : Nat) : Int) := by rw [PB.wrap_ok _ (by omega) (by omega)]; omega
      have es : (shr .u64 n (8 * (i : Int))) % 256 = byteN n i := by
        unfold shr byteN
        rw [show (8 * (i : Int)).toNat = 8 * i by omega, show min (8 * i) IntKind.u64.bits = 8 * i from Nat.min_eq_left (by show 8 * i ≤ 64; omega)]
      rw [if_pos (by omega), e8, if_pos (by omega), if_pos (by omega), if_pos (by omega), e1, es, Int.toNat_natCast]
    · have h2 := ih (i + 1) (by omega) (xs.set i (byteN n i)) (by simpa using hx)
      rw [set_take xs i _ (by omega)] at h2
      rw [List.range_succ_eq_map, List.map_cons, List.map_map]
      have e : (fun j => byteN n (i + j)) ∘ Nat.succ = fun j => byteN n (i + 1 + j) := by
        funext j
        simp only [Function.comp]
        rw [show i + Nat.succ j = i + 1 + j by omega]
      rw [e, Nat.add_zero]
      simpa using h2
theorem put_ev (n w : Int) : Ev (fun k => octet_Put.f k n w) (putB n (mn (mx w 0) 8).toNat) := by
  have h0 : 0 ≤ mn (mx w 0) 8 ∧ mn (mx w 0) 8 ≤ 8 := by unfold mn mx; split <;> split <;> omega
  obtain ⟨m, hm⟩ := Int.eq_ofNat_of_zero_le h0.1
  have hm8 : m ≤ 8 := by omega
  have h := put_loop n m hm8 m 0 (by omega) (List.replicate m 0) (by simp)
  simp only [Nat.zero_add, List.take_zero, List.nil_append] at h
  have e : (mn (mx w 0) 8).toNat = m := by rw [hm, Int.toNat_natCast]
  rw [e]
  refine Ev.congr (fun k => ?_) h
  unfold octet_Put.f
  rw [if_pos h0.1, e, if_pos (by omega)]
  simp only [Option.bind_some, List.length_replicate]
  rfl
end Oct
end Go.Proofs.Ytkjmecbbdccfoaa.X
