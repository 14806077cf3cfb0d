/- Bytes that are put: what Put of the reference comes to. -/
import Derived.Test.YtoknnbjkjhigbaaQOct
import Derived.Lib.Strings
import Derived.Test.YtoknnbjkjhigbaaX0
import Derived.Test.YtoknnbjkjhigbaaX1
import Derived.Test.YtoknnbjkjhigbaaX2
import Derived.Test.YtoknnbjkjhigbaaX3
import Derived.Test.YtoknnbjkjhigbaaX4
import Derived.Test.YtoknnbjkjhigbaaX5
import Derived.Test.YtoknnbjkjhigbaaX6
import Derived.Test.YtoknnbjkjhigbaaX7
import Derived.Test.YtoknnbjkjhigbaaX8

namespace Go.Proofs.Ytoknnbjkjhigbaa.X
open Go.RowKit Go.Proofs.YtoknnbjkjhigbaaW.PrintWords Go.Proofs.YtoknnbjkjhigbaaW.PrintLast Go.Proofs.YtoknnbjkjhigbaaW.PrintMore
namespace Oct
theorem ba_ext {a b : ByteArray} (h : a.data.toList = b.data.toList) : a = b := by
  cases a; cases b
  simp only [ByteArray.mk.injEq]
  exact Array.toList_inj.1 h
theorem data_app (a b : ByteArray) : (a ++ b).data.toList = a.data.toList ++ b.data.toList := by rw [ByteArray.data_append, Array.toList_append]
theorem strOfNums_app (xs ys : List Int) : strOfNums (xs ++ ys) = strOfNums xs ++ strOfNums ys := ba_ext (by rw [data_app, strOfNums_data, strOfNums_data, strOfNums_data, List.map_append])
theorem putL_succ (n : Int) (i : Nat) : putL n (i + 1) = putL n i ++ [byteN n i] := by unfold putL; rw [List.range_succ, List.map_append]; rfl
theorem putB_succ (n : Int) (i : Nat) : putB n (i + 1) = putB n i ++ strOfNums [byteN n i] := by rw [putB, putL_succ, strOfNums_app]; rfl
theorem pow2_256 (i : Nat) : (2 : Int) ^ (8 * i) = 256 ^ i := by rw [Int.pow_mul]; rfl
theorem byteN_256 (n : Int) (i : Nat) : byteN n i = n / 256 ^ i % 256 := by rw [byteN, pow2_256]
theorem mn_mx (w : Int) : (mn (mx w 0) 8).toNat ≤ 8 ∧ (0 ≤ w → w ≤ 8 → (mn (mx w 0) 8).toNat = w.toNat) ∧ (w < 0 → (mn (mx w 0) 8).toNat = 0) ∧ (8 < w → (mn (mx w 0) 8).toNat = 8) := by
  unfold mn mx
  refine ⟨?_, ?_, ?_, ?_⟩ <;> split <;> split <;> omega
theorem rput_loop (n w : Int) (hn : 0 ≤ n) (hn2 : n < 18446744073709551616) : ∀ (d i : Nat), i + d = (mn (mx w 0) 8).toNat → Ev (fun k => flyleafref01_Put.l0 k (n / 256 ^ i) w (putB n i) (i : Int)) (putB n (mn (mx w 0) 8).toNat) := by
  obtain ⟨q1, q2, q3, q4⟩ := mn_mx w
  intro d
  induction d with
  | zero =>
    intro i hi
    refine PB.ev_one fun k => ?_
    rw [← hi]
    simp only [flyleafref01_Put.l0, Nat.add_zero]
    by_cases c : (i : Int) < w
    · rw [if_pos c]
      by_cases c8 : 8 < w
      · rw [if_neg (by have := q4 c8; omega)]
      · exact absurd (q2 (by omega) (by omega)) (by omega)
    · rw [if_neg c]
  | succ d ih =>
    intro i hi
    have hp := pow256_pos i
    have h0 : 0 ≤ n / 256 ^ i := Int.ediv_nonneg hn (by omega)
    have h1 : n / 256 ^ i ≤ n := Int.ediv_le_self _ hn
    have hiw : (i : Int) < w := by
      by_cases c8 : 8 < w
      · have := q4 c8; omega
      · by_cases c0 : 0 ≤ w
        · have := q2 c0 (by omega); omega
        · have := q3 (by omega); omega
    refine PB.ev_succ (f := fun k => flyleafref01_Put.l0 k (n / 256 ^ (i + 1)) w (putB n (i + 1)) ((i + 1 : Nat) : Int)) (fun k => ?_) (ih (i + 1) (by omega))
    simp only [flyleafref01_Put.l0]
    have ed : IntKind.u64.wrap (Int.tdiv (n / 256 ^ i) 256) = n / 256 ^ (i + 1) := by
      have h2 : 0 ≤ n / 256 ^ (i + 1) := Int.ediv_nonneg hn (by have := pow256_pos (i + 1); omega)
      have h3 : n / 256 ^ (i + 1) ≤ n := Int.ediv_le_self (256 ^ (i + 1)) hn
      have h4 : Int.tdiv (n / 256 ^ i) 256 = n / 256 ^ (i + 1) := by rw [Int.tdiv_eq_ediv_of_nonneg h0, Int.ediv_ediv_of_nonneg (by omega), ← Int.pow_succ]
      rw [h4, PB.u64_in _ h2 (by omega)]
    have em : (Int.tmod (n / 256 ^ i) 256) % 256 = byteN n i := by rw [Int.tmod_eq_emod_of_nonneg h0, Int.emod_emod_of_dvd _ (Int.dvd_refl _), byteN_256]
    have ez : (putB n i).size = i := putB_size n i
    rw [if_pos hiw, if_pos (by omega), ed, em, show wrap64 ((i : Int) + 1) = ((i + 1 : Nat) : Int) by rw [PB.wrap_ok _ (by omega) (by omega)]; omega]
    simp only [Option.bind_some]
    rw [if_pos (by rw [ez, strOfNums_size]; simp; omega), putB_succ]
theorem rput_ev (n w : Int) (hn : 0 ≤ n) (hn2 : n < 18446744073709551616) : Ev (fun k => flyleafref01_Put.f k n w) (putB n (mn (mx w 0) 8).toNat) := by
  have h := rput_loop n w hn hn2 _ 0 (Nat.zero_add _)
  refine Ev.congr (fun k => ?_) h
  unfold flyleafref01_Put.f
  rw [Int.pow_zero, Int.ediv_one]
  rfl
end Oct
end Go.Proofs.Ytoknnbjkjhigbaa.X
