/- The one statement that is left of OctetRound: a number is rounded up by less than what goes into it; rounded again it stays. -/
import Derived.Test.YtopbkfgeidnleaaSOctetRound
import Derived.Test.YtopbkfgeidnleaaPB
namespace Go.Proofs.Ytopbkfgeidnleaa.X
open Go.RowKit Go.Proofs.YtopbkfgeidnleaaW.PrintWords Go.Proofs.YtopbkfgeidnleaaW.PrintLast Go.Proofs.YtopbkfgeidnleaaW.PrintMore
namespace OctetRound
theorem round_ev (n b : Int) (h0 : 0 ≤ n) (h1 : n ≤ 2305843009213693952) (hb : 1 ≤ b) (hb2 : b ≤ 2305843009213693952) : Ev (fun k => octet_Round.f k n b) (if n % b = 0 then (n, true) else (n + b - n % b, true)) := by
  refine PB.ev_one fun k => ?_
  have hm : Int.tmod n b = n % b := Int.tmod_eq_emod_of_nonneg h0
  have hr0 := Int.emod_nonneg n (show b ≠ 0 by omega)
  have hr1 := Int.emod_lt_of_pos n (show 0 < b by omega)
  unfold octet_Round.f
  rw [if_neg (by omega), if_neg (by omega), show decide (n > 4611686018427387904) = false from decide_eq_false (by omega)]
  simp only [octet_Round.j0]
  rw [if_neg (by decide), if_neg (by omega), hm]
  by_cases hz : n % b = 0
  · rw [if_pos hz, if_pos hz]
  · rw [if_neg hz, if_neg hz, PB.wrap_ok (b - n % b) (by omega) (by omega), PB.wrap_ok (4611686018427387904 - n) (by omega) (by omega), if_neg (by omega), PB.wrap_ok (n + b) (by omega) (by omega), PB.wrap_ok _ (by omega) (by omega)]
theorem awake_ev : Ev (fun k => flyleaflaw01_awake.f k) true := Ev.of (fun k => flyleaflaw01_awake.mono k) (k := 9) (by kernel_rfl)
theorem proved : flyleaflaw01_OctetRound.Pure := by
  intro a b _ _
  refine Ev.rounds ?_
  have hn := PB.and_i64 a 40 (by decide) 1099511627775 (by decide)
  have hb := PB.and_i64 b 20 (by decide) 1048575 (by decide)
  have e40 : (2 : Int) ^ 40 = 1099511627776 := by decide
  have e20 : (2 : Int) ^ 20 = 1048576 := by decide
  rw [e40] at hn
  rw [e20] at hb
  have n0 := Int.emod_nonneg a (show (1099511627776 : Int) ≠ 0 by decide)
  have n1 := Int.emod_lt_of_pos a (show (0 : Int) < 1099511627776 by decide)
  have b0 := Int.emod_nonneg b (show (1048576 : Int) ≠ 0 by decide)
  have b1 := Int.emod_lt_of_pos b (show (0 : Int) < 1048576 by decide)
  unfold flyleaflaw01_OctetRound.f
  simp only [hn, hb]
  generalize a % 1099511627776 = n at *
  generalize b % 1048576 = c at *
  rw [PB.wrap_ok (1 + c) (by omega) (by omega)]
  have q0 := Int.emod_nonneg n (show 1 + c ≠ 0 by omega)
  have q1 := Int.emod_lt_of_pos n (show 0 < 1 + c by omega)
  have key : ∃ r : Int, (if n % (1 + c) = 0 then (n, true) else (n + (1 + c) - n % (1 + c), true)) = (r, true) ∧ n ≤ r ∧ r - n < 1 + c ∧ r % (1 + c) = 0 := by
    by_cases hz : n % (1 + c) = 0
    · exact ⟨n, by rw [if_pos hz], by omega, by omega, hz⟩
    · refine ⟨n + (1 + c) - n % (1 + c), by rw [if_neg hz], by omega, by omega, ?_⟩
      have hd := Int.emod_add_mul_ediv n (1 + c)
      have : n + (1 + c) - n % (1 + c) = (1 + c) * (n / (1 + c) + 1) := by rw [Int.mul_add, Int.mul_one]; omega
      rw [this]
      exact Int.mul_emod_right _ _
  obtain ⟨r, he, hr1, hr2, hr3⟩ := key
  refine Ev.bind awake_ev ?_
  refine Ev.bind (round_ev n (1 + c) (by omega) (by omega) (by omega) (by omega)) ?_
  rw [he]
  refine Ev.bind (round_ev r (1 + c) (by omega) (by omega) (by omega) (by omega)) ?_
  rw [if_pos hr3]
  refine PB.ev_const fun k => ?_
  rw [if_pos rfl, if_pos rfl, if_pos rfl, if_pos (by omega), PB.wrap_ok (r - n) (by omega) (by omega), if_pos (by omega), if_neg (by omega), Int.tmod_eq_emod_of_nonneg (by omega), if_pos hr3]
  simp
end OctetRound
end Go.Proofs.Ytopbkfgeidnleaa.X
