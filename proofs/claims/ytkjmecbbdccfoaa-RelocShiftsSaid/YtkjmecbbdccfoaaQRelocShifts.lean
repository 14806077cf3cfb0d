/- The one statement that is left of RelocShifts: values go up with the base, or with the symbol. -/
import Derived.Test.YtkjmecbbdccfoaaSRelocShifts
import Derived.Test.YtkjmecbbdccfoaaQReloc
namespace Go.Proofs.Ytkjmecbbdccfoaa.X
open Go.RowKit Go.Proofs.YtkjmecbbdccfoaaW.PrintWords Go.Proofs.YtkjmecbbdccfoaaW.PrintLast Go.Proofs.YtkjmecbbdccfoaaW.PrintMore
namespace RelocShifts
theorem sums (add B S D kind : Int) (hB : 0 ≤ B ∧ B < 1099511627776) (hS : 0 ≤ S ∧ S < 1099511627776) (hD : 0 ≤ D ∧ D < 1099511627776) (hk : kind = 1 ∨ kind = 6 ∨ kind = 7 ∨ kind = 8) :
    IntKind.u64.wrap ((Reloc.valueV kind add (B + D) (S + D)).1 - (Reloc.valueV kind add B S).1) = D ∧
    (D ≠ 0 → ((Reloc.valueV kind add (B + D) S).1 == (Reloc.valueV kind add B S).1) = Reloc.asksV kind) := by
  unfold Reloc.valueV Reloc.asksV
  simp only [IntKind.wrap_u64]
  rcases hk with rfl | rfl | rfl | rfl
  · simp only [if_true]
    exact ⟨by omega, fun _ => by rw [beq_self_eq_true]; rfl⟩
  · simp only [show ¬ (6 : Int) = 1 by decide, if_false, true_or, if_true]
    exact ⟨by omega, fun _ => by rw [beq_self_eq_true]; rfl⟩
  · simp only [show ¬ (7 : Int) = 1 by decide, if_false, or_true, if_true]
    exact ⟨by omega, fun _ => by rw [beq_self_eq_true]; rfl⟩
  · simp only [show ¬ (8 : Int) = 1 by decide, show ¬ ((8 : Int) = 6 ∨ (8 : Int) = 7) by decide, if_false, if_true]
    refine ⟨by omega, fun h => ?_⟩
    rw [beq_eq_false_iff_ne.2 (by omega)]
    rfl
theorem j0_ev (at' kind sym add q0 q1 q2 : Int) (hk : kind = 1 ∨ kind = 6 ∨ kind = 7 ∨ kind = 8) : Ev (fun k => flyleaflaw11_RelocShifts.j0 k true at' kind sym add q0 q1 q2) true := by
  have e40 : (2 : Int) ^ 40 = 1099511627776 := by decide
  have m : ∀ q : Int, Go.bits .and .i64 q 1099511627775 = q % 1099511627776 := fun q => by
    have := PB.and_i64 q 40 (by decide) 1099511627775 (by decide)
    rwa [e40] at this
  have r : ∀ q : Int, 0 ≤ q % 1099511627776 ∧ q % 1099511627776 < 1099511627776 := fun q => ⟨Int.emod_nonneg _ (by decide), Int.emod_lt_of_pos _ (by decide)⟩
  refine PB.ev_succ (f := fun k => flyleaflaw11_RelocShifts.j0 (k + 1) true at' kind sym add q0 q1 q2) (fun k => rfl) ?_
  simp only [flyleaflaw11_RelocShifts.j0, m]
  have rB := r q0
  have rS := r q1
  have rD := r q2
  generalize q0 % 1099511627776 = B at *
  generalize q1 % 1099511627776 = S at *
  generalize q2 % 1099511627776 = D at *
  rw [PB.wrap_ok (B + D) (by omega) (by omega), PB.wrap_ok (S + D) (by omega) (by omega)]
  obtain ⟨s1, s2⟩ := sums add B S D kind rB rS rD hk
  have kn : Reloc.known kind = true := decide_eq_true hk
  refine Ev.bind (Reloc.value_ev at' kind sym add B S) ?_
  refine Ev.bind (Reloc.value_ev at' kind sym add (B + D) (S + D)) ?_
  refine Ev.bind (Reloc.value_ev at' kind sym add (B + D) S) ?_
  simp only [Reloc.value_is, kn, if_true]
  refine Ev.bind (Reloc.shift_ev at' kind sym add) ?_
  rw [if_pos kn, s1, PB.u64_in D (by omega) (by omega), PB.u64_in 1 (by omega) (by omega), Int.mul_one, PB.u64_in D (by omega) (by omega)]
  refine PB.ev_const fun k => ?_
  rw [if_pos rfl]
  by_cases c : D = 0
  · rw [if_pos c]
  · rw [if_neg c, Reloc.asks_f]
    have h := s2 c
    simp only [Option.bind_some, Option.some.injEq]
    rw [h]
    exact beq_self_eq_true _
theorem proved : flyleaflaw11_RelocShifts.Pure := by
  intro r q _ _
  refine Ev.rounds ?_
  unfold flyleaflaw11_RelocShifts.f
  refine Ev.bind Reloc.awake_ev ?_
  have e := PB.and_i64 r.f1 2 (by decide) 3 (by decide)
  have e2 : (2 : Int) ^ 2 = 4 := by decide
  rw [e2] at e
  rw [e]
  have m0 := Int.emod_nonneg r.f1 (show (4 : Int) ≠ 0 by decide)
  have m1 := Int.emod_lt_of_pos r.f1 (show (0 : Int) < 4 by decide)
  by_cases c0 : r.f1 % 4 = 0
  · exact Ev.congr (fun k => by rw [if_pos m0, if_pos c0]) (j0_ev r.f0 1 r.f2 r.f3 q.f0 q.f1 q.f2 (by decide))
  · by_cases c1 : r.f1 % 4 = 1
    · exact Ev.congr (fun k => by rw [if_pos m0, if_neg c0, if_pos c1]) (j0_ev r.f0 6 r.f2 r.f3 q.f0 q.f1 q.f2 (by decide))
    · by_cases c2 : r.f1 % 4 = 2
      · exact Ev.congr (fun k => by rw [if_pos m0, if_neg c0, if_neg c1, if_pos c2]) (j0_ev r.f0 7 r.f2 r.f3 q.f0 q.f1 q.f2 (by decide))
      · have c3 : r.f1 % 4 = 3 := by omega
        exact Ev.congr (fun k => by rw [if_pos m0, if_neg c0, if_neg c1, if_neg c2, if_pos c3]) (j0_ev r.f0 8 r.f2 r.f3 q.f0 q.f1 q.f2 (by decide))
end RelocShifts
end Go.Proofs.Ytkjmecbbdccfoaa.X
