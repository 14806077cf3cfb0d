/- The one statement that is left of RelocValues: values and bytes are the same, of the program and of the reference. -/
import Derived.Test.YtkjmecbbdccfoaaSRelocValues
import Derived.Test.YtkjmecbbdccfoaaQReloc
namespace Go.Proofs.Ytkjmecbbdccfoaa.X
open Go.RowKit Go.Proofs.YtkjmecbbdccfoaaW.PrintWords Go.Proofs.YtkjmecbbdccfoaaW.PrintLast Go.Proofs.YtkjmecbbdccfoaaW.PrintMore
namespace RelocValues
theorem proved : flyleaflaw11_RelocValues.Pure := by
  intro r base sym hr hb hs
  obtain ⟨h0, h1, h2, h3⟩ := hr
  have b0 := PB.wfI_i64 h0
  have b1 := PB.wfI_i64 h1
  have b2 := PB.wfI_i64 h2
  have b3 := PB.wfI_i64 h3
  refine Ev.rounds ?_
  unfold flyleaflaw11_RelocValues.f
  refine Ev.bind Reloc.awake_ev ?_
  refine Ev.bind (Reloc.value_ev r.f0 r.f1 r.f2 r.f3 base sym) ?_
  refine Ev.bind (Reloc.rvalue_ev r.f0 r.f1 r.f2 r.f3 base sym) ?_
  have go : Ev (fun k => flyleaflaw11_RelocValues.j0 k true (Reloc.valueV r.f1 r.f3 base sym).1 (Reloc.valueV r.f1 r.f3 base sym).2 (Reloc.valueV r.f1 r.f3 base sym).1 (Reloc.valueV r.f1 r.f3 base sym).2 (if (Reloc.valueV r.f1 r.f3 base sym).2 = true then 1 else 0) r.f0 r.f1 r.f2 r.f3) true := by
    refine PB.ev_succ (f := fun k => flyleaflaw11_RelocValues.j0 (k + 1) true (Reloc.valueV r.f1 r.f3 base sym).1 (Reloc.valueV r.f1 r.f3 base sym).2 (Reloc.valueV r.f1 r.f3 base sym).1 (Reloc.valueV r.f1 r.f3 base sym).2 (if (Reloc.valueV r.f1 r.f3 base sym).2 = true then 1 else 0) r.f0 r.f1 r.f2 r.f3) (fun k => rfl) ?_
    simp only [flyleaflaw11_RelocValues.j0, if_true, beq_self_eq_true]
    refine Ev.bind (Reloc.bytes_ev r.f0 r.f1 r.f2 r.f3 b0 b1 b2 b3) ?_
    refine Ev.bind (Reloc.rbytes_ev r.f0 r.f1 r.f2 r.f3 b0 b1 b2 b3) ?_
    simp only [if_true]
    refine Ev.bind (PB.ev_const fun k => Reloc.asks_f r.f0 r.f1 r.f2 r.f3) ?_
    refine Ev.bind (PB.ev_const fun k => Reloc.rasks_f r.f0 r.f1 r.f2 r.f3) ?_
    simp only [beq_self_eq_true, if_true]
    refine Ev.bind (Reloc.shift_ev r.f0 r.f1 r.f2 r.f3) ?_
    rw [Reloc.value_is r.f1 r.f3 base sym]
    refine PB.ev_const fun k => ?_
    simp
  by_cases c : (Reloc.valueV r.f1 r.f3 base sym).2 = true
  · refine Ev.congr (fun k => ?_) go
    rw [if_pos c, if_pos c]
  · refine Ev.congr (fun k => ?_) go
    rw [if_neg c, if_neg c]
end RelocValues
end Go.Proofs.Ytkjmecbbdccfoaa.X
