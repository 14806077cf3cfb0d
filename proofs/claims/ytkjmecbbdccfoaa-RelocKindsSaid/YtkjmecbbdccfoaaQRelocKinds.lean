/- The one statement that is left of RelocKinds: there are four kinds, and no others. -/
import Derived.Test.YtkjmecbbdccfoaaSRelocKinds
import Derived.Test.YtkjmecbbdccfoaaQRelocAt
import Derived.Test.YtkjmecbbdccfoaaQRFill
namespace Go.Proofs.Ytkjmecbbdccfoaa.X
open Go.RowKit Go.Proofs.YtkjmecbbdccfoaaW.PrintWords Go.Proofs.YtkjmecbbdccfoaaW.PrintLast Go.Proofs.YtkjmecbbdccfoaaW.PrintMore
namespace RelocKinds
theorem tail_ev (kind sym add e : Int) (M : Bool) (h : 0 ≤ kind → kind ≤ 2147483648 → (e == 0) = M) : Ev (fun k => flyleaflaw11_RelocKinds.j1 k kind true (Reloc.known kind) (Reloc.known kind) e M 0 kind sym add) true := by
  have out : ¬ (0 ≤ kind ∧ kind ≤ 2147483648) → Ev (fun k => flyleaflaw11_RelocKinds.j2 k kind true (Reloc.known kind) (Reloc.known kind) e M true 0 kind sym add) true := fun c => by
    refine PB.ev_one fun k => ?_
    have kf : Reloc.known kind = false := decide_eq_false (by omega)
    simp only [flyleaflaw11_RelocKinds.j2, if_true, kf, Bool.not_false]
  refine PB.ev_succ (f := fun k => flyleaflaw11_RelocKinds.j1 (k + 1) kind true (Reloc.known kind) (Reloc.known kind) e M 0 kind sym add) (fun k => rfl) ?_
  simp only [flyleaflaw11_RelocKinds.j1]
  by_cases c0 : kind < 0
  · exact Ev.congr (fun k => if_pos c0) (out (by omega))
  · refine Ev.congr (fun k => if_neg c0) ?_
    by_cases c1 : kind > 2147483648
    · rw [decide_eq_true c1]
      exact out (by omega)
    · rw [decide_eq_false c1]
      have hM := h (by omega) (by omega)
      refine PB.ev_succ (f := fun k => flyleaflaw11_RelocKinds.j2 (k + 1) kind true (Reloc.known kind) (Reloc.known kind) e M false 0 kind sym add) (fun k => rfl) ?_
      simp only [flyleaflaw11_RelocKinds.j2, Bool.false_eq_true, if_false, if_true, beq_self_eq_true, hM, Reloc.asks_f, Option.bind_some]
      cases hk : Reloc.known kind
      · have ha : Reloc.asksV kind = false := decide_eq_false (by have := of_decide_eq_false hk; omega)
        simp only [Bool.false_eq_true, if_false, ha, beq_self_eq_true, if_true]
        refine Ev.bind (Reloc.shift_ev 0 kind sym add) ?_
        rw [hk]
        exact PB.ev_const fun k => rfl
      · have hk2 := of_decide_eq_true hk
        have ha : Reloc.asksV kind = (kind != 8) := by
          unfold Reloc.asksV
          by_cases c8 : kind = 8
          · rw [c8]; rfl
          · rw [decide_eq_true (by omega), bne_iff_ne.2 c8]
        simp only [if_true, ha, beq_self_eq_true]
        refine Ev.bind (Reloc.shift_ev 0 kind sym add) ?_
        rw [hk]
        exact PB.ev_const fun k => rfl
/-- What is read of one that is written alone. -/
theorem read_one (kind sym add : Int) (k0 : 0 ≤ kind) (k1 : kind ≤ 2147483648) (s0 : 0 ≤ sym) (s1 : sym < 4) (d : -9223372036854775808 ≤ add ∧ add < 9223372036854775808) :
    ((Reloc.readV (Oct.fillV (Reloc.bytesV 0 kind sym add) 40) 0 24).2 == 0) = ((Reloc.asksV kind || kind == 8) && (Reloc.asksV kind == decide (sym > 0))) := by
  have zb : (Reloc.bytesV 0 kind sym add).size = 24 := Reloc.bytesV_size _ _ _ _
  have hf : Oct.fillV (Reloc.bytesV 0 kind sym add) 40 = Reloc.bytesV 0 kind sym add ++ Oct.zeroB 16 := by
    unfold Oct.fillV
    rw [if_neg (by omega), zb]
    rfl
  have ha := Reloc.at_l (Reloc.at_bytes 0 kind sym add (by decide) (by decide) k0 (by omega) s0 (by omega)) (Oct.zeroB 16)
  rw [hf]
  generalize hv : Reloc.bytesV 0 kind sym add ++ Oct.zeroB 16 = v at *
  have zv : v.size = 40 := by rw [← hv, ByteArray.size_append, zb, Oct.zeroB_size]
  have pv : Oct.partV v 0 24 = (v.extract 0 24, true) := by
    unfold Oct.partV
    rw [if_pos (by omega)]
    rfl
  have hm := Reloc.may_at (v.extract 0 24) 0 40 0 kind sym add (by decide) (by decide) k0 (by omega) s0 (by omega) d (Reloc.at_part 24 ha (by decide) (by omega))
  rw [show decide ((0 : Int) ≤ 40 ∧ 8 ≤ (40 : Int) - 0) = true by decide, Bool.true_and] at hm
  unfold Reloc.readV
  rw [if_neg (by decide), pv, if_pos ⟨rfl, by decide⟩, zv]
  have hm' : Reloc.mayV (v.extract 0 24) 0 ((40 : Nat) : Int) = ((Reloc.asksV kind || kind == 8) && (Reloc.asksV kind == decide (sym > 0))) := hm
  show ((Reloc.endV [] (Reloc.rowsV (v.extract 0 24) ((40 : Nat) : Int) 1 0)).2 == 0) = _
  simp only [Reloc.rowsV]
  rw [hm']
  cases hc : ((Reloc.asksV kind || kind == 8) && (Reloc.asksV kind == decide (sym > 0)))
  · rfl
  · rfl
theorem proved : flyleaflaw11_RelocKinds.Pure := by
  intro kind sy add hk _ hd
  have bk := PB.wfI_i64 hk
  have bd := PB.wfI_i64 hd
  refine Ev.rounds ?_
  unfold flyleaflaw11_RelocKinds.f
  refine Ev.bind Reloc.awake_ev ?_
  have e := PB.and_i64 sy 2 (by decide) 3 (by decide)
  have e2 : (2 : Int) ^ 2 = 4 := by decide
  rw [e2] at e
  rw [e]
  have s0 := Int.emod_nonneg sy (show (4 : Int) ≠ 0 by decide)
  have s1 := Int.emod_lt_of_pos sy (show (0 : Int) < 4 by decide)
  generalize sy % 4 = sym at *
  have go : Ev (fun k => flyleaflaw11_RelocKinds.j0 k kind add true sym (Reloc.known kind)) true := by
    refine PB.ev_succ (f := fun k => flyleaflaw11_RelocKinds.j0 (k + 1) kind add true sym (Reloc.known kind)) (fun k => rfl) ?_
    simp only [flyleaflaw11_RelocKinds.j0]
    refine Ev.bind (Reloc.value_ev 0 kind sym add 5 9) ?_
    rw [Reloc.value_is]
    refine Ev.bind (Reloc.bytes_ev 0 kind sym add (by decide) bk (by omega) bd) ?_
    have zb : (Reloc.bytesV 0 kind sym add).size = 24 := Reloc.bytesV_size _ _ _ _
    refine Ev.bind (PB.ev_const fun k => Oct.rfill_f _ 40 (by omega) (by decide)) ?_
    have zf : (Oct.fillV (Reloc.bytesV 0 kind sym add) 40).size = 40 := by
      unfold Oct.fillV
      rw [if_neg (by omega), ByteArray.size_append, zb, Oct.zeroB_size]
      rfl
    refine Ev.bind (Reloc.read_ev _ [] 0 0 0 0 0 24 0 0 (by omega)) ?_
    have r := fun k0 k1 => read_one kind sym add k0 k1 s0 s1 bd
    generalize (Reloc.readV (Oct.fillV (Reloc.bytesV 0 kind sym add) 40) 0 24).2 = er at *
    have t := fun M h => tail_ev kind sym add er M h
    cases hkn : Reloc.known kind
    · rw [hkn] at t
      have hn := of_decide_eq_false hkn
      have ha : Reloc.asksV kind = false := decide_eq_false (by omega)
      refine Ev.congr (fun k => by rw [if_neg (by decide), if_neg (by omega)]) (t false fun k0 k1 => ?_)
      rw [r k0 k1, ha, beq_eq_false_iff_ne.2 (by omega)]
      rfl
    · rw [hkn] at t
      have hy := of_decide_eq_true hkn
      by_cases c8 : kind = 8
      · have ha : Reloc.asksV kind = false := decide_eq_false (by omega)
        refine Ev.congr (fun k => by rw [if_pos rfl, if_pos c8]) (t (sym == 0) fun k0 k1 => ?_)
        rw [r k0 k1, ha, beq_iff_eq.2 c8, Bool.false_or, Bool.true_and]
        by_cases cs : sym = 0
        · rw [cs]; rfl
        · rw [decide_eq_true (by omega), beq_eq_false_iff_ne.2 cs]; rfl
      · have ha : Reloc.asksV kind = true := decide_eq_true (by omega)
        by_cases cs : sym > 0
        · refine Ev.congr (fun k => by rw [if_pos rfl, if_neg c8, if_pos cs]) (t true fun k0 k1 => ?_)
          rw [r k0 k1, ha, decide_eq_true cs]; rfl
        · refine Ev.congr (fun k => by rw [if_pos rfl, if_neg c8, if_neg cs]) (t false fun k0 k1 => ?_)
          rw [r k0 k1, ha, decide_eq_false cs]; rfl
  by_cases c1 : kind = 1
  · refine Ev.congr (fun k => by rw [if_pos c1]) ?_
    rwa [show Reloc.known kind = true from decide_eq_true (by omega)] at go
  · by_cases c6 : kind = 6
    · refine Ev.congr (fun k => by rw [if_neg c1, if_pos c6]) ?_
      rwa [show Reloc.known kind = true from decide_eq_true (by omega)] at go
    · by_cases c7 : kind = 7
      · refine Ev.congr (fun k => by rw [if_neg c1, if_neg c6, if_pos c7]) ?_
        rwa [show Reloc.known kind = true from decide_eq_true (by omega)] at go
      · refine Ev.congr (fun k => by rw [if_neg c1, if_neg c6, if_neg c7]) ?_
        rwa [show Reloc.known kind = (kind == 8) by unfold Reloc.known; by_cases c8 : kind = 8; · { rw [c8]; rfl }; · rw [decide_eq_false (by omega), beq_eq_false_iff_ne.2 c8]] at go
end RelocKinds
end Go.Proofs.Ytkjmecbbdccfoaa.X
