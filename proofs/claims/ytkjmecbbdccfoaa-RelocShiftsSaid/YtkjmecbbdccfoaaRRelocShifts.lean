/- The law RelocShifts returns true for every input; each argument reads behind the call as it read before. -/
import Derived.Test.YtkjmecbbdccfoaaRows
import Derived.Test.YtkjmecbbdccfoaaQRelocShifts
import Derived.WalkKit
import Derived.ProofKit
import Derived.OpenShut
import Derived.ShutString
import Derived.ChangeOld
import Derived.Below
import Derived.SizedLaws
namespace Go.Proofs.Ytkjmecbbdccfoaa.relocShifts
open Go.ChangeShapes Go.WideShapes Go.ChangeAt Go.RowKit
open Go.ChangeMaps (open_string shut_string)
open Go.Proofs.Ytkjmecbbdccfoaa.X Go.Proofs.Ytkjmecbbdccfoaa.X.RelocShifts Go.Proofs.YtkjmecbbdccfoaaW.PrintWords
set_option linter.unusedVariables false
theorem own : ownKnob Try.prog.godebug = none := by kernel_rfl
theorem laidOut : laidOutB Try.prog = true := by kernel_rfl
theorem opens23 : XO.Opens Try.prog k23 23 wf23 := XO.opens_iso _ (fun x => ⟨x.1, x.2.1, x.2.2.1, x.2.2.2⟩) (fun _ => rfl) (XO.opens_struct Try.underlying23 (by kernel_rfl) (XO.opensFs_cons (XO.opens_int Try.underlying3) rfl (by kernel_rfl) rfl (XO.opensFs_cons (XO.opens_int Try.underlying3) rfl (by kernel_rfl) rfl (XO.opensFs_cons (XO.opens_int Try.underlying3) rfl (by kernel_rfl) rfl (XO.opensFs_one (XO.opens_int Try.underlying2) rfl (by kernel_rfl)) (by decide)) (by decide)) (by decide)))
theorem opens24 : XO.Opens Try.prog k24 24 wf24 := XO.opens_iso _ (fun x => ⟨x.1, x.2.1, x.2.2⟩) (fun _ => rfl) (XO.opens_array (c := 1) Try.underlying24 (by kernel_rfl) (by kernel_rfl) (XO.opensFs_cons (XO.opens_int Try.underlying3) rfl (by kernel_rfl) rfl (XO.opensFs_cons (XO.opens_int Try.underlying3) rfl (by kernel_rfl) rfl (XO.opensFs_one (XO.opens_int Try.underlying3) rfl (by kernel_rfl)) (by decide)) (by decide)))
set_option maxRecDepth 100000 in
theorem lifted (os : Os) (started : os.Started) (H : Type) (enc : TypeId × Value → H) :
    ReturnsInHanded {} Try.checked os 3 .any (Rows.relocShiftsSpec.pre6 enc Try.prog Try.f3 Rows.relocShiftsRow.domain false) (Rows.relocShiftsSpec.post enc Try.prog Try.f3 false true false false) := by
  refine returnsInHanded_of_change_sized (C := Try.checked) own started (by kernel_rfl) Try.func3
    (ChangeSpec.witness6 (enc := enc) (C := Try.checked) false ⟨#[], #[.agg #[(.int .i64 0), (.int .i64 0), (.int .i64 0), (.int .i64 0)], .agg #[(.int .i64 0), (.int .i64 0), (.int .i64 0)]], []⟩ 8 (by kernel_rfl) (by kernel_rfl) (by kernel_rfl) (by kernel_rfl)) ?_
  intro W base args ds gs before hval0 hW hcnd hsz0 _
  have hsz : (DataW.weightsEach Try.prog (Try.f3.params.toList ++ Rows.relocShiftsSpec.plain.varTypes Try.prog) (ds ++ gs)).all (· ≤ reachBytes) = true := hsz0
  have hval : ∀ (j : Nat) t v, Try.f3.params[j]? = some t → args[j]? = some v → Value.okWide Try.prog W .any base t v := hval0
  have hW' := hW
  obtain ⟨p, q, hA0, hV, rfl, hfz, hnd⟩ := hW
  have hA : DataW.TrodAll enc Try.prog W 0 (fun _ => true) true Try.f3.params.toList args.toList ds p := hA0
  rw [Try.params3] at hA hval hsz
  obtain ⟨v0, vs0, d0, ds0, p0, q0, hargs, rfl, rfl, h0, r0⟩ := trodAll_cons hA
  obtain ⟨v1, vs1, d1, ds1, p1, q1, rfl, rfl, rfl, h1, r1⟩ := trodAll_cons r0
  obtain ⟨rfl, rfl, rfl⟩ := trodAll_nil r1
  obtain rfl : args = #[v0, v1] := by cases args; simp_all
  obtain ⟨rfl, rfl⟩ := trodVars_none hV
  have k0 := h0
  have lt0 : ∀ x ∈ p0, x.block < W.heap.size := by obtain ⟨m, hm⟩ := k0; exact DataW.trod_lt m _ _ _ hm
  obtain ⟨x0, cs0, rfl, hK0, w0⟩ := XO.open_agg (.inl ⟨_, Try.underlying23⟩) opens23 (hval 0 23 v0 rfl rfl) h0
  obtain rfl := k23_open hK0
  have k1 := h1
  have lt1 : ∀ x ∈ p1, x.block < W.heap.size := by obtain ⟨m, hm⟩ := k1; exact DataW.trod_lt m _ _ _ hm
  obtain ⟨x1, cs1, rfl, hK1, w1⟩ := XO.open_agg (.inr ⟨_, _, Try.underlying24⟩) opens24 (hval 1 24 v1 rfl rfl) h1
  obtain rfl := k24_open hK1
  clear hA0 hval0 hsz0 hsz
  obtain ⟨k, h⟩ := RelocShifts.proved x0 x1 w0 w1
  refine (flyleaflaw11_RelocShifts.calls k x0.f0 x0.f1 x0.f2 x0.f3 x1.f0 x1.f1 x1.f2 W  h).mono fun e W' ⟨he, bel0⟩ => ?_
  have bel : Below W.heap.size W W' := bel0
  subst he
  exact ⟨_, rfl, _, _, _, [], _, [], hW', trodAll_mk1 (shut_bool Try.underlying4 _), (trodAll_cons_mk (Below.trod laidOut (by kernel_rfl) (of_decide_eq_true (by kernel_rfl)) k0 bel lt0) (trodAll_cons_mk (Below.trod laidOut (by kernel_rfl) (of_decide_eq_true (by kernel_rfl)) k1 bel lt1) trodAll_mk0)), rfl, bel.frame _, fun h => by cases h⟩
theorem over : Rows.relocShiftsRow.holds Try.pinned (OpenSpec.ofChange Rows.relocShiftsSpec) :=
  OpenClaim.holds_of_wide 3 Try.f3 rfl rfl rfl rfl rfl rfl rfl ⟨rfl, rfl, rfl, rfl, rfl⟩ rfl rfl rfl rfl rfl (by kernel_rfl) Try.func3 (by kernel_rfl)
    (of_decide_eq_true (by kernel_rfl)) (by unfold Func.isWrapper; first | (rw [if_pos (by decide +kernel)]; kernel_rfl) | (rw [if_neg (by decide +kernel)]; exact ⟨rfl, rfl⟩))
    (fun os started H enc _ => lifted os started H enc)
theorem proved : Rows.RelocShiftsSaid := over
#print axioms proved
end Go.Proofs.Ytkjmecbbdccfoaa.relocShifts
namespace Go.Proofs.Ytkjmecbbdccfoaa
theorem relocShifts_holds : Rows.RelocShiftsSaid := relocShifts.proved
end Go.Proofs.Ytkjmecbbdccfoaa
