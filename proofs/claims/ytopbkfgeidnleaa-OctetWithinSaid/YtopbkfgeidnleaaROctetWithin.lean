/- The law OctetWithin returns true for every input; each argument reads behind the call as it read before. -/
import Derived.Test.YtopbkfgeidnleaaRows
import Derived.Test.YtopbkfgeidnleaaQOctetWithin
import Derived.WalkKit
import Derived.ProofKit
import Derived.OpenShut
import Derived.ShutString
import Derived.ChangeOld
import Derived.Below
import Derived.SizedLaws
namespace Go.Proofs.Ytopbkfgeidnleaa.octetWithin
open Go.ChangeShapes Go.WideShapes Go.ChangeAt Go.RowKit
open Go.ChangeMaps (open_string shut_string)
open Go.Proofs.Ytopbkfgeidnleaa.X Go.Proofs.Ytopbkfgeidnleaa.X.OctetWithin Go.Proofs.YtopbkfgeidnleaaW.PrintWords
set_option linter.unusedVariables false
theorem own : ownKnob Try.prog.godebug = none := by kernel_rfl
theorem laidOut : laidOutB Try.prog = true := by kernel_rfl
theorem opens26 : XO.Opens Try.prog k26 26 wf26 := XO.opens_iso _ (fun x => ⟨x.1, x.2.1, x.2.2⟩) (fun _ => rfl) (XO.opens_array (c := 1) Try.underlying26 (by kernel_rfl) (by kernel_rfl) (XO.opensFs_cons (XO.opens_int Try.underlying3) rfl (by kernel_rfl) rfl (XO.opensFs_cons (XO.opens_int Try.underlying3) rfl (by kernel_rfl) rfl (XO.opensFs_one (XO.opens_int Try.underlying3) rfl (by kernel_rfl)) (by decide)) (by decide)))
set_option maxRecDepth 100000 in
theorem lifted (os : Os) (started : os.Started) (H : Type) (enc : TypeId × Value → H) :
    ReturnsInHanded {} Try.checked os 4 .any (Rows.octetWithinSpec.pre6 enc Try.prog Try.f4 Rows.octetWithinRow.domain false) (Rows.octetWithinSpec.post enc Try.prog Try.f4 false true false false) := by
  refine returnsInHanded_of_change_sized (C := Try.checked) own started (by kernel_rfl) Try.func4
    (ChangeSpec.witness6 (enc := enc) (C := Try.checked) false ⟨#[], #[.agg #[(.int .i64 0), (.int .i64 0), (.int .i64 0)]], []⟩ 8 (by kernel_rfl) (by kernel_rfl) (by kernel_rfl) (by kernel_rfl)) ?_
  intro W base args ds gs before hval0 hW hcnd hsz0 _
  have hsz : (DataW.weightsEach Try.prog (Try.f4.params.toList ++ Rows.octetWithinSpec.plain.varTypes Try.prog) (ds ++ gs)).all (· ≤ reachBytes) = true := hsz0
  have hval : ∀ (j : Nat) t v, Try.f4.params[j]? = some t → args[j]? = some v → Value.okWide Try.prog W .any base t v := hval0
  have hW' := hW
  obtain ⟨p, q, hA0, hV, rfl, hfz, hnd⟩ := hW
  have hA : DataW.TrodAll enc Try.prog W 0 (fun _ => true) true Try.f4.params.toList args.toList ds p := hA0
  rw [Try.params4] at hA hval hsz
  obtain ⟨v0, vs0, d0, ds0, p0, q0, hargs, rfl, rfl, h0, r0⟩ := trodAll_cons hA
  obtain ⟨rfl, rfl, rfl⟩ := trodAll_nil r0
  obtain rfl : args = #[v0] := by cases args; simp_all
  obtain ⟨rfl, rfl⟩ := trodVars_none hV
  have k0 := h0
  have lt0 : ∀ x ∈ p0, x.block < W.heap.size := by obtain ⟨m, hm⟩ := k0; exact DataW.trod_lt m _ _ _ hm
  obtain ⟨x0, cs0, rfl, hK0, w0⟩ := XO.open_agg (.inr ⟨_, _, Try.underlying26⟩) opens26 (hval 0 26 v0 rfl rfl) h0
  obtain rfl := k26_open hK0
  clear hA0 hval0 hsz0 hsz
  obtain ⟨k, h⟩ := OctetWithin.proved x0 w0
  refine (flyleaflaw01_OctetWithin.calls k x0.f0 x0.f1 x0.f2 true W  h).mono fun e W' ⟨he, bel0⟩ => ?_
  have bel : Below W.heap.size W W' := bel0
  subst he
  exact ⟨_, rfl, _, _, _, [], _, [], hW', trodAll_mk1 (shut_bool Try.underlying4 _), (trodAll_cons_mk (Below.trod laidOut (by kernel_rfl) (of_decide_eq_true (by kernel_rfl)) k0 bel lt0) trodAll_mk0), rfl, bel.frame _, fun h => by cases h⟩
theorem over : Rows.octetWithinRow.holds Try.pinned (OpenSpec.ofChange Rows.octetWithinSpec) :=
  OpenClaim.holds_of_wide 4 Try.f4 rfl rfl rfl rfl rfl rfl rfl ⟨rfl, rfl, rfl, rfl, rfl⟩ rfl rfl rfl rfl rfl (by kernel_rfl) Try.func4 (by kernel_rfl)
    (of_decide_eq_true (by kernel_rfl)) (by unfold Func.isWrapper; first | (rw [if_pos (by decide +kernel)]; kernel_rfl) | (rw [if_neg (by decide +kernel)]; exact ⟨rfl, rfl⟩))
    (fun os started H enc _ => lifted os started H enc)
theorem proved : Rows.OctetWithinSaid := over
#print axioms proved
end Go.Proofs.Ytopbkfgeidnleaa.octetWithin
namespace Go.Proofs.Ytopbkfgeidnleaa
theorem octetWithin_holds : Rows.OctetWithinSaid := octetWithin.proved
end Go.Proofs.Ytopbkfgeidnleaa
