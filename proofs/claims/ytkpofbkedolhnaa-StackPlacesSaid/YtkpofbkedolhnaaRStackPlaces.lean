/- The law StackPlaces returns true for every input; each argument reads behind the call as it read before. -/
import Derived.Test.YtkpofbkedolhnaaRows
import Derived.Test.YtkpofbkedolhnaaQStackPlaces
import Derived.Test.YtkpofbkedolhnaaL1U
import Derived.WalkKit
import Derived.ProofKit
import Derived.OpenShut
import Derived.ShutString
import Derived.ChangeOld
import Derived.Below
import Derived.SizedLaws
namespace Go.Proofs.Ytkpofbkedolhnaa.stackPlaces
open Go.ChangeShapes Go.WideShapes Go.ChangeAt Go.RowKit Go.L1
set_option linter.unusedVariables false
theorem own : ownKnob Try.prog.godebug = none := by kernel_rfl
theorem laidOut : laidOutB Try.prog = true := by kernel_rfl
set_option maxRecDepth 100000 in
theorem lifted (os : Os) (started : os.Started) (H : Type) (enc : TypeId × Value → H) :
    ReturnsInHanded {} Try.checked os 6 .any (Rows.stackPlacesSpec.pre6 enc Try.prog Try.f6 Rows.stackPlacesRow.domain false) (Rows.stackPlacesSpec.post enc Try.prog Try.f6 false true false false) := by
  refine returnsInHanded_of_change_sized (C := Try.checked) own started (by kernel_rfl) Try.func6
    (ChangeSpec.witness6 (enc := enc) (C := Try.checked) false ⟨#[], #[.int .i64 0, .slice none 0 0], []⟩ 8 (by kernel_rfl) (by kernel_rfl) (by kernel_rfl) (by kernel_rfl)) ?_
  intro W base args ds gs before hval0 hW hcnd hsz0 _
  have hsz : (DataW.weightsEach Try.prog (Try.f6.params.toList ++ Rows.stackPlacesSpec.plain.varTypes Try.prog) (ds ++ gs)).all (· ≤ reachBytes) = true := hsz0
  have hval : ∀ (j : Nat) t v, Try.f6.params[j]? = some t → args[j]? = some v → Value.okWide Try.prog W .any base t v := hval0
  have hW' := hW
  obtain ⟨p, q, hA0, hV, rfl, hfz, hnd⟩ := hW
  have hA : DataW.TrodAll enc Try.prog W 0 (fun _ => true) true Try.f6.params.toList args.toList ds p := hA0
  rw [Try.params6] at hA hval hsz
  obtain ⟨v0, vs0, d0, ds0, p0, q0, hargs, rfl, rfl, h0, r0⟩ := trodAll_cons hA
  obtain ⟨v1, vs1, d1, ds1, p1, q1, rfl, rfl, rfl, h1, r1⟩ := trodAll_cons r0
  obtain ⟨rfl, rfl, rfl⟩ := trodAll_nil r1
  obtain rfl : args = #[v0, v1] := by cases args; simp_all
  obtain ⟨rfl, rfl⟩ := trodVars_none hV
  have lt0 : ∀ x ∈ p0, x.block < W.heap.size := by obtain ⟨m, hm⟩ := h0; exact DataW.trod_lt m _ _ _ hm
  obtain ⟨x0, a0, w0⟩ := arg_one (V := fun x => .int .i64 x) (fun _ => rfl) (one_cells (.inl ⟨_, Try.underlying3⟩) (hval 0 3 v0 rfl rfl)) (opens_int Try.underlying3) h0
  have lt1 : ∀ x ∈ p1, x.block < W.heap.size := by obtain ⟨m, hm⟩ := h1; exact DataW.trod_lt m _ _ _ hm
  obtain ⟨x1, a1, w1⟩ := arg_one (V := fun x => fz tg x.length (x.flatMap (kInt .i64).enc)) (fun _ => rfl) (one_cells (.inr (.inr (.inr ⟨_, Try.underlying38⟩))) (hval 1 38 v1 rfl rfl)) (opens_list Try.underlying38 (by kernel_rfl) (by decide) (opens_int Try.underlying3)) h1
  clear hA0 hval0 hsz0 hsz
  refine (law_calls (T := Go.Proofs.Ytkpofbkedolhnaa.L.StackPlaces.tab) (F := 6) (args1 := [.int .i64 x0, fz tg x1.length (x1.flatMap (kInt .i64).enc)]) (fun C n ρ' hP hi => (.cons (a0 C n ρ' hP hi) (.cons (a1 C n ρ' hP hi) .nil))) Go.Proofs.Ytkpofbkedolhnaa.L.StackPlaces.tabok ⟨_, Try.func6, by kernel_rfl, by kernel_rfl⟩ (Go.Proofs.Ytkpofbkedolhnaa.L.StackPlaces.proved x0 x1 w0 w1)).mono fun e W' ⟨he, bel⟩ => ?_
  subst he
  exact ⟨_, rfl, _, _, _, [], _, [], hW', trodAll_mk1 (shut_bool Try.underlying4 _), (trodAll_cons_mk (Below.trod laidOut (by kernel_rfl) (of_decide_eq_true (by kernel_rfl)) h0 bel lt0) (trodAll_cons_mk (Below.trod laidOut (by kernel_rfl) (of_decide_eq_true (by kernel_rfl)) h1 bel lt1) trodAll_mk0)), rfl, bel.frame _, fun h => by cases h⟩
theorem over : Rows.stackPlacesRow.holds Try.pinned (OpenSpec.ofChange Rows.stackPlacesSpec) :=
  OpenClaim.holds_of_wide 6 Try.f6 rfl rfl rfl rfl rfl rfl rfl ⟨rfl, rfl, rfl, rfl, rfl⟩ rfl rfl rfl rfl rfl (by kernel_rfl) Try.func6 (by kernel_rfl)
    (of_decide_eq_true (by kernel_rfl)) (by unfold Func.isWrapper; first | (rw [if_pos (by decide +kernel)]; kernel_rfl) | (rw [if_neg (by decide +kernel)]; exact ⟨rfl, rfl⟩))
    (fun os started H enc _ => lifted os started H enc)
theorem proved : Rows.StackPlacesSaid := over
#print axioms proved
end Go.Proofs.Ytkpofbkedolhnaa.stackPlaces
namespace Go.Proofs.Ytkpofbkedolhnaa
theorem stackPlaces_holds : Rows.StackPlacesSaid := stackPlaces.proved
end Go.Proofs.Ytkpofbkedolhnaa
