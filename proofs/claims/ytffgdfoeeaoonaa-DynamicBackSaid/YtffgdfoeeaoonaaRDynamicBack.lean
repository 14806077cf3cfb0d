/- The law DynamicBack returns true for every input; each argument reads behind the call as it read before. -/
import Derived.Test.YtffgdfoeeaoonaaRows
import Derived.Test.YtffgdfoeeaoonaaQDynamicBack
import Derived.Test.YtffgdfoeeaoonaaL1U
import Derived.WalkKit
import Derived.ProofKit
import Derived.OpenShut
import Derived.ShutString
import Derived.ChangeOld
import Derived.Below
import Derived.SizedLaws
namespace Go.Proofs.Ytffgdfoeeaoonaa.dynamicBack
open Go.ChangeShapes Go.WideShapes Go.ChangeAt Go.RowKit Go.L1
set_option linter.unusedVariables false
theorem own : ownKnob Try.prog.godebug = none := by kernel_rfl
theorem laidOut : laidOutB Try.prog = true := by kernel_rfl
set_option maxRecDepth 100000 in
theorem lifted (os : Os) (started : os.Started) (H : Type) (enc : TypeId × Value → H) :
    ReturnsInHanded {} Try.checked os 3 .any (Rows.dynamicBackSpec.pre6 enc Try.prog Try.f3 Rows.dynamicBackRow.domain false) (Rows.dynamicBackSpec.post enc Try.prog Try.f3 false true false false) := by
  refine returnsInHanded_of_change_sized (C := Try.checked) own started (by kernel_rfl) Try.func3
    (ChangeSpec.witness6 (enc := enc) (C := Try.checked) false ⟨#[], #[.slice none 0 0, .agg #[.int .i64 0, .int .i64 0, .int .i64 0, .int .i64 0, .int .i64 0, .int .i64 0, .int .i64 0], .string ByteArray.empty], []⟩ 8 (by kernel_rfl) (by kernel_rfl) (by kernel_rfl) (by kernel_rfl)) ?_
  intro W base args ds gs before hval0 hW hcnd hsz0 _
  have hsz : (DataW.weightsEach Try.prog (Try.f3.params.toList ++ Rows.dynamicBackSpec.plain.varTypes Try.prog) (ds ++ gs)).all (· ≤ reachBytes) = true := hsz0
  have hval : ∀ (j : Nat) t v, Try.f3.params[j]? = some t → args[j]? = some v → Value.okWide Try.prog W .any base t v := hval0
  have hW' := hW
  obtain ⟨p, q, hA0, hV, rfl, hfz, hnd⟩ := hW
  have hA : DataW.TrodAll enc Try.prog W 0 (fun _ => true) true Try.f3.params.toList args.toList ds p := hA0
  rw [Try.params3] at hA hval hsz
  obtain ⟨v0, vs0, d0, ds0, p0, q0, hargs, rfl, rfl, h0, r0⟩ := trodAll_cons hA
  obtain ⟨v1, vs1, d1, ds1, p1, q1, rfl, rfl, rfl, h1, r1⟩ := trodAll_cons r0
  obtain ⟨v2, vs2, d2, ds2, p2, q2, rfl, rfl, rfl, h2, r2⟩ := trodAll_cons r1
  obtain ⟨rfl, rfl, rfl⟩ := trodAll_nil r2
  obtain rfl : args = #[v0, v1, v2] := by cases args; simp_all
  obtain ⟨rfl, rfl⟩ := trodVars_none hV
  have lt0 : ∀ x ∈ p0, x.block < W.heap.size := by obtain ⟨m, hm⟩ := h0; exact DataW.trod_lt m _ _ _ hm
  obtain ⟨x0, a0, w0⟩ := arg_one (V := fun x => fz tg x.length (x.flatMap (kInt .i64).enc)) (fun _ => rfl) (one_cells (.inr (.inr (.inr ⟨_, Try.underlying22⟩))) (hval 0 22 v0 rfl rfl)) (opens_list Try.underlying22 (by kernel_rfl) (by decide) (opens_int Try.underlying3)) h0
  have lt1 : ∀ x ∈ p1, x.block < W.heap.size := by obtain ⟨m, hm⟩ := h1; exact DataW.trod_lt m _ _ _ hm
  obtain ⟨x1, a1, w1⟩ := arg_agg (.inr ⟨_, _, Try.underlying23⟩) (opens_array (c := 1) Try.underlying23 (by kernel_rfl) (by kernel_rfl) (opensFs_cons (opens_int Try.underlying3) rfl (by kernel_rfl) rfl (opensFs_cons (opens_int Try.underlying3) rfl (by kernel_rfl) rfl (opensFs_cons (opens_int Try.underlying3) rfl (by kernel_rfl) rfl (opensFs_cons (opens_int Try.underlying3) rfl (by kernel_rfl) rfl (opensFs_cons (opens_int Try.underlying3) rfl (by kernel_rfl) rfl (opensFs_cons (opens_int Try.underlying3) rfl (by kernel_rfl) rfl (opensFs_one (opens_int Try.underlying3) rfl (by kernel_rfl)) (by decide)) (by decide)) (by decide)) (by decide)) (by decide)) (by decide))) (hval 1 23 v1 rfl rfl) h1
  have lt2 : ∀ x ∈ p2, x.block < W.heap.size := by obtain ⟨m, hm⟩ := h2; exact DataW.trod_lt m _ _ _ hm
  obtain ⟨x2, a2, w2⟩ := arg_one (V := fun x => .string x) (fun _ => rfl) (one_cells (.inr (.inr (.inl Try.underlying9))) (hval 2 9 v2 rfl rfl)) (opens_str Try.underlying9) h2
  clear hA0 hval0 hsz0 hsz
  refine (law_calls (T := Go.Proofs.Ytffgdfoeeaoonaa.L.DynamicBack.tab) (F := 3) (args1 := [fz tg x0.length (x0.flatMap (kInt .i64).enc), .agg ((kPair (kInt .i64) (kPair (kInt .i64) (kPair (kInt .i64) (kPair (kInt .i64) (kPair (kInt .i64) (kPair (kInt .i64) (kInt .i64))))))).enc x1).toArray, .string x2]) (fun C n ρ' hP hi => (.cons (a0 C n ρ' hP hi) (.cons (a1 C n ρ' hP hi) (.cons (a2 C n ρ' hP hi) .nil)))) Go.Proofs.Ytffgdfoeeaoonaa.L.DynamicBack.tabok ⟨_, Try.func3, by kernel_rfl, by kernel_rfl⟩ (Go.Proofs.Ytffgdfoeeaoonaa.L.DynamicBack.proved x0 x1 x2 w0 w1 w2)).mono fun e W' ⟨he, bel⟩ => ?_
  subst he
  exact ⟨_, rfl, _, _, _, [], _, [], hW', trodAll_mk1 (shut_bool Try.underlying4 _), (trodAll_cons_mk (Below.trod laidOut (by kernel_rfl) (of_decide_eq_true (by kernel_rfl)) h0 bel lt0) (trodAll_cons_mk (Below.trod laidOut (by kernel_rfl) (of_decide_eq_true (by kernel_rfl)) h1 bel lt1) (trodAll_cons_mk (Below.trod laidOut (by kernel_rfl) (of_decide_eq_true (by kernel_rfl)) h2 bel lt2) trodAll_mk0))), rfl, bel.frame _, fun h => by cases h⟩
theorem over : Rows.dynamicBackRow.holds Try.pinned (OpenSpec.ofChange Rows.dynamicBackSpec) :=
  OpenClaim.holds_of_wide 3 Try.f3 rfl rfl rfl rfl rfl rfl rfl ⟨rfl, rfl, rfl, rfl, rfl⟩ rfl rfl rfl rfl rfl (by kernel_rfl) Try.func3 (by kernel_rfl)
    (of_decide_eq_true (by kernel_rfl)) (by unfold Func.isWrapper; first | (rw [if_pos (by decide +kernel)]; kernel_rfl) | (rw [if_neg (by decide +kernel)]; exact ⟨rfl, rfl⟩))
    (fun os started H enc _ => lifted os started H enc)
theorem proved : Rows.DynamicBackSaid := over
#print axioms proved
end Go.Proofs.Ytffgdfoeeaoonaa.dynamicBack
namespace Go.Proofs.Ytffgdfoeeaoonaa
theorem dynamicBack_holds : Rows.DynamicBackSaid := dynamicBack.proved
end Go.Proofs.Ytffgdfoeeaoonaa
