/- The law ElfPages returns true for every input; each argument reads behind the call as it read before. -/
import Derived.Test.YtohfbnpmhlpkhaaRows
import Derived.Test.YtohfbnpmhlpkhaaQElfPages
import Derived.Test.YtohfbnpmhlpkhaaL1U
import Derived.WalkKit
import Derived.ProofKit
import Derived.OpenShut
import Derived.ShutString
import Derived.ChangeOld
import Derived.Below
import Derived.SizedLaws
namespace Go.Proofs.Ytohfbnpmhlpkhaa.elfPages
open Go.ChangeShapes Go.WideShapes Go.ChangeAt Go.RowKit Go.L1
set_option linter.unusedVariables false
theorem own : ownKnob Try.prog.godebug = none := by kernel_rfl
theorem laidOut : laidOutB Try.prog = true := by kernel_rfl
set_option maxRecDepth 100000 in
theorem lifted (os : Os) (started : os.Started) (H : Type) (enc : TypeId × Value → H) :
    ReturnsInHanded {} Try.checked os 6 .any (Rows.elfPagesSpec.pre6 enc Try.prog Try.f6 Rows.elfPagesRow.domain false) (Rows.elfPagesSpec.post enc Try.prog Try.f6 false true false false) := by
  refine returnsInHanded_of_change_sized (C := Try.checked) own started (by kernel_rfl) Try.func6
    (ChangeSpec.witness6 (enc := enc) (C := Try.checked) false ⟨#[], #[.agg #[.int .i64 0, .int .i64 0, .slice none 0 0]], []⟩ 8 (by kernel_rfl) (by kernel_rfl) (by kernel_rfl) (by kernel_rfl)) ?_
  intro W base args ds gs before hval0 hW hcnd hsz0 _
  have hsz : (DataW.weightsEach Try.prog (Try.f6.params.toList ++ Rows.elfPagesSpec.plain.varTypes Try.prog) (ds ++ gs)).all (· ≤ reachBytes) = true := hsz0
  have hval : ∀ (j : Nat) t v, Try.f6.params[j]? = some t → args[j]? = some v → Value.okWide Try.prog W .any base t v := hval0
  have hW' := hW
  obtain ⟨p, q, hA0, hV, rfl, hfz, hnd⟩ := hW
  have hA : DataW.TrodAll enc Try.prog W 0 (fun _ => true) true Try.f6.params.toList args.toList ds p := hA0
  rw [Try.params6] at hA hval hsz
  obtain ⟨v0, vs0, d0, ds0, p0, q0, hargs, rfl, rfl, h0, r0⟩ := trodAll_cons hA
  obtain ⟨rfl, rfl, rfl⟩ := trodAll_nil r0
  obtain rfl : args = #[v0] := by cases args; simp_all
  obtain ⟨rfl, rfl⟩ := trodVars_none hV
  have lt0 : ∀ x ∈ p0, x.block < W.heap.size := by obtain ⟨m, hm⟩ := h0; exact DataW.trod_lt m _ _ _ hm
  obtain ⟨x0, a0, w0⟩ := arg_agg (.inl ⟨_, Try.underlying39⟩) (opens_struct Try.underlying39 (by kernel_rfl) (opensFs_cons (opens_int Try.underlying3) rfl (by kernel_rfl) rfl (opensFs_cons (opens_int Try.underlying3) rfl (by kernel_rfl) rfl (opensFs_one (opens_list Try.underlying37 (by kernel_rfl) (by decide) (opens_array (c := 1) Try.underlying58 (by kernel_rfl) (by kernel_rfl) (opensFs_cons (opens_int Try.underlying3) rfl (by kernel_rfl) rfl (opensFs_cons (opens_int Try.underlying3) rfl (by kernel_rfl) rfl (opensFs_cons (opens_int Try.underlying3) rfl (by kernel_rfl) rfl (opensFs_one (opens_int Try.underlying3) rfl (by kernel_rfl)) (by decide)) (by decide)) (by decide)))) rfl (by kernel_rfl)) (by decide)) (by decide))) (hval 0 39 v0 rfl rfl) h0
  clear hA0 hval0 hsz0 hsz
  refine (law_calls (T := Go.Proofs.Ytohfbnpmhlpkhaa.L.ElfPages.tab) (F := 6) (args1 := [.agg ((kPair (kInt .i64) (kPair (kInt .i64) (kList (kPair (kInt .i64) (kPair (kInt .i64) (kPair (kInt .i64) (kInt .i64))))))).enc x0).toArray]) (fun C n ρ' hP hi => (.cons (a0 C n ρ' hP hi) .nil)) Go.Proofs.Ytohfbnpmhlpkhaa.L.ElfPages.tabok ⟨_, Try.func6, by kernel_rfl, by kernel_rfl⟩ (Go.Proofs.Ytohfbnpmhlpkhaa.L.ElfPages.proved x0 w0)).mono fun e W' ⟨he, bel⟩ => ?_
  subst he
  exact ⟨_, rfl, _, _, _, [], _, [], hW', trodAll_mk1 (shut_bool Try.underlying4 _), (trodAll_cons_mk (Below.trod laidOut (by kernel_rfl) (of_decide_eq_true (by kernel_rfl)) h0 bel lt0) trodAll_mk0), rfl, bel.frame _, fun h => by cases h⟩
theorem over : Rows.elfPagesRow.holds Try.pinned (OpenSpec.ofChange Rows.elfPagesSpec) :=
  OpenClaim.holds_of_wide 6 Try.f6 rfl rfl rfl rfl rfl rfl rfl ⟨rfl, rfl, rfl, rfl, rfl⟩ rfl rfl rfl rfl rfl (by kernel_rfl) Try.func6 (by kernel_rfl)
    (of_decide_eq_true (by kernel_rfl)) (by unfold Func.isWrapper; first | (rw [if_pos (by decide +kernel)]; kernel_rfl) | (rw [if_neg (by decide +kernel)]; exact ⟨rfl, rfl⟩))
    (fun os started H enc _ => lifted os started H enc)
theorem proved : Rows.ElfPagesSaid := over
#print axioms proved
end Go.Proofs.Ytohfbnpmhlpkhaa.elfPages
namespace Go.Proofs.Ytohfbnpmhlpkhaa
theorem elfPages_holds : Rows.ElfPagesSaid := elfPages.proved
end Go.Proofs.Ytohfbnpmhlpkhaa
