/- The law FilesNil returns true for every input; each argument reads behind the call as it read before. -/
import Derived.Test.YtokbhihfooaijaaRows
import Derived.Test.YtokbhihfooaijaaQFilesNil
import Derived.Test.YtokbhihfooaijaaL1U
import Derived.WalkKit
import Derived.ProofKit
import Derived.OpenShut
import Derived.ShutString
import Derived.ChangeOld
import Derived.Below
import Derived.SizedLaws
namespace Go.Proofs.Ytokbhihfooaijaa.filesNil
open Go.ChangeShapes Go.WideShapes Go.ChangeAt Go.RowKit Go.L1
set_option linter.unusedVariables false
theorem own : ownKnob Try.prog.godebug = none := by kernel_rfl
theorem laidOut : laidOutB Try.prog = true := by kernel_rfl
set_option maxRecDepth 100000 in
theorem lifted (os : Os) (started : os.Started) (H : Type) (enc : TypeId × Value → H) :
    ReturnsInHanded {} Try.checked os 7 .any (Rows.filesNilSpec.pre6 enc Try.prog Try.f7 Rows.filesNilRow.domain false) (Rows.filesNilSpec.post enc Try.prog Try.f7 false true false false) := by
  refine returnsInHanded_of_change_sized (C := Try.checked) own started (by kernel_rfl) Try.func7
    (ChangeSpec.witness6 (enc := enc) (C := Try.checked) false ⟨#[], #[.int .i64 0], []⟩ 8 (by kernel_rfl) (by kernel_rfl) (by kernel_rfl) (by kernel_rfl)) ?_
  intro W base args ds gs before hval0 hW hcnd hsz0 _
  have hsz : (DataW.weightsEach Try.prog (Try.f7.params.toList ++ Rows.filesNilSpec.plain.varTypes Try.prog) (ds ++ gs)).all (· ≤ reachBytes) = true := hsz0
  have hval : ∀ (j : Nat) t v, Try.f7.params[j]? = some t → args[j]? = some v → Value.okWide Try.prog W .any base t v := hval0
  have hW' := hW
  obtain ⟨p, q, hA0, hV, rfl, hfz, hnd⟩ := hW
  have hA : DataW.TrodAll enc Try.prog W 0 (fun _ => true) true Try.f7.params.toList args.toList ds p := hA0
  rw [Try.params7] at hA hval hsz
  obtain ⟨v0, vs0, d0, ds0, p0, q0, hargs, rfl, rfl, h0, r0⟩ := trodAll_cons hA
  obtain ⟨rfl, rfl, rfl⟩ := trodAll_nil r0
  obtain rfl : args = #[v0] := by cases args; simp_all
  obtain ⟨rfl, rfl⟩ := trodVars_none hV
  have lt0 : ∀ x ∈ p0, x.block < W.heap.size := by obtain ⟨m, hm⟩ := h0; exact DataW.trod_lt m _ _ _ hm
  obtain ⟨x0, a0, w0⟩ := arg_one (V := fun x => .int .i64 x) (fun _ => rfl) (one_cells (.inl ⟨_, Try.underlying3⟩) (hval 0 3 v0 rfl rfl)) (opens_int Try.underlying3) h0
  clear hA0 hval0 hsz0 hsz
  refine (law_calls (T := Go.Proofs.Ytokbhihfooaijaa.L.FilesNil.tab) (F := 7) (args1 := [.int .i64 x0]) (fun C n ρ' hP hi => (.cons (a0 C n ρ' hP hi) .nil)) Go.Proofs.Ytokbhihfooaijaa.L.FilesNil.tabok ⟨_, Try.func7, by kernel_rfl, by kernel_rfl⟩ (Go.Proofs.Ytokbhihfooaijaa.L.FilesNil.proved x0 w0)).mono fun e W' ⟨he, bel⟩ => ?_
  subst he
  exact ⟨_, rfl, _, _, _, [], _, [], hW', trodAll_mk1 (shut_bool Try.underlying4 _), (trodAll_cons_mk (Below.trod laidOut (by kernel_rfl) (of_decide_eq_true (by kernel_rfl)) h0 bel lt0) trodAll_mk0), rfl, bel.frame _, fun h => by cases h⟩
theorem over : Rows.filesNilRow.holds Try.pinned (OpenSpec.ofChange Rows.filesNilSpec) :=
  OpenClaim.holds_of_wide 7 Try.f7 rfl rfl rfl rfl rfl rfl rfl ⟨rfl, rfl, rfl, rfl, rfl⟩ rfl rfl rfl rfl rfl (by kernel_rfl) Try.func7 (by kernel_rfl)
    (of_decide_eq_true (by kernel_rfl)) (by unfold Func.isWrapper; first | (rw [if_pos (by decide +kernel)]; kernel_rfl) | (rw [if_neg (by decide +kernel)]; exact ⟨rfl, rfl⟩))
    (fun os started H enc _ => lifted os started H enc)
theorem proved : Rows.FilesNilSaid := over
#print axioms proved
end Go.Proofs.Ytokbhihfooaijaa.filesNil
namespace Go.Proofs.Ytokbhihfooaijaa
theorem filesNil_holds : Rows.FilesNilSaid := filesNil.proved
end Go.Proofs.Ytokbhihfooaijaa
