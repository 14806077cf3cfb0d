/- The law RelocReads returns true for every input; each argument reads behind the call as it read before. -/
import Derived.Test.YtkjmecbbdccfoaaRows
import Derived.Test.YtkjmecbbdccfoaaQRelocReads
import Derived.WalkKit
import Derived.ProofKit
import Derived.OpenShut
import Derived.ShutString
import Derived.ChangeOld
import Derived.Below
import Derived.SizedLaws
namespace Go.Proofs.Ytkjmecbbdccfoaa.relocReads
open Go.ChangeShapes Go.WideShapes Go.ChangeAt Go.RowKit
open Go.ChangeMaps (open_string shut_string)
open Go.Proofs.Ytkjmecbbdccfoaa.X Go.Proofs.Ytkjmecbbdccfoaa.X.RelocReads Go.Proofs.YtkjmecbbdccfoaaW.PrintWords
set_option linter.unusedVariables false
theorem own : ownKnob Try.prog.godebug = none := by kernel_rfl
theorem laidOut : laidOutB Try.prog = true := by kernel_rfl
theorem opens23 : XO.Opens Try.prog k23 23 wf23 := XO.opens_iso _ (fun x => ⟨x.1, x.2.1, x.2.2.1, x.2.2.2⟩) (fun _ => rfl) (XO.opens_struct Try.underlying23 (by kernel_rfl) (XO.opensFs_cons (XO.opens_int Try.underlying3) rfl (by kernel_rfl) rfl (XO.opensFs_cons (XO.opens_int Try.underlying3) rfl (by kernel_rfl) rfl (XO.opensFs_cons (XO.opens_int Try.underlying3) rfl (by kernel_rfl) rfl (XO.opensFs_one (XO.opens_int Try.underlying2) rfl (by kernel_rfl)) (by decide)) (by decide)) (by decide)))
theorem opens36 : XO.Opens Try.prog k36 36 wf36 := XO.opens_iso _ (fun x => ⟨x.1, x.2⟩) (fun _ => rfl) (XO.opens_array (c := 1) Try.underlying36 (by kernel_rfl) (by kernel_rfl) (XO.opensFs_cons (XO.opens_int Try.underlying3) rfl (by kernel_rfl) rfl (XO.opensFs_one (XO.opens_int Try.underlying3) rfl (by kernel_rfl)) (by decide)))
set_option maxRecDepth 100000 in
theorem lifted (os : Os) (started : os.Started) (H : Type) (enc : TypeId × Value → H) :
    ReturnsInHanded {} Try.checked os 5 .any (Rows.relocReadsSpec.pre6 enc Try.prog Try.f5 Rows.relocReadsRow.domain false) (Rows.relocReadsSpec.post enc Try.prog Try.f5 false true false false) := by
  refine returnsInHanded_of_change_sized (C := Try.checked) own started (by kernel_rfl) Try.func5
    (ChangeSpec.witness6 (enc := enc) (C := Try.checked) false ⟨#[], #[.slice none 0 0, .string ByteArray.empty, .agg #[(.int .i64 0), (.int .i64 0)]], []⟩ 8 (by kernel_rfl) (by kernel_rfl) (by kernel_rfl) (by kernel_rfl)) ?_
  intro W base args ds gs before hval0 hW hcnd hsz0 _
  have hsz : (DataW.weightsEach Try.prog (Try.f5.params.toList ++ Rows.relocReadsSpec.plain.varTypes Try.prog) (ds ++ gs)).all (· ≤ reachBytes) = true := hsz0
  have hval : ∀ (j : Nat) t v, Try.f5.params[j]? = some t → args[j]? = some v → Value.okWide Try.prog W .any base t v := hval0
  have hW' := hW
  obtain ⟨p, q, hA0, hV, rfl, hfz, hnd⟩ := hW
  have hA : DataW.TrodAll enc Try.prog W 0 (fun _ => true) true Try.f5.params.toList args.toList ds p := hA0
  rw [Try.params5] at hA hval hsz
  obtain ⟨v0, vs0, d0, ds0, p0, q0, hargs, rfl, rfl, h0, r0⟩ := trodAll_cons hA
  obtain ⟨v1, vs1, d1, ds1, p1, q1, rfl, rfl, rfl, h1, r1⟩ := trodAll_cons r0
  obtain ⟨v2, vs2, d2, ds2, p2, q2, rfl, rfl, rfl, h2, r2⟩ := trodAll_cons r1
  obtain ⟨rfl, rfl, rfl⟩ := trodAll_nil r2
  obtain rfl : args = #[v0, v1, v2] := by cases args; simp_all
  obtain ⟨rfl, rfl⟩ := trodVars_none hV
  have k0 := h0
  have lt0 : ∀ x ∈ p0, x.block < W.heap.size := by obtain ⟨m, hm⟩ := k0; exact DataW.trod_lt m _ _ _ hm
  obtain ⟨x0, A0, c0, rfl, hc0, hC0, w0⟩ := XO.open_row Try.underlying35 (by kernel_rfl) opens23 (hval 0 35 v0 rfl rfl) h0
  obtain ⟨x1, rfl, rfl, rfl, y1⟩ := open_string Try.underlying9 (hval 1 9 v1 rfl rfl) h1
  have w1 : x1.size ≤ 140737488351232 := by
    have z := sized_string hsz (j := 1) (t := 9) rfl rfl
    rw [Array.length_toList] at z
    exact z
  have k2 := h2
  have lt2 : ∀ x ∈ p2, x.block < W.heap.size := by obtain ⟨m, hm⟩ := k2; exact DataW.trod_lt m _ _ _ hm
  obtain ⟨x2, cs2, rfl, hK2, w2⟩ := XO.open_agg (.inr ⟨_, _, Try.underlying36⟩) opens36 (hval 2 36 v2 rfl rfl) h2
  obtain rfl := k36_open hK2
  clear hA0 hval0 hsz0 hsz
  obtain ⟨k, h⟩ := RelocReads.proved x0 x1 x2 w0 w1 w2
  refine (flyleaflaw11_RelocReads.calls k A0 c0 x0 x1 x2.f0 x2.f1 W hC0 hc0 h).mono fun e W' ⟨he, bel0⟩ => ?_
  have bel : Below W.heap.size W W' := bel0
  subst he
  exact ⟨_, rfl, _, _, _, [], _, [], hW', trodAll_mk1 (shut_bool Try.underlying4 _), (trodAll_cons_mk (Below.trod laidOut (by kernel_rfl) (of_decide_eq_true (by kernel_rfl)) k0 bel lt0) (trodAll_cons_mk (shut_string Try.underlying9 y1) (trodAll_cons_mk (Below.trod laidOut (by kernel_rfl) (of_decide_eq_true (by kernel_rfl)) k2 bel lt2) trodAll_mk0))), rfl, bel.frame _, fun h => by cases h⟩
theorem over : Rows.relocReadsRow.holds Try.pinned (OpenSpec.ofChange Rows.relocReadsSpec) :=
  OpenClaim.holds_of_wide 5 Try.f5 rfl rfl rfl rfl rfl rfl rfl ⟨rfl, rfl, rfl, rfl, rfl⟩ rfl rfl rfl rfl rfl (by kernel_rfl) Try.func5 (by kernel_rfl)
    (of_decide_eq_true (by kernel_rfl)) (by unfold Func.isWrapper; first | (rw [if_pos (by decide +kernel)]; kernel_rfl) | (rw [if_neg (by decide +kernel)]; exact ⟨rfl, rfl⟩))
    (fun os started H enc _ => lifted os started H enc)
theorem proved : Rows.RelocReadsSaid := over
#print axioms proved
end Go.Proofs.Ytkjmecbbdccfoaa.relocReads
namespace Go.Proofs.Ytkjmecbbdccfoaa
theorem relocReads_holds : Rows.RelocReadsSaid := relocReads.proved
end Go.Proofs.Ytkjmecbbdccfoaa
