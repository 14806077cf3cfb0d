/- The law's example. -/
import Derived.Test.Ytnlgindlmlbfiaac15E
namespace Go.Proofs.Ytnlgindlmlbfiaa.L
open Go.L1 Go.IntWalk
set_option linter.unusedVariables false
set_option linter.unusedSimpArgs false
theorem awake_run : Rf Try.prog T 9 [] (fun v => v = .bool true) := by
  refine c_froz Try.func9 rfl rfl rfl rfl rfl rfl ?_
  intro g n
  repeat' (first
    | ((with_reducible apply g_op); first
      | ((with_reducible apply g_assign); first
        | ((with_reducible apply w_pure (v := .bool _)); exact rfl; exact rfl))
      | ((with_reducible apply g_build); first
        | ((with_reducible apply w_pure (v := .agg #[.int _ _, .int _ _, .int _ _, .int _ _, .int _ _, .int _ _])); exact rfl; exact rfl)))
    | with_reducible refine w_seq ?_
    | with_reducible refine w_nil ?_
    | with_reducible refine w_region ?_)
  refine w_rf (add_run [] ⟨0, 4, 6, 2, -1, 0⟩ (by simp)) (fun _ => rfl) (sn_cons sn_none (sn_cons (sn_plain2 rfl) sn_nil)) ?_
  rintro v rfl
  have e1 : addS [] ⟨0, 4, 6, 2, -1, 0⟩ = ([⟨0, 4, 6, 2, -1, 0⟩], 0) := by rfl
  rw [e1]
  repeat' (first
    | ((with_reducible apply g_op); first
      | ((with_reducible apply g_move); first
        | ((with_reducible apply w_pure (v := .tuple _)); exact rfl; exact rfl)
        | ((with_reducible apply w_pure (v := .func _ _ _)); exact rfl; exact rfl))
      | ((with_reducible apply g_assign); first
        | ((with_reducible apply w_pure (v := .int _ _)); exact rfl; exact rfl)
        | ((with_reducible apply w_pure (v := .func _ _ _)); exact rfl; exact rfl))
      | ((with_reducible apply w_pure (v := .int _ _)); exact rfl; exact rfl)
      | ((with_reducible apply w_pure (v := .func _ _ _)); exact rfl; exact rfl))
    | with_reducible refine w_seq ?_
    | with_reducible refine w_nil ?_
    | with_reducible refine w_region ?_)
  refine w_rf (prot_run [⟨0, 4, 6, 2, -1, 0⟩] 1 2 4 (by simp)) (fun _ => rfl) (sn_cons rv_sn (sn_plains rfl)) ?_
  rintro v rfl
  have e2 : protS [⟨0, 4, 6, 2, -1, 0⟩] 1 2 4 = ([⟨0, 1, 6, 2, -1, 0⟩, ⟨1, 2, 4, 2, -1, 0⟩, ⟨2, 4, 6, 2, -1, 0⟩], 0) := by rfl
  rw [e2]
  repeat' (first
    | ((with_reducible apply g_op); first
      | ((with_reducible apply g_move); first
        | ((with_reducible apply w_pure (v := .tuple _)); exact rfl; exact rfl)
        | ((with_reducible apply w_pure (v := .func _ _ _)); exact rfl; exact rfl))
      | ((with_reducible apply g_assign); first
        | ((with_reducible apply w_pure (v := .int _ _)); exact rfl; exact rfl)
        | ((with_reducible apply w_pure (v := .func _ _ _)); exact rfl; exact rfl))
      | ((with_reducible apply w_pure (v := .int _ _)); exact rfl; exact rfl)
      | ((with_reducible apply w_pure (v := .func _ _ _)); exact rfl; exact rfl))
    | with_reducible refine w_seq ?_
    | with_reducible refine w_nil ?_
    | with_reducible refine w_region ?_)
  refine w_rf (prot_run [⟨0, 1, 6, 2, -1, 0⟩, ⟨1, 2, 4, 2, -1, 0⟩, ⟨2, 4, 6, 2, -1, 0⟩] 1 2 6 (by simp)) (fun _ => rfl) (sn_cons rv_sn (sn_plains rfl)) ?_
  rintro v rfl
  have e3 : protS [⟨0, 1, 6, 2, -1, 0⟩, ⟨1, 2, 4, 2, -1, 0⟩, ⟨2, 4, 6, 2, -1, 0⟩] 1 2 6 = ([⟨0, 4, 6, 2, -1, 0⟩], 0) := by rfl
  rw [e3]
  repeat' (first
    | ((with_reducible apply g_op); first
      | ((with_reducible apply g_move); first
        | ((with_reducible apply w_pure (v := .int _ _)); exact rfl; exact rfl)
        | ((with_reducible apply w_pure (v := .bool _)); exact rfl; exact rfl)
        | ((with_reducible apply w_pure (v := .tuple _)); exact rfl; exact rfl)
        | ((with_reducible apply w_pure (v := .func _ _ _)); exact rfl; exact rfl))
      | ((with_reducible apply g_bin); first
        | ((with_reducible apply w_pure (v := .bool _)); exact rfl; exact rfl))
      | ((with_reducible apply g_pick); first
        | ((with_reducible apply w_pk1 (v := .bool _)); exact rfl; exact rfl; (first | assumption | exact decide_eq_true (by assumption) | exact decide_eq_false (by assumption) | exact decide_eq_true (by omega) | exact decide_eq_false (by omega) | exact beq_iff_eq.2 (by omega) | exact beq_eq_false_iff_ne.2 (by omega) | exact bne_iff_ne.2 (by omega) | exact bne_eq_false_iff_eq.2 (by omega))))
      | ((with_reducible apply g_assign); first
        | ((with_reducible apply w_pure (v := .int _ _)); exact rfl; exact rfl)
        | ((with_reducible apply w_pure (v := .func _ _ _)); exact rfl; exact rfl))
      | ((with_reducible apply g_call); first
        | ((with_reducible apply w_call (v := .int _ _)); exact rfl))
      | ((with_reducible apply w_pure (v := .int _ _)); exact rfl; exact rfl)
      | ((with_reducible apply w_pure (v := .bool _)); exact rfl; exact rfl)
      | ((with_reducible apply w_pure (v := .func _ _ _)); exact rfl; exact rfl))
    | ((with_reducible apply g_gd); first
      | ((with_reducible apply w_want); exact rfl))
    | with_reducible refine w_seq ?_
    | with_reducible refine w_nil ?_
    | with_reducible refine w_region ?_)
  refine w_rf (pages_run [⟨0, 4, 6, 2, -1, 0⟩] (by simp)) (fun _ => rfl) (sn_cons rv_sn (sn_plains rfl)) ?_
  rintro v rfl
  have e4 : pagesGo [⟨0, 4, 6, 2, -1, 0⟩] 0 = 4 := by rfl
  rw [e4]
  repeat' (first
    | ((with_reducible apply g_op); first
      | ((with_reducible apply g_bin); first
        | ((with_reducible apply w_pure (v := .bool _)); exact rfl; exact rfl))
      | ((with_reducible apply g_assign); first
        | ((with_reducible apply w_pure (v := .bool _)); exact rfl; exact rfl))
      | ((with_reducible apply w_pure (v := .bool _)); exact rfl; exact rfl))
    | ((with_reducible apply g_gd); first
      | ((with_reducible apply w_want); exact rfl))
    | with_reducible refine w_nil ?_
    | ((with_reducible apply w_ret (v := .bool _)); exact rfl))
  exact fr_plain rfl rfl
end Go.Proofs.Ytnlgindlmlbfiaa.L

