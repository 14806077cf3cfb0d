/- The chapter's examples. -/
import Derived.Test.Ytohfbnpmhlpkhaac08O
namespace Go.Proofs.Ytohfbnpmhlpkhaa.L
open Go.L1 Go.IntWalk Oct
set_option linter.unusedVariables false
set_option linter.unusedSimpArgs false
set_option maxHeartbeats 4000000
set_option maxRecDepth 20000
theorem many0 : manyN (fillV ⟨#[]⟩ 100) = 0 := by decide +kernel
theorem awake_run : Rf Try.prog T 10 [] (fun v => v = .bool true) := by
  refine c_froz Try.func10 rfl rfl rfl rfl rfl rfl ?_
  intro g n
  repeat' (first
    | ((with_reducible apply g_op); first
      | ((with_reducible apply g_assign); first
        | ((with_reducible apply w_pure (v := .bool _)); exact rfl; exact rfl)))
    | with_reducible refine w_seq ?_
    | with_reducible refine w_nil ?_
    | with_reducible refine w_region ?_)
  refine w_rq (rfill_run ⟨#[]⟩ 100 (by decide) (by decide) _ _ _) (fun _ => rfl) ?_
  rintro _ rfl
  have hz := fillV_size 100 (by decide)
  have hp : parseS (fillV ⟨#[]⟩ 100) = (.zero, 16) := by unfold parseS; rw [many0]; rfl
  generalize fillV ⟨#[]⟩ 100 = S at hz hp
  repeat' (first
    | fail)
  refine w_rf (parse_run S (by rw [hz]; decide)) (fun _ => rfl) (sn_plains rfl) ?_
  rintro _ rfl
  rw [hp]
  repeat' (first
    | ((with_reducible apply g_op); first
      | ((with_reducible apply g_move); first
        | ((with_reducible apply w_pure (v := .tuple _)); exact rfl; exact rfl))
      | ((with_reducible apply g_assign); first
        | ((with_reducible apply w_pure (v := .int _ _)); exact rfl; exact rfl))
      | ((with_reducible apply g_store); first
        | ((with_reducible apply w_store (us := [_, _, _]) (ws := [_, _, _])); exact rfl; exact rfl; (first | assumption | (simp (disch := omega) only [upd_same, upd_ne]; first | done | assumption | exact rfl) | exact rfl); omega; exact rfl; exact rfl; exact rfl))
      | ((with_reducible apply g_build); first
        | ((with_reducible apply w_pure (v := .agg #[_, _, _, _, _, _, _])); exact rfl; exact rfl))
      | ((with_reducible apply w_alloc (ls := [_, _, _])); exact rfl; exact rfl)
      | ((with_reducible apply w_pure (v := .int _ _)); exact rfl; exact rfl)
      | ((with_reducible apply w_pure (v := .agg _)); exact rfl; exact rfl))
    | with_reducible refine w_seq ?_
    | with_reducible refine w_nil ?_
    | with_reducible refine w_region ?_)
  refine w_rq (pages_run ⟨0, 0, 0, 100, 0, 100, 0⟩ (by unfold Sg.ok; decide) _ _ _) (fun _ => rfl) ?_
  rintro _ rfl
  repeat' (first
    | ((with_reducible apply g_op); first
      | ((with_reducible apply g_load); first
        | ((with_reducible apply w_load (v := .agg #[_, _, _])); exact rfl; (first | assumption | (simp (disch := omega) only [upd_same, upd_ne]; first | done | assumption | exact rfl) | exact rfl); exact rfl))
      | ((with_reducible apply g_move); first
        | ((with_reducible apply w_pure (v := .int _ _)); exact rfl; exact rfl)
        | ((with_reducible apply w_pure (v := .bool _)); exact rfl; exact rfl)
        | ((with_reducible apply w_pure (v := .tuple _)); exact rfl; exact rfl))
      | ((with_reducible apply g_bin); first
        | ((with_reducible apply w_pure (v := .bool _)); exact rfl; exact rfl))
      | ((with_reducible apply g_pick); first
        | ((with_reducible apply w_pk1 (v := .bool _)); exact rfl; exact rfl; (first | assumption | exact decide_eq_true (by assumption) | exact decide_eq_false (by assumption) | exact decide_eq_true (by omega) | exact decide_eq_false (by omega) | exact beq_iff_eq.2 (by omega) | exact beq_eq_false_iff_ne.2 (by omega) | exact bne_iff_ne.2 (by omega) | exact bne_eq_false_iff_eq.2 (by omega))))
      | ((with_reducible apply g_assign); first
        | ((with_reducible apply w_pure (v := .int _ _)); exact rfl; exact rfl))
      | ((with_reducible apply g_store); first
        | ((with_reducible apply w_store (us := [_, _, _]) (ws := [_, _, _])); exact rfl; exact rfl; (first | assumption | (simp (disch := omega) only [upd_same, upd_ne]; first | done | assumption | exact rfl) | exact rfl); omega; exact rfl; exact rfl; exact rfl))
      | ((with_reducible apply g_build); first
        | ((with_reducible apply w_pure (v := .agg #[_, _, _])); exact rfl; exact rfl)
        | ((with_reducible apply w_pure (v := .agg #[_, _, _, _, _, _, _])); exact rfl; exact rfl))
      | ((with_reducible apply w_alloc (ls := [_, _, _])); exact rfl; exact rfl)
      | ((with_reducible apply w_bsl (ls := [_, _, _, _, _, _, _])); exact rfl; exact rfl; exact rfl; exact ⟨by decide, rfl⟩; exact rfl)
      | ((with_reducible apply w_pure (v := .int _ _)); exact rfl; exact rfl)
      | ((with_reducible apply w_pure (v := .bool _)); exact rfl; exact rfl))
    | ((with_reducible apply g_gd); first
      | ((with_reducible apply w_want); exact rfl))
    | with_reducible refine w_seq ?_
    | with_reducible refine w_nil ?_
    | with_reducible refine w_region ?_)
  refine w_rf (check_run ⟨3, 0, [⟨1, 5, 0, 0, 0, 9, 64⟩]⟩ 200) (fun _ => rfl) (sn_cons (sn_agg (l := [_, _, _]) (sn_cons (sn_plain rfl) (sn_cons (sn_plain rfl) (sn_cons (sn_row (sz := 7) (by simp (disch := omega) only [upd_ne, upd_same]; rfl) (by omega) rfl (by decide) rfl (sn_plains rfl)) sn_nil)))) (sn_plains rfl)) ?_
  rintro _ rfl
  rw [show okS ⟨3, 0, [⟨1, 5, 0, 0, 0, 9, 64⟩]⟩ 200 = true by decide +kernel]
  repeat' (first
    | ((with_reducible apply g_op); first
      | ((with_reducible apply g_bin); first
        | ((with_reducible apply w_pure (v := .bool _)); exact rfl; exact rfl))
      | ((with_reducible apply g_assign); first
        | ((with_reducible apply w_pure (v := .bool _)); exact rfl; exact rfl))
      | ((with_reducible apply w_pure (v := .bool _)); exact rfl; exact rfl))
    | ((with_reducible apply g_gd); first
      | ((with_reducible apply w_want); exact rfl))
    | with_reducible refine w_nil ?_
    | ((with_reducible apply w_ret (v := .bool _)); exact rfl))
  exact fr_plain rfl rfl
end Go.Proofs.Ytohfbnpmhlpkhaa.L

