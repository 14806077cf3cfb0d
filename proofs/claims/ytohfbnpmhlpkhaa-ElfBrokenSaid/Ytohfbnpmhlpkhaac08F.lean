/- The program: may a segment be; it comes to what the reference says. -/
import Derived.Test.Ytohfbnpmhlpkhaac08E
namespace Go.Proofs.Ytohfbnpmhlpkhaa.L
open Go.L1 Go.IntWalk Oct
set_option linter.unusedVariables false
set_option linter.unusedSimpArgs false
set_option maxHeartbeats 4000000
set_option maxRecDepth 20000
theorem seg_run (s : Sg) (z : Int) (g : Nat → Option Ob) (n m : Nat) : Rn Try.prog T 34 [s.v, .int .i64 z] g n m (fun v g' n' => v = .bool (segS s z) ∧ g' = g ∧ n' = n) := by
  obtain ⟨a0, a1, a2, a3, a4, a5, a6⟩ := s
  refine c_quiet Try.func34 rfl rfl rfl rfl rfl ?_
  repeat' (first
    | ((with_reducible apply g_op); first
      | ((with_reducible apply g_load); first
        | ((with_reducible apply w_load (v := .int _ _)); exact rfl; (first | assumption | (simp (disch := omega) only [upd_same, upd_ne]; first | done | assumption | exact rfl) | exact rfl); exact rfl))
      | ((with_reducible apply g_move); first
        | ((with_reducible apply w_pure (v := .func _ _ _)); exact rfl; exact rfl))
      | ((with_reducible apply g_fld); first
        | ((with_reducible apply w_fldp (o := 0)); exact rfl; exact rfl; exact rfl; exact (by decide)))
      | ((with_reducible apply g_assign); first
        | ((with_reducible apply w_pure (v := .bool _)); exact rfl; exact rfl)
        | ((with_reducible apply w_pure (v := .func _ _ _)); exact rfl; exact rfl))
      | ((with_reducible apply g_box); first
        | ((with_reducible apply w_box (vs := [_, _, _, _, _, _, _])); exact rfl; exact rfl)))
    | with_reducible refine w_seq ?_
    | with_reducible refine w_nil ?_
    | with_reducible refine w_region ?_)
  refine w_rq (win_run a0 1073741824 _ _ _) (fun _ => rfl) ?_
  rintro _ rfl
  by_cases h0 : 0 ≤ a0 ∧ a0 ≤ 1073741824
  · rw [decide_eq_true h0]
    repeat' (first
      | ((with_reducible apply g_op); first
        | ((with_reducible apply g_load); first
          | ((with_reducible apply w_load (v := .int _ _)); exact rfl; (first | assumption | (simp (disch := omega) only [upd_same, upd_ne]; first | done | assumption | exact rfl) | exact rfl); exact rfl))
        | ((with_reducible apply g_move); first
          | ((with_reducible apply w_pure (v := .bool _)); exact rfl; exact rfl)
          | ((with_reducible apply w_pure (v := .func _ _ _)); exact rfl; exact rfl))
        | ((with_reducible apply g_fld); first
          | ((with_reducible apply w_fldp (o := 1)); exact rfl; exact rfl; exact rfl; exact (by decide)))
        | ((with_reducible apply w_pure (v := .bool _)); exact rfl; exact rfl))
      | ((with_reducible apply g_gd); first
        | ((with_reducible apply w_want); exact rfl)))
    refine w_rq (win_run a1 7 _ _ _) (fun _ => rfl) ?_
    rintro _ rfl
    by_cases h1 : 0 ≤ a1 ∧ a1 ≤ 7
    · rw [decide_eq_true h1]
      repeat' (first
        | ((with_reducible apply g_op); first
          | ((with_reducible apply g_load); first
            | ((with_reducible apply w_load (v := .int _ _)); exact rfl; (first | assumption | (simp (disch := omega) only [upd_same, upd_ne]; first | done | assumption | exact rfl) | exact rfl); exact rfl))
          | ((with_reducible apply g_move); first
            | ((with_reducible apply w_pure (v := .int _ _)); exact rfl; exact rfl))
          | ((with_reducible apply g_fld); first
            | ((with_reducible apply w_fldp (o := 2)); exact rfl; exact rfl; exact rfl; exact (by decide))
            | ((with_reducible apply w_fldp (o := 3)); exact rfl; exact rfl; exact rfl; exact (by decide))
            | ((with_reducible apply w_fldp (o := 4)); exact rfl; exact rfl; exact rfl; exact (by decide))
            | ((with_reducible apply w_fldp (o := 5)); exact rfl; exact rfl; exact rfl; exact (by decide))
            | ((with_reducible apply w_fldp (o := 6)); exact rfl; exact rfl; exact rfl; exact (by decide)))
          | ((with_reducible apply g_build); first
            | ((with_reducible apply w_pure (v := .agg #[.int _ _, .int _ _, .int _ _, .int _ _, .int _ _])); exact rfl; exact rfl))
          | ((with_reducible apply w_pure (v := .bool _)); exact rfl; exact rfl))
        | ((with_reducible apply g_gd); first
          | ((with_reducible apply w_want); exact rfl))
        | with_reducible refine w_seq ?_
        | with_reducible refine w_nil ?_
        | with_reducible refine w_region ?_
        | with_reducible refine w_skip ?_
        | with_reducible refine w_block ?_
        | ((with_reducible apply w_no); exact rfl))
      refine w_unroll ?_
      repeat' (first
        | ((with_reducible apply g_op); first
          | ((with_reducible apply g_move); first
            | ((with_reducible apply w_pure (v := .int _ _)); exact rfl; exact rfl)
            | ((with_reducible apply w_pure (v := .func _ _ _)); exact rfl; exact rfl))
          | ((with_reducible apply g_bin); first
            | ((with_reducible apply w_pure (v := .bool _)); exact rfl; exact rfl))
          | ((with_reducible apply g_assign); first
            | ((with_reducible apply w_pure (v := .int _ _)); exact rfl; exact rfl))
          | ((with_reducible apply w_pure (v := .int _ _)); exact rfl; exact rfl))
        | with_reducible refine w_seq ?_
        | with_reducible refine w_nil ?_
        | with_reducible refine w_region ?_
        | with_reducible refine w_skip ?_
        | with_reducible refine w_block ?_
        | ((with_reducible apply w_yes); exact rfl))
      refine w_rq (win_run a2 1099511627776 _ _ _) (fun _ => rfl) ?_
      rintro _ rfl
      by_cases h2 : 0 ≤ a2 ∧ a2 ≤ 1099511627776
      · rw [decide_eq_true h2]
        repeat' (first
          | ((with_reducible apply g_op); first
            | ((with_reducible apply g_move); first
              | ((with_reducible apply w_pure (v := .int _ _)); exact rfl; exact rfl))
            | ((with_reducible apply g_bin); first
              | ((with_reducible apply w_wrap); exact rfl; exact rfl; first | exact i64_in _ (by omega) | exact u64_in _ (by omega) | exact u8_in _ (by omega)))
            | ((with_reducible apply w_pure (v := .bool _)); exact rfl; exact rfl))
          | with_reducible refine w_nil ?_
          | with_reducible refine w_region ?_
          | with_reducible refine w_skip ?_
          | with_reducible refine w_blk ?_
          | ((with_reducible apply w_no); exact rfl))
        refine w_unroll ?_
        repeat' (first
          | ((with_reducible apply g_op); first
            | ((with_reducible apply g_move); first
              | ((with_reducible apply w_pure (v := .int _ _)); exact rfl; exact rfl)
              | ((with_reducible apply w_pure (v := .func _ _ _)); exact rfl; exact rfl))
            | ((with_reducible apply g_bin); first
              | ((with_reducible apply w_pure (v := .bool _)); exact rfl; exact rfl))
            | ((with_reducible apply g_assign); first
              | ((with_reducible apply w_pure (v := .int _ _)); exact rfl; exact rfl))
            | ((with_reducible apply w_pure (v := .int _ _)); exact rfl; exact rfl))
          | with_reducible refine w_seq ?_
          | with_reducible refine w_nil ?_
          | with_reducible refine w_region ?_
          | with_reducible refine w_skip ?_
          | with_reducible refine w_block ?_
          | ((with_reducible apply w_yes); exact rfl))
        refine w_rq (win_run a3 1099511627776 _ _ _) (fun _ => rfl) ?_
        rintro _ rfl
        by_cases h3 : 0 ≤ a3 ∧ a3 ≤ 1099511627776
        · rw [decide_eq_true h3]
          repeat' (first
            | ((with_reducible apply g_op); first
              | ((with_reducible apply g_move); first
                | ((with_reducible apply w_pure (v := .int _ _)); exact rfl; exact rfl))
              | ((with_reducible apply g_bin); first
                | ((with_reducible apply w_wrap); exact rfl; exact rfl; first | exact i64_in _ (by omega) | exact u64_in _ (by omega) | exact u8_in _ (by omega)))
              | ((with_reducible apply w_pure (v := .bool _)); exact rfl; exact rfl))
            | with_reducible refine w_nil ?_
            | with_reducible refine w_region ?_
            | with_reducible refine w_skip ?_
            | with_reducible refine w_blk ?_
            | ((with_reducible apply w_no); exact rfl))
          refine w_unroll ?_
          repeat' (first
            | ((with_reducible apply g_op); first
              | ((with_reducible apply g_move); first
                | ((with_reducible apply w_pure (v := .int _ _)); exact rfl; exact rfl)
                | ((with_reducible apply w_pure (v := .func _ _ _)); exact rfl; exact rfl))
              | ((with_reducible apply g_bin); first
                | ((with_reducible apply w_pure (v := .bool _)); exact rfl; exact rfl))
              | ((with_reducible apply g_assign); first
                | ((with_reducible apply w_pure (v := .int _ _)); exact rfl; exact rfl))
              | ((with_reducible apply w_pure (v := .int _ _)); exact rfl; exact rfl))
            | with_reducible refine w_seq ?_
            | with_reducible refine w_nil ?_
            | with_reducible refine w_region ?_
            | with_reducible refine w_skip ?_
            | with_reducible refine w_block ?_
            | ((with_reducible apply w_yes); exact rfl))
          refine w_rq (win_run a4 1099511627776 _ _ _) (fun _ => rfl) ?_
          rintro _ rfl
          by_cases h4 : 0 ≤ a4 ∧ a4 ≤ 1099511627776
          · rw [decide_eq_true h4]
            repeat' (first
              | ((with_reducible apply g_op); first
                | ((with_reducible apply g_move); first
                  | ((with_reducible apply w_pure (v := .int _ _)); exact rfl; exact rfl))
                | ((with_reducible apply g_bin); first
                  | ((with_reducible apply w_wrap); exact rfl; exact rfl; first | exact i64_in _ (by omega) | exact u64_in _ (by omega) | exact u8_in _ (by omega)))
                | ((with_reducible apply w_pure (v := .bool _)); exact rfl; exact rfl))
              | with_reducible refine w_nil ?_
              | with_reducible refine w_region ?_
              | with_reducible refine w_skip ?_
              | with_reducible refine w_blk ?_
              | ((with_reducible apply w_no); exact rfl))
            refine w_unroll ?_
            repeat' (first
              | ((with_reducible apply g_op); first
                | ((with_reducible apply g_move); first
                  | ((with_reducible apply w_pure (v := .int _ _)); exact rfl; exact rfl)
                  | ((with_reducible apply w_pure (v := .func _ _ _)); exact rfl; exact rfl))
                | ((with_reducible apply g_bin); first
                  | ((with_reducible apply w_pure (v := .bool _)); exact rfl; exact rfl))
                | ((with_reducible apply g_assign); first
                  | ((with_reducible apply w_pure (v := .int _ _)); exact rfl; exact rfl))
                | ((with_reducible apply w_pure (v := .int _ _)); exact rfl; exact rfl))
              | with_reducible refine w_seq ?_
              | with_reducible refine w_nil ?_
              | with_reducible refine w_region ?_
              | with_reducible refine w_skip ?_
              | with_reducible refine w_block ?_
              | ((with_reducible apply w_yes); exact rfl))
            refine w_rq (win_run a5 1099511627776 _ _ _) (fun _ => rfl) ?_
            rintro _ rfl
            by_cases h5 : 0 ≤ a5 ∧ a5 ≤ 1099511627776
            · rw [decide_eq_true h5]
              repeat' (first
                | ((with_reducible apply g_op); first
                  | ((with_reducible apply g_move); first
                    | ((with_reducible apply w_pure (v := .int _ _)); exact rfl; exact rfl))
                  | ((with_reducible apply g_bin); first
                    | ((with_reducible apply w_wrap); exact rfl; exact rfl; first | exact i64_in _ (by omega) | exact u64_in _ (by omega) | exact u8_in _ (by omega)))
                  | ((with_reducible apply w_pure (v := .bool _)); exact rfl; exact rfl))
                | with_reducible refine w_nil ?_
                | with_reducible refine w_region ?_
                | with_reducible refine w_skip ?_
                | with_reducible refine w_blk ?_
                | ((with_reducible apply w_no); exact rfl))
              refine w_unroll ?_
              repeat' (first
                | ((with_reducible apply g_op); first
                  | ((with_reducible apply g_move); first
                    | ((with_reducible apply w_pure (v := .int _ _)); exact rfl; exact rfl)
                    | ((with_reducible apply w_pure (v := .func _ _ _)); exact rfl; exact rfl))
                  | ((with_reducible apply g_bin); first
                    | ((with_reducible apply w_pure (v := .bool _)); exact rfl; exact rfl))
                  | ((with_reducible apply g_assign); first
                    | ((with_reducible apply w_pure (v := .int _ _)); exact rfl; exact rfl))
                  | ((with_reducible apply w_pure (v := .int _ _)); exact rfl; exact rfl))
                | with_reducible refine w_seq ?_
                | with_reducible refine w_nil ?_
                | with_reducible refine w_region ?_
                | with_reducible refine w_skip ?_
                | with_reducible refine w_block ?_
                | ((with_reducible apply w_yes); exact rfl))
              refine w_rq (win_run a6 1099511627776 _ _ _) (fun _ => rfl) ?_
              rintro _ rfl
              by_cases h6 : 0 ≤ a6 ∧ a6 ≤ 1099511627776
              · rw [decide_eq_true h6]
                repeat' (first
                  | ((with_reducible apply g_op); first
                    | ((with_reducible apply g_move); first
                      | ((with_reducible apply w_pure (v := .int _ _)); exact rfl; exact rfl))
                    | ((with_reducible apply g_bin); first
                      | ((with_reducible apply w_wrap); exact rfl; exact rfl; first | exact i64_in _ (by omega) | exact u64_in _ (by omega) | exact u8_in _ (by omega)))
                    | ((with_reducible apply w_pure (v := .bool _)); exact rfl; exact rfl))
                  | with_reducible refine w_nil ?_
                  | with_reducible refine w_region ?_
                  | with_reducible refine w_skip ?_
                  | with_reducible refine w_blk ?_
                  | ((with_reducible apply w_no); exact rfl))
                refine w_unroll ?_
                repeat' (first
                  | ((with_reducible apply g_op); first
                    | ((with_reducible apply g_load); first
                      | ((with_reducible apply w_load (v := .int _ _)); exact rfl; (first | assumption | (simp (disch := omega) only [upd_same, upd_ne]; first | done | assumption | exact rfl) | exact rfl); exact rfl))
                    | ((with_reducible apply g_move); first
                      | ((with_reducible apply w_pure (v := .int _ _)); exact rfl; exact rfl)
                      | ((with_reducible apply w_pure (v := .func _ _ _)); exact rfl; exact rfl))
                    | ((with_reducible apply g_bin); first
                      | ((with_reducible apply w_wrap); exact rfl; exact rfl; first | exact i64_in _ (by omega) | exact u64_in _ (by omega) | exact u8_in _ (by omega))
                      | ((with_reducible apply w_pure (v := .bool _)); exact rfl; exact rfl))
                    | ((with_reducible apply g_fld); first
                      | ((with_reducible apply w_fldp (o := 2)); exact rfl; exact rfl; exact rfl; exact (by decide))
                      | ((with_reducible apply w_fldp (o := 4)); exact rfl; exact rfl; exact rfl; exact (by decide))))
                  | with_reducible refine w_seq ?_
                  | with_reducible refine w_nil ?_
                  | with_reducible refine w_region ?_
                  | ((with_reducible apply w_exit); exact rfl)
                  | ((with_reducible apply w_no); exact rfl))
                refine w_rq (win_run (a2 + a4) z _ _ _) (fun _ => rfl) ?_
                rintro _ rfl
                by_cases p : 0 ≤ a2 + a4 ∧ a2 + a4 ≤ z
                · rw [decide_eq_true p]
                  repeat' (first
                    | ((with_reducible apply g_op); first
                      | ((with_reducible apply g_load); first
                        | ((with_reducible apply w_load (v := .int _ _)); exact rfl; (first | assumption | (simp (disch := omega) only [upd_same, upd_ne]; first | done | assumption | exact rfl) | exact rfl); exact rfl))
                      | ((with_reducible apply g_move); first
                        | ((with_reducible apply w_pure (v := .bool _)); exact rfl; exact rfl)
                        | ((with_reducible apply w_pure (v := .func _ _ _)); exact rfl; exact rfl))
                      | ((with_reducible apply g_fld); first
                        | ((with_reducible apply w_fldp (o := 4)); exact rfl; exact rfl; exact rfl; exact (by decide))
                        | ((with_reducible apply w_fldp (o := 5)); exact rfl; exact rfl; exact rfl; exact (by decide))))
                    | ((with_reducible apply g_gd); first
                      | ((with_reducible apply w_want); exact rfl)))
                  refine w_rq (win_run (a4) a5 _ _ _) (fun _ => rfl) ?_
                  rintro _ rfl
                  by_cases q : 0 ≤ a4 ∧ a4 ≤ a5
                  · rw [decide_eq_true q]
                    repeat' (first
                      | ((with_reducible apply g_op); first
                        | ((with_reducible apply g_load); first
                          | ((with_reducible apply w_load (v := .int _ _)); exact rfl; (first | assumption | (simp (disch := omega) only [upd_same, upd_ne]; first | done | assumption | exact rfl) | exact rfl); exact rfl))
                        | ((with_reducible apply g_move); first
                          | ((with_reducible apply w_pure (v := .bool _)); exact rfl; exact rfl)
                          | ((with_reducible apply w_pure (v := .func _ _ _)); exact rfl; exact rfl))
                        | ((with_reducible apply g_bin); first
                          | ((with_reducible apply w_wrap); exact rfl; exact rfl; first | exact i64_in _ (by omega) | exact u64_in _ (by omega) | exact u8_in _ (by omega)))
                        | ((with_reducible apply g_fld); first
                          | ((with_reducible apply w_fldp (o := 3)); exact rfl; exact rfl; exact rfl; exact (by decide))
                          | ((with_reducible apply w_fldp (o := 5)); exact rfl; exact rfl; exact rfl; exact (by decide)))
                        | ((with_reducible apply w_pure (v := .bool _)); exact rfl; exact rfl))
                      | ((with_reducible apply g_gd); first
                        | ((with_reducible apply w_want); exact rfl)))
                    refine w_rq (win_run (a3 + a5) 262144 _ _ _) (fun _ => rfl) ?_
                    rintro _ rfl
                    by_cases r : 0 ≤ a3 + a5 ∧ a3 + a5 ≤ 262144
                    · rw [decide_eq_true r]
                      repeat' (first
                        | ((with_reducible apply g_op); first
                          | ((with_reducible apply g_load); first
                            | ((with_reducible apply w_load (v := .int _ _)); exact rfl; (first | assumption | (simp (disch := omega) only [upd_same, upd_ne]; first | done | assumption | exact rfl) | exact rfl); exact rfl))
                          | ((with_reducible apply g_move); first
                            | ((with_reducible apply w_pure (v := .bool _)); exact rfl; exact rfl))
                          | ((with_reducible apply g_bin); first
                            | ((with_reducible apply w_mod); exact rfl; exact rfl; exact rfl; exact rfl; exact rfl; omega; omega)
                            | ((with_reducible apply w_pure (v := .bool _)); exact rfl; exact rfl))
                          | ((with_reducible apply g_fld); first
                            | ((with_reducible apply w_fldp (o := 0)); exact rfl; exact rfl; exact rfl; exact (by decide))
                            | ((with_reducible apply w_fldp (o := 2)); exact rfl; exact rfl; exact rfl; exact (by decide))
                            | ((with_reducible apply w_fldp (o := 3)); exact rfl; exact rfl; exact rfl; exact (by decide))
                            | ((with_reducible apply w_fldp (o := 5)); exact rfl; exact rfl; exact rfl; exact (by decide))
                            | ((with_reducible apply w_fldp (o := 6)); exact rfl; exact rfl; exact rfl; exact (by decide)))
                          | ((with_reducible apply g_pick); first
                            | ((with_reducible apply w_pk1 (v := .bool _)); exact rfl; exact rfl; (first | assumption | exact decide_eq_true (by assumption) | exact decide_eq_false (by assumption) | exact decide_eq_true (by omega) | exact decide_eq_false (by omega) | exact beq_iff_eq.2 (by omega) | exact beq_eq_false_iff_ne.2 (by omega) | exact bne_iff_ne.2 (by omega) | exact bne_eq_false_iff_eq.2 (by omega)))
                            | ((with_reducible apply w_pk0 (v := .bool _)); exact rfl; exact rfl; (first | assumption | exact decide_eq_true (by assumption) | exact decide_eq_false (by assumption) | exact decide_eq_true (by omega) | exact decide_eq_false (by omega) | exact beq_iff_eq.2 (by omega) | exact beq_eq_false_iff_ne.2 (by omega) | exact bne_iff_ne.2 (by omega) | exact bne_eq_false_iff_eq.2 (by omega))))
                          | ((with_reducible apply g_assign); first
                            | ((with_reducible apply w_pure (v := .bool _)); exact rfl; exact rfl))
                          | ((with_reducible apply w_pure (v := .bool _)); exact rfl; exact rfl))
                        | ((with_reducible apply g_gd); first
                          | ((with_reducible apply w_want); exact rfl)
                          | ((with_reducible apply w_pass); exact rfl)
                          | ((with_reducible apply w_gd_t); exact rfl; all_goals (intro hc; first | (exfalso; omega) | skip)))
                        | with_reducible refine w_seq ?_
                        | with_reducible refine w_nil ?_
                        | with_reducible refine w_region ?_
                        | with_reducible refine w_skip ?_
                        | with_reducible refine w_block ?_
                        | with_reducible refine w_blk ?_
                        | ((with_reducible apply w_ifd); exact rfl; all_goals (intro hc; first | (exfalso; omega) | skip))
                        | ((with_reducible apply w_ret (v := .bool _)); exact rfl))
                      all_goals refine ⟨rfl, ?_⟩
                      all_goals refine congrArg Value.bool ?_
                      all_goals unfold segS
                      all_goals ((try dsimp only); rw [Bool.eq_iff_iff]; simp only [decide_eq_true_eq, beq_iff_eq, bne_iff_ne, ne_eq, Bool.false_eq_true, eq_self, false_iff, true_iff]; omega)
                    · rw [decide_eq_false r]
                      repeat' (first
                        | ((with_reducible apply g_op); first
                          | ((with_reducible apply g_load); first
                            | ((with_reducible apply w_load (v := .int _ _)); exact rfl; (first | assumption | (simp (disch := omega) only [upd_same, upd_ne]; first | done | assumption | exact rfl) | exact rfl); exact rfl))
                          | ((with_reducible apply g_move); first
                            | ((with_reducible apply w_pure (v := .bool _)); exact rfl; exact rfl))
                          | ((with_reducible apply g_bin); first
                            | ((with_reducible apply w_pure (v := .bool _)); exact rfl; exact rfl))
                          | ((with_reducible apply g_fld); first
                            | ((with_reducible apply w_fldp (o := 0)); exact rfl; exact rfl; exact rfl; exact (by decide)))
                          | ((with_reducible apply g_assign); first
                            | ((with_reducible apply w_pure (v := .bool _)); exact rfl; exact rfl))
                          | ((with_reducible apply w_pure (v := .bool _)); exact rfl; exact rfl))
                        | ((with_reducible apply g_gd); first
                          | ((with_reducible apply w_pass); exact rfl))
                        | with_reducible refine w_seq ?_
                        | with_reducible refine w_nil ?_
                        | with_reducible refine w_region ?_
                        | with_reducible refine w_skip ?_
                        | with_reducible refine w_block ?_
                        | with_reducible refine w_blk ?_
                        | ((with_reducible apply w_ifd); exact rfl; all_goals (intro hc; first | (exfalso; omega) | skip))
                        | ((with_reducible apply w_ret (v := .bool _)); exact rfl))
                      all_goals refine ⟨rfl, ?_⟩
                      all_goals refine congrArg Value.bool ?_
                      all_goals unfold segS
                      all_goals ((try dsimp only); rw [Bool.eq_iff_iff]; simp only [decide_eq_true_eq, beq_iff_eq, bne_iff_ne, ne_eq, Bool.false_eq_true, eq_self, false_iff, true_iff]; omega)
                  · rw [decide_eq_false q]
                    repeat' (first
                      | ((with_reducible apply g_op); first
                        | ((with_reducible apply g_load); first
                          | ((with_reducible apply w_load (v := .int _ _)); exact rfl; (first | assumption | (simp (disch := omega) only [upd_same, upd_ne]; first | done | assumption | exact rfl) | exact rfl); exact rfl))
                        | ((with_reducible apply g_move); first
                          | ((with_reducible apply w_pure (v := .bool _)); exact rfl; exact rfl))
                        | ((with_reducible apply g_bin); first
                          | ((with_reducible apply w_pure (v := .bool _)); exact rfl; exact rfl))
                        | ((with_reducible apply g_fld); first
                          | ((with_reducible apply w_fldp (o := 0)); exact rfl; exact rfl; exact rfl; exact (by decide)))
                        | ((with_reducible apply g_assign); first
                          | ((with_reducible apply w_pure (v := .bool _)); exact rfl; exact rfl))
                        | ((with_reducible apply w_pure (v := .bool _)); exact rfl; exact rfl))
                      | ((with_reducible apply g_gd); first
                        | ((with_reducible apply w_pass); exact rfl))
                      | with_reducible refine w_seq ?_
                      | with_reducible refine w_nil ?_
                      | with_reducible refine w_region ?_
                      | with_reducible refine w_skip ?_
                      | with_reducible refine w_block ?_
                      | with_reducible refine w_blk ?_
                      | ((with_reducible apply w_ifd); exact rfl; all_goals (intro hc; first | (exfalso; omega) | skip))
                      | ((with_reducible apply w_ret (v := .bool _)); exact rfl))
                    all_goals refine ⟨rfl, ?_⟩
                    all_goals refine congrArg Value.bool ?_
                    all_goals unfold segS
                    all_goals ((try dsimp only); rw [Bool.eq_iff_iff]; simp only [decide_eq_true_eq, beq_iff_eq, bne_iff_ne, ne_eq, Bool.false_eq_true, eq_self, false_iff, true_iff]; omega)
                · rw [decide_eq_false p]
                  repeat' (first
                    | ((with_reducible apply g_op); first
                      | ((with_reducible apply g_load); first
                        | ((with_reducible apply w_load (v := .int _ _)); exact rfl; (first | assumption | (simp (disch := omega) only [upd_same, upd_ne]; first | done | assumption | exact rfl) | exact rfl); exact rfl))
                      | ((with_reducible apply g_move); first
                        | ((with_reducible apply w_pure (v := .bool _)); exact rfl; exact rfl))
                      | ((with_reducible apply g_bin); first
                        | ((with_reducible apply w_pure (v := .bool _)); exact rfl; exact rfl))
                      | ((with_reducible apply g_fld); first
                        | ((with_reducible apply w_fldp (o := 0)); exact rfl; exact rfl; exact rfl; exact (by decide)))
                      | ((with_reducible apply g_assign); first
                        | ((with_reducible apply w_pure (v := .bool _)); exact rfl; exact rfl))
                      | ((with_reducible apply w_pure (v := .bool _)); exact rfl; exact rfl))
                    | ((with_reducible apply g_gd); first
                      | ((with_reducible apply w_pass); exact rfl))
                    | with_reducible refine w_seq ?_
                    | with_reducible refine w_nil ?_
                    | with_reducible refine w_region ?_
                    | with_reducible refine w_skip ?_
                    | with_reducible refine w_block ?_
                    | with_reducible refine w_blk ?_
                    | ((with_reducible apply w_ifd); exact rfl; all_goals (intro hc; first | (exfalso; omega) | skip))
                    | ((with_reducible apply w_ret (v := .bool _)); exact rfl))
                  all_goals refine ⟨rfl, ?_⟩
                  all_goals refine congrArg Value.bool ?_
                  all_goals unfold segS
                  all_goals ((try dsimp only); rw [Bool.eq_iff_iff]; simp only [decide_eq_true_eq, beq_iff_eq, bne_iff_ne, ne_eq, Bool.false_eq_true, eq_self, false_iff, true_iff]; omega)
              · rw [decide_eq_false h6]
                repeat' (first
                  | ((with_reducible apply g_op); first
                    | ((with_reducible apply g_assign); first
                      | ((with_reducible apply w_pure (v := .bool _)); exact rfl; exact rfl))
                    | ((with_reducible apply w_pure (v := .bool _)); exact rfl; exact rfl))
                  | with_reducible refine w_seq ?_
                  | with_reducible refine w_nil ?_
                  | with_reducible refine w_region ?_
                  | ((with_reducible apply w_yes); exact rfl)
                  | ((with_reducible apply w_ret (v := .bool _)); exact rfl))
                all_goals refine ⟨rfl, ?_⟩
                all_goals refine congrArg Value.bool ?_
                all_goals unfold segS
                all_goals ((try dsimp only); rw [Bool.eq_iff_iff]; simp only [decide_eq_true_eq, beq_iff_eq, bne_iff_ne, ne_eq, Bool.false_eq_true, eq_self, false_iff, true_iff]; omega)
            · rw [decide_eq_false h5]
              repeat' (first
                | ((with_reducible apply g_op); first
                  | ((with_reducible apply g_assign); first
                    | ((with_reducible apply w_pure (v := .bool _)); exact rfl; exact rfl))
                  | ((with_reducible apply w_pure (v := .bool _)); exact rfl; exact rfl))
                | with_reducible refine w_seq ?_
                | with_reducible refine w_nil ?_
                | with_reducible refine w_region ?_
                | ((with_reducible apply w_yes); exact rfl)
                | ((with_reducible apply w_ret (v := .bool _)); exact rfl))
              all_goals refine ⟨rfl, ?_⟩
              all_goals refine congrArg Value.bool ?_
              all_goals unfold segS
              all_goals ((try dsimp only); rw [Bool.eq_iff_iff]; simp only [decide_eq_true_eq, beq_iff_eq, bne_iff_ne, ne_eq, Bool.false_eq_true, eq_self, false_iff, true_iff]; omega)
          · rw [decide_eq_false h4]
            repeat' (first
              | ((with_reducible apply g_op); first
                | ((with_reducible apply g_assign); first
                  | ((with_reducible apply w_pure (v := .bool _)); exact rfl; exact rfl))
                | ((with_reducible apply w_pure (v := .bool _)); exact rfl; exact rfl))
              | with_reducible refine w_seq ?_
              | with_reducible refine w_nil ?_
              | with_reducible refine w_region ?_
              | ((with_reducible apply w_yes); exact rfl)
              | ((with_reducible apply w_ret (v := .bool _)); exact rfl))
            all_goals refine ⟨rfl, ?_⟩
            all_goals refine congrArg Value.bool ?_
            all_goals unfold segS
            all_goals ((try dsimp only); rw [Bool.eq_iff_iff]; simp only [decide_eq_true_eq, beq_iff_eq, bne_iff_ne, ne_eq, Bool.false_eq_true, eq_self, false_iff, true_iff]; omega)
        · rw [decide_eq_false h3]
          repeat' (first
            | ((with_reducible apply g_op); first
              | ((with_reducible apply g_assign); first
                | ((with_reducible apply w_pure (v := .bool _)); exact rfl; exact rfl))
              | ((with_reducible apply w_pure (v := .bool _)); exact rfl; exact rfl))
            | with_reducible refine w_seq ?_
            | with_reducible refine w_nil ?_
            | with_reducible refine w_region ?_
            | ((with_reducible apply w_yes); exact rfl)
            | ((with_reducible apply w_ret (v := .bool _)); exact rfl))
          all_goals refine ⟨rfl, ?_⟩
          all_goals refine congrArg Value.bool ?_
          all_goals unfold segS
          all_goals ((try dsimp only); rw [Bool.eq_iff_iff]; simp only [decide_eq_true_eq, beq_iff_eq, bne_iff_ne, ne_eq, Bool.false_eq_true, eq_self, false_iff, true_iff]; omega)
      · rw [decide_eq_false h2]
        repeat' (first
          | ((with_reducible apply g_op); first
            | ((with_reducible apply g_assign); first
              | ((with_reducible apply w_pure (v := .bool _)); exact rfl; exact rfl))
            | ((with_reducible apply w_pure (v := .bool _)); exact rfl; exact rfl))
          | with_reducible refine w_seq ?_
          | with_reducible refine w_nil ?_
          | with_reducible refine w_region ?_
          | ((with_reducible apply w_yes); exact rfl)
          | ((with_reducible apply w_ret (v := .bool _)); exact rfl))
        all_goals refine ⟨rfl, ?_⟩
        all_goals refine congrArg Value.bool ?_
        all_goals unfold segS
        all_goals ((try dsimp only); rw [Bool.eq_iff_iff]; simp only [decide_eq_true_eq, beq_iff_eq, bne_iff_ne, ne_eq, Bool.false_eq_true, eq_self, false_iff, true_iff]; omega)
    · rw [decide_eq_false h1]
      repeat' (first
        | ((with_reducible apply g_op); first
          | ((with_reducible apply g_assign); first
            | ((with_reducible apply w_pure (v := .bool _)); exact rfl; exact rfl))
          | ((with_reducible apply w_pure (v := .bool _)); exact rfl; exact rfl))
        | ((with_reducible apply g_gd); first
          | ((with_reducible apply w_want); exact rfl))
        | with_reducible refine w_seq ?_
        | with_reducible refine w_nil ?_
        | with_reducible refine w_region ?_
        | ((with_reducible apply w_yes); exact rfl)
        | ((with_reducible apply w_ret (v := .bool _)); exact rfl))
      all_goals refine ⟨rfl, ?_⟩
      all_goals refine congrArg Value.bool ?_
      all_goals unfold segS
      all_goals ((try dsimp only); rw [Bool.eq_iff_iff]; simp only [decide_eq_true_eq, beq_iff_eq, bne_iff_ne, ne_eq, Bool.false_eq_true, eq_self, false_iff, true_iff]; omega)
  · rw [decide_eq_false h0]
    repeat' (first
      | ((with_reducible apply g_op); first
        | ((with_reducible apply g_move); first
          | ((with_reducible apply w_pure (v := .bool _)); exact rfl; exact rfl))
        | ((with_reducible apply g_assign); first
          | ((with_reducible apply w_pure (v := .bool _)); exact rfl; exact rfl))
        | ((with_reducible apply w_pure (v := .bool _)); exact rfl; exact rfl))
      | ((with_reducible apply g_gd); first
        | ((with_reducible apply w_pass); exact rfl))
      | with_reducible refine w_seq ?_
      | with_reducible refine w_nil ?_
      | with_reducible refine w_region ?_
      | ((with_reducible apply w_yes); exact rfl)
      | ((with_reducible apply w_ret (v := .bool _)); exact rfl))
    all_goals refine ⟨rfl, ?_⟩
    all_goals refine congrArg Value.bool ?_
    all_goals unfold segS
    all_goals ((try dsimp only); rw [Bool.eq_iff_iff]; simp only [decide_eq_true_eq, beq_iff_eq, bne_iff_ne, ne_eq, Bool.false_eq_true, eq_self, false_iff, true_iff]; omega)
end Go.Proofs.Ytohfbnpmhlpkhaa.L

