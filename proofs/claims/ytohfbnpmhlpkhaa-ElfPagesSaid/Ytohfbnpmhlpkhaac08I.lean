/- The reference: may an image be; the same as the program. -/
import Derived.Test.Ytohfbnpmhlpkhaac08H
namespace Go.Proofs.Ytohfbnpmhlpkhaa.L
open Go.L1 Go.IntWalk Oct
set_option linter.unusedVariables false
set_option linter.unusedSimpArgs false
set_option maxHeartbeats 4000000
set_option maxRecDepth 20000
theorem rcheck_run (x : Im) (z : Int) : Rf Try.prog T 23 [x.v tg, .int .i64 z] (fun v => v = errV (okS x z)) := by
  refine c_froz Try.func23 rfl rfl rfl rfl rfl rfl ?_
  intro g n
  obtain ⟨k, e, l⟩ := x
  by_cases h0 : ((k = 2 ∨ k = 3) ∧ (1 ≤ l.length ∧ l.length ≤ 16) ∧ 64 + 56 * (l.length : Int) ≤ z ∧ 0 ≤ e ∧ e ≤ 1099511627776)
  · have e0 : okS ⟨k, e, l⟩ z = endS (chk l z e l 0 0 0 (decide (k = 3 ∧ e = 0))) := by
      unfold okS
      rw [decide_eq_true h0, Bool.true_and]
    rw [e0]
    obtain ⟨h1, h2, h3, h4, h5⟩ := h0
    rcases h1 with rfl | rfl
    · obtain ⟨R, hR⟩ : ∃ R, chk l z e l 0 0 0 false = R := ⟨_, rfl⟩
      rw [decide_eq_false (by omega), hR]
      repeat' (first
        | ((with_reducible apply g_op); first
          | ((with_reducible apply g_load); first
            | ((with_reducible apply w_load (v := .int _ _)); exact rfl; (first | assumption | (simp (disch := omega) only [upd_same, upd_ne]; first | done | assumption | exact rfl) | exact rfl); exact rfl)
            | ((with_reducible apply w_load (v := .func _ _ _)); exact rfl; (first | assumption | (simp (disch := omega) only [upd_same, upd_ne]; first | done | assumption | exact rfl) | exact rfl); exact rfl))
          | ((with_reducible apply g_move); first
            | ((with_reducible apply w_pure (v := .int _ _)); exact rfl; exact rfl)
            | ((with_reducible apply w_pure (v := .bool _)); exact rfl; exact rfl))
          | ((with_reducible apply g_bin); first
            | ((with_reducible apply w_wrap); exact rfl; exact rfl; first | exact i64_in _ (by omega) | exact u64_in _ (by omega) | exact u8_in _ (by omega))
            | ((with_reducible apply w_pure (v := .bool _)); exact rfl; exact rfl))
          | ((with_reducible apply g_fld); first
            | ((with_reducible apply w_fldp (o := 0)); exact rfl; exact rfl; exact rfl; exact (by decide))
            | ((with_reducible apply w_fldp (o := 1)); exact rfl; exact rfl; exact rfl; exact (by decide))
            | ((with_reducible apply w_fldp (o := 2)); exact rfl; exact rfl; exact rfl; exact (by decide)))
          | ((with_reducible apply g_pick); first
            | ((with_reducible apply w_pk0 (v := .bool _)); exact rfl; exact rfl; (first | assumption | exact decide_eq_true (by assumption) | exact decide_eq_false (by assumption) | exact decide_eq_true (by omega) | exact decide_eq_false (by omega) | exact beq_iff_eq.2 (by omega) | exact beq_eq_false_iff_ne.2 (by omega) | exact bne_iff_ne.2 (by omega) | exact bne_eq_false_iff_eq.2 (by omega))))
          | ((with_reducible apply g_assign); first
            | ((with_reducible apply w_pure (v := .int _ _)); exact rfl; exact rfl))
          | ((with_reducible apply g_call); first
            | ((with_reducible apply w_call (v := .int _ _)); exact rfl))
          | ((with_reducible apply g_box); first
            | ((with_reducible apply w_box (vs := [_, _, _])); exact rfl; exact rfl))
          | ((with_reducible apply w_pure (v := .bool _)); exact rfl; exact rfl))
        | ((with_reducible apply g_gd); first
          | ((with_reducible apply w_want); exact rfl)
          | ((with_reducible apply w_pass); exact rfl)
          | ((with_reducible apply w_gd_f); exact rfl; all_goals (intro hc; first | (exfalso; omega) | skip)))
        | with_reducible refine w_seq ?_
        | with_reducible refine w_nil ?_
        | with_reducible refine w_region ?_)
      refine w_rq (in_run e _ _ _) (fun _ => rfl) ?_
      rintro _ rfl
      rw [decide_eq_true (by omega)]
      repeat' (first
        | ((with_reducible apply g_op); first
          | ((with_reducible apply g_load); first
            | ((with_reducible apply w_load (v := .int _ _)); exact rfl; (first | assumption | (simp (disch := omega) only [upd_same, upd_ne]; first | done | assumption | exact rfl) | exact rfl); exact rfl))
          | ((with_reducible apply g_move); first
            | ((with_reducible apply w_pure (v := .bool _)); exact rfl; exact rfl))
          | ((with_reducible apply g_bin); first
            | ((with_reducible apply w_pure (v := .bool _)); exact rfl; exact rfl))
          | ((with_reducible apply g_fld); first
            | ((with_reducible apply w_fldp (o := 0)); exact rfl; exact rfl; exact rfl; exact (by decide)))
          | ((with_reducible apply g_pick); first
            | ((with_reducible apply w_pk0 (v := .bool _)); exact rfl; exact rfl; (first | assumption | exact decide_eq_true (by assumption) | exact decide_eq_false (by assumption) | exact decide_eq_true (by omega) | exact decide_eq_false (by omega) | exact beq_iff_eq.2 (by omega) | exact beq_eq_false_iff_ne.2 (by omega) | exact bne_iff_ne.2 (by omega) | exact bne_eq_false_iff_eq.2 (by omega))))
          | ((with_reducible apply g_assign); first
            | ((with_reducible apply w_pure (v := .int _ _)); exact rfl; exact rfl)
            | ((with_reducible apply w_pure (v := .bool _)); exact rfl; exact rfl))
          | ((with_reducible apply w_pure (v := .bool _)); exact rfl; exact rfl))
        | ((with_reducible apply g_gd); first
          | ((with_reducible apply w_pass); exact rfl)
          | ((with_reducible apply w_gd_f); exact rfl; all_goals (intro hc; first | (exfalso; omega) | skip)))
        | with_reducible refine w_seq ?_
        | with_reducible refine w_nil ?_
        | with_reducible refine w_region ?_
        | with_reducible refine w_skip ?_
        | with_reducible refine w_block ?_
        | ((with_reducible apply w_no); exact rfl))
      refine w_rngK [(4, 4), (6, 15), (56, 162)] l (fun i rest (b : Int × Int × Int × Bool) σ g' n' => σ 10 = .int .i64 (i : Nat) ∧ σ 6 = .int .i64 b.1 ∧ σ 7 = .int .i64 b.2.1 ∧ σ 8 = .int .i64 b.2.2.1 ∧ σ 9 = .bool b.2.2.2 ∧ g' n = some (.cells 24 [.int .i64 2, .int .i64 e, rv tg l]) ∧ n < n' ∧ (0 ≤ b.1 ∧ b.1 ≤ i ∧ 0 ≤ b.2.1 ∧ b.2.1 ≤ i) ∧ (b.1 = 0 → b.2.2.1 = 0) ∧ chk l z e rest b.1 b.2.1 b.2.2.1 b.2.2.2 = R) ?_ ?_ (0, 0, 0, false) ⟨rfl, rfl, rfl, rfl, rfl, upd_same, by omega, by simp, by simp, hR⟩
      · rintro i x rest ⟨lo, dy, en, et⟩ σ g2 n2 hx hlt ⟨k10, k6, k7, k8, k9, hg, hn, hb, hz, hgo⟩ ih
        dsimp only at k6 k7 k8 k9 hb hz hgo
        refine w_keep (i := 10) k10 (w_keep (i := 6) k6 (w_keep (i := 7) k7 (w_keep (i := 8) k8 (w_keep (i := 9) k9 ?_))))
        repeat' (first
          | ((with_reducible apply g_op); first
            | ((with_reducible apply g_load); first
              | ((with_reducible apply w_fl (v := .agg #[_, _, _, _, _, _, _])); exact rfl; exact (fun _ => rfl); assumption; exact rfl)
              | ((with_reducible apply w_load (v := .func _ _ _)); exact rfl; (first | assumption | (simp (disch := omega) only [upd_same, upd_ne]; first | done | assumption | exact rfl) | exact rfl); exact rfl)
              | ((with_reducible apply w_load (v := .agg #[_, _, _, _, _, _, _])); exact rfl; (first | assumption | (simp (disch := omega) only [upd_same, upd_ne]; first | done | assumption | exact rfl) | exact rfl); exact rfl))
            | ((with_reducible apply g_move); first
              | ((with_reducible apply w_pure (v := .int _ _)); exact rfl; exact rfl))
            | ((with_reducible apply g_bin); first
              | ((with_reducible apply w_pure (v := .bool _)); exact rfl; exact rfl))
            | ((with_reducible apply g_fld); first
              | ((with_reducible apply w_fldp (o := 2)); exact rfl; exact rfl; exact rfl; exact (by decide)))
            | ((with_reducible apply g_store); first
              | ((with_reducible apply w_store (us := [_, _, _, _, _, _, _]) (ws := [_, _, _, _, _, _, _])); exact rfl; exact rfl; (first | assumption | (simp (disch := omega) only [upd_same, upd_ne]; first | done | assumption | exact rfl) | exact rfl); omega; exact rfl; exact rfl; exact rfl))
            | ((with_reducible apply g_ix); first
              | ((with_reducible apply w_fx (sz := 7)); exact rfl; exact rfl; exact rfl; exact rfl; exact rfl; exact (fun _ => rfl); assumption; exact rfl))
            | ((with_reducible apply w_alloc (ls := [_, _, _, _, _, _, _])); exact rfl; exact rfl))
          | with_reducible refine w_seq ?_
          | with_reducible refine w_nil ?_
          | with_reducible refine w_region ?_
          | with_reducible refine w_skip ?_
          | with_reducible refine w_block ?_
          | ((with_reducible apply w_ifd); exact rfl; all_goals (intro hc; first | (exfalso; omega) | skip)))
        refine w_rq (rseg_run x z _ _ _) (fun _ => rfl) ?_
        rintro _ rfl
        simp only [chk] at hgo
        cases hs : segS x z with
        | false =>
          rw [hs, if_neg (by simp)] at hgo
          subst hgo
          repeat' (first
            | ((with_reducible apply g_op); first
              | ((with_reducible apply g_move); first
                | ((with_reducible apply w_pure (v := .bool _)); exact rfl; exact rfl))
              | ((with_reducible apply g_assign); first
                | ((with_reducible apply w_pure (v := .int _ _)); exact rfl; exact rfl)
                | ((with_reducible apply w_pure (v := .bool _)); exact rfl; exact rfl))
              | ((with_reducible apply w_pure (v := .bool _)); exact rfl; exact rfl))
            | with_reducible refine w_seq ?_
            | with_reducible refine w_nil ?_
            | with_reducible refine w_region ?_
            | ((with_reducible apply w_yes); exact rfl)
            | ((with_reducible apply w_ret (v := .int _ _)); exact rfl))
          exact fr_plain rfl rfl
        | true =>
          rw [if_pos hs] at hgo
          have hok := seg_ok hs
          have hf0 : firstS x ≥ 0 := by have := hok.2.2.2.1; unfold firstS; omega
          by_cases ht1 : x.ty = 1
          · rw [if_pos ht1] at hgo
            by_cases hf : firstS x ≥ en
            · rw [if_pos hf] at hgo
              have hbs : (et || beginsS x e) = (et || decide (x.fl % 2 = 1 ∧ e ≥ x.ad ∧ e < x.ad + x.me)) := by unfold beginsS; simp [ht1]
              rw [hbs] at hgo
              by_cases hl0 : lo > 0
              · repeat' (first
                  | ((with_reducible apply g_op); first
                    | ((with_reducible apply g_load); first
                      | ((with_reducible apply w_load (v := .int _ _)); exact rfl; (first | assumption | (simp (disch := omega) only [upd_same, upd_ne]; first | done | assumption | exact rfl) | exact rfl); exact rfl)
                      | ((with_reducible apply w_load (v := .agg #[_, _, _, _, _, _, _])); exact rfl; (first | assumption | (simp (disch := omega) only [upd_same, upd_ne]; first | done | assumption | exact rfl) | exact rfl); exact rfl))
                    | ((with_reducible apply g_move); first
                      | ((with_reducible apply w_pure (v := .int _ _)); exact rfl; exact rfl)
                      | ((with_reducible apply w_pure (v := .bool _)); exact rfl; exact rfl))
                    | ((with_reducible apply g_bin); first
                      | ((with_reducible apply w_pure (v := .bool _)); exact rfl; exact rfl))
                    | ((with_reducible apply g_fld); first
                      | ((with_reducible apply w_fldp (o := 0)); exact rfl; exact rfl; exact rfl; exact (by decide)))
                    | ((with_reducible apply g_assign); first
                      | ((with_reducible apply w_pure (v := .bool _)); exact rfl; exact rfl))
                    | ((with_reducible apply w_pure (v := .bool _)); exact rfl; exact rfl))
                  | ((with_reducible apply g_gd); first
                    | ((with_reducible apply w_gd_t); exact rfl; all_goals (intro hc; first | (exfalso; omega) | skip)))
                  | with_reducible refine w_seq ?_
                  | with_reducible refine w_nil ?_
                  | with_reducible refine w_region ?_
                  | with_reducible refine w_skip ?_
                  | ((with_reducible apply w_no); exact rfl)
                  | ((with_reducible apply w_ifd); exact rfl; all_goals (intro hc; first | (exfalso; omega) | skip)))
                refine w_rq (first_run x hok _ _ _) (fun _ => rfl) ?_
                rintro _ rfl
                repeat' (first
                  | ((with_reducible apply g_op); first
                    | ((with_reducible apply g_load); first
                      | ((with_reducible apply w_load (v := .agg #[_, _, _, _, _, _, _])); exact rfl; (first | assumption | (simp (disch := omega) only [upd_same, upd_ne]; first | done | assumption | exact rfl) | exact rfl); exact rfl))
                    | ((with_reducible apply g_move); first
                      | ((with_reducible apply w_pure (v := .int _ _)); exact rfl; exact rfl))
                    | ((with_reducible apply g_bin); first
                      | ((with_reducible apply w_wrap); exact rfl; exact rfl; first | exact i64_in _ (by omega) | exact u64_in _ (by omega) | exact u8_in _ (by omega))
                      | ((with_reducible apply w_pure (v := .bool _)); exact rfl; exact rfl))
                    | ((with_reducible apply g_pick); first
                      | ((with_reducible apply w_pk1 (v := .bool _)); exact rfl; exact rfl; (first | assumption | exact decide_eq_true (by assumption) | exact decide_eq_false (by assumption) | exact decide_eq_true (by omega) | exact decide_eq_false (by omega) | exact beq_iff_eq.2 (by omega) | exact beq_eq_false_iff_ne.2 (by omega) | exact bne_iff_ne.2 (by omega) | exact bne_eq_false_iff_eq.2 (by omega))))
                    | ((with_reducible apply g_assign); first
                      | ((with_reducible apply w_pure (v := .int _ _)); exact rfl; exact rfl)))
                  | ((with_reducible apply g_gd); first
                    | ((with_reducible apply w_gd_t); exact rfl; all_goals (intro hc; first | (exfalso; omega) | skip)))
                  | with_reducible refine w_seq ?_
                  | with_reducible refine w_nil ?_
                  | with_reducible refine w_region ?_
                  | with_reducible refine w_skip ?_
                  | ((with_reducible apply w_ifd); exact rfl; all_goals (intro hc; first | (exfalso; omega) | skip)))
                refine w_rq (last_run x hok _ _ _) (fun _ => rfl) ?_
                rintro _ rfl
                have hok2 := hok
                unfold Sg.ok at hok2
                repeat' (first
                  | ((with_reducible apply g_op); first
                    | ((with_reducible apply g_load); first
                      | ((with_reducible apply w_load (v := .int _ _)); exact rfl; (first | assumption | (simp (disch := omega) only [upd_same, upd_ne]; first | done | assumption | exact rfl) | exact rfl); exact rfl))
                    | ((with_reducible apply g_move); first
                      | ((with_reducible apply w_pure (v := .int _ _)); exact rfl; exact rfl)
                      | ((with_reducible apply w_pure (v := .bool _)); exact rfl; exact rfl))
                    | ((with_reducible apply g_bin); first
                      | ((with_reducible apply w_mod); exact rfl; exact rfl; exact rfl; exact rfl; exact rfl; omega; omega)
                      | ((with_reducible apply w_wrap); exact rfl; exact rfl; first | exact i64_in _ (by omega) | exact u64_in _ (by omega) | exact u8_in _ (by omega))
                      | ((with_reducible apply w_pure (v := .bool _)); exact rfl; exact rfl))
                    | ((with_reducible apply g_fld); first
                      | ((with_reducible apply w_fldp (o := 0)); exact rfl; exact rfl; exact rfl; exact (by decide))
                      | ((with_reducible apply w_fldp (o := 1)); exact rfl; exact rfl; exact rfl; exact (by decide))
                      | ((with_reducible apply w_fldp (o := 3)); exact rfl; exact rfl; exact rfl; exact (by decide))
                      | ((with_reducible apply w_fldp (o := 5)); exact rfl; exact rfl; exact rfl; exact (by decide)))
                    | ((with_reducible apply g_pick); first
                      | ((with_reducible apply w_pk1 (v := .bool _)); exact rfl; exact rfl; (first | assumption | exact decide_eq_true (by assumption) | exact decide_eq_false (by assumption) | exact decide_eq_true (by omega) | exact decide_eq_false (by omega) | exact beq_iff_eq.2 (by omega) | exact beq_eq_false_iff_ne.2 (by omega) | exact bne_iff_ne.2 (by omega) | exact bne_eq_false_iff_eq.2 (by omega)))
                      | ((with_reducible apply w_pk0 (v := .bool _)); exact rfl; exact rfl; (first | assumption | exact decide_eq_true (by assumption) | exact decide_eq_false (by assumption) | exact decide_eq_true (by omega) | exact decide_eq_false (by omega) | exact beq_iff_eq.2 (by omega) | exact beq_eq_false_iff_ne.2 (by omega) | exact bne_iff_ne.2 (by omega) | exact bne_eq_false_iff_eq.2 (by omega))))
                    | ((with_reducible apply g_assign); first
                      | ((with_reducible apply w_pure (v := .int _ _)); exact rfl; exact rfl)
                      | ((with_reducible apply w_pure (v := .bool _)); exact rfl; exact rfl))
                    | ((with_reducible apply w_pure (v := .bool _)); exact rfl; exact rfl))
                  | ((with_reducible apply g_gd); first
                    | ((with_reducible apply w_pass); exact rfl)
                    | ((with_reducible apply w_gd_t); exact rfl; all_goals (intro hc; first | (exfalso; omega) | skip)))
                  | with_reducible refine w_seq ?_
                  | with_reducible refine w_nil ?_
                  | with_reducible refine w_region ?_
                  | with_reducible refine w_skip ?_
                  | with_reducible refine w_blk ?_
                  | ((with_reducible apply w_no); exact rfl)
                  | ((with_reducible apply w_ifd); exact rfl; all_goals (intro hc; first | (exfalso; omega) | skip)))
                all_goals by_cases hq : x.fl % 2 = 1 ∧ e ≥ x.ad ∧ e < x.ad + x.me
                all_goals first | (exfalso; omega) | skip
                all_goals first | rw [decide_eq_true hq, Bool.or_true] at hgo | rw [decide_eq_false hq, Bool.or_false] at hgo
                all_goals first | exact ih (lo + 1, dy, lastS x, true) _ _ _ (by repeat' (first | with_reducible exact Fr.mix | with_reducible exact Fr.rfl' | with_reducible refine Fr.put ?_ ?_ | with_reducible refine Fr.mix2 ?_ ?_ | with_reducible refine Fr.put0 ?_ | exact rfl)) ⟨by push_cast; rfl, rfl, rfl, rfl, rfl, by simp (disch := omega) only [upd_ne]; exact hg, by omega, by dsimp only; omega, by dsimp only; omega, hgo⟩ | exact ih (lo + 1, dy, lastS x, et) _ _ _ (by repeat' (first | with_reducible exact Fr.mix | with_reducible exact Fr.rfl' | with_reducible refine Fr.put ?_ ?_ | with_reducible refine Fr.mix2 ?_ ?_ | with_reducible refine Fr.put0 ?_ | exact rfl)) ⟨by push_cast; rfl, rfl, rfl, rfl, rfl, by simp (disch := omega) only [upd_ne]; exact hg, by omega, by dsimp only; omega, by dsimp only; omega, hgo⟩
              · repeat' (first
                  | ((with_reducible apply g_op); first
                    | ((with_reducible apply g_load); first
                      | ((with_reducible apply w_load (v := .int _ _)); exact rfl; (first | assumption | (simp (disch := omega) only [upd_same, upd_ne]; first | done | assumption | exact rfl) | exact rfl); exact rfl)
                      | ((with_reducible apply w_load (v := .agg #[_, _, _, _, _, _, _])); exact rfl; (first | assumption | (simp (disch := omega) only [upd_same, upd_ne]; first | done | assumption | exact rfl) | exact rfl); exact rfl))
                    | ((with_reducible apply g_move); first
                      | ((with_reducible apply w_pure (v := .int _ _)); exact rfl; exact rfl)
                      | ((with_reducible apply w_pure (v := .bool _)); exact rfl; exact rfl))
                    | ((with_reducible apply g_bin); first
                      | ((with_reducible apply w_wrap); exact rfl; exact rfl; first | exact i64_in _ (by omega) | exact u64_in _ (by omega) | exact u8_in _ (by omega))
                      | ((with_reducible apply w_pure (v := .bool _)); exact rfl; exact rfl))
                    | ((with_reducible apply g_fld); first
                      | ((with_reducible apply w_fldp (o := 0)); exact rfl; exact rfl; exact rfl; exact (by decide)))
                    | ((with_reducible apply g_pick); first
                      | ((with_reducible apply w_pk0 (v := .bool _)); exact rfl; exact rfl; (first | assumption | exact decide_eq_true (by assumption) | exact decide_eq_false (by assumption) | exact decide_eq_true (by omega) | exact decide_eq_false (by omega) | exact beq_iff_eq.2 (by omega) | exact beq_eq_false_iff_ne.2 (by omega) | exact bne_iff_ne.2 (by omega) | exact bne_eq_false_iff_eq.2 (by omega))))
                    | ((with_reducible apply g_assign); first
                      | ((with_reducible apply w_pure (v := .int _ _)); exact rfl; exact rfl)
                      | ((with_reducible apply w_pure (v := .bool _)); exact rfl; exact rfl))
                    | ((with_reducible apply w_pure (v := .bool _)); exact rfl; exact rfl))
                  | ((with_reducible apply g_gd); first
                    | ((with_reducible apply w_gd_t); exact rfl; all_goals (intro hc; first | (exfalso; omega) | skip)))
                  | with_reducible refine w_seq ?_
                  | with_reducible refine w_nil ?_
                  | with_reducible refine w_region ?_
                  | with_reducible refine w_skip ?_
                  | ((with_reducible apply w_no); exact rfl)
                  | ((with_reducible apply w_ifd); exact rfl; all_goals (intro hc; first | (exfalso; omega) | skip)))
                refine w_rq (last_run x hok _ _ _) (fun _ => rfl) ?_
                rintro _ rfl
                have hok2 := hok
                unfold Sg.ok at hok2
                repeat' (first
                  | ((with_reducible apply g_op); first
                    | ((with_reducible apply g_load); first
                      | ((with_reducible apply w_load (v := .int _ _)); exact rfl; (first | assumption | (simp (disch := omega) only [upd_same, upd_ne]; first | done | assumption | exact rfl) | exact rfl); exact rfl))
                    | ((with_reducible apply g_move); first
                      | ((with_reducible apply w_pure (v := .int _ _)); exact rfl; exact rfl)
                      | ((with_reducible apply w_pure (v := .bool _)); exact rfl; exact rfl))
                    | ((with_reducible apply g_bin); first
                      | ((with_reducible apply w_mod); exact rfl; exact rfl; exact rfl; exact rfl; exact rfl; omega; omega)
                      | ((with_reducible apply w_wrap); exact rfl; exact rfl; first | exact i64_in _ (by omega) | exact u64_in _ (by omega) | exact u8_in _ (by omega))
                      | ((with_reducible apply w_pure (v := .bool _)); exact rfl; exact rfl))
                    | ((with_reducible apply g_fld); first
                      | ((with_reducible apply w_fldp (o := 0)); exact rfl; exact rfl; exact rfl; exact (by decide))
                      | ((with_reducible apply w_fldp (o := 1)); exact rfl; exact rfl; exact rfl; exact (by decide))
                      | ((with_reducible apply w_fldp (o := 3)); exact rfl; exact rfl; exact rfl; exact (by decide))
                      | ((with_reducible apply w_fldp (o := 5)); exact rfl; exact rfl; exact rfl; exact (by decide)))
                    | ((with_reducible apply g_pick); first
                      | ((with_reducible apply w_pk1 (v := .bool _)); exact rfl; exact rfl; (first | assumption | exact decide_eq_true (by assumption) | exact decide_eq_false (by assumption) | exact decide_eq_true (by omega) | exact decide_eq_false (by omega) | exact beq_iff_eq.2 (by omega) | exact beq_eq_false_iff_ne.2 (by omega) | exact bne_iff_ne.2 (by omega) | exact bne_eq_false_iff_eq.2 (by omega)))
                      | ((with_reducible apply w_pk0 (v := .bool _)); exact rfl; exact rfl; (first | assumption | exact decide_eq_true (by assumption) | exact decide_eq_false (by assumption) | exact decide_eq_true (by omega) | exact decide_eq_false (by omega) | exact beq_iff_eq.2 (by omega) | exact beq_eq_false_iff_ne.2 (by omega) | exact bne_iff_ne.2 (by omega) | exact bne_eq_false_iff_eq.2 (by omega))))
                    | ((with_reducible apply g_assign); first
                      | ((with_reducible apply w_pure (v := .int _ _)); exact rfl; exact rfl)
                      | ((with_reducible apply w_pure (v := .bool _)); exact rfl; exact rfl))
                    | ((with_reducible apply w_pure (v := .bool _)); exact rfl; exact rfl))
                  | ((with_reducible apply g_gd); first
                    | ((with_reducible apply w_pass); exact rfl)
                    | ((with_reducible apply w_gd_t); exact rfl; all_goals (intro hc; first | (exfalso; omega) | skip)))
                  | with_reducible refine w_seq ?_
                  | with_reducible refine w_nil ?_
                  | with_reducible refine w_region ?_
                  | with_reducible refine w_skip ?_
                  | with_reducible refine w_blk ?_
                  | ((with_reducible apply w_no); exact rfl)
                  | ((with_reducible apply w_ifd); exact rfl; all_goals (intro hc; first | (exfalso; omega) | skip)))
                all_goals by_cases hq : x.fl % 2 = 1 ∧ e ≥ x.ad ∧ e < x.ad + x.me
                all_goals first | (exfalso; omega) | skip
                all_goals first | rw [decide_eq_true hq, Bool.or_true] at hgo | rw [decide_eq_false hq, Bool.or_false] at hgo
                all_goals first | exact ih (lo + 1, dy, lastS x, true) _ _ _ (by repeat' (first | with_reducible exact Fr.mix | with_reducible exact Fr.rfl' | with_reducible refine Fr.put ?_ ?_ | with_reducible refine Fr.mix2 ?_ ?_ | with_reducible refine Fr.put0 ?_ | exact rfl)) ⟨by push_cast; rfl, rfl, rfl, rfl, rfl, by simp (disch := omega) only [upd_ne]; exact hg, by omega, by dsimp only; omega, by dsimp only; omega, hgo⟩ | exact ih (lo + 1, dy, lastS x, et) _ _ _ (by repeat' (first | with_reducible exact Fr.mix | with_reducible exact Fr.rfl' | with_reducible refine Fr.put ?_ ?_ | with_reducible refine Fr.mix2 ?_ ?_ | with_reducible refine Fr.put0 ?_ | exact rfl)) ⟨by push_cast; rfl, rfl, rfl, rfl, rfl, by simp (disch := omega) only [upd_ne]; exact hg, by omega, by dsimp only; omega, by dsimp only; omega, hgo⟩
            · rw [if_neg hf] at hgo
              subst hgo
              repeat' (first
                | ((with_reducible apply g_op); first
                  | ((with_reducible apply g_load); first
                    | ((with_reducible apply w_load (v := .int _ _)); exact rfl; (first | assumption | (simp (disch := omega) only [upd_same, upd_ne]; first | done | assumption | exact rfl) | exact rfl); exact rfl)
                    | ((with_reducible apply w_load (v := .agg #[_, _, _, _, _, _, _])); exact rfl; (first | assumption | (simp (disch := omega) only [upd_same, upd_ne]; first | done | assumption | exact rfl) | exact rfl); exact rfl))
                  | ((with_reducible apply g_move); first
                    | ((with_reducible apply w_pure (v := .int _ _)); exact rfl; exact rfl)
                    | ((with_reducible apply w_pure (v := .bool _)); exact rfl; exact rfl))
                  | ((with_reducible apply g_bin); first
                    | ((with_reducible apply w_pure (v := .bool _)); exact rfl; exact rfl))
                  | ((with_reducible apply g_fld); first
                    | ((with_reducible apply w_fldp (o := 0)); exact rfl; exact rfl; exact rfl; exact (by decide)))
                  | ((with_reducible apply g_assign); first
                    | ((with_reducible apply w_pure (v := .bool _)); exact rfl; exact rfl))
                  | ((with_reducible apply w_pure (v := .bool _)); exact rfl; exact rfl))
                | ((with_reducible apply g_gd); first
                  | ((with_reducible apply w_gd_t); exact rfl; all_goals (intro hc; first | (exfalso; omega) | skip)))
                | with_reducible refine w_seq ?_
                | with_reducible refine w_nil ?_
                | with_reducible refine w_region ?_
                | with_reducible refine w_skip ?_
                | ((with_reducible apply w_no); exact rfl)
                | ((with_reducible apply w_ifd); exact rfl; all_goals (intro hc; first | (exfalso; omega) | skip)))
              refine w_rq (first_run x hok _ _ _) (fun _ => rfl) ?_
              rintro _ rfl
              repeat' (first
                | ((with_reducible apply g_op); first
                  | ((with_reducible apply g_move); first
                    | ((with_reducible apply w_pure (v := .int _ _)); exact rfl; exact rfl))
                  | ((with_reducible apply g_bin); first
                    | ((with_reducible apply w_pure (v := .bool _)); exact rfl; exact rfl))
                  | ((with_reducible apply g_pick); first
                    | ((with_reducible apply w_pk1 (v := .bool _)); exact rfl; exact rfl; (first | assumption | exact decide_eq_true (by assumption) | exact decide_eq_false (by assumption) | exact decide_eq_true (by omega) | exact decide_eq_false (by omega) | exact beq_iff_eq.2 (by omega) | exact beq_eq_false_iff_ne.2 (by omega) | exact bne_iff_ne.2 (by omega) | exact bne_eq_false_iff_eq.2 (by omega))))
                  | ((with_reducible apply g_assign); first
                    | ((with_reducible apply w_pure (v := .int _ _)); exact rfl; exact rfl)))
                | ((with_reducible apply g_gd); first
                  | ((with_reducible apply w_gd_t); exact rfl; all_goals (intro hc; first | (exfalso; omega) | skip)))
                | with_reducible refine w_seq ?_
                | with_reducible refine w_nil ?_
                | with_reducible refine w_region ?_
                | ((with_reducible apply w_ifd); exact rfl; all_goals (intro hc; first | (exfalso; omega) | skip))
                | ((with_reducible apply w_ret (v := .int _ _)); exact rfl))
              exact fr_plain rfl rfl
          · rw [if_neg ht1] at hgo
            by_cases ht2 : x.ty = 2
            · rw [if_pos ht2] at hgo
              repeat' (first
                | ((with_reducible apply g_op); first
                  | ((with_reducible apply g_load); first
                    | ((with_reducible apply w_load (v := .int _ _)); exact rfl; (first | assumption | (simp (disch := omega) only [upd_same, upd_ne]; first | done | assumption | exact rfl) | exact rfl); exact rfl))
                  | ((with_reducible apply g_move); first
                    | ((with_reducible apply w_pure (v := .int _ _)); exact rfl; exact rfl)
                    | ((with_reducible apply w_pure (v := .bool _)); exact rfl; exact rfl))
                  | ((with_reducible apply g_bin); first
                    | ((with_reducible apply w_wrap); exact rfl; exact rfl; first | exact i64_in _ (by omega) | exact u64_in _ (by omega) | exact u8_in _ (by omega))
                    | ((with_reducible apply w_pure (v := .bool _)); exact rfl; exact rfl))
                  | ((with_reducible apply g_fld); first
                    | ((with_reducible apply w_fldp (o := 0)); exact rfl; exact rfl; exact rfl; exact (by decide)))
                  | ((with_reducible apply g_assign); first
                    | ((with_reducible apply w_pure (v := .int _ _)); exact rfl; exact rfl)
                    | ((with_reducible apply w_pure (v := .bool _)); exact rfl; exact rfl))
                  | ((with_reducible apply w_pure (v := .bool _)); exact rfl; exact rfl))
                | with_reducible refine w_seq ?_
                | with_reducible refine w_nil ?_
                | with_reducible refine w_region ?_
                | with_reducible refine w_skip ?_
                | with_reducible refine w_block ?_
                | ((with_reducible apply w_no); exact rfl)
                | ((with_reducible apply w_ifd); exact rfl; all_goals (intro hc; first | (exfalso; omega) | skip)))
              refine w_rngK [(13, 15), (112, 160)] l (fun j rest2 (b : Bool) σ2 g3 n3 => σ2 14 = .int .i64 (j : Nat) ∧ σ2 13 = .bool b ∧ (b || rest2.any fun y => holdsS y x) = (l.any fun y => holdsS y x) ∧ g3 n = some (.cells 24 [.int .i64 2, .int .i64 e, rv tg l]) ∧ g3 n2 = some (.cells 43 x.c) ∧ n2 < n3) ?_ ?_ false ⟨rfl, rfl, by simp, by simp (disch := omega) only [upd_ne]; exact hg, by simp only [upd_same]; rfl, by omega⟩
              · rintro j y rest2 b σ2 g3 n3 hx2 hlt2 ⟨k14, k13, hr2, hg2, hx3, hn2⟩ ih2
                refine w_keep (i := 14) k14 (w_keep (i := 13) k13 ?_)
                unfold Sg.c at hx3
                cases b with
                | true =>
                  repeat' (first
                    | ((with_reducible apply g_op); first
                      | ((with_reducible apply g_load); first
                        | ((with_reducible apply w_fl (v := .agg #[_, _, _, _, _, _, _])); exact rfl; exact (fun _ => rfl); assumption; exact rfl)
                        | ((with_reducible apply w_load (v := .func _ _ _)); exact rfl; (first | assumption | (simp (disch := omega) only [upd_same, upd_ne]; first | done | assumption | exact rfl) | exact rfl); exact rfl))
                      | ((with_reducible apply g_move); first
                        | ((with_reducible apply w_pure (v := .int _ _)); exact rfl; exact rfl)
                        | ((with_reducible apply w_pure (v := .bool _)); exact rfl; exact rfl))
                      | ((with_reducible apply g_bin); first
                        | ((with_reducible apply w_wrap); exact rfl; exact rfl; first | exact i64_in _ (by omega) | exact u64_in _ (by omega) | exact u8_in _ (by omega))
                        | ((with_reducible apply w_pure (v := .bool _)); exact rfl; exact rfl))
                      | ((with_reducible apply g_fld); first
                        | ((with_reducible apply w_fldp (o := 2)); exact rfl; exact rfl; exact rfl; exact (by decide)))
                      | ((with_reducible apply g_assign); first
                        | ((with_reducible apply w_pure (v := .int _ _)); exact rfl; exact rfl)
                        | ((with_reducible apply w_pure (v := .bool _)); exact rfl; exact rfl))
                      | ((with_reducible apply g_store); first
                        | ((with_reducible apply w_store (us := [_, _, _, _, _, _, _]) (ws := [_, _, _, _, _, _, _])); exact rfl; exact rfl; (first | assumption | (simp (disch := omega) only [upd_same, upd_ne]; first | done | assumption | exact rfl) | exact rfl); omega; exact rfl; exact rfl; exact rfl))
                      | ((with_reducible apply g_ix); first
                        | ((with_reducible apply w_fx (sz := 7)); exact rfl; exact rfl; exact rfl; exact rfl; exact rfl; exact (fun _ => rfl); assumption; exact rfl))
                      | ((with_reducible apply w_alloc (ls := [_, _, _, _, _, _, _])); exact rfl; exact rfl)
                      | ((with_reducible apply w_pure (v := .bool _)); exact rfl; exact rfl))
                    | ((with_reducible apply g_gd); first
                      | ((with_reducible apply w_pass); exact rfl)
                      | ((with_reducible apply w_psn); exact rfl))
                    | with_reducible refine w_seq ?_
                    | with_reducible refine w_nil ?_
                    | with_reducible refine w_region ?_
                    | with_reducible refine w_skip ?_
                    | with_reducible refine w_block ?_
                    | with_reducible refine w_blk ?_
                    | ((with_reducible apply w_ifd); exact rfl; all_goals (intro hc; first | (exfalso; omega) | skip)))
                  exact ih2 true _ _ _ (by repeat' (first | with_reducible exact Fr.mix | with_reducible exact Fr.rfl' | with_reducible refine Fr.put ?_ ?_ | with_reducible refine Fr.mix2 ?_ ?_ | with_reducible refine Fr.put0 ?_ | exact rfl)) ⟨by push_cast; rfl, rfl, by rw [← hr2]; simp, by simp (disch := omega) only [upd_ne]; exact hg2, by simp (disch := omega) only [upd_ne]; exact hx3, by omega⟩
                | false =>
                  repeat' (first
                    | ((with_reducible apply g_op); first
                      | ((with_reducible apply g_load); first
                        | ((with_reducible apply w_fl (v := .agg #[_, _, _, _, _, _, _])); exact rfl; exact (fun _ => rfl); assumption; exact rfl)
                        | ((with_reducible apply w_load (v := .int _ _)); exact rfl; (first | assumption | (simp (disch := omega) only [upd_same, upd_ne]; first | done | assumption | exact rfl) | exact rfl); exact rfl)
                        | ((with_reducible apply w_load (v := .func _ _ _)); exact rfl; (first | assumption | (simp (disch := omega) only [upd_same, upd_ne]; first | done | assumption | exact rfl) | exact rfl); exact rfl))
                      | ((with_reducible apply g_move); first
                        | ((with_reducible apply w_pure (v := .int _ _)); exact rfl; exact rfl)
                        | ((with_reducible apply w_pure (v := .bool _)); exact rfl; exact rfl))
                      | ((with_reducible apply g_bin); first
                        | ((with_reducible apply w_wrap); exact rfl; exact rfl; first | exact i64_in _ (by omega) | exact u64_in _ (by omega) | exact u8_in _ (by omega))
                        | ((with_reducible apply w_pure (v := .bool _)); exact rfl; exact rfl)
                        | ((with_reducible apply w_pure (v := .int _ _)); exact rfl; exact rfl))
                      | ((with_reducible apply g_fld); first
                        | ((with_reducible apply w_fldp (o := 0)); exact rfl; exact rfl; exact rfl; exact (by decide))
                        | ((with_reducible apply w_fldp (o := 2)); exact rfl; exact rfl; exact rfl; exact (by decide))
                        | ((with_reducible apply w_fldp (o := 3)); exact rfl; exact rfl; exact rfl; exact (by decide))
                        | ((with_reducible apply w_fldp (o := 5)); exact rfl; exact rfl; exact rfl; exact (by decide)))
                      | ((with_reducible apply g_pick); first
                        | ((with_reducible apply w_pk1 (v := .bool _)); exact rfl; exact rfl; (first | assumption | exact decide_eq_true (by assumption) | exact decide_eq_false (by assumption) | exact decide_eq_true (by omega) | exact decide_eq_false (by omega) | exact beq_iff_eq.2 (by omega) | exact beq_eq_false_iff_ne.2 (by omega) | exact bne_iff_ne.2 (by omega) | exact bne_eq_false_iff_eq.2 (by omega)))
                        | ((with_reducible apply w_pk0 (v := .bool _)); exact rfl; exact rfl; (first | assumption | exact decide_eq_true (by assumption) | exact decide_eq_false (by assumption) | exact decide_eq_true (by omega) | exact decide_eq_false (by omega) | exact beq_iff_eq.2 (by omega) | exact beq_eq_false_iff_ne.2 (by omega) | exact bne_iff_ne.2 (by omega) | exact bne_eq_false_iff_eq.2 (by omega))))
                      | ((with_reducible apply g_assign); first
                        | ((with_reducible apply w_pure (v := .int _ _)); exact rfl; exact rfl)
                        | ((with_reducible apply w_pure (v := .bool _)); exact rfl; exact rfl))
                      | ((with_reducible apply g_store); first
                        | ((with_reducible apply w_store (us := [_, _, _, _, _, _, _]) (ws := [_, _, _, _, _, _, _])); exact rfl; exact rfl; (first | assumption | (simp (disch := omega) only [upd_same, upd_ne]; first | done | assumption | exact rfl) | exact rfl); omega; exact rfl; exact rfl; exact rfl))
                      | ((with_reducible apply g_ix); first
                        | ((with_reducible apply w_fx (sz := 7)); exact rfl; exact rfl; exact rfl; exact rfl; exact rfl; exact (fun _ => rfl); assumption; exact rfl))
                      | ((with_reducible apply w_alloc (ls := [_, _, _, _, _, _, _])); exact rfl; exact rfl)
                      | ((with_reducible apply w_pure (v := .bool _)); exact rfl; exact rfl))
                    | ((with_reducible apply g_gd); first
                      | ((with_reducible apply w_want); exact rfl)
                      | ((with_reducible apply w_pass); exact rfl)
                      | ((with_reducible apply w_gd_t); exact rfl; all_goals (intro hc; first | (exfalso; omega) | skip)))
                    | with_reducible refine w_seq ?_
                    | with_reducible refine w_nil ?_
                    | with_reducible refine w_region ?_
                    | with_reducible refine w_skip ?_
                    | with_reducible refine w_block ?_
                    | with_reducible refine w_blk ?_
                    | ((with_reducible apply w_ifd); exact rfl; all_goals (intro hc; first | (exfalso; omega) | skip)))
                  all_goals exact ih2 (holdsS y x) _ _ _ (by repeat' (first | with_reducible exact Fr.mix | with_reducible exact Fr.rfl' | with_reducible refine Fr.put ?_ ?_ | with_reducible refine Fr.mix2 ?_ ?_ | with_reducible refine Fr.put0 ?_ | exact rfl)) ⟨by push_cast; rfl, congrArg Value.bool (by unfold holdsS; ((try dsimp only); rw [Bool.eq_iff_iff]; simp only [decide_eq_true_eq, beq_iff_eq, bne_iff_ne, ne_eq, Bool.false_eq_true, eq_self, false_iff, true_iff]; omega)), by rw [← hr2, List.any_cons, Bool.false_or], by simp (disch := omega) only [upd_ne]; exact hg2, by simp (disch := omega) only [upd_ne]; exact hx3, by omega⟩
              · rintro b σ2 g3 n3 ⟨k14, k13, hr2, hg2, hx3, hn2⟩
                refine w_keep (i := 14) k14 (w_keep (i := 13) k13 ?_)
                rw [List.any_nil, Bool.or_false] at hr2
                rw [← hr2] at hgo
                cases b with
                | true =>
                  rw [if_pos rfl] at hgo
                  repeat' (first
                    | ((with_reducible apply g_op); first
                      | ((with_reducible apply g_move); first
                        | ((with_reducible apply w_pure (v := .int _ _)); exact rfl; exact rfl)
                        | ((with_reducible apply w_pure (v := .bool _)); exact rfl; exact rfl))
                      | ((with_reducible apply g_bin); first
                        | ((with_reducible apply w_wrap); exact rfl; exact rfl; first | exact i64_in _ (by omega) | exact u64_in _ (by omega) | exact u8_in _ (by omega))
                        | ((with_reducible apply w_pure (v := .bool _)); exact rfl; exact rfl))
                      | ((with_reducible apply g_assign); first
                        | ((with_reducible apply w_pure (v := .int _ _)); exact rfl; exact rfl))
                      | ((with_reducible apply w_pure (v := .bool _)); exact rfl; exact rfl))
                    | with_reducible refine w_seq ?_
                    | with_reducible refine w_nil ?_
                    | with_reducible refine w_region ?_
                    | with_reducible refine w_skip ?_
                    | with_reducible refine w_blk ?_
                    | ((with_reducible apply w_exit); exact rfl)
                    | ((with_reducible apply w_no); exact rfl)
                    | ((with_reducible apply w_ifd); exact rfl; all_goals (intro hc; first | (exfalso; omega) | skip)))
                  exact ih (lo, dy + 1, en, et) _ _ _ (by repeat' (first | with_reducible exact Fr.mix | with_reducible exact Fr.rfl' | with_reducible refine Fr.put ?_ ?_ | with_reducible refine Fr.mix2 ?_ ?_ | with_reducible refine Fr.put0 ?_ | exact rfl)) ⟨by push_cast; rfl, rfl, rfl, rfl, rfl, hg2, by omega, by dsimp only; omega, by dsimp only; omega, hgo⟩
                | false =>
                  rw [if_neg (by simp)] at hgo
                  subst hgo
                  repeat' (first
                    | ((with_reducible apply g_op); first
                      | ((with_reducible apply g_move); first
                        | ((with_reducible apply w_pure (v := .int _ _)); exact rfl; exact rfl)
                        | ((with_reducible apply w_pure (v := .bool _)); exact rfl; exact rfl))
                      | ((with_reducible apply g_bin); first
                        | ((with_reducible apply w_pure (v := .bool _)); exact rfl; exact rfl))
                      | ((with_reducible apply g_assign); first
                        | ((with_reducible apply w_pure (v := .int _ _)); exact rfl; exact rfl))
                      | ((with_reducible apply w_pure (v := .bool _)); exact rfl; exact rfl))
                    | with_reducible refine w_seq ?_
                    | with_reducible refine w_nil ?_
                    | with_reducible refine w_region ?_
                    | ((with_reducible apply w_exit); exact rfl)
                    | ((with_reducible apply w_yes); exact rfl)
                    | ((with_reducible apply w_ifd); exact rfl; all_goals (intro hc; first | (exfalso; omega) | skip))
                    | ((with_reducible apply w_ret (v := .int _ _)); exact rfl))
                  exact fr_plain rfl rfl
            · rw [if_neg ht2] at hgo
              repeat' (first
                | ((with_reducible apply g_op); first
                  | ((with_reducible apply g_load); first
                    | ((with_reducible apply w_load (v := .int _ _)); exact rfl; (first | assumption | (simp (disch := omega) only [upd_same, upd_ne]; first | done | assumption | exact rfl) | exact rfl); exact rfl))
                  | ((with_reducible apply g_move); first
                    | ((with_reducible apply w_pure (v := .int _ _)); exact rfl; exact rfl)
                    | ((with_reducible apply w_pure (v := .bool _)); exact rfl; exact rfl))
                  | ((with_reducible apply g_bin); first
                    | ((with_reducible apply w_wrap); exact rfl; exact rfl; first | exact i64_in _ (by omega) | exact u64_in _ (by omega) | exact u8_in _ (by omega))
                    | ((with_reducible apply w_pure (v := .bool _)); exact rfl; exact rfl))
                  | ((with_reducible apply g_fld); first
                    | ((with_reducible apply w_fldp (o := 0)); exact rfl; exact rfl; exact rfl; exact (by decide)))
                  | ((with_reducible apply g_assign); first
                    | ((with_reducible apply w_pure (v := .int _ _)); exact rfl; exact rfl)
                    | ((with_reducible apply w_pure (v := .bool _)); exact rfl; exact rfl))
                  | ((with_reducible apply w_pure (v := .bool _)); exact rfl; exact rfl))
                | with_reducible refine w_seq ?_
                | with_reducible refine w_nil ?_
                | with_reducible refine w_region ?_
                | with_reducible refine w_skip ?_
                | with_reducible refine w_blk ?_
                | ((with_reducible apply w_no); exact rfl)
                | ((with_reducible apply w_ifd); exact rfl; all_goals (intro hc; first | (exfalso; omega) | skip)))
              exact ih (lo, dy, en, et) _ _ _ (by repeat' (first | with_reducible exact Fr.mix | with_reducible exact Fr.rfl' | with_reducible refine Fr.put ?_ ?_ | with_reducible refine Fr.mix2 ?_ ?_ | with_reducible refine Fr.put0 ?_ | exact rfl)) ⟨by push_cast; rfl, rfl, rfl, rfl, rfl, by simp (disch := omega) only [upd_ne]; exact hg, by omega, by dsimp only; omega, by dsimp only; omega, hgo⟩
      · rintro ⟨lo, dy, en, et⟩ σ g2 n2 ⟨k10, k6, k7, k8, k9, hg, hn, hb, hz, hgo⟩
        dsimp only at k6 k7 k8 k9 hb hz hgo
        refine w_keep (i := 10) k10 (w_keep (i := 6) k6 (w_keep (i := 7) k7 (w_keep (i := 8) k8 (w_keep (i := 9) k9 ?_))))
        subst hgo
        cases et
        · repeat' (first
            | ((with_reducible apply g_op); first
              | ((with_reducible apply g_move); first
                | ((with_reducible apply w_pure (v := .int _ _)); exact rfl; exact rfl)
                | ((with_reducible apply w_pure (v := .bool _)); exact rfl; exact rfl))
              | ((with_reducible apply g_bin); first
                | ((with_reducible apply w_pure (v := .bool _)); exact rfl; exact rfl))
              | ((with_reducible apply g_pick); first
                | ((with_reducible apply w_pk1 (v := .bool _)); exact rfl; exact rfl; (first | assumption | exact decide_eq_true (by assumption) | exact decide_eq_false (by assumption) | exact decide_eq_true (by omega) | exact decide_eq_false (by omega) | exact beq_iff_eq.2 (by omega) | exact beq_eq_false_iff_ne.2 (by omega) | exact bne_iff_ne.2 (by omega) | exact bne_eq_false_iff_eq.2 (by omega)))
                | ((with_reducible apply w_pk0 (v := .bool _)); exact rfl; exact rfl; (first | assumption | exact decide_eq_true (by assumption) | exact decide_eq_false (by assumption) | exact decide_eq_true (by omega) | exact decide_eq_false (by omega) | exact beq_iff_eq.2 (by omega) | exact beq_eq_false_iff_ne.2 (by omega) | exact bne_iff_ne.2 (by omega) | exact bne_eq_false_iff_eq.2 (by omega))))
              | ((with_reducible apply g_assign); first
                | ((with_reducible apply w_pure (v := .int _ _)); exact rfl; exact rfl))
              | ((with_reducible apply w_pure (v := .bool _)); exact rfl; exact rfl))
            | ((with_reducible apply g_gd); first
              | ((with_reducible apply w_pass); exact rfl)
              | ((with_reducible apply w_gd_f); exact rfl; all_goals (intro hc; first | (exfalso; omega) | skip)))
            | with_reducible refine w_seq ?_
            | with_reducible refine w_nil ?_
            | with_reducible refine w_region ?_
            | ((with_reducible apply w_exit); exact rfl)
            | ((with_reducible apply w_yes); exact rfl)
            | ((with_reducible apply w_ifd); exact rfl; all_goals (intro hc; first | (exfalso; omega) | skip))
            | ((with_reducible apply w_ret (v := .int _ _)); exact rfl))
          all_goals refine fr_plain rfl ?_
          all_goals by_cases q1 : lo = 0
          all_goals by_cases q2 : dy ≤ 1
          all_goals first | (exfalso; omega) | simp [q1, q2, errV, endS, chk]
        · repeat' (first
            | ((with_reducible apply g_op); first
              | ((with_reducible apply g_move); first
                | ((with_reducible apply w_pure (v := .int _ _)); exact rfl; exact rfl)
                | ((with_reducible apply w_pure (v := .bool _)); exact rfl; exact rfl))
              | ((with_reducible apply g_bin); first
                | ((with_reducible apply w_pure (v := .bool _)); exact rfl; exact rfl))
              | ((with_reducible apply g_pick); first
                | ((with_reducible apply w_pk1 (v := .bool _)); exact rfl; exact rfl; (first | assumption | exact decide_eq_true (by assumption) | exact decide_eq_false (by assumption) | exact decide_eq_true (by omega) | exact decide_eq_false (by omega) | exact beq_iff_eq.2 (by omega) | exact beq_eq_false_iff_ne.2 (by omega) | exact bne_iff_ne.2 (by omega) | exact bne_eq_false_iff_eq.2 (by omega)))
                | ((with_reducible apply w_pk0 (v := .bool _)); exact rfl; exact rfl; (first | assumption | exact decide_eq_true (by assumption) | exact decide_eq_false (by assumption) | exact decide_eq_true (by omega) | exact decide_eq_false (by omega) | exact beq_iff_eq.2 (by omega) | exact beq_eq_false_iff_ne.2 (by omega) | exact bne_iff_ne.2 (by omega) | exact bne_eq_false_iff_eq.2 (by omega))))
              | ((with_reducible apply g_assign); first
                | ((with_reducible apply w_pure (v := .int _ _)); exact rfl; exact rfl))
              | ((with_reducible apply w_pure (v := .bool _)); exact rfl; exact rfl))
            | ((with_reducible apply g_gd); first
              | ((with_reducible apply w_pass); exact rfl)
              | ((with_reducible apply w_gd_f); exact rfl; all_goals (intro hc; first | (exfalso; omega) | skip)))
            | with_reducible refine w_seq ?_
            | with_reducible refine w_nil ?_
            | with_reducible refine w_region ?_
            | with_reducible refine w_skip ?_
            | ((with_reducible apply w_exit); exact rfl)
            | ((with_reducible apply w_yes); exact rfl)
            | ((with_reducible apply w_no); exact rfl)
            | ((with_reducible apply w_ifd); exact rfl; all_goals (intro hc; first | (exfalso; omega) | skip))
            | ((with_reducible apply w_ret (v := .int _ _)); exact rfl))
          all_goals refine fr_plain rfl ?_
          all_goals by_cases q1 : lo = 0
          all_goals by_cases q2 : dy ≤ 1
          all_goals first | (exfalso; omega) | simp [q1, q2, errV, endS, chk]
    · obtain ⟨R, hR⟩ : ∃ R, chk l z e l 0 0 0 (decide (e = 0)) = R := ⟨_, rfl⟩
      rw [show decide ((3 : Int) = 3 ∧ e = 0) = decide (e = 0) by simp, hR]
      repeat' (first
        | ((with_reducible apply g_op); first
          | ((with_reducible apply g_load); first
            | ((with_reducible apply w_load (v := .int _ _)); exact rfl; (first | assumption | (simp (disch := omega) only [upd_same, upd_ne]; first | done | assumption | exact rfl) | exact rfl); exact rfl)
            | ((with_reducible apply w_load (v := .func _ _ _)); exact rfl; (first | assumption | (simp (disch := omega) only [upd_same, upd_ne]; first | done | assumption | exact rfl) | exact rfl); exact rfl))
          | ((with_reducible apply g_move); first
            | ((with_reducible apply w_pure (v := .int _ _)); exact rfl; exact rfl)
            | ((with_reducible apply w_pure (v := .bool _)); exact rfl; exact rfl))
          | ((with_reducible apply g_bin); first
            | ((with_reducible apply w_wrap); exact rfl; exact rfl; first | exact i64_in _ (by omega) | exact u64_in _ (by omega) | exact u8_in _ (by omega))
            | ((with_reducible apply w_pure (v := .bool _)); exact rfl; exact rfl))
          | ((with_reducible apply g_fld); first
            | ((with_reducible apply w_fldp (o := 0)); exact rfl; exact rfl; exact rfl; exact (by decide))
            | ((with_reducible apply w_fldp (o := 1)); exact rfl; exact rfl; exact rfl; exact (by decide))
            | ((with_reducible apply w_fldp (o := 2)); exact rfl; exact rfl; exact rfl; exact (by decide)))
          | ((with_reducible apply g_pick); first
            | ((with_reducible apply w_pk1 (v := .bool _)); exact rfl; exact rfl; (first | assumption | exact decide_eq_true (by assumption) | exact decide_eq_false (by assumption) | exact decide_eq_true (by omega) | exact decide_eq_false (by omega) | exact beq_iff_eq.2 (by omega) | exact beq_eq_false_iff_ne.2 (by omega) | exact bne_iff_ne.2 (by omega) | exact bne_eq_false_iff_eq.2 (by omega)))
            | ((with_reducible apply w_pk0 (v := .bool _)); exact rfl; exact rfl; (first | assumption | exact decide_eq_true (by assumption) | exact decide_eq_false (by assumption) | exact decide_eq_true (by omega) | exact decide_eq_false (by omega) | exact beq_iff_eq.2 (by omega) | exact beq_eq_false_iff_ne.2 (by omega) | exact bne_iff_ne.2 (by omega) | exact bne_eq_false_iff_eq.2 (by omega))))
          | ((with_reducible apply g_assign); first
            | ((with_reducible apply w_pure (v := .int _ _)); exact rfl; exact rfl))
          | ((with_reducible apply g_call); first
            | ((with_reducible apply w_call (v := .int _ _)); exact rfl))
          | ((with_reducible apply g_box); first
            | ((with_reducible apply w_box (vs := [_, _, _])); exact rfl; exact rfl)))
        | ((with_reducible apply g_gd); first
          | ((with_reducible apply w_want); exact rfl)
          | ((with_reducible apply w_gd_f); exact rfl; all_goals (intro hc; first | (exfalso; omega) | skip)))
        | with_reducible refine w_seq ?_
        | with_reducible refine w_nil ?_
        | with_reducible refine w_region ?_)
      refine w_rq (in_run e _ _ _) (fun _ => rfl) ?_
      rintro _ rfl
      rw [decide_eq_true (by omega)]
      repeat' (first
        | ((with_reducible apply g_op); first
          | ((with_reducible apply g_load); first
            | ((with_reducible apply w_load (v := .int _ _)); exact rfl; (first | assumption | (simp (disch := omega) only [upd_same, upd_ne]; first | done | assumption | exact rfl) | exact rfl); exact rfl))
          | ((with_reducible apply g_move); first
            | ((with_reducible apply w_pure (v := .bool _)); exact rfl; exact rfl))
          | ((with_reducible apply g_bin); first
            | ((with_reducible apply w_pure (v := .bool _)); exact rfl; exact rfl))
          | ((with_reducible apply g_fld); first
            | ((with_reducible apply w_fldp (o := 0)); exact rfl; exact rfl; exact rfl; exact (by decide))
            | ((with_reducible apply w_fldp (o := 1)); exact rfl; exact rfl; exact rfl; exact (by decide)))
          | ((with_reducible apply g_pick); first
            | ((with_reducible apply w_pk1 (v := .bool _)); exact rfl; exact rfl; (first | assumption | exact decide_eq_true (by assumption) | exact decide_eq_false (by assumption) | exact decide_eq_true (by omega) | exact decide_eq_false (by omega) | exact beq_iff_eq.2 (by omega) | exact beq_eq_false_iff_ne.2 (by omega) | exact bne_iff_ne.2 (by omega) | exact bne_eq_false_iff_eq.2 (by omega)))
            | ((with_reducible apply w_pk0 (v := .bool _)); exact rfl; exact rfl; (first | assumption | exact decide_eq_true (by assumption) | exact decide_eq_false (by assumption) | exact decide_eq_true (by omega) | exact decide_eq_false (by omega) | exact beq_iff_eq.2 (by omega) | exact beq_eq_false_iff_ne.2 (by omega) | exact bne_iff_ne.2 (by omega) | exact bne_eq_false_iff_eq.2 (by omega))))
          | ((with_reducible apply g_assign); first
            | ((with_reducible apply w_pure (v := .int _ _)); exact rfl; exact rfl)
            | ((with_reducible apply w_pure (v := .bool _)); exact rfl; exact rfl))
          | ((with_reducible apply w_pure (v := .bool _)); exact rfl; exact rfl))
        | ((with_reducible apply g_gd); first
          | ((with_reducible apply w_want); exact rfl)
          | ((with_reducible apply w_gd_f); exact rfl; all_goals (intro hc; first | (exfalso; omega) | skip)))
        | with_reducible refine w_seq ?_
        | with_reducible refine w_nil ?_
        | with_reducible refine w_region ?_
        | with_reducible refine w_skip ?_
        | with_reducible refine w_block ?_
        | ((with_reducible apply w_no); exact rfl))
      refine w_rngK [(4, 4), (6, 15), (56, 162)] l (fun i rest (b : Int × Int × Int × Bool) σ g' n' => σ 10 = .int .i64 (i : Nat) ∧ σ 6 = .int .i64 b.1 ∧ σ 7 = .int .i64 b.2.1 ∧ σ 8 = .int .i64 b.2.2.1 ∧ σ 9 = .bool b.2.2.2 ∧ g' n = some (.cells 24 [.int .i64 3, .int .i64 e, rv tg l]) ∧ n < n' ∧ (0 ≤ b.1 ∧ b.1 ≤ i ∧ 0 ≤ b.2.1 ∧ b.2.1 ≤ i) ∧ (b.1 = 0 → b.2.2.1 = 0) ∧ chk l z e rest b.1 b.2.1 b.2.2.1 b.2.2.2 = R) ?_ ?_ (0, 0, 0, decide (e = 0)) ⟨rfl, rfl, rfl, rfl, rfl, upd_same, by omega, by simp, by simp, hR⟩
      · rintro i x rest ⟨lo, dy, en, et⟩ σ g2 n2 hx hlt ⟨k10, k6, k7, k8, k9, hg, hn, hb, hz, hgo⟩ ih
        dsimp only at k6 k7 k8 k9 hb hz hgo
        refine w_keep (i := 10) k10 (w_keep (i := 6) k6 (w_keep (i := 7) k7 (w_keep (i := 8) k8 (w_keep (i := 9) k9 ?_))))
        repeat' (first
          | ((with_reducible apply g_op); first
            | ((with_reducible apply g_load); first
              | ((with_reducible apply w_fl (v := .agg #[_, _, _, _, _, _, _])); exact rfl; exact (fun _ => rfl); assumption; exact rfl)
              | ((with_reducible apply w_load (v := .func _ _ _)); exact rfl; (first | assumption | (simp (disch := omega) only [upd_same, upd_ne]; first | done | assumption | exact rfl) | exact rfl); exact rfl)
              | ((with_reducible apply w_load (v := .agg #[_, _, _, _, _, _, _])); exact rfl; (first | assumption | (simp (disch := omega) only [upd_same, upd_ne]; first | done | assumption | exact rfl) | exact rfl); exact rfl))
            | ((with_reducible apply g_move); first
              | ((with_reducible apply w_pure (v := .int _ _)); exact rfl; exact rfl))
            | ((with_reducible apply g_bin); first
              | ((with_reducible apply w_pure (v := .bool _)); exact rfl; exact rfl))
            | ((with_reducible apply g_fld); first
              | ((with_reducible apply w_fldp (o := 2)); exact rfl; exact rfl; exact rfl; exact (by decide)))
            | ((with_reducible apply g_store); first
              | ((with_reducible apply w_store (us := [_, _, _, _, _, _, _]) (ws := [_, _, _, _, _, _, _])); exact rfl; exact rfl; (first | assumption | (simp (disch := omega) only [upd_same, upd_ne]; first | done | assumption | exact rfl) | exact rfl); omega; exact rfl; exact rfl; exact rfl))
            | ((with_reducible apply g_ix); first
              | ((with_reducible apply w_fx (sz := 7)); exact rfl; exact rfl; exact rfl; exact rfl; exact rfl; exact (fun _ => rfl); assumption; exact rfl))
            | ((with_reducible apply w_alloc (ls := [_, _, _, _, _, _, _])); exact rfl; exact rfl))
          | with_reducible refine w_seq ?_
          | with_reducible refine w_nil ?_
          | with_reducible refine w_region ?_
          | with_reducible refine w_skip ?_
          | with_reducible refine w_block ?_
          | ((with_reducible apply w_ifd); exact rfl; all_goals (intro hc; first | (exfalso; omega) | skip)))
        refine w_rq (rseg_run x z _ _ _) (fun _ => rfl) ?_
        rintro _ rfl
        simp only [chk] at hgo
        cases hs : segS x z with
        | false =>
          rw [hs, if_neg (by simp)] at hgo
          subst hgo
          repeat' (first
            | ((with_reducible apply g_op); first
              | ((with_reducible apply g_move); first
                | ((with_reducible apply w_pure (v := .bool _)); exact rfl; exact rfl))
              | ((with_reducible apply g_assign); first
                | ((with_reducible apply w_pure (v := .int _ _)); exact rfl; exact rfl)
                | ((with_reducible apply w_pure (v := .bool _)); exact rfl; exact rfl))
              | ((with_reducible apply w_pure (v := .bool _)); exact rfl; exact rfl))
            | with_reducible refine w_seq ?_
            | with_reducible refine w_nil ?_
            | with_reducible refine w_region ?_
            | ((with_reducible apply w_yes); exact rfl)
            | ((with_reducible apply w_ret (v := .int _ _)); exact rfl))
          exact fr_plain rfl rfl
        | true =>
          rw [if_pos hs] at hgo
          have hok := seg_ok hs
          have hf0 : firstS x ≥ 0 := by have := hok.2.2.2.1; unfold firstS; omega
          by_cases ht1 : x.ty = 1
          · rw [if_pos ht1] at hgo
            by_cases hf : firstS x ≥ en
            · rw [if_pos hf] at hgo
              have hbs : (et || beginsS x e) = (et || decide (x.fl % 2 = 1 ∧ e ≥ x.ad ∧ e < x.ad + x.me)) := by unfold beginsS; simp [ht1]
              rw [hbs] at hgo
              by_cases hl0 : lo > 0
              · repeat' (first
                  | ((with_reducible apply g_op); first
                    | ((with_reducible apply g_load); first
                      | ((with_reducible apply w_load (v := .int _ _)); exact rfl; (first | assumption | (simp (disch := omega) only [upd_same, upd_ne]; first | done | assumption | exact rfl) | exact rfl); exact rfl)
                      | ((with_reducible apply w_load (v := .agg #[_, _, _, _, _, _, _])); exact rfl; (first | assumption | (simp (disch := omega) only [upd_same, upd_ne]; first | done | assumption | exact rfl) | exact rfl); exact rfl))
                    | ((with_reducible apply g_move); first
                      | ((with_reducible apply w_pure (v := .int _ _)); exact rfl; exact rfl)
                      | ((with_reducible apply w_pure (v := .bool _)); exact rfl; exact rfl))
                    | ((with_reducible apply g_bin); first
                      | ((with_reducible apply w_pure (v := .bool _)); exact rfl; exact rfl))
                    | ((with_reducible apply g_fld); first
                      | ((with_reducible apply w_fldp (o := 0)); exact rfl; exact rfl; exact rfl; exact (by decide)))
                    | ((with_reducible apply g_assign); first
                      | ((with_reducible apply w_pure (v := .bool _)); exact rfl; exact rfl))
                    | ((with_reducible apply w_pure (v := .bool _)); exact rfl; exact rfl))
                  | ((with_reducible apply g_gd); first
                    | ((with_reducible apply w_gd_t); exact rfl; all_goals (intro hc; first | (exfalso; omega) | skip)))
                  | with_reducible refine w_seq ?_
                  | with_reducible refine w_nil ?_
                  | with_reducible refine w_region ?_
                  | with_reducible refine w_skip ?_
                  | ((with_reducible apply w_no); exact rfl)
                  | ((with_reducible apply w_ifd); exact rfl; all_goals (intro hc; first | (exfalso; omega) | skip)))
                refine w_rq (first_run x hok _ _ _) (fun _ => rfl) ?_
                rintro _ rfl
                repeat' (first
                  | ((with_reducible apply g_op); first
                    | ((with_reducible apply g_load); first
                      | ((with_reducible apply w_load (v := .agg #[_, _, _, _, _, _, _])); exact rfl; (first | assumption | (simp (disch := omega) only [upd_same, upd_ne]; first | done | assumption | exact rfl) | exact rfl); exact rfl))
                    | ((with_reducible apply g_move); first
                      | ((with_reducible apply w_pure (v := .int _ _)); exact rfl; exact rfl))
                    | ((with_reducible apply g_bin); first
                      | ((with_reducible apply w_wrap); exact rfl; exact rfl; first | exact i64_in _ (by omega) | exact u64_in _ (by omega) | exact u8_in _ (by omega))
                      | ((with_reducible apply w_pure (v := .bool _)); exact rfl; exact rfl))
                    | ((with_reducible apply g_pick); first
                      | ((with_reducible apply w_pk1 (v := .bool _)); exact rfl; exact rfl; (first | assumption | exact decide_eq_true (by assumption) | exact decide_eq_false (by assumption) | exact decide_eq_true (by omega) | exact decide_eq_false (by omega) | exact beq_iff_eq.2 (by omega) | exact beq_eq_false_iff_ne.2 (by omega) | exact bne_iff_ne.2 (by omega) | exact bne_eq_false_iff_eq.2 (by omega))))
                    | ((with_reducible apply g_assign); first
                      | ((with_reducible apply w_pure (v := .int _ _)); exact rfl; exact rfl)))
                  | ((with_reducible apply g_gd); first
                    | ((with_reducible apply w_gd_t); exact rfl; all_goals (intro hc; first | (exfalso; omega) | skip)))
                  | with_reducible refine w_seq ?_
                  | with_reducible refine w_nil ?_
                  | with_reducible refine w_region ?_
                  | with_reducible refine w_skip ?_
                  | ((with_reducible apply w_ifd); exact rfl; all_goals (intro hc; first | (exfalso; omega) | skip)))
                refine w_rq (last_run x hok _ _ _) (fun _ => rfl) ?_
                rintro _ rfl
                have hok2 := hok
                unfold Sg.ok at hok2
                repeat' (first
                  | ((with_reducible apply g_op); first
                    | ((with_reducible apply g_load); first
                      | ((with_reducible apply w_load (v := .int _ _)); exact rfl; (first | assumption | (simp (disch := omega) only [upd_same, upd_ne]; first | done | assumption | exact rfl) | exact rfl); exact rfl))
                    | ((with_reducible apply g_move); first
                      | ((with_reducible apply w_pure (v := .int _ _)); exact rfl; exact rfl)
                      | ((with_reducible apply w_pure (v := .bool _)); exact rfl; exact rfl))
                    | ((with_reducible apply g_bin); first
                      | ((with_reducible apply w_mod); exact rfl; exact rfl; exact rfl; exact rfl; exact rfl; omega; omega)
                      | ((with_reducible apply w_wrap); exact rfl; exact rfl; first | exact i64_in _ (by omega) | exact u64_in _ (by omega) | exact u8_in _ (by omega))
                      | ((with_reducible apply w_pure (v := .bool _)); exact rfl; exact rfl))
                    | ((with_reducible apply g_fld); first
                      | ((with_reducible apply w_fldp (o := 0)); exact rfl; exact rfl; exact rfl; exact (by decide))
                      | ((with_reducible apply w_fldp (o := 1)); exact rfl; exact rfl; exact rfl; exact (by decide))
                      | ((with_reducible apply w_fldp (o := 3)); exact rfl; exact rfl; exact rfl; exact (by decide))
                      | ((with_reducible apply w_fldp (o := 5)); exact rfl; exact rfl; exact rfl; exact (by decide)))
                    | ((with_reducible apply g_pick); first
                      | ((with_reducible apply w_pk1 (v := .bool _)); exact rfl; exact rfl; (first | assumption | exact decide_eq_true (by assumption) | exact decide_eq_false (by assumption) | exact decide_eq_true (by omega) | exact decide_eq_false (by omega) | exact beq_iff_eq.2 (by omega) | exact beq_eq_false_iff_ne.2 (by omega) | exact bne_iff_ne.2 (by omega) | exact bne_eq_false_iff_eq.2 (by omega)))
                      | ((with_reducible apply w_pk0 (v := .bool _)); exact rfl; exact rfl; (first | assumption | exact decide_eq_true (by assumption) | exact decide_eq_false (by assumption) | exact decide_eq_true (by omega) | exact decide_eq_false (by omega) | exact beq_iff_eq.2 (by omega) | exact beq_eq_false_iff_ne.2 (by omega) | exact bne_iff_ne.2 (by omega) | exact bne_eq_false_iff_eq.2 (by omega))))
                    | ((with_reducible apply g_assign); first
                      | ((with_reducible apply w_pure (v := .int _ _)); exact rfl; exact rfl)
                      | ((with_reducible apply w_pure (v := .bool _)); exact rfl; exact rfl))
                    | ((with_reducible apply w_pure (v := .bool _)); exact rfl; exact rfl))
                  | ((with_reducible apply g_gd); first
                    | ((with_reducible apply w_pass); exact rfl)
                    | ((with_reducible apply w_gd_t); exact rfl; all_goals (intro hc; first | (exfalso; omega) | skip)))
                  | with_reducible refine w_seq ?_
                  | with_reducible refine w_nil ?_
                  | with_reducible refine w_region ?_
                  | with_reducible refine w_skip ?_
                  | with_reducible refine w_blk ?_
                  | ((with_reducible apply w_no); exact rfl)
                  | ((with_reducible apply w_ifd); exact rfl; all_goals (intro hc; first | (exfalso; omega) | skip)))
                all_goals by_cases hq : x.fl % 2 = 1 ∧ e ≥ x.ad ∧ e < x.ad + x.me
                all_goals first | (exfalso; omega) | skip
                all_goals first | rw [decide_eq_true hq, Bool.or_true] at hgo | rw [decide_eq_false hq, Bool.or_false] at hgo
                all_goals first | exact ih (lo + 1, dy, lastS x, true) _ _ _ (by repeat' (first | with_reducible exact Fr.mix | with_reducible exact Fr.rfl' | with_reducible refine Fr.put ?_ ?_ | with_reducible refine Fr.mix2 ?_ ?_ | with_reducible refine Fr.put0 ?_ | exact rfl)) ⟨by push_cast; rfl, rfl, rfl, rfl, rfl, by simp (disch := omega) only [upd_ne]; exact hg, by omega, by dsimp only; omega, by dsimp only; omega, hgo⟩ | exact ih (lo + 1, dy, lastS x, et) _ _ _ (by repeat' (first | with_reducible exact Fr.mix | with_reducible exact Fr.rfl' | with_reducible refine Fr.put ?_ ?_ | with_reducible refine Fr.mix2 ?_ ?_ | with_reducible refine Fr.put0 ?_ | exact rfl)) ⟨by push_cast; rfl, rfl, rfl, rfl, rfl, by simp (disch := omega) only [upd_ne]; exact hg, by omega, by dsimp only; omega, by dsimp only; omega, hgo⟩
              · repeat' (first
                  | ((with_reducible apply g_op); first
                    | ((with_reducible apply g_load); first
                      | ((with_reducible apply w_load (v := .int _ _)); exact rfl; (first | assumption | (simp (disch := omega) only [upd_same, upd_ne]; first | done | assumption | exact rfl) | exact rfl); exact rfl)
                      | ((with_reducible apply w_load (v := .agg #[_, _, _, _, _, _, _])); exact rfl; (first | assumption | (simp (disch := omega) only [upd_same, upd_ne]; first | done | assumption | exact rfl) | exact rfl); exact rfl))
                    | ((with_reducible apply g_move); first
                      | ((with_reducible apply w_pure (v := .int _ _)); exact rfl; exact rfl)
                      | ((with_reducible apply w_pure (v := .bool _)); exact rfl; exact rfl))
                    | ((with_reducible apply g_bin); first
                      | ((with_reducible apply w_wrap); exact rfl; exact rfl; first | exact i64_in _ (by omega) | exact u64_in _ (by omega) | exact u8_in _ (by omega))
                      | ((with_reducible apply w_pure (v := .bool _)); exact rfl; exact rfl))
                    | ((with_reducible apply g_fld); first
                      | ((with_reducible apply w_fldp (o := 0)); exact rfl; exact rfl; exact rfl; exact (by decide)))
                    | ((with_reducible apply g_pick); first
                      | ((with_reducible apply w_pk0 (v := .bool _)); exact rfl; exact rfl; (first | assumption | exact decide_eq_true (by assumption) | exact decide_eq_false (by assumption) | exact decide_eq_true (by omega) | exact decide_eq_false (by omega) | exact beq_iff_eq.2 (by omega) | exact beq_eq_false_iff_ne.2 (by omega) | exact bne_iff_ne.2 (by omega) | exact bne_eq_false_iff_eq.2 (by omega))))
                    | ((with_reducible apply g_assign); first
                      | ((with_reducible apply w_pure (v := .int _ _)); exact rfl; exact rfl)
                      | ((with_reducible apply w_pure (v := .bool _)); exact rfl; exact rfl))
                    | ((with_reducible apply w_pure (v := .bool _)); exact rfl; exact rfl))
                  | ((with_reducible apply g_gd); first
                    | ((with_reducible apply w_gd_t); exact rfl; all_goals (intro hc; first | (exfalso; omega) | skip)))
                  | with_reducible refine w_seq ?_
                  | with_reducible refine w_nil ?_
                  | with_reducible refine w_region ?_
                  | with_reducible refine w_skip ?_
                  | ((with_reducible apply w_no); exact rfl)
                  | ((with_reducible apply w_ifd); exact rfl; all_goals (intro hc; first | (exfalso; omega) | skip)))
                refine w_rq (last_run x hok _ _ _) (fun _ => rfl) ?_
                rintro _ rfl
                have hok2 := hok
                unfold Sg.ok at hok2
                repeat' (first
                  | ((with_reducible apply g_op); first
                    | ((with_reducible apply g_load); first
                      | ((with_reducible apply w_load (v := .int _ _)); exact rfl; (first | assumption | (simp (disch := omega) only [upd_same, upd_ne]; first | done | assumption | exact rfl) | exact rfl); exact rfl))
                    | ((with_reducible apply g_move); first
                      | ((with_reducible apply w_pure (v := .int _ _)); exact rfl; exact rfl)
                      | ((with_reducible apply w_pure (v := .bool _)); exact rfl; exact rfl))
                    | ((with_reducible apply g_bin); first
                      | ((with_reducible apply w_mod); exact rfl; exact rfl; exact rfl; exact rfl; exact rfl; omega; omega)
                      | ((with_reducible apply w_wrap); exact rfl; exact rfl; first | exact i64_in _ (by omega) | exact u64_in _ (by omega) | exact u8_in _ (by omega))
                      | ((with_reducible apply w_pure (v := .bool _)); exact rfl; exact rfl))
                    | ((with_reducible apply g_fld); first
                      | ((with_reducible apply w_fldp (o := 0)); exact rfl; exact rfl; exact rfl; exact (by decide))
                      | ((with_reducible apply w_fldp (o := 1)); exact rfl; exact rfl; exact rfl; exact (by decide))
                      | ((with_reducible apply w_fldp (o := 3)); exact rfl; exact rfl; exact rfl; exact (by decide))
                      | ((with_reducible apply w_fldp (o := 5)); exact rfl; exact rfl; exact rfl; exact (by decide)))
                    | ((with_reducible apply g_pick); first
                      | ((with_reducible apply w_pk1 (v := .bool _)); exact rfl; exact rfl; (first | assumption | exact decide_eq_true (by assumption) | exact decide_eq_false (by assumption) | exact decide_eq_true (by omega) | exact decide_eq_false (by omega) | exact beq_iff_eq.2 (by omega) | exact beq_eq_false_iff_ne.2 (by omega) | exact bne_iff_ne.2 (by omega) | exact bne_eq_false_iff_eq.2 (by omega)))
                      | ((with_reducible apply w_pk0 (v := .bool _)); exact rfl; exact rfl; (first | assumption | exact decide_eq_true (by assumption) | exact decide_eq_false (by assumption) | exact decide_eq_true (by omega) | exact decide_eq_false (by omega) | exact beq_iff_eq.2 (by omega) | exact beq_eq_false_iff_ne.2 (by omega) | exact bne_iff_ne.2 (by omega) | exact bne_eq_false_iff_eq.2 (by omega))))
                    | ((with_reducible apply g_assign); first
                      | ((with_reducible apply w_pure (v := .int _ _)); exact rfl; exact rfl)
                      | ((with_reducible apply w_pure (v := .bool _)); exact rfl; exact rfl))
                    | ((with_reducible apply w_pure (v := .bool _)); exact rfl; exact rfl))
                  | ((with_reducible apply g_gd); first
                    | ((with_reducible apply w_pass); exact rfl)
                    | ((with_reducible apply w_gd_t); exact rfl; all_goals (intro hc; first | (exfalso; omega) | skip)))
                  | with_reducible refine w_seq ?_
                  | with_reducible refine w_nil ?_
                  | with_reducible refine w_region ?_
                  | with_reducible refine w_skip ?_
                  | with_reducible refine w_blk ?_
                  | ((with_reducible apply w_no); exact rfl)
                  | ((with_reducible apply w_ifd); exact rfl; all_goals (intro hc; first | (exfalso; omega) | skip)))
                all_goals by_cases hq : x.fl % 2 = 1 ∧ e ≥ x.ad ∧ e < x.ad + x.me
                all_goals first | (exfalso; omega) | skip
                all_goals first | rw [decide_eq_true hq, Bool.or_true] at hgo | rw [decide_eq_false hq, Bool.or_false] at hgo
                all_goals first | exact ih (lo + 1, dy, lastS x, true) _ _ _ (by repeat' (first | with_reducible exact Fr.mix | with_reducible exact Fr.rfl' | with_reducible refine Fr.put ?_ ?_ | with_reducible refine Fr.mix2 ?_ ?_ | with_reducible refine Fr.put0 ?_ | exact rfl)) ⟨by push_cast; rfl, rfl, rfl, rfl, rfl, by simp (disch := omega) only [upd_ne]; exact hg, by omega, by dsimp only; omega, by dsimp only; omega, hgo⟩ | exact ih (lo + 1, dy, lastS x, et) _ _ _ (by repeat' (first | with_reducible exact Fr.mix | with_reducible exact Fr.rfl' | with_reducible refine Fr.put ?_ ?_ | with_reducible refine Fr.mix2 ?_ ?_ | with_reducible refine Fr.put0 ?_ | exact rfl)) ⟨by push_cast; rfl, rfl, rfl, rfl, rfl, by simp (disch := omega) only [upd_ne]; exact hg, by omega, by dsimp only; omega, by dsimp only; omega, hgo⟩
            · rw [if_neg hf] at hgo
              subst hgo
              repeat' (first
                | ((with_reducible apply g_op); first
                  | ((with_reducible apply g_load); first
                    | ((with_reducible apply w_load (v := .int _ _)); exact rfl; (first | assumption | (simp (disch := omega) only [upd_same, upd_ne]; first | done | assumption | exact rfl) | exact rfl); exact rfl)
                    | ((with_reducible apply w_load (v := .agg #[_, _, _, _, _, _, _])); exact rfl; (first | assumption | (simp (disch := omega) only [upd_same, upd_ne]; first | done | assumption | exact rfl) | exact rfl); exact rfl))
                  | ((with_reducible apply g_move); first
                    | ((with_reducible apply w_pure (v := .int _ _)); exact rfl; exact rfl)
                    | ((with_reducible apply w_pure (v := .bool _)); exact rfl; exact rfl))
                  | ((with_reducible apply g_bin); first
                    | ((with_reducible apply w_pure (v := .bool _)); exact rfl; exact rfl))
                  | ((with_reducible apply g_fld); first
                    | ((with_reducible apply w_fldp (o := 0)); exact rfl; exact rfl; exact rfl; exact (by decide)))
                  | ((with_reducible apply g_assign); first
                    | ((with_reducible apply w_pure (v := .bool _)); exact rfl; exact rfl))
                  | ((with_reducible apply w_pure (v := .bool _)); exact rfl; exact rfl))
                | ((with_reducible apply g_gd); first
                  | ((with_reducible apply w_gd_t); exact rfl; all_goals (intro hc; first | (exfalso; omega) | skip)))
                | with_reducible refine w_seq ?_
                | with_reducible refine w_nil ?_
                | with_reducible refine w_region ?_
                | with_reducible refine w_skip ?_
                | ((with_reducible apply w_no); exact rfl)
                | ((with_reducible apply w_ifd); exact rfl; all_goals (intro hc; first | (exfalso; omega) | skip)))
              refine w_rq (first_run x hok _ _ _) (fun _ => rfl) ?_
              rintro _ rfl
              repeat' (first
                | ((with_reducible apply g_op); first
                  | ((with_reducible apply g_move); first
                    | ((with_reducible apply w_pure (v := .int _ _)); exact rfl; exact rfl))
                  | ((with_reducible apply g_bin); first
                    | ((with_reducible apply w_pure (v := .bool _)); exact rfl; exact rfl))
                  | ((with_reducible apply g_pick); first
                    | ((with_reducible apply w_pk1 (v := .bool _)); exact rfl; exact rfl; (first | assumption | exact decide_eq_true (by assumption) | exact decide_eq_false (by assumption) | exact decide_eq_true (by omega) | exact decide_eq_false (by omega) | exact beq_iff_eq.2 (by omega) | exact beq_eq_false_iff_ne.2 (by omega) | exact bne_iff_ne.2 (by omega) | exact bne_eq_false_iff_eq.2 (by omega))))
                  | ((with_reducible apply g_assign); first
                    | ((with_reducible apply w_pure (v := .int _ _)); exact rfl; exact rfl)))
                | ((with_reducible apply g_gd); first
                  | ((with_reducible apply w_gd_t); exact rfl; all_goals (intro hc; first | (exfalso; omega) | skip)))
                | with_reducible refine w_seq ?_
                | with_reducible refine w_nil ?_
                | with_reducible refine w_region ?_
                | ((with_reducible apply w_ifd); exact rfl; all_goals (intro hc; first | (exfalso; omega) | skip))
                | ((with_reducible apply w_ret (v := .int _ _)); exact rfl))
              exact fr_plain rfl rfl
          · rw [if_neg ht1] at hgo
            by_cases ht2 : x.ty = 2
            · rw [if_pos ht2] at hgo
              repeat' (first
                | ((with_reducible apply g_op); first
                  | ((with_reducible apply g_load); first
                    | ((with_reducible apply w_load (v := .int _ _)); exact rfl; (first | assumption | (simp (disch := omega) only [upd_same, upd_ne]; first | done | assumption | exact rfl) | exact rfl); exact rfl))
                  | ((with_reducible apply g_move); first
                    | ((with_reducible apply w_pure (v := .int _ _)); exact rfl; exact rfl)
                    | ((with_reducible apply w_pure (v := .bool _)); exact rfl; exact rfl))
                  | ((with_reducible apply g_bin); first
                    | ((with_reducible apply w_wrap); exact rfl; exact rfl; first | exact i64_in _ (by omega) | exact u64_in _ (by omega) | exact u8_in _ (by omega))
                    | ((with_reducible apply w_pure (v := .bool _)); exact rfl; exact rfl))
                  | ((with_reducible apply g_fld); first
                    | ((with_reducible apply w_fldp (o := 0)); exact rfl; exact rfl; exact rfl; exact (by decide)))
                  | ((with_reducible apply g_assign); first
                    | ((with_reducible apply w_pure (v := .int _ _)); exact rfl; exact rfl)
                    | ((with_reducible apply w_pure (v := .bool _)); exact rfl; exact rfl))
                  | ((with_reducible apply w_pure (v := .bool _)); exact rfl; exact rfl))
                | with_reducible refine w_seq ?_
                | with_reducible refine w_nil ?_
                | with_reducible refine w_region ?_
                | with_reducible refine w_skip ?_
                | with_reducible refine w_block ?_
                | ((with_reducible apply w_no); exact rfl)
                | ((with_reducible apply w_ifd); exact rfl; all_goals (intro hc; first | (exfalso; omega) | skip)))
              refine w_rngK [(13, 15), (112, 160)] l (fun j rest2 (b : Bool) σ2 g3 n3 => σ2 14 = .int .i64 (j : Nat) ∧ σ2 13 = .bool b ∧ (b || rest2.any fun y => holdsS y x) = (l.any fun y => holdsS y x) ∧ g3 n = some (.cells 24 [.int .i64 3, .int .i64 e, rv tg l]) ∧ g3 n2 = some (.cells 43 x.c) ∧ n2 < n3) ?_ ?_ false ⟨rfl, rfl, by simp, by simp (disch := omega) only [upd_ne]; exact hg, by simp only [upd_same]; rfl, by omega⟩
              · rintro j y rest2 b σ2 g3 n3 hx2 hlt2 ⟨k14, k13, hr2, hg2, hx3, hn2⟩ ih2
                refine w_keep (i := 14) k14 (w_keep (i := 13) k13 ?_)
                unfold Sg.c at hx3
                cases b with
                | true =>
                  repeat' (first
                    | ((with_reducible apply g_op); first
                      | ((with_reducible apply g_load); first
                        | ((with_reducible apply w_fl (v := .agg #[_, _, _, _, _, _, _])); exact rfl; exact (fun _ => rfl); assumption; exact rfl)
                        | ((with_reducible apply w_load (v := .func _ _ _)); exact rfl; (first | assumption | (simp (disch := omega) only [upd_same, upd_ne]; first | done | assumption | exact rfl) | exact rfl); exact rfl))
                      | ((with_reducible apply g_move); first
                        | ((with_reducible apply w_pure (v := .int _ _)); exact rfl; exact rfl)
                        | ((with_reducible apply w_pure (v := .bool _)); exact rfl; exact rfl))
                      | ((with_reducible apply g_bin); first
                        | ((with_reducible apply w_wrap); exact rfl; exact rfl; first | exact i64_in _ (by omega) | exact u64_in _ (by omega) | exact u8_in _ (by omega))
                        | ((with_reducible apply w_pure (v := .bool _)); exact rfl; exact rfl))
                      | ((with_reducible apply g_fld); first
                        | ((with_reducible apply w_fldp (o := 2)); exact rfl; exact rfl; exact rfl; exact (by decide)))
                      | ((with_reducible apply g_assign); first
                        | ((with_reducible apply w_pure (v := .int _ _)); exact rfl; exact rfl)
                        | ((with_reducible apply w_pure (v := .bool _)); exact rfl; exact rfl))
                      | ((with_reducible apply g_store); first
                        | ((with_reducible apply w_store (us := [_, _, _, _, _, _, _]) (ws := [_, _, _, _, _, _, _])); exact rfl; exact rfl; (first | assumption | (simp (disch := omega) only [upd_same, upd_ne]; first | done | assumption | exact rfl) | exact rfl); omega; exact rfl; exact rfl; exact rfl))
                      | ((with_reducible apply g_ix); first
                        | ((with_reducible apply w_fx (sz := 7)); exact rfl; exact rfl; exact rfl; exact rfl; exact rfl; exact (fun _ => rfl); assumption; exact rfl))
                      | ((with_reducible apply w_alloc (ls := [_, _, _, _, _, _, _])); exact rfl; exact rfl)
                      | ((with_reducible apply w_pure (v := .bool _)); exact rfl; exact rfl))
                    | ((with_reducible apply g_gd); first
                      | ((with_reducible apply w_pass); exact rfl)
                      | ((with_reducible apply w_psn); exact rfl))
                    | with_reducible refine w_seq ?_
                    | with_reducible refine w_nil ?_
                    | with_reducible refine w_region ?_
                    | with_reducible refine w_skip ?_
                    | with_reducible refine w_block ?_
                    | with_reducible refine w_blk ?_
                    | ((with_reducible apply w_ifd); exact rfl; all_goals (intro hc; first | (exfalso; omega) | skip)))
                  exact ih2 true _ _ _ (by repeat' (first | with_reducible exact Fr.mix | with_reducible exact Fr.rfl' | with_reducible refine Fr.put ?_ ?_ | with_reducible refine Fr.mix2 ?_ ?_ | with_reducible refine Fr.put0 ?_ | exact rfl)) ⟨by push_cast; rfl, rfl, by rw [← hr2]; simp, by simp (disch := omega) only [upd_ne]; exact hg2, by simp (disch := omega) only [upd_ne]; exact hx3, by omega⟩
                | false =>
                  repeat' (first
                    | ((with_reducible apply g_op); first
                      | ((with_reducible apply g_load); first
                        | ((with_reducible apply w_fl (v := .agg #[_, _, _, _, _, _, _])); exact rfl; exact (fun _ => rfl); assumption; exact rfl)
                        | ((with_reducible apply w_load (v := .int _ _)); exact rfl; (first | assumption | (simp (disch := omega) only [upd_same, upd_ne]; first | done | assumption | exact rfl) | exact rfl); exact rfl)
                        | ((with_reducible apply w_load (v := .func _ _ _)); exact rfl; (first | assumption | (simp (disch := omega) only [upd_same, upd_ne]; first | done | assumption | exact rfl) | exact rfl); exact rfl))
                      | ((with_reducible apply g_move); first
                        | ((with_reducible apply w_pure (v := .int _ _)); exact rfl; exact rfl)
                        | ((with_reducible apply w_pure (v := .bool _)); exact rfl; exact rfl))
                      | ((with_reducible apply g_bin); first
                        | ((with_reducible apply w_wrap); exact rfl; exact rfl; first | exact i64_in _ (by omega) | exact u64_in _ (by omega) | exact u8_in _ (by omega))
                        | ((with_reducible apply w_pure (v := .bool _)); exact rfl; exact rfl)
                        | ((with_reducible apply w_pure (v := .int _ _)); exact rfl; exact rfl))
                      | ((with_reducible apply g_fld); first
                        | ((with_reducible apply w_fldp (o := 0)); exact rfl; exact rfl; exact rfl; exact (by decide))
                        | ((with_reducible apply w_fldp (o := 2)); exact rfl; exact rfl; exact rfl; exact (by decide))
                        | ((with_reducible apply w_fldp (o := 3)); exact rfl; exact rfl; exact rfl; exact (by decide))
                        | ((with_reducible apply w_fldp (o := 5)); exact rfl; exact rfl; exact rfl; exact (by decide)))
                      | ((with_reducible apply g_pick); first
                        | ((with_reducible apply w_pk1 (v := .bool _)); exact rfl; exact rfl; (first | assumption | exact decide_eq_true (by assumption) | exact decide_eq_false (by assumption) | exact decide_eq_true (by omega) | exact decide_eq_false (by omega) | exact beq_iff_eq.2 (by omega) | exact beq_eq_false_iff_ne.2 (by omega) | exact bne_iff_ne.2 (by omega) | exact bne_eq_false_iff_eq.2 (by omega)))
                        | ((with_reducible apply w_pk0 (v := .bool _)); exact rfl; exact rfl; (first | assumption | exact decide_eq_true (by assumption) | exact decide_eq_false (by assumption) | exact decide_eq_true (by omega) | exact decide_eq_false (by omega) | exact beq_iff_eq.2 (by omega) | exact beq_eq_false_iff_ne.2 (by omega) | exact bne_iff_ne.2 (by omega) | exact bne_eq_false_iff_eq.2 (by omega))))
                      | ((with_reducible apply g_assign); first
                        | ((with_reducible apply w_pure (v := .int _ _)); exact rfl; exact rfl)
                        | ((with_reducible apply w_pure (v := .bool _)); exact rfl; exact rfl))
                      | ((with_reducible apply g_store); first
                        | ((with_reducible apply w_store (us := [_, _, _, _, _, _, _]) (ws := [_, _, _, _, _, _, _])); exact rfl; exact rfl; (first | assumption | (simp (disch := omega) only [upd_same, upd_ne]; first | done | assumption | exact rfl) | exact rfl); omega; exact rfl; exact rfl; exact rfl))
                      | ((with_reducible apply g_ix); first
                        | ((with_reducible apply w_fx (sz := 7)); exact rfl; exact rfl; exact rfl; exact rfl; exact rfl; exact (fun _ => rfl); assumption; exact rfl))
                      | ((with_reducible apply w_alloc (ls := [_, _, _, _, _, _, _])); exact rfl; exact rfl)
                      | ((with_reducible apply w_pure (v := .bool _)); exact rfl; exact rfl))
                    | ((with_reducible apply g_gd); first
                      | ((with_reducible apply w_want); exact rfl)
                      | ((with_reducible apply w_pass); exact rfl)
                      | ((with_reducible apply w_gd_t); exact rfl; all_goals (intro hc; first | (exfalso; omega) | skip)))
                    | with_reducible refine w_seq ?_
                    | with_reducible refine w_nil ?_
                    | with_reducible refine w_region ?_
                    | with_reducible refine w_skip ?_
                    | with_reducible refine w_block ?_
                    | with_reducible refine w_blk ?_
                    | ((with_reducible apply w_ifd); exact rfl; all_goals (intro hc; first | (exfalso; omega) | skip)))
                  all_goals exact ih2 (holdsS y x) _ _ _ (by repeat' (first | with_reducible exact Fr.mix | with_reducible exact Fr.rfl' | with_reducible refine Fr.put ?_ ?_ | with_reducible refine Fr.mix2 ?_ ?_ | with_reducible refine Fr.put0 ?_ | exact rfl)) ⟨by push_cast; rfl, congrArg Value.bool (by unfold holdsS; ((try dsimp only); rw [Bool.eq_iff_iff]; simp only [decide_eq_true_eq, beq_iff_eq, bne_iff_ne, ne_eq, Bool.false_eq_true, eq_self, false_iff, true_iff]; omega)), by rw [← hr2, List.any_cons, Bool.false_or], by simp (disch := omega) only [upd_ne]; exact hg2, by simp (disch := omega) only [upd_ne]; exact hx3, by omega⟩
              · rintro b σ2 g3 n3 ⟨k14, k13, hr2, hg2, hx3, hn2⟩
                refine w_keep (i := 14) k14 (w_keep (i := 13) k13 ?_)
                rw [List.any_nil, Bool.or_false] at hr2
                rw [← hr2] at hgo
                cases b with
                | true =>
                  rw [if_pos rfl] at hgo
                  repeat' (first
                    | ((with_reducible apply g_op); first
                      | ((with_reducible apply g_move); first
                        | ((with_reducible apply w_pure (v := .int _ _)); exact rfl; exact rfl)
                        | ((with_reducible apply w_pure (v := .bool _)); exact rfl; exact rfl))
                      | ((with_reducible apply g_bin); first
                        | ((with_reducible apply w_wrap); exact rfl; exact rfl; first | exact i64_in _ (by omega) | exact u64_in _ (by omega) | exact u8_in _ (by omega))
                        | ((with_reducible apply w_pure (v := .bool _)); exact rfl; exact rfl))
                      | ((with_reducible apply g_assign); first
                        | ((with_reducible apply w_pure (v := .int _ _)); exact rfl; exact rfl))
                      | ((with_reducible apply w_pure (v := .bool _)); exact rfl; exact rfl))
                    | with_reducible refine w_seq ?_
                    | with_reducible refine w_nil ?_
                    | with_reducible refine w_region ?_
                    | with_reducible refine w_skip ?_
                    | with_reducible refine w_blk ?_
                    | ((with_reducible apply w_exit); exact rfl)
                    | ((with_reducible apply w_no); exact rfl)
                    | ((with_reducible apply w_ifd); exact rfl; all_goals (intro hc; first | (exfalso; omega) | skip)))
                  exact ih (lo, dy + 1, en, et) _ _ _ (by repeat' (first | with_reducible exact Fr.mix | with_reducible exact Fr.rfl' | with_reducible refine Fr.put ?_ ?_ | with_reducible refine Fr.mix2 ?_ ?_ | with_reducible refine Fr.put0 ?_ | exact rfl)) ⟨by push_cast; rfl, rfl, rfl, rfl, rfl, hg2, by omega, by dsimp only; omega, by dsimp only; omega, hgo⟩
                | false =>
                  rw [if_neg (by simp)] at hgo
                  subst hgo
                  repeat' (first
                    | ((with_reducible apply g_op); first
                      | ((with_reducible apply g_move); first
                        | ((with_reducible apply w_pure (v := .int _ _)); exact rfl; exact rfl)
                        | ((with_reducible apply w_pure (v := .bool _)); exact rfl; exact rfl))
                      | ((with_reducible apply g_bin); first
                        | ((with_reducible apply w_pure (v := .bool _)); exact rfl; exact rfl))
                      | ((with_reducible apply g_assign); first
                        | ((with_reducible apply w_pure (v := .int _ _)); exact rfl; exact rfl))
                      | ((with_reducible apply w_pure (v := .bool _)); exact rfl; exact rfl))
                    | with_reducible refine w_seq ?_
                    | with_reducible refine w_nil ?_
                    | with_reducible refine w_region ?_
                    | ((with_reducible apply w_exit); exact rfl)
                    | ((with_reducible apply w_yes); exact rfl)
                    | ((with_reducible apply w_ifd); exact rfl; all_goals (intro hc; first | (exfalso; omega) | skip))
                    | ((with_reducible apply w_ret (v := .int _ _)); exact rfl))
                  exact fr_plain rfl rfl
            · rw [if_neg ht2] at hgo
              repeat' (first
                | ((with_reducible apply g_op); first
                  | ((with_reducible apply g_load); first
                    | ((with_reducible apply w_load (v := .int _ _)); exact rfl; (first | assumption | (simp (disch := omega) only [upd_same, upd_ne]; first | done | assumption | exact rfl) | exact rfl); exact rfl))
                  | ((with_reducible apply g_move); first
                    | ((with_reducible apply w_pure (v := .int _ _)); exact rfl; exact rfl)
                    | ((with_reducible apply w_pure (v := .bool _)); exact rfl; exact rfl))
                  | ((with_reducible apply g_bin); first
                    | ((with_reducible apply w_wrap); exact rfl; exact rfl; first | exact i64_in _ (by omega) | exact u64_in _ (by omega) | exact u8_in _ (by omega))
                    | ((with_reducible apply w_pure (v := .bool _)); exact rfl; exact rfl))
                  | ((with_reducible apply g_fld); first
                    | ((with_reducible apply w_fldp (o := 0)); exact rfl; exact rfl; exact rfl; exact (by decide)))
                  | ((with_reducible apply g_assign); first
                    | ((with_reducible apply w_pure (v := .int _ _)); exact rfl; exact rfl)
                    | ((with_reducible apply w_pure (v := .bool _)); exact rfl; exact rfl))
                  | ((with_reducible apply w_pure (v := .bool _)); exact rfl; exact rfl))
                | with_reducible refine w_seq ?_
                | with_reducible refine w_nil ?_
                | with_reducible refine w_region ?_
                | with_reducible refine w_skip ?_
                | with_reducible refine w_blk ?_
                | ((with_reducible apply w_no); exact rfl)
                | ((with_reducible apply w_ifd); exact rfl; all_goals (intro hc; first | (exfalso; omega) | skip)))
              exact ih (lo, dy, en, et) _ _ _ (by repeat' (first | with_reducible exact Fr.mix | with_reducible exact Fr.rfl' | with_reducible refine Fr.put ?_ ?_ | with_reducible refine Fr.mix2 ?_ ?_ | with_reducible refine Fr.put0 ?_ | exact rfl)) ⟨by push_cast; rfl, rfl, rfl, rfl, rfl, by simp (disch := omega) only [upd_ne]; exact hg, by omega, by dsimp only; omega, by dsimp only; omega, hgo⟩
      · rintro ⟨lo, dy, en, et⟩ σ g2 n2 ⟨k10, k6, k7, k8, k9, hg, hn, hb, hz, hgo⟩
        dsimp only at k6 k7 k8 k9 hb hz hgo
        refine w_keep (i := 10) k10 (w_keep (i := 6) k6 (w_keep (i := 7) k7 (w_keep (i := 8) k8 (w_keep (i := 9) k9 ?_))))
        subst hgo
        cases et
        · repeat' (first
            | ((with_reducible apply g_op); first
              | ((with_reducible apply g_move); first
                | ((with_reducible apply w_pure (v := .int _ _)); exact rfl; exact rfl)
                | ((with_reducible apply w_pure (v := .bool _)); exact rfl; exact rfl))
              | ((with_reducible apply g_bin); first
                | ((with_reducible apply w_pure (v := .bool _)); exact rfl; exact rfl))
              | ((with_reducible apply g_pick); first
                | ((with_reducible apply w_pk1 (v := .bool _)); exact rfl; exact rfl; (first | assumption | exact decide_eq_true (by assumption) | exact decide_eq_false (by assumption) | exact decide_eq_true (by omega) | exact decide_eq_false (by omega) | exact beq_iff_eq.2 (by omega) | exact beq_eq_false_iff_ne.2 (by omega) | exact bne_iff_ne.2 (by omega) | exact bne_eq_false_iff_eq.2 (by omega)))
                | ((with_reducible apply w_pk0 (v := .bool _)); exact rfl; exact rfl; (first | assumption | exact decide_eq_true (by assumption) | exact decide_eq_false (by assumption) | exact decide_eq_true (by omega) | exact decide_eq_false (by omega) | exact beq_iff_eq.2 (by omega) | exact beq_eq_false_iff_ne.2 (by omega) | exact bne_iff_ne.2 (by omega) | exact bne_eq_false_iff_eq.2 (by omega))))
              | ((with_reducible apply g_assign); first
                | ((with_reducible apply w_pure (v := .int _ _)); exact rfl; exact rfl))
              | ((with_reducible apply w_pure (v := .bool _)); exact rfl; exact rfl))
            | ((with_reducible apply g_gd); first
              | ((with_reducible apply w_pass); exact rfl)
              | ((with_reducible apply w_gd_f); exact rfl; all_goals (intro hc; first | (exfalso; omega) | skip)))
            | with_reducible refine w_seq ?_
            | with_reducible refine w_nil ?_
            | with_reducible refine w_region ?_
            | ((with_reducible apply w_exit); exact rfl)
            | ((with_reducible apply w_yes); exact rfl)
            | ((with_reducible apply w_ifd); exact rfl; all_goals (intro hc; first | (exfalso; omega) | skip))
            | ((with_reducible apply w_ret (v := .int _ _)); exact rfl))
          all_goals refine fr_plain rfl ?_
          all_goals by_cases q1 : lo = 0
          all_goals by_cases q2 : dy ≤ 1
          all_goals first | (exfalso; omega) | simp [q1, q2, errV, endS, chk]
        · repeat' (first
            | ((with_reducible apply g_op); first
              | ((with_reducible apply g_move); first
                | ((with_reducible apply w_pure (v := .int _ _)); exact rfl; exact rfl)
                | ((with_reducible apply w_pure (v := .bool _)); exact rfl; exact rfl))
              | ((with_reducible apply g_bin); first
                | ((with_reducible apply w_pure (v := .bool _)); exact rfl; exact rfl))
              | ((with_reducible apply g_pick); first
                | ((with_reducible apply w_pk1 (v := .bool _)); exact rfl; exact rfl; (first | assumption | exact decide_eq_true (by assumption) | exact decide_eq_false (by assumption) | exact decide_eq_true (by omega) | exact decide_eq_false (by omega) | exact beq_iff_eq.2 (by omega) | exact beq_eq_false_iff_ne.2 (by omega) | exact bne_iff_ne.2 (by omega) | exact bne_eq_false_iff_eq.2 (by omega)))
                | ((with_reducible apply w_pk0 (v := .bool _)); exact rfl; exact rfl; (first | assumption | exact decide_eq_true (by assumption) | exact decide_eq_false (by assumption) | exact decide_eq_true (by omega) | exact decide_eq_false (by omega) | exact beq_iff_eq.2 (by omega) | exact beq_eq_false_iff_ne.2 (by omega) | exact bne_iff_ne.2 (by omega) | exact bne_eq_false_iff_eq.2 (by omega))))
              | ((with_reducible apply g_assign); first
                | ((with_reducible apply w_pure (v := .int _ _)); exact rfl; exact rfl))
              | ((with_reducible apply w_pure (v := .bool _)); exact rfl; exact rfl))
            | ((with_reducible apply g_gd); first
              | ((with_reducible apply w_pass); exact rfl)
              | ((with_reducible apply w_gd_f); exact rfl; all_goals (intro hc; first | (exfalso; omega) | skip)))
            | with_reducible refine w_seq ?_
            | with_reducible refine w_nil ?_
            | with_reducible refine w_region ?_
            | with_reducible refine w_skip ?_
            | ((with_reducible apply w_exit); exact rfl)
            | ((with_reducible apply w_yes); exact rfl)
            | ((with_reducible apply w_no); exact rfl)
            | ((with_reducible apply w_ifd); exact rfl; all_goals (intro hc; first | (exfalso; omega) | skip))
            | ((with_reducible apply w_ret (v := .int _ _)); exact rfl))
          all_goals refine fr_plain rfl ?_
          all_goals by_cases q1 : lo = 0
          all_goals by_cases q2 : dy ≤ 1
          all_goals first | (exfalso; omega) | simp [q1, q2, errV, endS, chk]
  · have e0 : okS ⟨k, e, l⟩ z = false := by
      unfold okS
      rw [decide_eq_false h0, Bool.false_and]
    rw [e0]
    repeat' (first
      | ((with_reducible apply g_op); first
        | ((with_reducible apply g_load); first
          | ((with_reducible apply w_load (v := .int _ _)); exact rfl; (first | assumption | (simp (disch := omega) only [upd_same, upd_ne]; first | done | assumption | exact rfl) | exact rfl); exact rfl)
          | ((with_reducible apply w_load (v := .func _ _ _)); exact rfl; (first | assumption | (simp (disch := omega) only [upd_same, upd_ne]; first | done | assumption | exact rfl) | exact rfl); exact rfl))
        | ((with_reducible apply g_move); first
          | ((with_reducible apply w_pure (v := .int _ _)); exact rfl; exact rfl)
          | ((with_reducible apply w_pure (v := .bool _)); exact rfl; exact rfl))
        | ((with_reducible apply g_bin); first
          | ((with_reducible apply w_wrap); exact rfl; exact rfl; first | exact i64_in _ (by omega) | exact u64_in _ (by omega) | exact u8_in _ (by omega))
          | ((with_reducible apply w_pure (v := .bool _)); exact rfl; exact rfl))
        | ((with_reducible apply g_fld); first
          | ((with_reducible apply w_fldp (o := 0)); exact rfl; exact rfl; exact rfl; exact (by decide))
          | ((with_reducible apply w_fldp (o := 1)); exact rfl; exact rfl; exact rfl; exact (by decide))
          | ((with_reducible apply w_fldp (o := 2)); exact rfl; exact rfl; exact rfl; exact (by decide)))
        | ((with_reducible apply g_pick); first
          | ((with_reducible apply w_pk1 (v := .bool _)); exact rfl; exact rfl; (first | assumption | exact decide_eq_true (by assumption) | exact decide_eq_false (by assumption) | exact decide_eq_true (by omega) | exact decide_eq_false (by omega) | exact beq_iff_eq.2 (by omega) | exact beq_eq_false_iff_ne.2 (by omega) | exact bne_iff_ne.2 (by omega) | exact bne_eq_false_iff_eq.2 (by omega)))
          | ((with_reducible apply w_pk0 (v := .bool _)); exact rfl; exact rfl; (first | assumption | exact decide_eq_true (by assumption) | exact decide_eq_false (by assumption) | exact decide_eq_true (by omega) | exact decide_eq_false (by omega) | exact beq_iff_eq.2 (by omega) | exact beq_eq_false_iff_ne.2 (by omega) | exact bne_iff_ne.2 (by omega) | exact bne_eq_false_iff_eq.2 (by omega))))
        | ((with_reducible apply g_assign); first
          | ((with_reducible apply w_pure (v := .int _ _)); exact rfl; exact rfl))
        | ((with_reducible apply g_call); first
          | ((with_reducible apply w_call (v := .int _ _)); exact rfl))
        | ((with_reducible apply g_box); first
          | ((with_reducible apply w_box (vs := [_, _, _])); exact rfl; exact rfl))
        | ((with_reducible apply w_pure (v := .bool _)); exact rfl; exact rfl))
      | ((with_reducible apply g_gd); first
        | ((with_reducible apply w_want); exact rfl)
        | ((with_reducible apply w_pass); exact rfl)
        | ((with_reducible apply w_gd_f); exact rfl; all_goals (intro hc; first | (exfalso; omega) | skip))
        | ((with_reducible apply w_gn_t); exact rfl; all_goals (intro hc; first | (exfalso; omega) | skip))
        | ((with_reducible apply w_gn_f); exact rfl; all_goals (intro hc; first | (exfalso; omega) | skip)))
      | with_reducible refine w_seq ?_
      | with_reducible refine w_nil ?_
      | with_reducible refine w_region ?_
      | ((with_reducible apply w_yes); exact rfl)
      | ((with_reducible apply w_ret (v := .int _ _)); exact rfl))
    all_goals first | (exfalso; omega) | exact fr_plain rfl rfl | skip
    all_goals refine w_rq (in_run e _ _ _) (fun _ => rfl) ?_
    all_goals rintro _ rfl
    all_goals rw [decide_eq_false (by omega)]
    all_goals repeat' (first
                | ((with_reducible apply g_op); first
                  | ((with_reducible apply g_pick); first
                    | ((with_reducible apply w_pk0 (v := .bool _)); exact rfl; exact rfl; (first | assumption | exact decide_eq_true (by assumption) | exact decide_eq_false (by assumption) | exact decide_eq_true (by omega) | exact decide_eq_false (by omega) | exact beq_iff_eq.2 (by omega) | exact beq_eq_false_iff_ne.2 (by omega) | exact bne_iff_ne.2 (by omega) | exact bne_eq_false_iff_eq.2 (by omega))))
                  | ((with_reducible apply g_assign); first
                    | ((with_reducible apply w_pure (v := .int _ _)); exact rfl; exact rfl))
                  | ((with_reducible apply w_pure (v := .bool _)); exact rfl; exact rfl))
                | ((with_reducible apply g_gd); first
                  | ((with_reducible apply w_gd_f); exact rfl; all_goals (intro hc; first | (exfalso; omega) | skip)))
                | with_reducible refine w_seq ?_
                | with_reducible refine w_nil ?_
                | with_reducible refine w_region ?_
                | ((with_reducible apply w_yes); exact rfl)
                | ((with_reducible apply w_ret (v := .int _ _)); exact rfl))
    all_goals exact fr_plain rfl rfl
end Go.Proofs.Ytohfbnpmhlpkhaa.L

