/- The program: may an image be. -/
import Derived.Test.Ytohfbnpmhlpkhaac08G
namespace Go.Proofs.Ytohfbnpmhlpkhaa.L
open Go.L1 Go.IntWalk Oct
set_option linter.unusedVariables false
set_option linter.unusedSimpArgs false
set_option maxHeartbeats 4000000
set_option maxRecDepth 20000
def chk (a : List Sg) (z e : Int) : List Sg → Int → Int → Int → Bool → Option (Int × Int × Bool)
  | [], lo, dy, _, et => some (lo, dy, et)
  | s :: r, lo, dy, en, et =>
    if segS s z = true then
      if s.ty = 1 then (if firstS s ≥ en then chk a z e r (lo + 1) dy (lastS s) (et || beginsS s e) else none)
      else if s.ty = 2 then (if (a.any fun x => holdsS x s) = true then chk a z e r lo (dy + 1) en et else none)
      else chk a z e r lo dy en et
    else none
def endS : Option (Int × Int × Bool) → Bool
  | none => false
  | some (lo, dy, et) => decide (lo ≠ 0) && (decide (dy ≤ 1) && et)
def okS (x : Im) (z : Int) : Bool := decide (((x.k = 2 ∨ x.k = 3) ∧ (1 ≤ x.l.length ∧ x.l.length ≤ 16) ∧ 64 + 56 * (x.l.length : Int) ≤ z ∧ 0 ≤ x.e ∧ x.e ≤ 1099511627776)) && endS (chk x.l z x.e x.l 0 0 0 (decide (x.k = 3 ∧ x.e = 0)))
def errV (b : Bool) : Value := .int .i64 (if b then 0 else 16)
theorem check_run (x : Im) (z : Int) : Rf Try.prog T 20 [x.v tg, .int .i64 z] (fun v => v = errV (okS x z)) := by
  refine c_froz Try.func20 rfl rfl rfl rfl rfl rfl ?_
  intro g n
  obtain ⟨k, e, l⟩ := x
  by_cases h0 : ((k = 2 ∨ k = 3) ∧ (1 ≤ l.length ∧ l.length ≤ 16) ∧ 64 + 56 * (l.length : Int) ≤ z ∧ 0 ≤ e ∧ e ≤ 1099511627776)
  · have e0 : okS ⟨k, e, l⟩ z = endS (chk l z e l 0 0 0 (decide (k = 3 ∧ e = 0))) := by
      unfold okS
      rw [decide_eq_true h0, Bool.true_and]
    rw [e0]
    obtain ⟨h1, h2, h3, h4, h5⟩ := h0
    rcases h1 with rfl | rfl
    · obtain ⟨R, hR⟩ : ∃ R, chk l z e l 0 0 0 false = R := ⟨_, rfl⟩
      rw [decide_eq_false (by omega), hR]
      repeat' (first
        | ((with_reducible apply g_op); first
          | ((with_reducible apply g_load); first
            | ((with_reducible apply w_load (v := .int _ _)); exact rfl; (first | assumption | (simp (disch := omega) only [upd_same, upd_ne]; first | done | assumption | exact rfl) | exact rfl); exact rfl)
            | ((with_reducible apply w_load (v := .func _ _ _)); exact rfl; (first | assumption | (simp (disch := omega) only [upd_same, upd_ne]; first | done | assumption | exact rfl) | exact rfl); exact rfl))
          | ((with_reducible apply g_move); first
            | ((with_reducible apply w_pure (v := .int _ _)); exact rfl; exact rfl)
            | ((with_reducible apply w_pure (v := .bool _)); exact rfl; exact rfl))
          | ((with_reducible apply g_bin); first
            | ((with_reducible apply w_wrap); exact rfl; exact rfl; first | exact i64_in _ (by omega) | exact u64_in _ (by omega) | exact u8_in _ (by omega))
            | ((with_reducible apply w_pure (v := .bool _)); exact rfl; exact rfl))
          | ((with_reducible apply g_fld); first
            | ((with_reducible apply w_fldp (o := 0)); exact rfl; exact rfl; exact rfl; exact (by decide))
            | ((with_reducible apply w_fldp (o := 1)); exact rfl; exact rfl; exact rfl; exact (by decide))
            | ((with_reducible apply w_fldp (o := 2)); exact rfl; exact rfl; exact rfl; exact (by decide)))
          | ((with_reducible apply g_pick); first
            | ((with_reducible apply w_pk0 (v := .bool _)); exact rfl; exact rfl; (first | assumption | exact decide_eq_true (by assumption) | exact decide_eq_false (by assumption) | exact decide_eq_true (by omega) | exact decide_eq_false (by omega) | exact beq_iff_eq.2 (by omega) | exact beq_eq_false_iff_ne.2 (by omega) | exact bne_iff_ne.2 (by omega) | exact bne_eq_false_iff_eq.2 (by omega))))
          | ((with_reducible apply g_assign); first
            | ((with_reducible apply w_pure (v := .int _ _)); exact rfl; exact rfl)
            | ((with_reducible apply w_pure (v := .bool _)); exact rfl; exact rfl))
          | ((with_reducible apply g_call); first
            | ((with_reducible apply w_call (v := .int _ _)); exact rfl))
          | ((with_reducible apply g_box); first
            | ((with_reducible apply w_box (vs := [_, _, _])); exact rfl; exact rfl))
          | ((with_reducible apply w_pure (v := .bool _)); exact rfl; exact rfl))
        | ((with_reducible apply g_gd); first
          | ((with_reducible apply w_want); exact rfl)
          | ((with_reducible apply w_pass); exact rfl)
          | ((with_reducible apply w_gd_f); exact rfl; all_goals (intro hc; first | (exfalso; omega) | skip)))
        | with_reducible refine w_seq ?_
        | with_reducible refine w_nil ?_
        | with_reducible refine w_region ?_
        | with_reducible refine w_skip ?_
        | with_reducible refine w_block ?_
        | with_reducible refine w_label ?_
        | with_reducible refine w_scope ?_
        | ((with_reducible apply w_ifd); exact rfl; all_goals (intro hc; first | (exfalso; omega) | skip)))
      refine w_rngK [(6, 10), (12, 14), (62, 103)] l (fun i rest (b : Int × Int × Int × Bool) σ g' n' => σ 62 = .int .i64 (i : Nat) ∧ σ 6 = .int .i64 b.1 ∧ σ 7 = .int .i64 b.2.1 ∧ σ 8 = .int .i64 b.2.2.1 ∧ σ 9 = .bool true ∧ σ 10 = .bool b.2.2.2 ∧ g' n = some (.cells 24 [.int .i64 2, .int .i64 e, rv tg l]) ∧ n < n' ∧ (0 ≤ b.1 ∧ b.1 ≤ i ∧ 0 ≤ b.2.1 ∧ b.2.1 ≤ i) ∧ chk l z e rest b.1 b.2.1 b.2.2.1 b.2.2.2 = R) ?_ ?_ (0, 0, 0, false) ⟨rfl, rfl, rfl, rfl, rfl, rfl, upd_same, by omega, by simp, hR⟩
      · rintro i x rest ⟨lo, dy, en, et⟩ σ g2 n2 hx hlt ⟨k62, k6, k7, k8, k9, k10, hg, hn, hb, hgo⟩ ih
        dsimp only at k6 k7 k8 k10 hb hgo
        refine w_keep (i := 62) k62 (w_keep (i := 6) k6 (w_keep (i := 7) k7 (w_keep (i := 8) k8 (w_keep (i := 9) k9 (w_keep (i := 10) k10 ?_)))))
        repeat' (first
          | ((with_reducible apply g_op); first
            | ((with_reducible apply g_load); first
              | ((with_reducible apply w_fl (v := .agg #[_, _, _, _, _, _, _])); exact rfl; exact (fun _ => rfl); assumption; exact rfl)
              | ((with_reducible apply w_load (v := .agg #[_, _, _, _, _, _, _])); exact rfl; (first | assumption | (simp (disch := omega) only [upd_same, upd_ne]; first | done | assumption | exact rfl) | exact rfl); exact rfl))
            | ((with_reducible apply g_move); first
              | ((with_reducible apply w_pure (v := .int _ _)); exact rfl; exact rfl))
            | ((with_reducible apply g_bin); first
              | ((with_reducible apply w_pure (v := .bool _)); exact rfl; exact rfl))
            | ((with_reducible apply g_store); first
              | ((with_reducible apply w_store (us := [_, _, _, _, _, _, _]) (ws := [_, _, _, _, _, _, _])); exact rfl; exact rfl; (first | assumption | (simp (disch := omega) only [upd_same, upd_ne]; first | done | assumption | exact rfl) | exact rfl); omega; exact rfl; exact rfl; exact rfl))
            | ((with_reducible apply g_ix); first
              | ((with_reducible apply w_fx (sz := 7)); exact rfl; exact rfl; exact rfl; exact rfl; exact rfl; exact (fun _ => rfl); assumption; exact rfl))
            | ((with_reducible apply w_alloc (ls := [_, _, _, _, _, _, _])); exact rfl; exact rfl))
          | with_reducible refine w_seq ?_
          | with_reducible refine w_nil ?_
          | with_reducible refine w_region ?_
          | with_reducible refine w_skip ?_
          | with_reducible refine w_block ?_
          | ((with_reducible apply w_ifd); exact rfl; all_goals (intro hc; first | (exfalso; omega) | skip)))
        refine w_rq (seg_run x z _ _ _) (fun _ => rfl) ?_
        rintro _ rfl
        simp only [chk] at hgo
        cases hs : segS x z with
        | false =>
          rw [hs, if_neg (by simp)] at hgo
          subst hgo
          repeat' (first
            | ((with_reducible apply g_op); first
              | ((with_reducible apply g_move); first
                | ((with_reducible apply w_pure (v := .bool _)); exact rfl; exact rfl))
              | ((with_reducible apply g_assign); first
                | ((with_reducible apply w_pure (v := .int _ _)); exact rfl; exact rfl)
                | ((with_reducible apply w_pure (v := .bool _)); exact rfl; exact rfl))
              | ((with_reducible apply w_pure (v := .bool _)); exact rfl; exact rfl))
            | ((with_reducible apply g_gd); first
              | ((with_reducible apply w_pass); exact rfl))
            | with_reducible refine w_seq ?_
            | with_reducible refine w_nil ?_
            | with_reducible refine w_region ?_
            | ((with_reducible apply w_exit); exact rfl)
            | ((with_reducible apply w_yes); exact rfl)
            | ((with_reducible apply w_ret (v := .int _ _)); exact rfl))
          exact fr_plain rfl rfl
        | true =>
          rw [if_pos hs] at hgo
          have hok := seg_ok hs
          repeat' (first
            | ((with_reducible apply g_op); first
              | ((with_reducible apply g_load); first
                | ((with_reducible apply w_load (v := .agg #[_, _, _, _, _, _, _])); exact rfl; (first | assumption | (simp (disch := omega) only [upd_same, upd_ne]; first | done | assumption | exact rfl) | exact rfl); exact rfl))
              | ((with_reducible apply g_move); first
                | ((with_reducible apply w_pure (v := .bool _)); exact rfl; exact rfl))
              | ((with_reducible apply g_assign); first
                | ((with_reducible apply w_pure (v := .bool _)); exact rfl; exact rfl))
              | ((with_reducible apply w_pure (v := .bool _)); exact rfl; exact rfl))
            | with_reducible refine w_seq ?_
            | with_reducible refine w_nil ?_
            | with_reducible refine w_region ?_
            | with_reducible refine w_skip ?_
            | ((with_reducible apply w_no); exact rfl))
          refine w_rq (pages_run x hok _ _ _) (fun _ => rfl) ?_
          rintro _ rfl
          by_cases ht1 : x.ty = 1
          · rw [if_pos ht1] at hgo
            by_cases hf : firstS x ≥ en
            · rw [if_pos hf] at hgo
              cases et with
              | true =>
                repeat' (first
                  | ((with_reducible apply g_op); first
                    | ((with_reducible apply g_load); first
                      | ((with_reducible apply w_load (v := .int _ _)); exact rfl; (first | assumption | (simp (disch := omega) only [upd_same, upd_ne]; first | done | assumption | exact rfl) | exact rfl); exact rfl))
                    | ((with_reducible apply g_move); first
                      | ((with_reducible apply w_pure (v := .int _ _)); exact rfl; exact rfl)
                      | ((with_reducible apply w_pure (v := .bool _)); exact rfl; exact rfl)
                      | ((with_reducible apply w_pure (v := .tuple _)); exact rfl; exact rfl))
                    | ((with_reducible apply g_bin); first
                      | ((with_reducible apply w_wrap); exact rfl; exact rfl; first | exact i64_in _ (by omega) | exact u64_in _ (by omega) | exact u8_in _ (by omega))
                      | ((with_reducible apply w_pure (v := .bool _)); exact rfl; exact rfl))
                    | ((with_reducible apply g_fld); first
                      | ((with_reducible apply w_fldp (o := 0)); exact rfl; exact rfl; exact rfl; exact (by decide)))
                    | ((with_reducible apply g_assign); first
                      | ((with_reducible apply w_pure (v := .int _ _)); exact rfl; exact rfl)
                      | ((with_reducible apply w_pure (v := .bool _)); exact rfl; exact rfl))
                    | ((with_reducible apply w_notd); exact rfl)
                    | ((with_reducible apply w_pure (v := .int _ _)); exact rfl; exact rfl)
                    | ((with_reducible apply w_pure (v := .bool _)); exact rfl; exact rfl))
                  | ((with_reducible apply g_gd); first
                    | ((with_reducible apply w_pass); exact rfl))
                  | with_reducible refine w_seq ?_
                  | with_reducible refine w_nil ?_
                  | with_reducible refine w_region ?_
                  | with_reducible refine w_skip ?_
                  | with_reducible refine w_block ?_
                  | with_reducible refine w_blk ?_
                  | ((with_reducible apply w_ifd); exact rfl; all_goals (intro hc; first | (exfalso; omega) | skip)))
                exact ih (lo+1, dy, lastS x, true) _ _ _ (by repeat' (first | with_reducible exact Fr.mix | with_reducible exact Fr.rfl' | with_reducible refine Fr.put ?_ ?_ | with_reducible refine Fr.mix2 ?_ ?_ | with_reducible refine Fr.put0 ?_ | exact rfl)) ⟨by push_cast; rfl, rfl, rfl, rfl, congrArg Value.bool (decide_eq_true hf), rfl, by simp (disch := omega) only [upd_ne]; exact hg, by omega, by dsimp only; omega, hgo⟩
              | false =>
                repeat' (first
                  | ((with_reducible apply g_op); first
                    | ((with_reducible apply g_load); first
                      | ((with_reducible apply w_load (v := .int _ _)); exact rfl; (first | assumption | (simp (disch := omega) only [upd_same, upd_ne]; first | done | assumption | exact rfl) | exact rfl); exact rfl)
                      | ((with_reducible apply w_load (v := .agg #[_, _, _, _, _, _, _])); exact rfl; (first | assumption | (simp (disch := omega) only [upd_same, upd_ne]; first | done | assumption | exact rfl) | exact rfl); exact rfl))
                    | ((with_reducible apply g_move); first
                      | ((with_reducible apply w_pure (v := .int _ _)); exact rfl; exact rfl)
                      | ((with_reducible apply w_pure (v := .bool _)); exact rfl; exact rfl)
                      | ((with_reducible apply w_pure (v := .tuple _)); exact rfl; exact rfl))
                    | ((with_reducible apply g_bin); first
                      | ((with_reducible apply w_wrap); exact rfl; exact rfl; first | exact i64_in _ (by omega) | exact u64_in _ (by omega) | exact u8_in _ (by omega))
                      | ((with_reducible apply w_pure (v := .bool _)); exact rfl; exact rfl))
                    | ((with_reducible apply g_fld); first
                      | ((with_reducible apply w_fldp (o := 0)); exact rfl; exact rfl; exact rfl; exact (by decide))
                      | ((with_reducible apply w_fldp (o := 1)); exact rfl; exact rfl; exact rfl; exact (by decide)))
                    | ((with_reducible apply g_assign); first
                      | ((with_reducible apply w_pure (v := .int _ _)); exact rfl; exact rfl)
                      | ((with_reducible apply w_pure (v := .bool _)); exact rfl; exact rfl))
                    | ((with_reducible apply w_pure (v := .int _ _)); exact rfl; exact rfl))
                  | ((with_reducible apply g_gd); first
                    | ((with_reducible apply w_want); exact rfl))
                  | with_reducible refine w_seq ?_
                  | with_reducible refine w_nil ?_
                  | with_reducible refine w_region ?_
                  | with_reducible refine w_block ?_
                  | ((with_reducible apply w_ifd); exact rfl; all_goals (intro hc; first | (exfalso; omega) | skip)))
                refine w_rq (begins_run x hok e _ _ _) (fun _ => rfl) ?_
                rintro _ rfl
                repeat' (first
                  | ((with_reducible apply g_op); first
                    | ((with_reducible apply g_move); first
                      | ((with_reducible apply w_pure (v := .int _ _)); exact rfl; exact rfl)
                      | ((with_reducible apply w_pure (v := .bool _)); exact rfl; exact rfl))
                    | ((with_reducible apply g_bin); first
                      | ((with_reducible apply w_wrap); exact rfl; exact rfl; first | exact i64_in _ (by omega) | exact u64_in _ (by omega) | exact u8_in _ (by omega)))
                    | ((with_reducible apply g_assign); first
                      | ((with_reducible apply w_pure (v := .bool _)); exact rfl; exact rfl))
                    | ((with_reducible apply w_notd); exact rfl)
                    | ((with_reducible apply w_pure (v := .bool _)); exact rfl; exact rfl))
                  | with_reducible refine w_seq ?_
                  | with_reducible refine w_nil ?_
                  | with_reducible refine w_region ?_
                  | with_reducible refine w_skip ?_
                  | with_reducible refine w_blk ?_
                  | ((with_reducible apply w_ifd); exact rfl; all_goals (intro hc; first | (exfalso; omega) | skip)))
                exact ih (lo+1, dy, lastS x, beginsS x e) _ _ _ (by repeat' (first | with_reducible exact Fr.mix | with_reducible exact Fr.rfl' | with_reducible refine Fr.put ?_ ?_ | with_reducible refine Fr.mix2 ?_ ?_ | with_reducible refine Fr.put0 ?_ | exact rfl)) ⟨by push_cast; rfl, rfl, rfl, rfl, congrArg Value.bool (decide_eq_true hf), rfl, by simp (disch := omega) only [upd_ne]; exact hg, by omega, by dsimp only; omega, hgo⟩
            · rw [if_neg hf] at hgo
              subst hgo
              cases et with
              | true =>
                repeat' (first
                  | ((with_reducible apply g_op); first
                    | ((with_reducible apply g_load); first
                      | ((with_reducible apply w_load (v := .int _ _)); exact rfl; (first | assumption | (simp (disch := omega) only [upd_same, upd_ne]; first | done | assumption | exact rfl) | exact rfl); exact rfl))
                    | ((with_reducible apply g_move); first
                      | ((with_reducible apply w_pure (v := .int _ _)); exact rfl; exact rfl)
                      | ((with_reducible apply w_pure (v := .bool _)); exact rfl; exact rfl)
                      | ((with_reducible apply w_pure (v := .tuple _)); exact rfl; exact rfl))
                    | ((with_reducible apply g_bin); first
                      | ((with_reducible apply w_wrap); exact rfl; exact rfl; first | exact i64_in _ (by omega) | exact u64_in _ (by omega) | exact u8_in _ (by omega))
                      | ((with_reducible apply w_pure (v := .bool _)); exact rfl; exact rfl))
                    | ((with_reducible apply g_fld); first
                      | ((with_reducible apply w_fldp (o := 0)); exact rfl; exact rfl; exact rfl; exact (by decide)))
                    | ((with_reducible apply g_pick); first
                      | ((with_reducible apply w_pk1 (v := .bool _)); exact rfl; exact rfl; (first | assumption | exact decide_eq_true (by assumption) | exact decide_eq_false (by assumption) | exact decide_eq_true (by omega) | exact decide_eq_false (by omega) | exact beq_iff_eq.2 (by omega) | exact beq_eq_false_iff_ne.2 (by omega) | exact bne_iff_ne.2 (by omega) | exact bne_eq_false_iff_eq.2 (by omega))))
                    | ((with_reducible apply g_assign); first
                      | ((with_reducible apply w_pure (v := .int _ _)); exact rfl; exact rfl)
                      | ((with_reducible apply w_pure (v := .bool _)); exact rfl; exact rfl))
                    | ((with_reducible apply w_notd); exact rfl)
                    | ((with_reducible apply w_pure (v := .int _ _)); exact rfl; exact rfl)
                    | ((with_reducible apply w_pure (v := .bool _)); exact rfl; exact rfl))
                  | ((with_reducible apply g_gd); first
                    | ((with_reducible apply w_pass); exact rfl)
                    | ((with_reducible apply w_gd_f); exact rfl; all_goals (intro hc; first | (exfalso; omega) | skip)))
                  | with_reducible refine w_seq ?_
                  | with_reducible refine w_nil ?_
                  | with_reducible refine w_region ?_
                  | with_reducible refine w_block ?_
                  | with_reducible refine w_blk ?_
                  | ((with_reducible apply w_exit); exact rfl)
                  | ((with_reducible apply w_yes); exact rfl)
                  | ((with_reducible apply w_ifd); exact rfl; all_goals (intro hc; first | (exfalso; omega) | skip))
                  | ((with_reducible apply w_ret (v := .int _ _)); exact rfl))
                exact fr_plain rfl rfl
              | false =>
                repeat' (first
                  | ((with_reducible apply g_op); first
                    | ((with_reducible apply g_load); first
                      | ((with_reducible apply w_load (v := .int _ _)); exact rfl; (first | assumption | (simp (disch := omega) only [upd_same, upd_ne]; first | done | assumption | exact rfl) | exact rfl); exact rfl)
                      | ((with_reducible apply w_load (v := .agg #[_, _, _, _, _, _, _])); exact rfl; (first | assumption | (simp (disch := omega) only [upd_same, upd_ne]; first | done | assumption | exact rfl) | exact rfl); exact rfl))
                    | ((with_reducible apply g_move); first
                      | ((with_reducible apply w_pure (v := .int _ _)); exact rfl; exact rfl)
                      | ((with_reducible apply w_pure (v := .bool _)); exact rfl; exact rfl)
                      | ((with_reducible apply w_pure (v := .tuple _)); exact rfl; exact rfl))
                    | ((with_reducible apply g_bin); first
                      | ((with_reducible apply w_wrap); exact rfl; exact rfl; first | exact i64_in _ (by omega) | exact u64_in _ (by omega) | exact u8_in _ (by omega))
                      | ((with_reducible apply w_pure (v := .bool _)); exact rfl; exact rfl))
                    | ((with_reducible apply g_fld); first
                      | ((with_reducible apply w_fldp (o := 0)); exact rfl; exact rfl; exact rfl; exact (by decide))
                      | ((with_reducible apply w_fldp (o := 1)); exact rfl; exact rfl; exact rfl; exact (by decide)))
                    | ((with_reducible apply g_assign); first
                      | ((with_reducible apply w_pure (v := .int _ _)); exact rfl; exact rfl)
                      | ((with_reducible apply w_pure (v := .bool _)); exact rfl; exact rfl))
                    | ((with_reducible apply w_pure (v := .int _ _)); exact rfl; exact rfl))
                  | ((with_reducible apply g_gd); first
                    | ((with_reducible apply w_want); exact rfl))
                  | with_reducible refine w_seq ?_
                  | with_reducible refine w_nil ?_
                  | with_reducible refine w_region ?_
                  | with_reducible refine w_block ?_
                  | ((with_reducible apply w_ifd); exact rfl; all_goals (intro hc; first | (exfalso; omega) | skip)))
                refine w_rq (begins_run x hok e _ _ _) (fun _ => rfl) ?_
                rintro _ rfl
                repeat' (first
                  | ((with_reducible apply g_op); first
                    | ((with_reducible apply g_move); first
                      | ((with_reducible apply w_pure (v := .bool _)); exact rfl; exact rfl))
                    | ((with_reducible apply g_pick); first
                      | ((with_reducible apply w_pk1 (v := .bool _)); exact rfl; exact rfl; (first | assumption | exact decide_eq_true (by assumption) | exact decide_eq_false (by assumption) | exact decide_eq_true (by omega) | exact decide_eq_false (by omega) | exact beq_iff_eq.2 (by omega) | exact beq_eq_false_iff_ne.2 (by omega) | exact bne_iff_ne.2 (by omega) | exact bne_eq_false_iff_eq.2 (by omega))))
                    | ((with_reducible apply g_assign); first
                      | ((with_reducible apply w_pure (v := .int _ _)); exact rfl; exact rfl)
                      | ((with_reducible apply w_pure (v := .bool _)); exact rfl; exact rfl))
                    | ((with_reducible apply w_notd); exact rfl)
                    | ((with_reducible apply w_pure (v := .bool _)); exact rfl; exact rfl))
                  | ((with_reducible apply g_gd); first
                    | ((with_reducible apply w_pass); exact rfl)
                    | ((with_reducible apply w_gd_f); exact rfl; all_goals (intro hc; first | (exfalso; omega) | skip)))
                  | with_reducible refine w_seq ?_
                  | with_reducible refine w_nil ?_
                  | with_reducible refine w_region ?_
                  | with_reducible refine w_blk ?_
                  | ((with_reducible apply w_exit); exact rfl)
                  | ((with_reducible apply w_yes); exact rfl)
                  | ((with_reducible apply w_ifd); exact rfl; all_goals (intro hc; first | (exfalso; omega) | skip))
                  | ((with_reducible apply w_ret (v := .int _ _)); exact rfl))
                exact fr_plain rfl rfl
          · rw [if_neg ht1] at hgo
            by_cases ht2 : x.ty = 2
            · rw [if_pos ht2] at hgo
              repeat' (first
                | ((with_reducible apply g_op); first
                  | ((with_reducible apply g_load); first
                    | ((with_reducible apply w_load (v := .int _ _)); exact rfl; (first | assumption | (simp (disch := omega) only [upd_same, upd_ne]; first | done | assumption | exact rfl) | exact rfl); exact rfl)
                    | ((with_reducible apply w_load (v := .func _ _ _)); exact rfl; (first | assumption | (simp (disch := omega) only [upd_same, upd_ne]; first | done | assumption | exact rfl) | exact rfl); exact rfl))
                  | ((with_reducible apply g_move); first
                    | ((with_reducible apply w_pure (v := .int _ _)); exact rfl; exact rfl)
                    | ((with_reducible apply w_pure (v := .tuple _)); exact rfl; exact rfl))
                  | ((with_reducible apply g_bin); first
                    | ((with_reducible apply w_wrap); exact rfl; exact rfl; first | exact i64_in _ (by omega) | exact u64_in _ (by omega) | exact u8_in _ (by omega))
                    | ((with_reducible apply w_pure (v := .bool _)); exact rfl; exact rfl))
                  | ((with_reducible apply g_fld); first
                    | ((with_reducible apply w_fldp (o := 0)); exact rfl; exact rfl; exact rfl; exact (by decide))
                    | ((with_reducible apply w_fldp (o := 2)); exact rfl; exact rfl; exact rfl; exact (by decide)))
                  | ((with_reducible apply g_assign); first
                    | ((with_reducible apply w_pure (v := .int _ _)); exact rfl; exact rfl)
                    | ((with_reducible apply w_pure (v := .bool _)); exact rfl; exact rfl))
                  | ((with_reducible apply w_mkf (cs := [.pointer _])); exact rfl)
                  | ((with_reducible apply w_pure (v := .int _ _)); exact rfl; exact rfl))
                | with_reducible refine w_seq ?_
                | with_reducible refine w_nil ?_
                | with_reducible refine w_region ?_
                | with_reducible refine w_block ?_
                | ((with_reducible apply w_ifd); exact rfl; all_goals (intro hc; first | (exfalso; omega) | skip)))
              refine w_rq (contains_run l x n2 _ _ _ (by simp (disch := omega) only [upd_same]; rfl) (by omega) (by omega)) (fun _ => rfl) ?_
              rintro _ rfl
              cases hw : (l.any fun y => holdsS y x) with
              | true =>
                rw [hw, if_pos rfl] at hgo
                repeat' (first
                  | ((with_reducible apply g_op); first
                    | ((with_reducible apply g_move); first
                      | ((with_reducible apply w_pure (v := .int _ _)); exact rfl; exact rfl)
                      | ((with_reducible apply w_pure (v := .bool _)); exact rfl; exact rfl))
                    | ((with_reducible apply g_bin); first
                      | ((with_reducible apply w_wrap); exact rfl; exact rfl; first | exact i64_in _ (by omega) | exact u64_in _ (by omega) | exact u8_in _ (by omega)))
                    | ((with_reducible apply g_assign); first
                      | ((with_reducible apply w_pure (v := .bool _)); exact rfl; exact rfl))
                    | ((with_reducible apply w_pure (v := .bool _)); exact rfl; exact rfl))
                  | with_reducible refine w_seq ?_
                  | with_reducible refine w_nil ?_
                  | with_reducible refine w_region ?_
                  | with_reducible refine w_skip ?_
                  | with_reducible refine w_blk ?_
                  | ((with_reducible apply w_no); exact rfl))
                exact ih (lo, dy+1, en, et) _ _ _ (by repeat' (first | with_reducible exact Fr.mix | with_reducible exact Fr.rfl' | with_reducible refine Fr.put ?_ ?_ | with_reducible refine Fr.mix2 ?_ ?_ | with_reducible refine Fr.put0 ?_ | exact rfl)) ⟨by push_cast; rfl, rfl, rfl, rfl, rfl, rfl, by simp (disch := omega) only [upd_ne]; exact hg, by omega, by dsimp only; omega, hgo⟩
              | false =>
                rw [hw, if_neg (by simp)] at hgo
                subst hgo
                repeat' (first
                  | ((with_reducible apply g_op); first
                    | ((with_reducible apply g_move); first
                      | ((with_reducible apply w_pure (v := .bool _)); exact rfl; exact rfl))
                    | ((with_reducible apply g_assign); first
                      | ((with_reducible apply w_pure (v := .int _ _)); exact rfl; exact rfl)
                      | ((with_reducible apply w_pure (v := .bool _)); exact rfl; exact rfl))
                    | ((with_reducible apply w_pure (v := .bool _)); exact rfl; exact rfl))
                  | ((with_reducible apply g_gd); first
                    | ((with_reducible apply w_pass); exact rfl))
                  | with_reducible refine w_seq ?_
                  | with_reducible refine w_nil ?_
                  | with_reducible refine w_region ?_
                  | with_reducible refine w_blk ?_
                  | ((with_reducible apply w_exit); exact rfl)
                  | ((with_reducible apply w_yes); exact rfl)
                  | ((with_reducible apply w_ret (v := .int _ _)); exact rfl))
                exact fr_plain rfl rfl
            · rw [if_neg ht2] at hgo
              repeat' (first
                | ((with_reducible apply g_op); first
                  | ((with_reducible apply g_load); first
                    | ((with_reducible apply w_load (v := .int _ _)); exact rfl; (first | assumption | (simp (disch := omega) only [upd_same, upd_ne]; first | done | assumption | exact rfl) | exact rfl); exact rfl))
                  | ((with_reducible apply g_move); first
                    | ((with_reducible apply w_pure (v := .int _ _)); exact rfl; exact rfl)
                    | ((with_reducible apply w_pure (v := .bool _)); exact rfl; exact rfl)
                    | ((with_reducible apply w_pure (v := .tuple _)); exact rfl; exact rfl))
                  | ((with_reducible apply g_bin); first
                    | ((with_reducible apply w_wrap); exact rfl; exact rfl; first | exact i64_in _ (by omega) | exact u64_in _ (by omega) | exact u8_in _ (by omega))
                    | ((with_reducible apply w_pure (v := .bool _)); exact rfl; exact rfl))
                  | ((with_reducible apply g_fld); first
                    | ((with_reducible apply w_fldp (o := 0)); exact rfl; exact rfl; exact rfl; exact (by decide)))
                  | ((with_reducible apply g_assign); first
                    | ((with_reducible apply w_pure (v := .int _ _)); exact rfl; exact rfl)
                    | ((with_reducible apply w_pure (v := .bool _)); exact rfl; exact rfl))
                  | ((with_reducible apply w_pure (v := .int _ _)); exact rfl; exact rfl)
                  | ((with_reducible apply w_pure (v := .bool _)); exact rfl; exact rfl))
                | with_reducible refine w_seq ?_
                | with_reducible refine w_nil ?_
                | with_reducible refine w_region ?_
                | with_reducible refine w_skip ?_
                | with_reducible refine w_block ?_
                | with_reducible refine w_blk ?_
                | ((with_reducible apply w_no); exact rfl)
                | ((with_reducible apply w_ifd); exact rfl; all_goals (intro hc; first | (exfalso; omega) | skip)))
              exact ih (lo, dy, en, et) _ _ _ (by repeat' (first | with_reducible exact Fr.mix | with_reducible exact Fr.rfl' | with_reducible refine Fr.put ?_ ?_ | with_reducible refine Fr.mix2 ?_ ?_ | with_reducible refine Fr.put0 ?_ | exact rfl)) ⟨by push_cast; rfl, rfl, rfl, rfl, rfl, rfl, by simp (disch := omega) only [upd_ne]; exact hg, by omega, by dsimp only; omega, hgo⟩
      · rintro ⟨lo, dy, en, et⟩ σ g2 n2 ⟨k62, k6, k7, k8, k9, k10, hg, hn, hb, hgo⟩
        dsimp only at k6 k7 k8 k10 hb hgo
        refine w_keep (i := 62) k62 (w_keep (i := 6) k6 (w_keep (i := 7) k7 (w_keep (i := 8) k8 (w_keep (i := 9) k9 (w_keep (i := 10) k10 ?_)))))
        subst hgo
        cases et
        · repeat' (first
            | ((with_reducible apply g_op); first
              | ((with_reducible apply g_move); first
                | ((with_reducible apply w_pure (v := .int _ _)); exact rfl; exact rfl)
                | ((with_reducible apply w_pure (v := .bool _)); exact rfl; exact rfl))
              | ((with_reducible apply g_bin); first
                | ((with_reducible apply w_pure (v := .bool _)); exact rfl; exact rfl))
              | ((with_reducible apply g_pick); first
                | ((with_reducible apply w_pk1 (v := .bool _)); exact rfl; exact rfl; (first | assumption | exact decide_eq_true (by assumption) | exact decide_eq_false (by assumption) | exact decide_eq_true (by omega) | exact decide_eq_false (by omega) | exact beq_iff_eq.2 (by omega) | exact beq_eq_false_iff_ne.2 (by omega) | exact bne_iff_ne.2 (by omega) | exact bne_eq_false_iff_eq.2 (by omega)))
                | ((with_reducible apply w_pk0 (v := .bool _)); exact rfl; exact rfl; (first | assumption | exact decide_eq_true (by assumption) | exact decide_eq_false (by assumption) | exact decide_eq_true (by omega) | exact decide_eq_false (by omega) | exact beq_iff_eq.2 (by omega) | exact beq_eq_false_iff_ne.2 (by omega) | exact bne_iff_ne.2 (by omega) | exact bne_eq_false_iff_eq.2 (by omega))))
              | ((with_reducible apply g_assign); first
                | ((with_reducible apply w_pure (v := .int _ _)); exact rfl; exact rfl))
              | ((with_reducible apply w_pure (v := .bool _)); exact rfl; exact rfl))
            | ((with_reducible apply g_gd); first
              | ((with_reducible apply w_want); exact rfl)
              | ((with_reducible apply w_pass); exact rfl)
              | ((with_reducible apply w_gd_f); exact rfl; all_goals (intro hc; first | (exfalso; omega) | skip)))
            | with_reducible refine w_seq ?_
            | with_reducible refine w_nil ?_
            | with_reducible refine w_region ?_
            | ((with_reducible apply w_exit); exact rfl)
            | ((with_reducible apply w_yes); exact rfl)
            | ((with_reducible apply w_ifd); exact rfl; all_goals (intro hc; first | (exfalso; omega) | skip))
            | ((with_reducible apply w_ret (v := .int _ _)); exact rfl))
          all_goals refine fr_plain rfl ?_
          all_goals by_cases q1 : lo = 0
          all_goals by_cases q2 : dy ≤ 1
          all_goals first | (exfalso; omega) | simp [q1, q2, errV, endS, chk]
        · repeat' (first
            | ((with_reducible apply g_op); first
              | ((with_reducible apply g_move); first
                | ((with_reducible apply w_pure (v := .int _ _)); exact rfl; exact rfl)
                | ((with_reducible apply w_pure (v := .bool _)); exact rfl; exact rfl))
              | ((with_reducible apply g_bin); first
                | ((with_reducible apply w_pure (v := .bool _)); exact rfl; exact rfl))
              | ((with_reducible apply g_pick); first
                | ((with_reducible apply w_pk1 (v := .bool _)); exact rfl; exact rfl; (first | assumption | exact decide_eq_true (by assumption) | exact decide_eq_false (by assumption) | exact decide_eq_true (by omega) | exact decide_eq_false (by omega) | exact beq_iff_eq.2 (by omega) | exact beq_eq_false_iff_ne.2 (by omega) | exact bne_iff_ne.2 (by omega) | exact bne_eq_false_iff_eq.2 (by omega)))
                | ((with_reducible apply w_pk0 (v := .bool _)); exact rfl; exact rfl; (first | assumption | exact decide_eq_true (by assumption) | exact decide_eq_false (by assumption) | exact decide_eq_true (by omega) | exact decide_eq_false (by omega) | exact beq_iff_eq.2 (by omega) | exact beq_eq_false_iff_ne.2 (by omega) | exact bne_iff_ne.2 (by omega) | exact bne_eq_false_iff_eq.2 (by omega))))
              | ((with_reducible apply g_assign); first
                | ((with_reducible apply w_pure (v := .int _ _)); exact rfl; exact rfl))
              | ((with_reducible apply w_pure (v := .bool _)); exact rfl; exact rfl))
            | ((with_reducible apply g_gd); first
              | ((with_reducible apply w_want); exact rfl)
              | ((with_reducible apply w_pass); exact rfl)
              | ((with_reducible apply w_gd_f); exact rfl; all_goals (intro hc; first | (exfalso; omega) | skip)))
            | with_reducible refine w_seq ?_
            | with_reducible refine w_nil ?_
            | with_reducible refine w_region ?_
            | with_reducible refine w_skip ?_
            | ((with_reducible apply w_exit); exact rfl)
            | ((with_reducible apply w_yes); exact rfl)
            | ((with_reducible apply w_no); exact rfl)
            | ((with_reducible apply w_ifd); exact rfl; all_goals (intro hc; first | (exfalso; omega) | skip))
            | ((with_reducible apply w_ret (v := .int _ _)); exact rfl))
          all_goals refine fr_plain rfl ?_
          all_goals by_cases q1 : lo = 0
          all_goals by_cases q2 : dy ≤ 1
          all_goals first | (exfalso; omega) | simp [q1, q2, errV, endS, chk]
    · obtain ⟨R, hR⟩ : ∃ R, chk l z e l 0 0 0 (decide (e = 0)) = R := ⟨_, rfl⟩
      rw [show decide ((3 : Int) = 3 ∧ e = 0) = decide (e = 0) by simp, hR]
      repeat' (first
        | ((with_reducible apply g_op); first
          | ((with_reducible apply g_load); first
            | ((with_reducible apply w_load (v := .int _ _)); exact rfl; (first | assumption | (simp (disch := omega) only [upd_same, upd_ne]; first | done | assumption | exact rfl) | exact rfl); exact rfl)
            | ((with_reducible apply w_load (v := .func _ _ _)); exact rfl; (first | assumption | (simp (disch := omega) only [upd_same, upd_ne]; first | done | assumption | exact rfl) | exact rfl); exact rfl))
          | ((with_reducible apply g_move); first
            | ((with_reducible apply w_pure (v := .int _ _)); exact rfl; exact rfl)
            | ((with_reducible apply w_pure (v := .bool _)); exact rfl; exact rfl))
          | ((with_reducible apply g_bin); first
            | ((with_reducible apply w_wrap); exact rfl; exact rfl; first | exact i64_in _ (by omega) | exact u64_in _ (by omega) | exact u8_in _ (by omega))
            | ((with_reducible apply w_pure (v := .bool _)); exact rfl; exact rfl))
          | ((with_reducible apply g_fld); first
            | ((with_reducible apply w_fldp (o := 0)); exact rfl; exact rfl; exact rfl; exact (by decide))
            | ((with_reducible apply w_fldp (o := 1)); exact rfl; exact rfl; exact rfl; exact (by decide))
            | ((with_reducible apply w_fldp (o := 2)); exact rfl; exact rfl; exact rfl; exact (by decide)))
          | ((with_reducible apply g_pick); first
            | ((with_reducible apply w_pk1 (v := .bool _)); exact rfl; exact rfl; (first | assumption | exact decide_eq_true (by assumption) | exact decide_eq_false (by assumption) | exact decide_eq_true (by omega) | exact decide_eq_false (by omega) | exact beq_iff_eq.2 (by omega) | exact beq_eq_false_iff_ne.2 (by omega) | exact bne_iff_ne.2 (by omega) | exact bne_eq_false_iff_eq.2 (by omega)))
            | ((with_reducible apply w_pk0 (v := .bool _)); exact rfl; exact rfl; (first | assumption | exact decide_eq_true (by assumption) | exact decide_eq_false (by assumption) | exact decide_eq_true (by omega) | exact decide_eq_false (by omega) | exact beq_iff_eq.2 (by omega) | exact beq_eq_false_iff_ne.2 (by omega) | exact bne_iff_ne.2 (by omega) | exact bne_eq_false_iff_eq.2 (by omega))))
          | ((with_reducible apply g_assign); first
            | ((with_reducible apply w_pure (v := .int _ _)); exact rfl; exact rfl)
            | ((with_reducible apply w_pure (v := .bool _)); exact rfl; exact rfl))
          | ((with_reducible apply g_call); first
            | ((with_reducible apply w_call (v := .int _ _)); exact rfl))
          | ((with_reducible apply g_box); first
            | ((with_reducible apply w_box (vs := [_, _, _])); exact rfl; exact rfl)))
        | ((with_reducible apply g_gd); first
          | ((with_reducible apply w_want); exact rfl)
          | ((with_reducible apply w_gd_f); exact rfl; all_goals (intro hc; first | (exfalso; omega) | skip)))
        | with_reducible refine w_seq ?_
        | with_reducible refine w_nil ?_
        | with_reducible refine w_region ?_
        | with_reducible refine w_skip ?_
        | with_reducible refine w_block ?_
        | with_reducible refine w_label ?_
        | with_reducible refine w_scope ?_
        | ((with_reducible apply w_ifd); exact rfl; all_goals (intro hc; first | (exfalso; omega) | skip)))
      refine w_rngK [(6, 10), (12, 14), (62, 103)] l (fun i rest (b : Int × Int × Int × Bool) σ g' n' => σ 62 = .int .i64 (i : Nat) ∧ σ 6 = .int .i64 b.1 ∧ σ 7 = .int .i64 b.2.1 ∧ σ 8 = .int .i64 b.2.2.1 ∧ σ 9 = .bool true ∧ σ 10 = .bool b.2.2.2 ∧ g' n = some (.cells 24 [.int .i64 3, .int .i64 e, rv tg l]) ∧ n < n' ∧ (0 ≤ b.1 ∧ b.1 ≤ i ∧ 0 ≤ b.2.1 ∧ b.2.1 ≤ i) ∧ chk l z e rest b.1 b.2.1 b.2.2.1 b.2.2.2 = R) ?_ ?_ (0, 0, 0, decide (e = 0)) ⟨rfl, rfl, rfl, rfl, rfl, rfl, upd_same, by omega, by simp, hR⟩
      · rintro i x rest ⟨lo, dy, en, et⟩ σ g2 n2 hx hlt ⟨k62, k6, k7, k8, k9, k10, hg, hn, hb, hgo⟩ ih
        dsimp only at k6 k7 k8 k10 hb hgo
        refine w_keep (i := 62) k62 (w_keep (i := 6) k6 (w_keep (i := 7) k7 (w_keep (i := 8) k8 (w_keep (i := 9) k9 (w_keep (i := 10) k10 ?_)))))
        repeat' (first
          | ((with_reducible apply g_op); first
            | ((with_reducible apply g_load); first
              | ((with_reducible apply w_fl (v := .agg #[_, _, _, _, _, _, _])); exact rfl; exact (fun _ => rfl); assumption; exact rfl)
              | ((with_reducible apply w_load (v := .agg #[_, _, _, _, _, _, _])); exact rfl; (first | assumption | (simp (disch := omega) only [upd_same, upd_ne]; first | done | assumption | exact rfl) | exact rfl); exact rfl))
            | ((with_reducible apply g_move); first
              | ((with_reducible apply w_pure (v := .int _ _)); exact rfl; exact rfl))
            | ((with_reducible apply g_bin); first
              | ((with_reducible apply w_pure (v := .bool _)); exact rfl; exact rfl))
            | ((with_reducible apply g_store); first
              | ((with_reducible apply w_store (us := [_, _, _, _, _, _, _]) (ws := [_, _, _, _, _, _, _])); exact rfl; exact rfl; (first | assumption | (simp (disch := omega) only [upd_same, upd_ne]; first | done | assumption | exact rfl) | exact rfl); omega; exact rfl; exact rfl; exact rfl))
            | ((with_reducible apply g_ix); first
              | ((with_reducible apply w_fx (sz := 7)); exact rfl; exact rfl; exact rfl; exact rfl; exact rfl; exact (fun _ => rfl); assumption; exact rfl))
            | ((with_reducible apply w_alloc (ls := [_, _, _, _, _, _, _])); exact rfl; exact rfl))
          | with_reducible refine w_seq ?_
          | with_reducible refine w_nil ?_
          | with_reducible refine w_region ?_
          | with_reducible refine w_skip ?_
          | with_reducible refine w_block ?_
          | ((with_reducible apply w_ifd); exact rfl; all_goals (intro hc; first | (exfalso; omega) | skip)))
        refine w_rq (seg_run x z _ _ _) (fun _ => rfl) ?_
        rintro _ rfl
        simp only [chk] at hgo
        cases hs : segS x z with
        | false =>
          rw [hs, if_neg (by simp)] at hgo
          subst hgo
          repeat' (first
            | ((with_reducible apply g_op); first
              | ((with_reducible apply g_move); first
                | ((with_reducible apply w_pure (v := .bool _)); exact rfl; exact rfl))
              | ((with_reducible apply g_assign); first
                | ((with_reducible apply w_pure (v := .int _ _)); exact rfl; exact rfl)
                | ((with_reducible apply w_pure (v := .bool _)); exact rfl; exact rfl))
              | ((with_reducible apply w_pure (v := .bool _)); exact rfl; exact rfl))
            | ((with_reducible apply g_gd); first
              | ((with_reducible apply w_pass); exact rfl))
            | with_reducible refine w_seq ?_
            | with_reducible refine w_nil ?_
            | with_reducible refine w_region ?_
            | ((with_reducible apply w_exit); exact rfl)
            | ((with_reducible apply w_yes); exact rfl)
            | ((with_reducible apply w_ret (v := .int _ _)); exact rfl))
          exact fr_plain rfl rfl
        | true =>
          rw [if_pos hs] at hgo
          have hok := seg_ok hs
          repeat' (first
            | ((with_reducible apply g_op); first
              | ((with_reducible apply g_load); first
                | ((with_reducible apply w_load (v := .agg #[_, _, _, _, _, _, _])); exact rfl; (first | assumption | (simp (disch := omega) only [upd_same, upd_ne]; first | done | assumption | exact rfl) | exact rfl); exact rfl))
              | ((with_reducible apply g_move); first
                | ((with_reducible apply w_pure (v := .bool _)); exact rfl; exact rfl))
              | ((with_reducible apply g_assign); first
                | ((with_reducible apply w_pure (v := .bool _)); exact rfl; exact rfl))
              | ((with_reducible apply w_pure (v := .bool _)); exact rfl; exact rfl))
            | with_reducible refine w_seq ?_
            | with_reducible refine w_nil ?_
            | with_reducible refine w_region ?_
            | with_reducible refine w_skip ?_
            | ((with_reducible apply w_no); exact rfl))
          refine w_rq (pages_run x hok _ _ _) (fun _ => rfl) ?_
          rintro _ rfl
          by_cases ht1 : x.ty = 1
          · rw [if_pos ht1] at hgo
            by_cases hf : firstS x ≥ en
            · rw [if_pos hf] at hgo
              cases et with
              | true =>
                repeat' (first
                  | ((with_reducible apply g_op); first
                    | ((with_reducible apply g_load); first
                      | ((with_reducible apply w_load (v := .int _ _)); exact rfl; (first | assumption | (simp (disch := omega) only [upd_same, upd_ne]; first | done | assumption | exact rfl) | exact rfl); exact rfl))
                    | ((with_reducible apply g_move); first
                      | ((with_reducible apply w_pure (v := .int _ _)); exact rfl; exact rfl)
                      | ((with_reducible apply w_pure (v := .bool _)); exact rfl; exact rfl)
                      | ((with_reducible apply w_pure (v := .tuple _)); exact rfl; exact rfl))
                    | ((with_reducible apply g_bin); first
                      | ((with_reducible apply w_wrap); exact rfl; exact rfl; first | exact i64_in _ (by omega) | exact u64_in _ (by omega) | exact u8_in _ (by omega))
                      | ((with_reducible apply w_pure (v := .bool _)); exact rfl; exact rfl))
                    | ((with_reducible apply g_fld); first
                      | ((with_reducible apply w_fldp (o := 0)); exact rfl; exact rfl; exact rfl; exact (by decide)))
                    | ((with_reducible apply g_assign); first
                      | ((with_reducible apply w_pure (v := .int _ _)); exact rfl; exact rfl)
                      | ((with_reducible apply w_pure (v := .bool _)); exact rfl; exact rfl))
                    | ((with_reducible apply w_notd); exact rfl)
                    | ((with_reducible apply w_pure (v := .int _ _)); exact rfl; exact rfl)
                    | ((with_reducible apply w_pure (v := .bool _)); exact rfl; exact rfl))
                  | ((with_reducible apply g_gd); first
                    | ((with_reducible apply w_pass); exact rfl))
                  | with_reducible refine w_seq ?_
                  | with_reducible refine w_nil ?_
                  | with_reducible refine w_region ?_
                  | with_reducible refine w_skip ?_
                  | with_reducible refine w_block ?_
                  | with_reducible refine w_blk ?_
                  | ((with_reducible apply w_ifd); exact rfl; all_goals (intro hc; first | (exfalso; omega) | skip)))
                exact ih (lo+1, dy, lastS x, true) _ _ _ (by repeat' (first | with_reducible exact Fr.mix | with_reducible exact Fr.rfl' | with_reducible refine Fr.put ?_ ?_ | with_reducible refine Fr.mix2 ?_ ?_ | with_reducible refine Fr.put0 ?_ | exact rfl)) ⟨by push_cast; rfl, rfl, rfl, rfl, congrArg Value.bool (decide_eq_true hf), rfl, by simp (disch := omega) only [upd_ne]; exact hg, by omega, by dsimp only; omega, hgo⟩
              | false =>
                repeat' (first
                  | ((with_reducible apply g_op); first
                    | ((with_reducible apply g_load); first
                      | ((with_reducible apply w_load (v := .int _ _)); exact rfl; (first | assumption | (simp (disch := omega) only [upd_same, upd_ne]; first | done | assumption | exact rfl) | exact rfl); exact rfl)
                      | ((with_reducible apply w_load (v := .agg #[_, _, _, _, _, _, _])); exact rfl; (first | assumption | (simp (disch := omega) only [upd_same, upd_ne]; first | done | assumption | exact rfl) | exact rfl); exact rfl))
                    | ((with_reducible apply g_move); first
                      | ((with_reducible apply w_pure (v := .int _ _)); exact rfl; exact rfl)
                      | ((with_reducible apply w_pure (v := .bool _)); exact rfl; exact rfl)
                      | ((with_reducible apply w_pure (v := .tuple _)); exact rfl; exact rfl))
                    | ((with_reducible apply g_bin); first
                      | ((with_reducible apply w_wrap); exact rfl; exact rfl; first | exact i64_in _ (by omega) | exact u64_in _ (by omega) | exact u8_in _ (by omega))
                      | ((with_reducible apply w_pure (v := .bool _)); exact rfl; exact rfl))
                    | ((with_reducible apply g_fld); first
                      | ((with_reducible apply w_fldp (o := 0)); exact rfl; exact rfl; exact rfl; exact (by decide))
                      | ((with_reducible apply w_fldp (o := 1)); exact rfl; exact rfl; exact rfl; exact (by decide)))
                    | ((with_reducible apply g_assign); first
                      | ((with_reducible apply w_pure (v := .int _ _)); exact rfl; exact rfl)
                      | ((with_reducible apply w_pure (v := .bool _)); exact rfl; exact rfl))
                    | ((with_reducible apply w_pure (v := .int _ _)); exact rfl; exact rfl))
                  | ((with_reducible apply g_gd); first
                    | ((with_reducible apply w_want); exact rfl))
                  | with_reducible refine w_seq ?_
                  | with_reducible refine w_nil ?_
                  | with_reducible refine w_region ?_
                  | with_reducible refine w_block ?_
                  | ((with_reducible apply w_ifd); exact rfl; all_goals (intro hc; first | (exfalso; omega) | skip)))
                refine w_rq (begins_run x hok e _ _ _) (fun _ => rfl) ?_
                rintro _ rfl
                repeat' (first
                  | ((with_reducible apply g_op); first
                    | ((with_reducible apply g_move); first
                      | ((with_reducible apply w_pure (v := .int _ _)); exact rfl; exact rfl)
                      | ((with_reducible apply w_pure (v := .bool _)); exact rfl; exact rfl))
                    | ((with_reducible apply g_bin); first
                      | ((with_reducible apply w_wrap); exact rfl; exact rfl; first | exact i64_in _ (by omega) | exact u64_in _ (by omega) | exact u8_in _ (by omega)))
                    | ((with_reducible apply g_assign); first
                      | ((with_reducible apply w_pure (v := .bool _)); exact rfl; exact rfl))
                    | ((with_reducible apply w_notd); exact rfl)
                    | ((with_reducible apply w_pure (v := .bool _)); exact rfl; exact rfl))
                  | with_reducible refine w_seq ?_
                  | with_reducible refine w_nil ?_
                  | with_reducible refine w_region ?_
                  | with_reducible refine w_skip ?_
                  | with_reducible refine w_blk ?_
                  | ((with_reducible apply w_ifd); exact rfl; all_goals (intro hc; first | (exfalso; omega) | skip)))
                exact ih (lo+1, dy, lastS x, beginsS x e) _ _ _ (by repeat' (first | with_reducible exact Fr.mix | with_reducible exact Fr.rfl' | with_reducible refine Fr.put ?_ ?_ | with_reducible refine Fr.mix2 ?_ ?_ | with_reducible refine Fr.put0 ?_ | exact rfl)) ⟨by push_cast; rfl, rfl, rfl, rfl, congrArg Value.bool (decide_eq_true hf), rfl, by simp (disch := omega) only [upd_ne]; exact hg, by omega, by dsimp only; omega, hgo⟩
            · rw [if_neg hf] at hgo
              subst hgo
              cases et with
              | true =>
                repeat' (first
                  | ((with_reducible apply g_op); first
                    | ((with_reducible apply g_load); first
                      | ((with_reducible apply w_load (v := .int _ _)); exact rfl; (first | assumption | (simp (disch := omega) only [upd_same, upd_ne]; first | done | assumption | exact rfl) | exact rfl); exact rfl))
                    | ((with_reducible apply g_move); first
                      | ((with_reducible apply w_pure (v := .int _ _)); exact rfl; exact rfl)
                      | ((with_reducible apply w_pure (v := .bool _)); exact rfl; exact rfl)
                      | ((with_reducible apply w_pure (v := .tuple _)); exact rfl; exact rfl))
                    | ((with_reducible apply g_bin); first
                      | ((with_reducible apply w_wrap); exact rfl; exact rfl; first | exact i64_in _ (by omega) | exact u64_in _ (by omega) | exact u8_in _ (by omega))
                      | ((with_reducible apply w_pure (v := .bool _)); exact rfl; exact rfl))
                    | ((with_reducible apply g_fld); first
                      | ((with_reducible apply w_fldp (o := 0)); exact rfl; exact rfl; exact rfl; exact (by decide)))
                    | ((with_reducible apply g_pick); first
                      | ((with_reducible apply w_pk1 (v := .bool _)); exact rfl; exact rfl; (first | assumption | exact decide_eq_true (by assumption) | exact decide_eq_false (by assumption) | exact decide_eq_true (by omega) | exact decide_eq_false (by omega) | exact beq_iff_eq.2 (by omega) | exact beq_eq_false_iff_ne.2 (by omega) | exact bne_iff_ne.2 (by omega) | exact bne_eq_false_iff_eq.2 (by omega))))
                    | ((with_reducible apply g_assign); first
                      | ((with_reducible apply w_pure (v := .int _ _)); exact rfl; exact rfl)
                      | ((with_reducible apply w_pure (v := .bool _)); exact rfl; exact rfl))
                    | ((with_reducible apply w_notd); exact rfl)
                    | ((with_reducible apply w_pure (v := .int _ _)); exact rfl; exact rfl)
                    | ((with_reducible apply w_pure (v := .bool _)); exact rfl; exact rfl))
                  | ((with_reducible apply g_gd); first
                    | ((with_reducible apply w_pass); exact rfl)
                    | ((with_reducible apply w_gd_f); exact rfl; all_goals (intro hc; first | (exfalso; omega) | skip)))
                  | with_reducible refine w_seq ?_
                  | with_reducible refine w_nil ?_
                  | with_reducible refine w_region ?_
                  | with_reducible refine w_block ?_
                  | with_reducible refine w_blk ?_
                  | ((with_reducible apply w_exit); exact rfl)
                  | ((with_reducible apply w_yes); exact rfl)
                  | ((with_reducible apply w_ifd); exact rfl; all_goals (intro hc; first | (exfalso; omega) | skip))
                  | ((with_reducible apply w_ret (v := .int _ _)); exact rfl))
                exact fr_plain rfl rfl
              | false =>
                repeat' (first
                  | ((with_reducible apply g_op); first
                    | ((with_reducible apply g_load); first
                      | ((with_reducible apply w_load (v := .int _ _)); exact rfl; (first | assumption | (simp (disch := omega) only [upd_same, upd_ne]; first | done | assumption | exact rfl) | exact rfl); exact rfl)
                      | ((with_reducible apply w_load (v := .agg #[_, _, _, _, _, _, _])); exact rfl; (first | assumption | (simp (disch := omega) only [upd_same, upd_ne]; first | done | assumption | exact rfl) | exact rfl); exact rfl))
                    | ((with_reducible apply g_move); first
                      | ((with_reducible apply w_pure (v := .int _ _)); exact rfl; exact rfl)
                      | ((with_reducible apply w_pure (v := .bool _)); exact rfl; exact rfl)
                      | ((with_reducible apply w_pure (v := .tuple _)); exact rfl; exact rfl))
                    | ((with_reducible apply g_bin); first
                      | ((with_reducible apply w_wrap); exact rfl; exact rfl; first | exact i64_in _ (by omega) | exact u64_in _ (by omega) | exact u8_in _ (by omega))
                      | ((with_reducible apply w_pure (v := .bool _)); exact rfl; exact rfl))
                    | ((with_reducible apply g_fld); first
                      | ((with_reducible apply w_fldp (o := 0)); exact rfl; exact rfl; exact rfl; exact (by decide))
                      | ((with_reducible apply w_fldp (o := 1)); exact rfl; exact rfl; exact rfl; exact (by decide)))
                    | ((with_reducible apply g_assign); first
                      | ((with_reducible apply w_pure (v := .int _ _)); exact rfl; exact rfl)
                      | ((with_reducible apply w_pure (v := .bool _)); exact rfl; exact rfl))
                    | ((with_reducible apply w_pure (v := .int _ _)); exact rfl; exact rfl))
                  | ((with_reducible apply g_gd); first
                    | ((with_reducible apply w_want); exact rfl))
                  | with_reducible refine w_seq ?_
                  | with_reducible refine w_nil ?_
                  | with_reducible refine w_region ?_
                  | with_reducible refine w_block ?_
                  | ((with_reducible apply w_ifd); exact rfl; all_goals (intro hc; first | (exfalso; omega) | skip)))
                refine w_rq (begins_run x hok e _ _ _) (fun _ => rfl) ?_
                rintro _ rfl
                repeat' (first
                  | ((with_reducible apply g_op); first
                    | ((with_reducible apply g_move); first
                      | ((with_reducible apply w_pure (v := .bool _)); exact rfl; exact rfl))
                    | ((with_reducible apply g_pick); first
                      | ((with_reducible apply w_pk1 (v := .bool _)); exact rfl; exact rfl; (first | assumption | exact decide_eq_true (by assumption) | exact decide_eq_false (by assumption) | exact decide_eq_true (by omega) | exact decide_eq_false (by omega) | exact beq_iff_eq.2 (by omega) | exact beq_eq_false_iff_ne.2 (by omega) | exact bne_iff_ne.2 (by omega) | exact bne_eq_false_iff_eq.2 (by omega))))
                    | ((with_reducible apply g_assign); first
                      | ((with_reducible apply w_pure (v := .int _ _)); exact rfl; exact rfl)
                      | ((with_reducible apply w_pure (v := .bool _)); exact rfl; exact rfl))
                    | ((with_reducible apply w_notd); exact rfl)
                    | ((with_reducible apply w_pure (v := .bool _)); exact rfl; exact rfl))
                  | ((with_reducible apply g_gd); first
                    | ((with_reducible apply w_pass); exact rfl)
                    | ((with_reducible apply w_gd_f); exact rfl; all_goals (intro hc; first | (exfalso; omega) | skip)))
                  | with_reducible refine w_seq ?_
                  | with_reducible refine w_nil ?_
                  | with_reducible refine w_region ?_
                  | with_reducible refine w_blk ?_
                  | ((with_reducible apply w_exit); exact rfl)
                  | ((with_reducible apply w_yes); exact rfl)
                  | ((with_reducible apply w_ifd); exact rfl; all_goals (intro hc; first | (exfalso; omega) | skip))
                  | ((with_reducible apply w_ret (v := .int _ _)); exact rfl))
                exact fr_plain rfl rfl
          · rw [if_neg ht1] at hgo
            by_cases ht2 : x.ty = 2
            · rw [if_pos ht2] at hgo
              repeat' (first
                | ((with_reducible apply g_op); first
                  | ((with_reducible apply g_load); first
                    | ((with_reducible apply w_load (v := .int _ _)); exact rfl; (first | assumption | (simp (disch := omega) only [upd_same, upd_ne]; first | done | assumption | exact rfl) | exact rfl); exact rfl)
                    | ((with_reducible apply w_load (v := .func _ _ _)); exact rfl; (first | assumption | (simp (disch := omega) only [upd_same, upd_ne]; first | done | assumption | exact rfl) | exact rfl); exact rfl))
                  | ((with_reducible apply g_move); first
                    | ((with_reducible apply w_pure (v := .int _ _)); exact rfl; exact rfl)
                    | ((with_reducible apply w_pure (v := .tuple _)); exact rfl; exact rfl))
                  | ((with_reducible apply g_bin); first
                    | ((with_reducible apply w_wrap); exact rfl; exact rfl; first | exact i64_in _ (by omega) | exact u64_in _ (by omega) | exact u8_in _ (by omega))
                    | ((with_reducible apply w_pure (v := .bool _)); exact rfl; exact rfl))
                  | ((with_reducible apply g_fld); first
                    | ((with_reducible apply w_fldp (o := 0)); exact rfl; exact rfl; exact rfl; exact (by decide))
                    | ((with_reducible apply w_fldp (o := 2)); exact rfl; exact rfl; exact rfl; exact (by decide)))
                  | ((with_reducible apply g_assign); first
                    | ((with_reducible apply w_pure (v := .int _ _)); exact rfl; exact rfl)
                    | ((with_reducible apply w_pure (v := .bool _)); exact rfl; exact rfl))
                  | ((with_reducible apply w_mkf (cs := [.pointer _])); exact rfl)
                  | ((with_reducible apply w_pure (v := .int _ _)); exact rfl; exact rfl))
                | with_reducible refine w_seq ?_
                | with_reducible refine w_nil ?_
                | with_reducible refine w_region ?_
                | with_reducible refine w_block ?_
                | ((with_reducible apply w_ifd); exact rfl; all_goals (intro hc; first | (exfalso; omega) | skip)))
              refine w_rq (contains_run l x n2 _ _ _ (by simp (disch := omega) only [upd_same]; rfl) (by omega) (by omega)) (fun _ => rfl) ?_
              rintro _ rfl
              cases hw : (l.any fun y => holdsS y x) with
              | true =>
                rw [hw, if_pos rfl] at hgo
                repeat' (first
                  | ((with_reducible apply g_op); first
                    | ((with_reducible apply g_move); first
                      | ((with_reducible apply w_pure (v := .int _ _)); exact rfl; exact rfl)
                      | ((with_reducible apply w_pure (v := .bool _)); exact rfl; exact rfl))
                    | ((with_reducible apply g_bin); first
                      | ((with_reducible apply w_wrap); exact rfl; exact rfl; first | exact i64_in _ (by omega) | exact u64_in _ (by omega) | exact u8_in _ (by omega)))
                    | ((with_reducible apply g_assign); first
                      | ((with_reducible apply w_pure (v := .bool _)); exact rfl; exact rfl))
                    | ((with_reducible apply w_pure (v := .bool _)); exact rfl; exact rfl))
                  | with_reducible refine w_seq ?_
                  | with_reducible refine w_nil ?_
                  | with_reducible refine w_region ?_
                  | with_reducible refine w_skip ?_
                  | with_reducible refine w_blk ?_
                  | ((with_reducible apply w_no); exact rfl))
                exact ih (lo, dy+1, en, et) _ _ _ (by repeat' (first | with_reducible exact Fr.mix | with_reducible exact Fr.rfl' | with_reducible refine Fr.put ?_ ?_ | with_reducible refine Fr.mix2 ?_ ?_ | with_reducible refine Fr.put0 ?_ | exact rfl)) ⟨by push_cast; rfl, rfl, rfl, rfl, rfl, rfl, by simp (disch := omega) only [upd_ne]; exact hg, by omega, by dsimp only; omega, hgo⟩
              | false =>
                rw [hw, if_neg (by simp)] at hgo
                subst hgo
                repeat' (first
                  | ((with_reducible apply g_op); first
                    | ((with_reducible apply g_move); first
                      | ((with_reducible apply w_pure (v := .bool _)); exact rfl; exact rfl))
                    | ((with_reducible apply g_assign); first
                      | ((with_reducible apply w_pure (v := .int _ _)); exact rfl; exact rfl)
                      | ((with_reducible apply w_pure (v := .bool _)); exact rfl; exact rfl))
                    | ((with_reducible apply w_pure (v := .bool _)); exact rfl; exact rfl))
                  | ((with_reducible apply g_gd); first
                    | ((with_reducible apply w_pass); exact rfl))
                  | with_reducible refine w_seq ?_
                  | with_reducible refine w_nil ?_
                  | with_reducible refine w_region ?_
                  | with_reducible refine w_blk ?_
                  | ((with_reducible apply w_exit); exact rfl)
                  | ((with_reducible apply w_yes); exact rfl)
                  | ((with_reducible apply w_ret (v := .int _ _)); exact rfl))
                exact fr_plain rfl rfl
            · rw [if_neg ht2] at hgo
              repeat' (first
                | ((with_reducible apply g_op); first
                  | ((with_reducible apply g_load); first
                    | ((with_reducible apply w_load (v := .int _ _)); exact rfl; (first | assumption | (simp (disch := omega) only [upd_same, upd_ne]; first | done | assumption | exact rfl) | exact rfl); exact rfl))
                  | ((with_reducible apply g_move); first
                    | ((with_reducible apply w_pure (v := .int _ _)); exact rfl; exact rfl)
                    | ((with_reducible apply w_pure (v := .bool _)); exact rfl; exact rfl)
                    | ((with_reducible apply w_pure (v := .tuple _)); exact rfl; exact rfl))
                  | ((with_reducible apply g_bin); first
                    | ((with_reducible apply w_wrap); exact rfl; exact rfl; first | exact i64_in _ (by omega) | exact u64_in _ (by omega) | exact u8_in _ (by omega))
                    | ((with_reducible apply w_pure (v := .bool _)); exact rfl; exact rfl))
                  | ((with_reducible apply g_fld); first
                    | ((with_reducible apply w_fldp (o := 0)); exact rfl; exact rfl; exact rfl; exact (by decide)))
                  | ((with_reducible apply g_assign); first
                    | ((with_reducible apply w_pure (v := .int _ _)); exact rfl; exact rfl)
                    | ((with_reducible apply w_pure (v := .bool _)); exact rfl; exact rfl))
                  | ((with_reducible apply w_pure (v := .int _ _)); exact rfl; exact rfl)
                  | ((with_reducible apply w_pure (v := .bool _)); exact rfl; exact rfl))
                | with_reducible refine w_seq ?_
                | with_reducible refine w_nil ?_
                | with_reducible refine w_region ?_
                | with_reducible refine w_skip ?_
                | with_reducible refine w_block ?_
                | with_reducible refine w_blk ?_
                | ((with_reducible apply w_no); exact rfl)
                | ((with_reducible apply w_ifd); exact rfl; all_goals (intro hc; first | (exfalso; omega) | skip)))
              exact ih (lo, dy, en, et) _ _ _ (by repeat' (first | with_reducible exact Fr.mix | with_reducible exact Fr.rfl' | with_reducible refine Fr.put ?_ ?_ | with_reducible refine Fr.mix2 ?_ ?_ | with_reducible refine Fr.put0 ?_ | exact rfl)) ⟨by push_cast; rfl, rfl, rfl, rfl, rfl, rfl, by simp (disch := omega) only [upd_ne]; exact hg, by omega, by dsimp only; omega, hgo⟩
      · rintro ⟨lo, dy, en, et⟩ σ g2 n2 ⟨k62, k6, k7, k8, k9, k10, hg, hn, hb, hgo⟩
        dsimp only at k6 k7 k8 k10 hb hgo
        refine w_keep (i := 62) k62 (w_keep (i := 6) k6 (w_keep (i := 7) k7 (w_keep (i := 8) k8 (w_keep (i := 9) k9 (w_keep (i := 10) k10 ?_)))))
        subst hgo
        cases et
        · repeat' (first
            | ((with_reducible apply g_op); first
              | ((with_reducible apply g_move); first
                | ((with_reducible apply w_pure (v := .int _ _)); exact rfl; exact rfl)
                | ((with_reducible apply w_pure (v := .bool _)); exact rfl; exact rfl))
              | ((with_reducible apply g_bin); first
                | ((with_reducible apply w_pure (v := .bool _)); exact rfl; exact rfl))
              | ((with_reducible apply g_pick); first
                | ((with_reducible apply w_pk1 (v := .bool _)); exact rfl; exact rfl; (first | assumption | exact decide_eq_true (by assumption) | exact decide_eq_false (by assumption) | exact decide_eq_true (by omega) | exact decide_eq_false (by omega) | exact beq_iff_eq.2 (by omega) | exact beq_eq_false_iff_ne.2 (by omega) | exact bne_iff_ne.2 (by omega) | exact bne_eq_false_iff_eq.2 (by omega)))
                | ((with_reducible apply w_pk0 (v := .bool _)); exact rfl; exact rfl; (first | assumption | exact decide_eq_true (by assumption) | exact decide_eq_false (by assumption) | exact decide_eq_true (by omega) | exact decide_eq_false (by omega) | exact beq_iff_eq.2 (by omega) | exact beq_eq_false_iff_ne.2 (by omega) | exact bne_iff_ne.2 (by omega) | exact bne_eq_false_iff_eq.2 (by omega))))
              | ((with_reducible apply g_assign); first
                | ((with_reducible apply w_pure (v := .int _ _)); exact rfl; exact rfl))
              | ((with_reducible apply w_pure (v := .bool _)); exact rfl; exact rfl))
            | ((with_reducible apply g_gd); first
              | ((with_reducible apply w_want); exact rfl)
              | ((with_reducible apply w_pass); exact rfl)
              | ((with_reducible apply w_gd_f); exact rfl; all_goals (intro hc; first | (exfalso; omega) | skip)))
            | with_reducible refine w_seq ?_
            | with_reducible refine w_nil ?_
            | with_reducible refine w_region ?_
            | ((with_reducible apply w_exit); exact rfl)
            | ((with_reducible apply w_yes); exact rfl)
            | ((with_reducible apply w_ifd); exact rfl; all_goals (intro hc; first | (exfalso; omega) | skip))
            | ((with_reducible apply w_ret (v := .int _ _)); exact rfl))
          all_goals refine fr_plain rfl ?_
          all_goals by_cases q1 : lo = 0
          all_goals by_cases q2 : dy ≤ 1
          all_goals first | (exfalso; omega) | simp [q1, q2, errV, endS, chk]
        · repeat' (first
            | ((with_reducible apply g_op); first
              | ((with_reducible apply g_move); first
                | ((with_reducible apply w_pure (v := .int _ _)); exact rfl; exact rfl)
                | ((with_reducible apply w_pure (v := .bool _)); exact rfl; exact rfl))
              | ((with_reducible apply g_bin); first
                | ((with_reducible apply w_pure (v := .bool _)); exact rfl; exact rfl))
              | ((with_reducible apply g_pick); first
                | ((with_reducible apply w_pk1 (v := .bool _)); exact rfl; exact rfl; (first | assumption | exact decide_eq_true (by assumption) | exact decide_eq_false (by assumption) | exact decide_eq_true (by omega) | exact decide_eq_false (by omega) | exact beq_iff_eq.2 (by omega) | exact beq_eq_false_iff_ne.2 (by omega) | exact bne_iff_ne.2 (by omega) | exact bne_eq_false_iff_eq.2 (by omega)))
                | ((with_reducible apply w_pk0 (v := .bool _)); exact rfl; exact rfl; (first | assumption | exact decide_eq_true (by assumption) | exact decide_eq_false (by assumption) | exact decide_eq_true (by omega) | exact decide_eq_false (by omega) | exact beq_iff_eq.2 (by omega) | exact beq_eq_false_iff_ne.2 (by omega) | exact bne_iff_ne.2 (by omega) | exact bne_eq_false_iff_eq.2 (by omega))))
              | ((with_reducible apply g_assign); first
                | ((with_reducible apply w_pure (v := .int _ _)); exact rfl; exact rfl))
              | ((with_reducible apply w_pure (v := .bool _)); exact rfl; exact rfl))
            | ((with_reducible apply g_gd); first
              | ((with_reducible apply w_want); exact rfl)
              | ((with_reducible apply w_pass); exact rfl)
              | ((with_reducible apply w_gd_f); exact rfl; all_goals (intro hc; first | (exfalso; omega) | skip)))
            | with_reducible refine w_seq ?_
            | with_reducible refine w_nil ?_
            | with_reducible refine w_region ?_
            | with_reducible refine w_skip ?_
            | ((with_reducible apply w_exit); exact rfl)
            | ((with_reducible apply w_yes); exact rfl)
            | ((with_reducible apply w_no); exact rfl)
            | ((with_reducible apply w_ifd); exact rfl; all_goals (intro hc; first | (exfalso; omega) | skip))
            | ((with_reducible apply w_ret (v := .int _ _)); exact rfl))
          all_goals refine fr_plain rfl ?_
          all_goals by_cases q1 : lo = 0
          all_goals by_cases q2 : dy ≤ 1
          all_goals first | (exfalso; omega) | simp [q1, q2, errV, endS, chk]
  · have e0 : okS ⟨k, e, l⟩ z = false := by
      unfold okS
      rw [decide_eq_false h0, Bool.false_and]
    rw [e0]
    repeat' (first
      | ((with_reducible apply g_op); first
        | ((with_reducible apply g_load); first
          | ((with_reducible apply w_load (v := .int _ _)); exact rfl; (first | assumption | (simp (disch := omega) only [upd_same, upd_ne]; first | done | assumption | exact rfl) | exact rfl); exact rfl)
          | ((with_reducible apply w_load (v := .func _ _ _)); exact rfl; (first | assumption | (simp (disch := omega) only [upd_same, upd_ne]; first | done | assumption | exact rfl) | exact rfl); exact rfl))
        | ((with_reducible apply g_move); first
          | ((with_reducible apply w_pure (v := .int _ _)); exact rfl; exact rfl)
          | ((with_reducible apply w_pure (v := .bool _)); exact rfl; exact rfl))
        | ((with_reducible apply g_bin); first
          | ((with_reducible apply w_wrap); exact rfl; exact rfl; first | exact i64_in _ (by omega) | exact u64_in _ (by omega) | exact u8_in _ (by omega))
          | ((with_reducible apply w_pure (v := .bool _)); exact rfl; exact rfl))
        | ((with_reducible apply g_fld); first
          | ((with_reducible apply w_fldp (o := 0)); exact rfl; exact rfl; exact rfl; exact (by decide))
          | ((with_reducible apply w_fldp (o := 1)); exact rfl; exact rfl; exact rfl; exact (by decide))
          | ((with_reducible apply w_fldp (o := 2)); exact rfl; exact rfl; exact rfl; exact (by decide)))
        | ((with_reducible apply g_pick); first
          | ((with_reducible apply w_pk1 (v := .bool _)); exact rfl; exact rfl; (first | assumption | exact decide_eq_true (by assumption) | exact decide_eq_false (by assumption) | exact decide_eq_true (by omega) | exact decide_eq_false (by omega) | exact beq_iff_eq.2 (by omega) | exact beq_eq_false_iff_ne.2 (by omega) | exact bne_iff_ne.2 (by omega) | exact bne_eq_false_iff_eq.2 (by omega)))
          | ((with_reducible apply w_pk0 (v := .bool _)); exact rfl; exact rfl; (first | assumption | exact decide_eq_true (by assumption) | exact decide_eq_false (by assumption) | exact decide_eq_true (by omega) | exact decide_eq_false (by omega) | exact beq_iff_eq.2 (by omega) | exact beq_eq_false_iff_ne.2 (by omega) | exact bne_iff_ne.2 (by omega) | exact bne_eq_false_iff_eq.2 (by omega))))
        | ((with_reducible apply g_assign); first
          | ((with_reducible apply w_pure (v := .int _ _)); exact rfl; exact rfl))
        | ((with_reducible apply g_call); first
          | ((with_reducible apply w_call (v := .int _ _)); exact rfl))
        | ((with_reducible apply g_box); first
          | ((with_reducible apply w_box (vs := [_, _, _])); exact rfl; exact rfl))
        | ((with_reducible apply w_pure (v := .bool _)); exact rfl; exact rfl))
      | ((with_reducible apply g_gd); first
        | ((with_reducible apply w_want); exact rfl)
        | ((with_reducible apply w_pass); exact rfl)
        | ((with_reducible apply w_gd_f); exact rfl; all_goals (intro hc; first | (exfalso; omega) | skip))
        | ((with_reducible apply w_gn_t); exact rfl; all_goals (intro hc; first | (exfalso; omega) | skip))
        | ((with_reducible apply w_gn_f); exact rfl; all_goals (intro hc; first | (exfalso; omega) | skip)))
      | with_reducible refine w_seq ?_
      | with_reducible refine w_nil ?_
      | with_reducible refine w_region ?_
      | with_reducible refine w_scope ?_
      | ((with_reducible apply w_yes); exact rfl)
      | ((with_reducible apply w_ifd); exact rfl; all_goals (intro hc; first | (exfalso; omega) | skip))
      | ((with_reducible apply w_ret (v := .int _ _)); exact rfl))
    all_goals first | (exfalso; omega) | exact fr_plain rfl rfl
end Go.Proofs.Ytohfbnpmhlpkhaa.L

