/- RegionMeets: walked, and its plain law. -/
import Derived.Test.Ytnlgindlmlbfiaac15H
namespace Go.Proofs.Ytnlgindlmlbfiaa.L.RegionMeets
open Go.L1 Go.IntWalk Go.Proofs.Ytnlgindlmlbfiaa.L
set_option linter.unusedVariables false
set_option maxHeartbeats 4000000
set_option linter.unusedSimpArgs false
def tab : Tb := L.T
theorem tabok : ∀ C : Cx, C.P = Try.prog → TbOk C tab := L.tabok
theorem may_lt {r : Rg} (h : may r = true) : 0 ≤ r.f ∧ r.f < r.t ∧ r.t ≤ 4096 := by
  have := of_decide_eq_true h
  omega
theorem add0 (r : Rg) : addS [] r = if may r then ([r], 0) else ([], 1) := by
  unfold addS
  cases h : may r with
  | false => rfl
  | true =>
    have := may_lt h
    have hp : putS [] r = [r] := by unfold putS; rw [if_neg (by omega)]; rfl
    simp [addGo, hp]
theorem put2 {s r : Rg} (h : may r = true) : putS [s] r = if one s r then [{ s with t := r.t }] else [s, r] := by
  have := may_lt h
  unfold putS
  rw [if_neg (by omega)]
  rfl
theorem put0' {r : Rg} (h : may r = true) : putS [] r = [r] := by
  have := may_lt h
  unfold putS; rw [if_neg (by omega)]; rfl
theorem add1 {r s : Rg} (hr : may r = true) (hs : may s = true) : addS [r] s = if r.f < s.t ∧ s.f < r.t then ([], 13) else if r.f ≥ s.t then (putS [s] r, 0) else (putS [r] s, 0) := by
  unfold addS
  rw [if_pos hs]
  by_cases h1 : r.f < s.t ∧ s.f < r.t
  · simp [addGo, h1]
  · by_cases h2 : r.f ≥ s.t
    · have h1' : ¬ (r.f < s.t ∧ s.f < r.t) := h1
      simp only [addGo]
      rw [if_neg h1, if_neg h1]
      rw [if_pos ⟨trivial, h2⟩, if_pos h2, put0' hs]; rfl
    · simp only [addGo]
      rw [if_neg h1, if_neg h1, if_neg (by simp; omega), if_neg h2, put0' hr]; rfl
theorem w64 {x : Int} (h : -9223372036854775808 ≤ x ∧ x ≤ 9223372036854775807) : IntKind.i64.wrap x = x := i64_in _ h
theorem pages2 {s r : Rg} (hs : may s = true) (hr : may r = true) (hm : ¬ (r.f < s.t ∧ s.f < r.t)) (h : s.t ≤ r.f) : pagesGo (putS [s] r) 0 = r.t - r.f + s.t - s.f := by
  have h1 := may_lt hs
  have h2 := may_lt hr
  rw [put2 hr]
  cases ho : one s r with
  | true =>
    have := of_decide_eq_true ho
    simp only [if_true, pagesGo]
    rw [w64 (x := r.t - s.f) (by omega), w64 (by omega)]
    omega
  | false =>
    simp only [Bool.false_eq_true, if_false, pagesGo]
    rw [w64 (x := s.t - s.f) (by omega), w64 (x := 0 + (s.t - s.f)) (by omega), w64 (x := r.t - r.f) (by omega), w64 (by omega)]
    omega
theorem len2 (s r : Rg) : (putS [s] r).length ≤ 2 := putS_len [s] r
theorem walk (a b : Rg) (g : Nat → Option Ob) (s : Nat) : Rn Try.prog T 3 [a.v, b.v] g s s (fun v _ _ => v = .bool true) := by
  refine c_open Try.func3 rfl rfl rfl rfl rfl rfl ?_
  repeat' (first
    | ((with_reducible apply g_op); first
      | ((with_reducible apply g_assign); first
        | ((with_reducible apply w_pure (v := .bool _)); exact rfl; exact rfl))
      | ((with_reducible apply g_box); first
        | ((with_reducible apply w_box (vs := [_, _, _, _, _, _])); exact rfl; exact rfl)))
    | with_reducible refine w_seq ?_
    | with_reducible refine w_nil ?_
    | with_reducible refine w_region ?_)
  refine w_rf awake_run (fun _ => rfl) sn_nil ?_
  rintro v rfl
  repeat' (first
    | ((with_reducible apply g_op); first
      | ((with_reducible apply g_load); first
        | ((with_reducible apply w_load (v := .agg #[_, _, _, _, _, _])); exact rfl; (first | assumption | (simp (disch := omega) only [upd_same, upd_ne]; first | done | assumption | exact rfl) | exact rfl); exact rfl)
        | ((with_reducible apply w_load (v := .agg #[_, _, _, _, _, _, _, _, _, _, _])); exact rfl; (first | assumption | (simp (disch := omega) only [upd_same, upd_ne]; first | done | assumption | exact rfl) | exact rfl); exact rfl))
      | ((with_reducible apply g_assign); first
        | ((with_reducible apply w_pure (v := .bool _)); exact rfl; exact rfl))
      | ((with_reducible apply g_store); first
        | ((with_reducible apply w_store (us := [_, _, _, _, _, _, _, _, _, _, _]) (ws := [_, _, _, _, _, _, _, _, _, _, _])); exact rfl; exact rfl; (first | assumption | (simp (disch := omega) only [upd_same, upd_ne]; first | done | assumption | exact rfl) | exact rfl); omega; exact rfl; exact rfl; exact rfl))
      | ((with_reducible apply g_build); first
        | ((with_reducible apply w_pure (v := .agg #[.int _ _, .int _ _, .int _ _, .int _ _, .bool _, .int _ _, .int _ _, .int _ _, .int _ _, .int _ _, .int _ _])); exact rfl; exact rfl))
      | ((with_reducible apply w_alloc (ls := [_, _, _, _, _, _, _, _, _, _, _])); exact rfl; exact rfl))
    | with_reducible refine w_seq ?_
    | with_reducible refine w_nil ?_
    | with_reducible refine w_region ?_)
  refine w_rq (small_run ⟨0, 0, 0, 0, true, a⟩ _ _ _) (fun _ => rfl) ?_
  rintro v rfl
  repeat' (first
    | ((with_reducible apply g_op); first
      | ((with_reducible apply g_load); first
        | ((with_reducible apply w_load (v := .agg #[_, _, _, _, _, _, _, _, _, _, _])); exact rfl; (first | assumption | (simp (disch := omega) only [upd_same, upd_ne]; first | done | assumption | exact rfl) | exact rfl); exact rfl))
      | ((with_reducible apply g_store); first
        | ((with_reducible apply w_store (us := [_, _, _, _, _, _]) (ws := [_, _, _, _, _, _])); exact rfl; exact rfl; (first | assumption | (simp (disch := omega) only [upd_same, upd_ne]; first | done | assumption | exact rfl) | exact rfl); omega; exact rfl; exact rfl; exact rfl))
      | ((with_reducible apply w_alloc (ls := [_, _, _, _, _, _])); exact rfl; exact rfl)
      | ((with_reducible apply w_pure (v := .agg _)); exact rfl; exact rfl))
    | with_reducible refine w_seq ?_
    | with_reducible refine w_nil ?_
    | with_reducible refine w_region ?_)
  refine w_rq (small_run ⟨0, 0, 0, 0, true, b⟩ _ _ _) (fun _ => rfl) ?_
  rintro v rfl
  repeat' (first
    | ((with_reducible apply g_op); first
      | ((with_reducible apply g_load); first
        | ((with_reducible apply w_load (v := .agg #[_, _, _, _, _, _])); exact rfl; (first | assumption | (simp (disch := omega) only [upd_same, upd_ne]; first | done | assumption | exact rfl) | exact rfl); exact rfl))
      | ((with_reducible apply g_store); first
        | ((with_reducible apply w_store (us := [_, _, _, _, _, _]) (ws := [_, _, _, _, _, _])); exact rfl; exact rfl; (first | assumption | (simp (disch := omega) only [upd_same, upd_ne]; first | done | assumption | exact rfl) | exact rfl); omega; exact rfl; exact rfl; exact rfl))
      | ((with_reducible apply w_alloc (ls := [_, _, _, _, _, _])); exact rfl; exact rfl)
      | ((with_reducible apply w_pure (v := .agg _)); exact rfl; exact rfl))
    | with_reducible refine w_seq ?_
    | with_reducible refine w_nil ?_
    | with_reducible refine w_region ?_)
  generalize hA : (smallS ⟨0, 0, 0, 0, true, a⟩).r = A
  generalize hB : (smallS ⟨0, 0, 0, 0, true, b⟩).r = B
  refine w_rf (add_run [] A (by simp)) (fun _ => rfl) (sn_cons sn_none (sn_cons (sn_plain2 rfl) sn_nil)) ?_
  rintro v rfl
  rw [add0 A]
  cases mA : may A with
  | false =>
    simp only [Bool.false_eq_true, if_false]
    repeat' (first
      | ((with_reducible apply g_op); first
        | ((with_reducible apply g_load); first
          | ((with_reducible apply w_load (v := .agg #[_, _, _, _, _, _])); exact rfl; (first | assumption | (simp (disch := omega) only [upd_same, upd_ne]; first | done | assumption | exact rfl) | exact rfl); exact rfl))
        | ((with_reducible apply g_move); first
          | ((with_reducible apply w_pure (v := .tuple _)); exact rfl; exact rfl))
        | ((with_reducible apply g_assign); first
          | ((with_reducible apply w_pure (v := .int _ _)); exact rfl; exact rfl)
          | ((with_reducible apply w_pure (v := .func _ _ _)); exact rfl; exact rfl))
        | ((with_reducible apply w_pure (v := .int _ _)); exact rfl; exact rfl)
        | ((with_reducible apply w_pure (v := .func _ _ _)); exact rfl; exact rfl))
      | with_reducible refine w_seq ?_
      | with_reducible refine w_nil ?_
      | with_reducible refine w_region ?_)
    refine w_rf (add_run [] B (by simp)) (fun _ => rfl) (sn_cons sn_none (sn_cons (sn_plain2 rfl) sn_nil)) ?_
    rintro v rfl
    rw [add0 B]
    cases mB : may B <;> (
      simp only [Bool.false_eq_true, if_false, if_true]
      repeat' (first
        | ((with_reducible apply g_op); first
          | ((with_reducible apply g_move); first
            | ((with_reducible apply w_pure (v := .int _ _)); exact rfl; exact rfl)
            | ((with_reducible apply w_pure (v := .bool _)); exact rfl; exact rfl)
            | ((with_reducible apply w_pure (v := .tuple _)); exact rfl; exact rfl)
            | ((with_reducible apply w_pure (v := .func _ _ _)); exact rfl; exact rfl))
          | ((with_reducible apply g_bin); first
            | ((with_reducible apply w_pure (v := .bool _)); exact rfl; exact rfl))
          | ((with_reducible apply g_pick); first
            | ((with_reducible apply w_pk1 (v := .bool _)); exact rfl; exact rfl; (first | assumption | exact decide_eq_true (by assumption) | exact decide_eq_false (by assumption) | exact decide_eq_true (by omega) | exact decide_eq_false (by omega) | exact beq_iff_eq.2 (by omega) | exact beq_eq_false_iff_ne.2 (by omega) | exact bne_iff_ne.2 (by omega) | exact bne_eq_false_iff_eq.2 (by omega)))
            | ((with_reducible apply w_pk0 (v := .bool _)); exact rfl; exact rfl; (first | assumption | exact decide_eq_true (by assumption) | exact decide_eq_false (by assumption) | exact decide_eq_true (by omega) | exact decide_eq_false (by omega) | exact beq_iff_eq.2 (by omega) | exact beq_eq_false_iff_ne.2 (by omega) | exact bne_iff_ne.2 (by omega) | exact bne_eq_false_iff_eq.2 (by omega))))
          | ((with_reducible apply g_assign); first
            | ((with_reducible apply w_pure (v := .int _ _)); exact rfl; exact rfl)
            | ((with_reducible apply w_pure (v := .bool _)); exact rfl; exact rfl)
            | ((with_reducible apply w_pure (v := .func _ _ _)); exact rfl; exact rfl))
          | ((with_reducible apply g_call); first
            | ((with_reducible apply w_call (v := .int _ _)); exact rfl))
          | ((with_reducible apply w_pure (v := .int _ _)); exact rfl; exact rfl)
          | ((with_reducible apply w_pure (v := .bool _)); exact rfl; exact rfl)
          | ((with_reducible apply w_pure (v := .func _ _ _)); exact rfl; exact rfl))
        | ((with_reducible apply g_gd); first
          | ((with_reducible apply w_want); exact rfl)
          | ((with_reducible apply w_pass); exact rfl))
        | with_reducible refine w_seq ?_
        | with_reducible refine w_nil ?_
        | with_reducible refine w_region ?_
        | ((with_reducible apply w_yes); exact rfl)
        | ((with_reducible apply w_ret (v := .bool _)); exact rfl))
      rfl)
  | true =>
    simp only [if_true]
    repeat' (first
      | ((with_reducible apply g_op); first
        | ((with_reducible apply g_load); first
          | ((with_reducible apply w_load (v := .agg #[_, _, _, _, _, _])); exact rfl; (first | assumption | (simp (disch := omega) only [upd_same, upd_ne]; first | done | assumption | exact rfl) | exact rfl); exact rfl))
        | ((with_reducible apply g_move); first
          | ((with_reducible apply w_pure (v := .tuple _)); exact rfl; exact rfl))
        | ((with_reducible apply g_assign); first
          | ((with_reducible apply w_pure (v := .int _ _)); exact rfl; exact rfl)
          | ((with_reducible apply w_pure (v := .func _ _ _)); exact rfl; exact rfl))
        | ((with_reducible apply w_pure (v := .int _ _)); exact rfl; exact rfl)
        | ((with_reducible apply w_pure (v := .func _ _ _)); exact rfl; exact rfl))
      | with_reducible refine w_seq ?_
      | with_reducible refine w_nil ?_
      | with_reducible refine w_region ?_)
    refine w_rf (add_run [] B (by simp)) (fun _ => rfl) (sn_cons sn_none (sn_cons (sn_plain2 rfl) sn_nil)) ?_
    rintro v rfl
    rw [add0 B]
    cases mB : may B with
    | false =>
      simp only [Bool.false_eq_true, if_false]
      repeat' (first
        | ((with_reducible apply g_op); first
          | ((with_reducible apply g_move); first
            | ((with_reducible apply w_pure (v := .int _ _)); exact rfl; exact rfl)
            | ((with_reducible apply w_pure (v := .bool _)); exact rfl; exact rfl)
            | ((with_reducible apply w_pure (v := .tuple _)); exact rfl; exact rfl)
            | ((with_reducible apply w_pure (v := .func _ _ _)); exact rfl; exact rfl))
          | ((with_reducible apply g_bin); first
            | ((with_reducible apply w_pure (v := .bool _)); exact rfl; exact rfl))
          | ((with_reducible apply g_pick); first
            | ((with_reducible apply w_pk1 (v := .bool _)); exact rfl; exact rfl; (first | assumption | exact decide_eq_true (by assumption) | exact decide_eq_false (by assumption) | exact decide_eq_true (by omega) | exact decide_eq_false (by omega) | exact beq_iff_eq.2 (by omega) | exact beq_eq_false_iff_ne.2 (by omega) | exact bne_iff_ne.2 (by omega) | exact bne_eq_false_iff_eq.2 (by omega)))
            | ((with_reducible apply w_pk0 (v := .bool _)); exact rfl; exact rfl; (first | assumption | exact decide_eq_true (by assumption) | exact decide_eq_false (by assumption) | exact decide_eq_true (by omega) | exact decide_eq_false (by omega) | exact beq_iff_eq.2 (by omega) | exact beq_eq_false_iff_ne.2 (by omega) | exact bne_iff_ne.2 (by omega) | exact bne_eq_false_iff_eq.2 (by omega))))
          | ((with_reducible apply g_assign); first
            | ((with_reducible apply w_pure (v := .int _ _)); exact rfl; exact rfl)
            | ((with_reducible apply w_pure (v := .bool _)); exact rfl; exact rfl)
            | ((with_reducible apply w_pure (v := .func _ _ _)); exact rfl; exact rfl))
          | ((with_reducible apply g_call); first
            | ((with_reducible apply w_call (v := .int _ _)); exact rfl))
          | ((with_reducible apply w_pure (v := .int _ _)); exact rfl; exact rfl)
          | ((with_reducible apply w_pure (v := .bool _)); exact rfl; exact rfl)
          | ((with_reducible apply w_pure (v := .func _ _ _)); exact rfl; exact rfl))
        | ((with_reducible apply g_gd); first
          | ((with_reducible apply w_want); exact rfl)
          | ((with_reducible apply w_pass); exact rfl))
        | with_reducible refine w_seq ?_
        | with_reducible refine w_nil ?_
        | with_reducible refine w_region ?_
        | ((with_reducible apply w_yes); exact rfl)
        | ((with_reducible apply w_ret (v := .bool _)); exact rfl))
      rfl
    | true =>
    simp only [if_true]
    repeat' (first
      | ((with_reducible apply g_op); first
        | ((with_reducible apply g_load); first
          | ((with_reducible apply w_load (v := .agg #[_, _, _, _, _, _])); exact rfl; (first | assumption | (simp (disch := omega) only [upd_same, upd_ne]; first | done | assumption | exact rfl) | exact rfl); exact rfl))
        | ((with_reducible apply g_move); first
          | ((with_reducible apply w_pure (v := .int _ _)); exact rfl; exact rfl)
          | ((with_reducible apply w_pure (v := .bool _)); exact rfl; exact rfl)
          | ((with_reducible apply w_pure (v := .tuple _)); exact rfl; exact rfl)
          | ((with_reducible apply w_pure (v := .func _ _ _)); exact rfl; exact rfl))
        | ((with_reducible apply g_bin); first
          | ((with_reducible apply w_pure (v := .bool _)); exact rfl; exact rfl))
        | ((with_reducible apply g_pick); first
          | ((with_reducible apply w_pk0 (v := .bool _)); exact rfl; exact rfl; (first | assumption | exact decide_eq_true (by assumption) | exact decide_eq_false (by assumption) | exact decide_eq_true (by omega) | exact decide_eq_false (by omega) | exact beq_iff_eq.2 (by omega) | exact beq_eq_false_iff_ne.2 (by omega) | exact bne_iff_ne.2 (by omega) | exact bne_eq_false_iff_eq.2 (by omega))))
        | ((with_reducible apply g_assign); first
          | ((with_reducible apply w_pure (v := .int _ _)); exact rfl; exact rfl)
          | ((with_reducible apply w_pure (v := .func _ _ _)); exact rfl; exact rfl))
        | ((with_reducible apply w_pure (v := .int _ _)); exact rfl; exact rfl)
        | ((with_reducible apply w_pure (v := .func _ _ _)); exact rfl; exact rfl))
      | ((with_reducible apply g_gd); first
        | ((with_reducible apply w_want); exact rfl))
      | with_reducible refine w_seq ?_
      | with_reducible refine w_nil ?_
      | with_reducible refine w_region ?_
      | with_reducible refine w_skip ?_
      | ((with_reducible apply w_no); exact rfl))
    refine w_rf (add_run [A] B (by simp)) (fun _ => rfl) (sn_cons rv_sn (sn_cons (sn_plain2 rfl) sn_nil)) ?_
    rintro v rfl
    rw [add1 mA mB]
    have hA1 := may_lt mA
    have hB1 := may_lt mB
    by_cases hm : A.f < B.t ∧ B.f < A.t
    · rw [if_pos hm]
      repeat' (first
        | ((with_reducible apply g_op); first
          | ((with_reducible apply g_load); first
            | ((with_reducible apply w_load (v := .agg #[_, _, _, _, _, _])); exact rfl; (first | assumption | (simp (disch := omega) only [upd_same, upd_ne]; first | done | assumption | exact rfl) | exact rfl); exact rfl))
          | ((with_reducible apply g_move); first
            | ((with_reducible apply w_pure (v := .tuple _)); exact rfl; exact rfl)
            | ((with_reducible apply w_pure (v := .func _ _ _)); exact rfl; exact rfl))
          | ((with_reducible apply g_assign); first
            | ((with_reducible apply w_pure (v := .int _ _)); exact rfl; exact rfl)
            | ((with_reducible apply w_pure (v := .func _ _ _)); exact rfl; exact rfl))
          | ((with_reducible apply w_pure (v := .int _ _)); exact rfl; exact rfl)
          | ((with_reducible apply w_pure (v := .func _ _ _)); exact rfl; exact rfl))
        | with_reducible refine w_seq ?_
        | with_reducible refine w_nil ?_
        | with_reducible refine w_region ?_)
      refine w_rf (add_run [B] A (by simp)) (fun _ => rfl) (sn_cons rv_sn (sn_cons (sn_plain2 rfl) sn_nil)) ?_
      rintro v rfl
      rw [add1 mB mA, if_pos (by omega)]
      repeat' (first
        | ((with_reducible apply g_op); first
          | ((with_reducible apply g_load); first
            | ((with_reducible apply w_load (v := .int _ _)); exact rfl; (first | assumption | (simp (disch := omega) only [upd_same, upd_ne]; first | done | assumption | exact rfl) | exact rfl); exact rfl))
          | ((with_reducible apply g_move); first
            | ((with_reducible apply w_pure (v := .int _ _)); exact rfl; exact rfl)
            | ((with_reducible apply w_pure (v := .bool _)); exact rfl; exact rfl)
            | ((with_reducible apply w_pure (v := .tuple _)); exact rfl; exact rfl)
            | ((with_reducible apply w_pure (v := .func _ _ _)); exact rfl; exact rfl))
          | ((with_reducible apply g_bin); first
            | ((with_reducible apply w_pure (v := .bool _)); exact rfl; exact rfl)
            | ((with_reducible apply w_pure (v := .int _ _)); exact rfl; exact rfl))
          | ((with_reducible apply g_fld); first
            | ((with_reducible apply w_fldp (o := 0)); exact rfl; exact rfl; exact rfl; exact (by decide))
            | ((with_reducible apply w_fldp (o := 1)); exact rfl; exact rfl; exact rfl; exact (by decide)))
          | ((with_reducible apply g_pick); first
            | ((with_reducible apply w_pk1 (v := .bool _)); exact rfl; exact rfl; (first | assumption | exact decide_eq_true (by assumption) | exact decide_eq_false (by assumption) | exact decide_eq_true (by omega) | exact decide_eq_false (by omega) | exact beq_iff_eq.2 (by omega) | exact beq_eq_false_iff_ne.2 (by omega) | exact bne_iff_ne.2 (by omega) | exact bne_eq_false_iff_eq.2 (by omega))))
          | ((with_reducible apply g_assign); first
            | ((with_reducible apply w_pure (v := .int _ _)); exact rfl; exact rfl)
            | ((with_reducible apply w_pure (v := .bool _)); exact rfl; exact rfl)
            | ((with_reducible apply w_pure (v := .func _ _ _)); exact rfl; exact rfl))
          | ((with_reducible apply g_call); first
            | ((with_reducible apply w_call (v := .int _ _)); exact rfl))
          | ((with_reducible apply w_pure (v := .int _ _)); exact rfl; exact rfl)
          | ((with_reducible apply w_pure (v := .bool _)); exact rfl; exact rfl)
          | ((with_reducible apply w_pure (v := .func _ _ _)); exact rfl; exact rfl))
        | ((with_reducible apply g_gd); first
          | ((with_reducible apply w_want); exact rfl)
          | ((with_reducible apply w_gd_t); exact rfl; all_goals (intro hc; first | (exfalso; omega) | skip)))
        | with_reducible refine w_seq ?_
        | with_reducible refine w_nil ?_
        | with_reducible refine w_region ?_
        | ((with_reducible apply w_ifd); exact rfl; all_goals (intro hc; first | (exfalso; omega) | skip))
        | ((with_reducible apply w_ret (v := .bool _)); exact rfl))
      rfl
    · rw [if_neg hm]
      have key : ∃ rs : List Rg, rs.length ≤ 2 ∧ (if A.f ≥ B.t then (putS [B] A, (0 : Int)) else (putS [A] B, 0)) = (rs, 0) ∧ addS [B] A = (rs, 0) ∧ pagesGo rs 0 = A.t - A.f + B.t - B.f := by
        have e0 := add1 mB mA
        rw [if_neg (show ¬ (B.f < A.t ∧ A.f < B.t) by omega)] at e0
        by_cases h2 : A.f ≥ B.t
        · rw [if_neg (by omega)] at e0
          exact ⟨putS [B] A, len2 _ _, by rw [if_pos h2], e0, pages2 mB mA (by omega) h2⟩
        · rw [if_pos (by omega)] at e0
          refine ⟨putS [A] B, len2 _ _, by rw [if_neg h2], e0, ?_⟩
          rw [pages2 mA mB (by omega) (by omega)]; omega
      obtain ⟨rs, hlen, e1, e2, e3⟩ := key
      rw [e1]
      simp only []
      repeat' (first
        | ((with_reducible apply g_op); first
          | ((with_reducible apply g_load); first
            | ((with_reducible apply w_load (v := .agg #[_, _, _, _, _, _])); exact rfl; (first | assumption | (simp (disch := omega) only [upd_same, upd_ne]; first | done | assumption | exact rfl) | exact rfl); exact rfl))
          | ((with_reducible apply g_move); first
            | ((with_reducible apply w_pure (v := .tuple _)); exact rfl; exact rfl)
            | ((with_reducible apply w_pure (v := .func _ _ _)); exact rfl; exact rfl))
          | ((with_reducible apply g_assign); first
            | ((with_reducible apply w_pure (v := .int _ _)); exact rfl; exact rfl)
            | ((with_reducible apply w_pure (v := .func _ _ _)); exact rfl; exact rfl))
          | ((with_reducible apply w_pure (v := .int _ _)); exact rfl; exact rfl)
          | ((with_reducible apply w_pure (v := .func _ _ _)); exact rfl; exact rfl))
        | with_reducible refine w_seq ?_
        | with_reducible refine w_nil ?_
        | with_reducible refine w_region ?_)
      all_goals refine w_rf (add_run [B] A (by simp)) (fun _ => rfl) (sn_cons rv_sn (sn_cons (sn_plain2 rfl) sn_nil)) ?_
      all_goals rintro v rfl
      all_goals rw [e2]
      all_goals simp only []
      repeat' (first
        | ((with_reducible apply g_op); first
          | ((with_reducible apply g_load); first
            | ((with_reducible apply w_load (v := .int _ _)); exact rfl; (first | assumption | (simp (disch := omega) only [upd_same, upd_ne]; first | done | assumption | exact rfl) | exact rfl); exact rfl))
          | ((with_reducible apply g_move); first
            | ((with_reducible apply w_pure (v := .bool _)); exact rfl; exact rfl)
            | ((with_reducible apply w_pure (v := .tuple _)); exact rfl; exact rfl)
            | ((with_reducible apply w_pure (v := .func _ _ _)); exact rfl; exact rfl))
          | ((with_reducible apply g_bin); first
            | ((with_reducible apply w_pure (v := .bool _)); exact rfl; exact rfl))
          | ((with_reducible apply g_fld); first
            | ((with_reducible apply w_fldp (o := 0)); exact rfl; exact rfl; exact rfl; exact (by decide))
            | ((with_reducible apply w_fldp (o := 1)); exact rfl; exact rfl; exact rfl; exact (by decide)))
          | ((with_reducible apply g_pick); first
            | ((with_reducible apply w_pk1 (v := .bool _)); exact rfl; exact rfl; (first | assumption | exact decide_eq_true (by assumption) | exact decide_eq_false (by assumption) | exact decide_eq_true (by omega) | exact decide_eq_false (by omega) | exact beq_iff_eq.2 (by omega) | exact beq_eq_false_iff_ne.2 (by omega) | exact bne_iff_ne.2 (by omega) | exact bne_eq_false_iff_eq.2 (by omega)))
            | ((with_reducible apply w_pk0 (v := .bool _)); exact rfl; exact rfl; (first | assumption | exact decide_eq_true (by assumption) | exact decide_eq_false (by assumption) | exact decide_eq_true (by omega) | exact decide_eq_false (by omega) | exact beq_iff_eq.2 (by omega) | exact beq_eq_false_iff_ne.2 (by omega) | exact bne_iff_ne.2 (by omega) | exact bne_eq_false_iff_eq.2 (by omega))))
          | ((with_reducible apply g_assign); first
            | ((with_reducible apply w_pure (v := .int _ _)); exact rfl; exact rfl)
            | ((with_reducible apply w_pure (v := .func _ _ _)); exact rfl; exact rfl))
          | ((with_reducible apply w_pure (v := .int _ _)); exact rfl; exact rfl)
          | ((with_reducible apply w_pure (v := .func _ _ _)); exact rfl; exact rfl))
        | ((with_reducible apply g_gd); first
          | ((with_reducible apply w_gd_t); exact rfl; all_goals (intro hc; first | (exfalso; omega) | skip)))
        | with_reducible refine w_seq ?_
        | with_reducible refine w_nil ?_
        | with_reducible refine w_region ?_
        | with_reducible refine w_skip ?_
        | ((with_reducible apply w_no); exact rfl)
        | ((with_reducible apply w_ifd); exact rfl; all_goals (intro hc; first | (exfalso; omega) | skip)))
      all_goals refine w_rf (same_run rs rs (by omega) (by omega)) (fun _ => rfl) (sn_cons rv_sn (sn_cons rv_sn sn_nil)) ?_
      all_goals rintro v ⟨bb, rfl, hbb⟩
      all_goals obtain rfl : bb = true := hbb.2 rfl
      repeat' (first
        | ((with_reducible apply g_op); first
          | ((with_reducible apply g_move); first
            | ((with_reducible apply w_pure (v := .int _ _)); exact rfl; exact rfl)
            | ((with_reducible apply w_pure (v := .bool _)); exact rfl; exact rfl)
            | ((with_reducible apply w_pure (v := .func _ _ _)); exact rfl; exact rfl))
          | ((with_reducible apply g_bin); first
            | ((with_reducible apply w_pure (v := .bool _)); exact rfl; exact rfl))
          | ((with_reducible apply g_pick); first
            | ((with_reducible apply w_pk1 (v := .bool _)); exact rfl; exact rfl; (first | assumption | exact decide_eq_true (by assumption) | exact decide_eq_false (by assumption) | exact decide_eq_true (by omega) | exact decide_eq_false (by omega) | exact beq_iff_eq.2 (by omega) | exact beq_eq_false_iff_ne.2 (by omega) | exact bne_iff_ne.2 (by omega) | exact bne_eq_false_iff_eq.2 (by omega))))
          | ((with_reducible apply g_assign); first
            | ((with_reducible apply w_pure (v := .bool _)); exact rfl; exact rfl))
          | ((with_reducible apply w_pure (v := .bool _)); exact rfl; exact rfl))
        | ((with_reducible apply g_gd); first
          | ((with_reducible apply w_want); exact rfl))
        | with_reducible refine w_seq ?_
        | with_reducible refine w_nil ?_
        | ((with_reducible apply w_draw); kernel_rfl; kernel_rfl))
      all_goals refine w_rf (pages_run rs (by omega)) (fun _ => rfl) (sn_cons rv_sn sn_nil) ?_
      all_goals rintro v rfl
      all_goals rw [e3]
      repeat' (first
        | ((with_reducible apply g_op); first
          | ((with_reducible apply g_load); first
            | ((with_reducible apply w_load (v := .int _ _)); exact rfl; (first | assumption | (simp (disch := omega) only [upd_same, upd_ne]; first | done | assumption | exact rfl) | exact rfl); exact rfl))
          | ((with_reducible apply g_bin); first
            | ((with_reducible apply w_wrap); exact rfl; exact rfl; first | exact i64_in _ (by omega) | exact u64_in _ (by omega) | exact u8_in _ (by omega))
            | ((with_reducible apply w_pure (v := .bool _)); exact rfl; exact rfl))
          | ((with_reducible apply g_fld); first
            | ((with_reducible apply w_fldp (o := 0)); exact rfl; exact rfl; exact rfl; exact (by decide))
            | ((with_reducible apply w_fldp (o := 1)); exact rfl; exact rfl; exact rfl; exact (by decide)))
          | ((with_reducible apply g_assign); first
            | ((with_reducible apply w_pure (v := .bool _)); exact rfl; exact rfl))
          | ((with_reducible apply w_pure (v := .bool _)); exact rfl; exact rfl))
        | ((with_reducible apply g_gd); first
          | ((with_reducible apply w_want); exact rfl))
        | with_reducible refine w_nil ?_
        | ((with_reducible apply w_ret (v := .bool _)); exact rfl))
      all_goals exact congrArg Value.bool (beq_self_eq_true _)
theorem proved (x0 x1 : Int × Int × Int × Int × Int × Int) {p q : Prop} (w0 : p) (w1 : q) : Rn Try.prog tab 3 [.agg ((kPair (kInt .i64) (kPair (kInt .i64) (kPair (kInt .i64) (kPair (kInt .i64) (kPair (kInt .i64) (kInt .i64)))))).enc x0).toArray, .agg ((kPair (kInt .i64) (kPair (kInt .i64) (kPair (kInt .i64) (kPair (kInt .i64) (kPair (kInt .i64) (kInt .i64)))))).enc x1).toArray] (fun _ => none) 0 0 (fun v _ _ => v = .bool true) := by
  obtain ⟨a0, a1, a2, a3, a4, a5⟩ := x0
  obtain ⟨b0, b1, b2, b3, b4, b5⟩ := x1
  exact walk ⟨a0, a1, a2, a3, a4, a5⟩ ⟨b0, b1, b2, b3, b4, b5⟩ _ 0
end Go.Proofs.Ytnlgindlmlbfiaa.L.RegionMeets

