/- The reference's Build. -/
import Derived.Test.Ytkpofbkedolhnaac17C
import Derived.Test.YtkpofbkedolhnaarefP
import Derived.Test.YtkpofbkedolhnaarefF
namespace Go.Proofs.Ytkpofbkedolhnaa.L
open Go.L1 Go.IntWalk
set_option linter.unusedVariables false
set_option linter.unusedSimpArgs false
set_option maxHeartbeats 4000000
set_option maxRecDepth 20000
namespace Stk
open Oct
theorem twos_snoc (l : List (Int × Int)) (y : Int × Int) : twos (l ++ [y]) = twos l ++ [y.1] ++ [y.2] := by simp [twos]
theorem twos_len (l : List (Int × Int)) : (twos l).length = 2 * l.length := by
  induction l with
  | nil => rfl
  | cons y l ih => rw [show twos (y :: l) = [y.1, y.2] ++ twos l from rfl, List.length_append, ih]; simp; omega
theorem numsL_is (top : Int) (a e : List ByteArray) (x : List (Int × Int)) (p0 : Int) (h : top - txN a - txN e = p0) : numsL top a e x = [(a.length : Int)] ++ plc p0 a ++ [0] ++ plc (p0 + txN a) e ++ [0] ++ twos x ++ [0] ++ [0] := by
  unfold numsL
  rw [h, twos_snoc]
  simp [tailN, List.append_assoc]
set_option maxHeartbeats 0 in
theorem rbuild_run (top : Int) (a e : List ByteArray) (x : List (Int × Int)) (ha : txN a ≤ 100000) (he : txN e ≤ 100000) (hx : x.length ≤ 100000) : Rf Try.prog T 11 [.int .i64 top, tv tg a, tv tg e, pv tg x] (fun v => v = .agg #[.int .i64 (buildV top a e x).1, .string (buildV top a e x).2.1, .int .i64 (buildV top a e x).2.2]) := by
  refine c_froz Try.func11 rfl rfl rfl rfl rfl rfl ?_
  intro g n
  obtain ⟨R, hR⟩ : ∃ R, buildV top a e x = R := ⟨_, rfl⟩
  rw [hR]
  unfold buildV at hR
  have fzT : ∀ {g : Nat → Option Ob} (l : List ByteArray), L1.freeze Try.prog g tg 0 9 (tv tg l) = some (tv tg l) := fun l => sn_fzp (.inr (by simp)) (all_flat (fun _ => rfl) _)
  have fzP : ∀ {g : Nat → Option Ob} (l : List (Int × Int)), L1.freeze Try.prog g tg 0 9 (pv tg l) = some (pv tg l) := fun l => sn_fzp (.inr (by simp)) (all_flat (fun _ => rfl) _)
  repeat' (first
    | ((with_reducible apply g_op); first
      | ((with_reducible apply g_move); first
        | ((with_reducible apply w_pure (v := .func _ _ _)); exact rfl; exact rfl))
      | ((with_reducible apply w_alloc (ls := [_, _, _])); exact rfl; exact rfl))
    | with_reducible refine w_seq ?_
    | with_reducible refine w_nil ?_
    | with_reducible refine w_region ?_)
  refine w_rf (rplain_run a ha) (fun _ => rfl) (sn_cons (fzT a) sn_nil) ?_
  rintro _ rfl
  repeat' (first
    | ((with_reducible apply g_op); first
      | ((with_reducible apply g_move); first
        | ((with_reducible apply w_pure (v := .func _ _ _)); exact rfl; exact rfl))
      | ((with_reducible apply g_assign); first
        | ((with_reducible apply w_pure (v := .bool _)); exact rfl; exact rfl)))
    | with_reducible refine w_seq ?_
    | with_reducible refine w_nil ?_
    | with_reducible refine w_region ?_)
  refine w_rf (rplain_run e he) (fun _ => rfl) (sn_cons (fzT e) sn_nil) ?_
  rintro _ rfl
  have hmd : mayV a e x = (!has (joinB a) 0 && !has (joinB e) 0 && prV x) := rfl
  generalize has (joinB a) 0 = A at *
  generalize has (joinB e) 0 = E at *
  by_cases h1 : top < 0 ∨ top > 262144 ∨ top % 16 ≠ 0
  · rw [if_pos (by rcases h1 with h1 | h1 | h1; exact .inl h1; exact .inr (.inl h1); exact .inr (.inr (.inl h1)))] at hR
    subst hR
    repeat' (first
      | ((with_reducible apply g_op); first
        | ((with_reducible apply g_move); first
          | ((with_reducible apply w_pure (v := .int _ _)); exact rfl; exact rfl)
          | ((with_reducible apply w_pure (v := .bool _)); exact rfl; exact rfl))
        | ((with_reducible apply g_bin); first
          | ((with_reducible apply w_mod); exact rfl; exact rfl; exact rfl; exact rfl; exact rfl; omega; omega)
          | ((with_reducible apply w_pure (v := .bool _)); exact rfl; exact rfl))
        | ((with_reducible apply g_pick); first
          | ((with_reducible apply w_pk1 (v := .bool _)); exact rfl; exact rfl; (first | assumption | exact decide_eq_true (by assumption) | exact decide_eq_false (by assumption) | exact decide_eq_true (by omega) | exact decide_eq_false (by omega) | exact beq_iff_eq.2 (by omega) | exact beq_eq_false_iff_ne.2 (by omega) | exact bne_iff_ne.2 (by omega) | exact bne_eq_false_iff_eq.2 (by omega)))
          | ((with_reducible apply w_pk0 (v := .bool _)); exact rfl; exact rfl; (first | assumption | exact decide_eq_true (by assumption) | exact decide_eq_false (by assumption) | exact decide_eq_true (by omega) | exact decide_eq_false (by omega) | exact beq_iff_eq.2 (by omega) | exact beq_eq_false_iff_ne.2 (by omega) | exact bne_iff_ne.2 (by omega) | exact bne_eq_false_iff_eq.2 (by omega))))
        | ((with_reducible apply g_assign); first
          | ((with_reducible apply w_pure (v := .bool _)); exact rfl; exact rfl))
        | ((with_reducible apply g_store); first
          | ((with_reducible apply w_store (us := [_, _, _]) (ws := [_, _, _])); exact rfl; exact rfl; (first | assumption | (simp (disch := omega) only [upd_same, upd_ne]; first | done | assumption | exact rfl) | exact rfl); omega; exact rfl; exact rfl; exact rfl))
        | ((with_reducible apply g_build); first
          | ((with_reducible apply w_pure (v := .agg #[_, _, _])); exact rfl; exact rfl))
        | ((with_reducible apply w_pure (v := .bool _)); exact rfl; exact rfl))
      | ((with_reducible apply g_gd); first
        | ((with_reducible apply w_pass); exact rfl)
        | ((with_reducible apply w_gd_f); exact rfl; all_goals (intro hc; first | (exfalso; omega) | skip))
        | ((with_reducible apply w_gn_f); exact rfl; all_goals (intro hc; first | (exfalso; omega) | skip)))
      | with_reducible refine w_seq ?_
      | with_reducible refine w_nil ?_
      | with_reducible refine w_region ?_
      | ((with_reducible apply w_yes); exact rfl)
      | ((with_reducible apply w_retc (v := .agg #[_, _, _])); exact rfl; exact rfl; (first | assumption | (simp (disch := omega) only [upd_same, upd_ne]; first | done | assumption | exact rfl) | exact rfl); exact rfl))
    all_goals first | (exfalso; omega) | skip
    all_goals exact fr_plain rfl rfl
  have hbad : mayV a e x = false → R = (0, ⟨#[]⟩, 1) := fun h => by rw [if_pos (.inr (.inr (.inr h)))] at hR; exact hR.symm
  by_cases hA : A = true
  · subst hA
    obtain rfl := hbad (by rw [hmd]; first | rfl | simp)
    repeat' (first
      | ((with_reducible apply g_op); first
        | ((with_reducible apply g_move); first
          | ((with_reducible apply w_pure (v := .int _ _)); exact rfl; exact rfl)
          | ((with_reducible apply w_pure (v := .bool _)); exact rfl; exact rfl))
        | ((with_reducible apply g_bin); first
          | ((with_reducible apply w_mod); exact rfl; exact rfl; exact rfl; exact rfl; exact rfl; omega; omega)
          | ((with_reducible apply w_pure (v := .bool _)); exact rfl; exact rfl))
        | ((with_reducible apply g_pick); first
          | ((with_reducible apply w_pk0 (v := .bool _)); exact rfl; exact rfl; (first | assumption | exact decide_eq_true (by assumption) | exact decide_eq_false (by assumption) | exact decide_eq_true (by omega) | exact decide_eq_false (by omega) | exact beq_iff_eq.2 (by omega) | exact beq_eq_false_iff_ne.2 (by omega) | exact bne_iff_ne.2 (by omega) | exact bne_eq_false_iff_eq.2 (by omega))))
        | ((with_reducible apply g_assign); first
          | ((with_reducible apply w_pure (v := .bool _)); exact rfl; exact rfl))
        | ((with_reducible apply g_store); first
          | ((with_reducible apply w_store (us := [_, _, _]) (ws := [_, _, _])); exact rfl; exact rfl; (first | assumption | (simp (disch := omega) only [upd_same, upd_ne]; first | done | assumption | exact rfl) | exact rfl); omega; exact rfl; exact rfl; exact rfl))
        | ((with_reducible apply g_build); first
          | ((with_reducible apply w_pure (v := .agg #[_, _, _])); exact rfl; exact rfl))
        | ((with_reducible apply w_pure (v := .bool _)); exact rfl; exact rfl))
      | ((with_reducible apply g_gd); first
        | ((with_reducible apply w_pass); exact rfl)
        | ((with_reducible apply w_gd_f); exact rfl; all_goals (intro hc; first | (exfalso; omega) | skip))
        | ((with_reducible apply w_gn_f); exact rfl; all_goals (intro hc; first | (exfalso; omega) | skip)))
      | with_reducible refine w_seq ?_
      | with_reducible refine w_nil ?_
      | with_reducible refine w_region ?_
      | ((with_reducible apply w_yes); exact rfl)
      | ((with_reducible apply w_retc (v := .agg #[_, _, _])); exact rfl; exact rfl; (first | assumption | (simp (disch := omega) only [upd_same, upd_ne]; first | done | assumption | exact rfl) | exact rfl); exact rfl))
    all_goals first | (exfalso; omega) | skip
    all_goals exact fr_plain rfl rfl
  obtain rfl : A = false := by simpa using hA
  by_cases hE : E = true
  · subst hE
    obtain rfl := hbad (by rw [hmd]; first | rfl | simp)
    repeat' (first
      | ((with_reducible apply g_op); first
        | ((with_reducible apply g_move); first
          | ((with_reducible apply w_pure (v := .int _ _)); exact rfl; exact rfl)
          | ((with_reducible apply w_pure (v := .bool _)); exact rfl; exact rfl))
        | ((with_reducible apply g_bin); first
          | ((with_reducible apply w_mod); exact rfl; exact rfl; exact rfl; exact rfl; exact rfl; omega; omega)
          | ((with_reducible apply w_pure (v := .bool _)); exact rfl; exact rfl))
        | ((with_reducible apply g_pick); first
          | ((with_reducible apply w_pk0 (v := .bool _)); exact rfl; exact rfl; (first | assumption | exact decide_eq_true (by assumption) | exact decide_eq_false (by assumption) | exact decide_eq_true (by omega) | exact decide_eq_false (by omega) | exact beq_iff_eq.2 (by omega) | exact beq_eq_false_iff_ne.2 (by omega) | exact bne_iff_ne.2 (by omega) | exact bne_eq_false_iff_eq.2 (by omega))))
        | ((with_reducible apply g_assign); first
          | ((with_reducible apply w_pure (v := .bool _)); exact rfl; exact rfl))
        | ((with_reducible apply g_store); first
          | ((with_reducible apply w_store (us := [_, _, _]) (ws := [_, _, _])); exact rfl; exact rfl; (first | assumption | (simp (disch := omega) only [upd_same, upd_ne]; first | done | assumption | exact rfl) | exact rfl); omega; exact rfl; exact rfl; exact rfl))
        | ((with_reducible apply g_build); first
          | ((with_reducible apply w_pure (v := .agg #[_, _, _])); exact rfl; exact rfl))
        | ((with_reducible apply w_pure (v := .bool _)); exact rfl; exact rfl))
      | ((with_reducible apply g_gd); first
        | ((with_reducible apply w_want); exact rfl)
        | ((with_reducible apply w_gd_f); exact rfl; all_goals (intro hc; first | (exfalso; omega) | skip))
        | ((with_reducible apply w_gn_f); exact rfl; all_goals (intro hc; first | (exfalso; omega) | skip)))
      | with_reducible refine w_seq ?_
      | with_reducible refine w_nil ?_
      | with_reducible refine w_region ?_
      | ((with_reducible apply w_yes); exact rfl)
      | ((with_reducible apply w_retc (v := .agg #[_, _, _])); exact rfl; exact rfl; (first | assumption | (simp (disch := omega) only [upd_same, upd_ne]; first | done | assumption | exact rfl) | exact rfl); exact rfl))
    all_goals first | (exfalso; omega) | skip
    all_goals exact fr_plain rfl rfl
  obtain rfl : E = false := by simpa using hE
  replace hmd : mayV a e x = prV x := hmd
  repeat' (first
    | ((with_reducible apply g_op); first
      | ((with_reducible apply g_move); first
        | ((with_reducible apply w_pure (v := .int _ _)); exact rfl; exact rfl)
        | ((with_reducible apply w_pure (v := .bool _)); exact rfl; exact rfl))
      | ((with_reducible apply g_bin); first
        | ((with_reducible apply w_mod); exact rfl; exact rfl; exact rfl; exact rfl; exact rfl; omega; omega)
        | ((with_reducible apply w_pure (v := .bool _)); exact rfl; exact rfl))
      | ((with_reducible apply g_pick); first
        | ((with_reducible apply w_pk0 (v := .bool _)); exact rfl; exact rfl; (first | assumption | exact decide_eq_true (by assumption) | exact decide_eq_false (by assumption) | exact decide_eq_true (by omega) | exact decide_eq_false (by omega) | exact beq_iff_eq.2 (by omega) | exact beq_eq_false_iff_ne.2 (by omega) | exact bne_iff_ne.2 (by omega) | exact bne_eq_false_iff_eq.2 (by omega))))
      | ((with_reducible apply g_assign); first
        | ((with_reducible apply w_pure (v := .int _ _)); exact rfl; exact rfl)
        | ((with_reducible apply w_pure (v := .bool _)); exact rfl; exact rfl))
      | ((with_reducible apply w_pure (v := .bool _)); exact rfl; exact rfl))
    | ((with_reducible apply g_gd); first
      | ((with_reducible apply w_want); exact rfl)
      | ((with_reducible apply w_gd_f); exact rfl; all_goals (intro hc; first | (exfalso; omega) | skip))
      | ((with_reducible apply w_gn_f); exact rfl; all_goals (intro hc; first | (exfalso; omega) | skip)))
    | with_reducible refine w_seq ?_
    | with_reducible refine w_nil ?_
    | with_reducible refine w_region ?_
    | with_reducible refine w_skip ?_
    | ((with_reducible apply w_no); exact rfl))
  all_goals first | (exfalso; omega) | skip
  refine w_block ?_
  refine w_gen (fun G N => G n = some (.cells 32 [.int .i64 0, .string ⟨#[]⟩, .int .i64 0]) ∧ N = n + 1) ⟨by simp (disch := omega) only [upd_same], rfl⟩ ?_
  rintro G _ ⟨hg, rfl⟩
  refine w_env ?_
  intro τ hτ
  have k0 : τ 0 = .int .i64 top := (hτ 0).trans rfl
  have k1 : τ 1 = tv tg a := (hτ 1).trans rfl
  have k2 : τ 2 = tv tg e := (hτ 2).trans rfl
  have k3 : τ 3 = pv tg x := (hτ 3).trans rfl
  have k8 : τ 8 = ptr n 0 := (hτ 8).trans rfl
  have k11 : τ 11 = .int .i64 0 := (hτ 11).trans rfl
  clear hτ
  refine w_keep (i := 0) k0 (w_keep (i := 1) k1 (w_keep (i := 2) k2 (w_keep (i := 3) k3 (w_keep (i := 8) k8 (w_keep (i := 11) k11 ?_)))))
  refine w_rngK [(11, 11), (43, 79)] x (fun i rest (_ : Unit) σ g' n' => σ 11 = .int .i64 (i : Nat) ∧ G = g' ∧ n + 1 = n' ∧ prV rest = prV x) ?_ ?_ () ⟨rfl, rfl, rfl, rfl⟩
  · rintro i ⟨y1, y2⟩ rest _ σ _ _ hy hlt ⟨k11, rfl, rfl, hgo⟩ ih
    have hy' : x[((i : Int)).toNat]? = some (y1, y2) := hy
    unfold prV at hgo
    rw [List.all_cons] at hgo
    dsimp only at hgo
    refine w_keep (i := 11) k11 ?_
    by_cases hq : 1 ≤ y1 ∧ y1 ≤ 1099511627776 ∧ 0 ≤ y2 ∧ y2 ≤ 1099511627776
    · rw [decide_eq_true hq, Bool.true_and] at hgo
      repeat' (first
        | ((with_reducible apply g_op); first
          | ((with_reducible apply g_load); first
            | ((with_reducible apply w_fl (v := .int _ _)); exact rfl; exact (fun _ => rfl); assumption; exact rfl))
          | ((with_reducible apply g_move); first
            | ((with_reducible apply w_pure (v := .int _ _)); exact rfl; exact rfl)
            | ((with_reducible apply w_pure (v := .bool _)); exact rfl; exact rfl)
            | ((with_reducible apply w_pure (v := .func _ _ _)); exact rfl; exact rfl))
          | ((with_reducible apply g_bin); first
            | ((with_reducible apply w_wrap); exact rfl; exact rfl; first | exact i64_in _ (by omega) | exact u64_in _ (by omega) | exact u8_in _ (by omega))
            | ((with_reducible apply w_pure (v := .bool _)); exact rfl; exact rfl))
          | ((with_reducible apply g_fld); first
            | ((with_reducible apply w_ffld (o := 0)); exact rfl; exact rfl; exact rfl; exact (by decide))
            | ((with_reducible apply w_ffld (o := 1)); exact rfl; exact rfl; exact rfl; exact (by decide)))
          | ((with_reducible apply g_pick); first
            | ((with_reducible apply w_pk0 (v := .bool _)); exact rfl; exact rfl; (first | assumption | exact decide_eq_true (by assumption) | exact decide_eq_false (by assumption) | exact decide_eq_true (by omega) | exact decide_eq_false (by omega) | exact beq_iff_eq.2 (by omega) | exact beq_eq_false_iff_ne.2 (by omega) | exact bne_iff_ne.2 (by omega) | exact bne_eq_false_iff_eq.2 (by omega))))
          | ((with_reducible apply g_assign); first
            | ((with_reducible apply w_pure (v := .int _ _)); exact rfl; exact rfl))
          | ((with_reducible apply g_call); first
            | ((with_reducible apply w_call (v := .int _ _)); exact rfl))
          | ((with_reducible apply g_ix); first
            | ((with_reducible apply w_fx (sz := 2)); exact rfl; exact rfl; exact rfl; exact rfl; exact rfl; exact (fun _ => rfl); assumption; exact rfl)))
        | ((with_reducible apply g_gd); first
          | ((with_reducible apply w_gd_f); exact rfl; all_goals (intro hc; first | (exfalso; omega) | skip)))
        | with_reducible refine w_seq ?_
        | with_reducible refine w_nil ?_
        | with_reducible refine w_region ?_
        | with_reducible refine w_skip ?_
        | with_reducible refine w_block ?_
        | with_reducible refine w_blk ?_
        | ((with_reducible apply w_ifd); exact rfl; all_goals (intro hc; first | (exfalso; omega) | skip)))
      all_goals first | (exfalso; omega) | skip
      all_goals exact ih () _ _ _ (by repeat' (first | with_reducible exact Fr.mix | with_reducible exact Fr.rfl' | with_reducible refine Fr.put ?_ ?_ | with_reducible refine Fr.mix2 ?_ ?_ | with_reducible refine Fr.put0 ?_ | exact rfl)) ⟨rfl, rfl, rfl, hgo⟩
    · rw [decide_eq_false hq, Bool.false_and] at hgo
      obtain rfl := hbad (by rw [hmd]; exact hgo.symm)
      repeat' (first
        | ((with_reducible apply g_op); first
          | ((with_reducible apply g_load); first
            | ((with_reducible apply w_fl (v := .int _ _)); exact rfl; exact (fun _ => rfl); assumption; exact rfl))
          | ((with_reducible apply g_move); first
            | ((with_reducible apply w_pure (v := .int _ _)); exact rfl; exact rfl)
            | ((with_reducible apply w_pure (v := .bool _)); exact rfl; exact rfl)
            | ((with_reducible apply w_pure (v := .func _ _ _)); exact rfl; exact rfl))
          | ((with_reducible apply g_bin); first
            | ((with_reducible apply w_pure (v := .bool _)); exact rfl; exact rfl))
          | ((with_reducible apply g_fld); first
            | ((with_reducible apply w_ffld (o := 0)); exact rfl; exact rfl; exact rfl; exact (by decide))
            | ((with_reducible apply w_ffld (o := 1)); exact rfl; exact rfl; exact rfl; exact (by decide)))
          | ((with_reducible apply g_pick); first
            | ((with_reducible apply w_pk1 (v := .bool _)); exact rfl; exact rfl; (first | assumption | exact decide_eq_true (by assumption) | exact decide_eq_false (by assumption) | exact decide_eq_true (by omega) | exact decide_eq_false (by omega) | exact beq_iff_eq.2 (by omega) | exact beq_eq_false_iff_ne.2 (by omega) | exact bne_iff_ne.2 (by omega) | exact bne_eq_false_iff_eq.2 (by omega)))
            | ((with_reducible apply w_pk0 (v := .bool _)); exact rfl; exact rfl; (first | assumption | exact decide_eq_true (by assumption) | exact decide_eq_false (by assumption) | exact decide_eq_true (by omega) | exact decide_eq_false (by omega) | exact beq_iff_eq.2 (by omega) | exact beq_eq_false_iff_ne.2 (by omega) | exact bne_iff_ne.2 (by omega) | exact bne_eq_false_iff_eq.2 (by omega))))
          | ((with_reducible apply g_call); first
            | ((with_reducible apply w_call (v := .int _ _)); exact rfl))
          | ((with_reducible apply g_store); first
            | ((with_reducible apply w_store (us := [_, _, _]) (ws := [_, _, _])); exact rfl; exact rfl; (first | assumption | (simp (disch := omega) only [upd_same, upd_ne]; first | done | assumption | exact rfl) | exact rfl); omega; exact rfl; exact rfl; exact rfl))
          | ((with_reducible apply g_build); first
            | ((with_reducible apply w_pure (v := .agg #[_, _, _])); exact rfl; exact rfl))
          | ((with_reducible apply g_ix); first
            | ((with_reducible apply w_fx (sz := 2)); exact rfl; exact rfl; exact rfl; exact rfl; exact rfl; exact (fun _ => rfl); assumption; exact rfl)))
        | ((with_reducible apply g_gd); first
          | ((with_reducible apply w_pass); exact rfl)
          | ((with_reducible apply w_gd_f); exact rfl; all_goals (intro hc; first | (exfalso; omega) | skip)))
        | with_reducible refine w_seq ?_
        | with_reducible refine w_nil ?_
        | with_reducible refine w_region ?_
        | with_reducible refine w_skip ?_
        | with_reducible refine w_block ?_
        | ((with_reducible apply w_yes); exact rfl)
        | ((with_reducible apply w_ifd); exact rfl; all_goals (intro hc; first | (exfalso; omega) | skip))
        | ((with_reducible apply w_retc (v := .agg #[_, _, _])); exact rfl; exact rfl; (first | assumption | (simp (disch := omega) only [upd_same, upd_ne]; first | done | assumption | exact rfl) | exact rfl); exact rfl))
      all_goals first | (exfalso; omega) | skip
      all_goals exact fr_plain rfl rfl
  rintro _ σ _ _ ⟨k11, rfl, rfl, hgo⟩
  have hpr : prV x = true := hgo.symm
  rw [hmd, hpr, if_neg (by
    rintro (q | q | q | q)
    · exact h1 (.inl q)
    · exact h1 (.inr (.inl q))
    · exact h1 (.inr (.inr q))
    · cases q)] at hR
  refine w_keep (i := 11) k11 ?_
  repeat' (first
    | ((with_reducible apply g_op); first
      | ((with_reducible apply g_move); first
        | ((with_reducible apply w_pure (v := .int _ _)); exact rfl; exact rfl)
        | ((with_reducible apply w_pure (v := .func _ _ _)); exact rfl; exact rfl))
      | ((with_reducible apply g_bin); first
        | ((with_reducible apply w_pure (v := .bool _)); exact rfl; exact rfl))
      | ((with_reducible apply g_call); first
        | ((with_reducible apply w_call (v := .int _ _)); exact rfl)))
    | with_reducible refine w_seq ?_
    | with_reducible refine w_nil ?_
    | with_reducible refine w_region ?_
    | ((with_reducible apply w_exit); exact rfl)
    | ((with_reducible apply w_ifd); exact rfl; all_goals (intro hc; first | (exfalso; omega) | skip)))
  refine w_rf (rsize_run a e x ha he hx) (fun _ => rfl) (sn_cons (fzT a) (sn_cons (fzT e) (sn_cons (fzP x) sn_nil))) ?_
  rintro _ rfl
  by_cases h2 : (szN a e x : Int) > 1024 ∨ (szN a e x : Int) > top
  · rw [if_pos h2] at hR
    subst hR
    repeat' (first
      | ((with_reducible apply g_op); first
        | ((with_reducible apply g_move); first
          | ((with_reducible apply w_pure (v := .int _ _)); exact rfl; exact rfl)
          | ((with_reducible apply w_pure (v := .bool _)); exact rfl; exact rfl))
        | ((with_reducible apply g_bin); first
          | ((with_reducible apply w_pure (v := .bool _)); exact rfl; exact rfl))
        | ((with_reducible apply g_pick); first
          | ((with_reducible apply w_pk1 (v := .bool _)); exact rfl; exact rfl; (first | assumption | exact decide_eq_true (by assumption) | exact decide_eq_false (by assumption) | exact decide_eq_true (by omega) | exact decide_eq_false (by omega) | exact beq_iff_eq.2 (by omega) | exact beq_eq_false_iff_ne.2 (by omega) | exact bne_iff_ne.2 (by omega) | exact bne_eq_false_iff_eq.2 (by omega)))
          | ((with_reducible apply w_pk0 (v := .bool _)); exact rfl; exact rfl; (first | assumption | exact decide_eq_true (by assumption) | exact decide_eq_false (by assumption) | exact decide_eq_true (by omega) | exact decide_eq_false (by omega) | exact beq_iff_eq.2 (by omega) | exact beq_eq_false_iff_ne.2 (by omega) | exact bne_iff_ne.2 (by omega) | exact bne_eq_false_iff_eq.2 (by omega))))
        | ((with_reducible apply g_assign); first
          | ((with_reducible apply w_pure (v := .int _ _)); exact rfl; exact rfl))
        | ((with_reducible apply g_store); first
          | ((with_reducible apply w_store (us := [_, _, _]) (ws := [_, _, _])); exact rfl; exact rfl; (first | assumption | (simp (disch := omega) only [upd_same, upd_ne]; first | done | assumption | exact rfl) | exact rfl); omega; exact rfl; exact rfl; exact rfl))
        | ((with_reducible apply g_build); first
          | ((with_reducible apply w_pure (v := .agg #[_, _, _])); exact rfl; exact rfl)))
      | ((with_reducible apply g_gd); first
        | ((with_reducible apply w_gd_f); exact rfl; all_goals (intro hc; first | (exfalso; omega) | skip)))
      | with_reducible refine w_seq ?_
      | with_reducible refine w_nil ?_
      | with_reducible refine w_region ?_
      | ((with_reducible apply w_yes); exact rfl)
      | ((with_reducible apply w_ifd); exact rfl; all_goals (intro hc; first | (exfalso; omega) | skip))
      | ((with_reducible apply w_retc (v := .agg #[_, _, _])); exact rfl; exact rfl; (first | assumption | (simp (disch := omega) only [upd_same, upd_ne]; first | done | assumption | exact rfl) | exact rfl); exact rfl))
    all_goals first | (exfalso; omega) | skip
    all_goals exact fr_plain rfl rfl
  rw [if_neg h2] at hR
  have hsz : 8 * (5 + a.length + e.length + 2 * x.length) + txN a + txN e ≤ szN a e x := by unfold szN; omega
  have hla := txN_len a
  have hle := txN_len e
  repeat' (first
    | ((with_reducible apply g_op); first
      | ((with_reducible apply g_move); first
        | ((with_reducible apply w_pure (v := .int _ _)); exact rfl; exact rfl)
        | ((with_reducible apply w_pure (v := .bool _)); exact rfl; exact rfl)
        | ((with_reducible apply w_pure (v := .func _ _ _)); exact rfl; exact rfl))
      | ((with_reducible apply g_bin); first
        | ((with_reducible apply w_pure (v := .bool _)); exact rfl; exact rfl))
      | ((with_reducible apply g_pick); first
        | ((with_reducible apply w_pk0 (v := .bool _)); exact rfl; exact rfl; (first | assumption | exact decide_eq_true (by assumption) | exact decide_eq_false (by assumption) | exact decide_eq_true (by omega) | exact decide_eq_false (by omega) | exact beq_iff_eq.2 (by omega) | exact beq_eq_false_iff_ne.2 (by omega) | exact bne_iff_ne.2 (by omega) | exact bne_eq_false_iff_eq.2 (by omega))))
      | ((with_reducible apply g_assign); first
        | ((with_reducible apply w_pure (v := .int _ _)); exact rfl; exact rfl)))
    | ((with_reducible apply g_gd); first
      | ((with_reducible apply w_gd_f); exact rfl; all_goals (intro hc; first | (exfalso; omega) | skip)))
    | with_reducible refine w_seq ?_
    | with_reducible refine w_nil ?_
    | with_reducible refine w_region ?_
    | with_reducible refine w_skip ?_
    | ((with_reducible apply w_ifd); exact rfl; all_goals (intro hc; first | (exfalso; omega) | skip)))
  all_goals first | (exfalso; omega) | skip
  refine w_rf (rtexts_run a ha) (fun _ => rfl) (sn_cons (fzT a) sn_nil) ?_
  rintro _ rfl
  repeat' (first
    | ((with_reducible apply g_op); first
      | ((with_reducible apply g_move); first
        | ((with_reducible apply w_pure (v := .func _ _ _)); exact rfl; exact rfl))
      | ((with_reducible apply g_bin); first
        | ((with_reducible apply w_wrap); exact rfl; exact rfl; first | exact i64_in _ (by omega) | exact u64_in _ (by omega) | exact u8_in _ (by omega)))))
  refine w_rf (rtexts_run e he) (fun _ => rfl) (sn_cons (fzT e) sn_nil) ?_
  rintro _ rfl
  repeat' (first
    | ((with_reducible apply g_op); first
      | ((with_reducible apply g_move); first
        | ((with_reducible apply w_pure (v := .func _ _ _)); exact rfl; exact rfl))
      | ((with_reducible apply g_bin); first
        | ((with_reducible apply w_wrap); exact rfl; exact rfl; first | exact i64_in _ (by omega) | exact u64_in _ (by omega) | exact u8_in _ (by omega)))
      | ((with_reducible apply g_assign); first
        | ((with_reducible apply w_pure (v := .int _ _)); exact rfl; exact rfl))
      | ((with_reducible apply g_call); first
        | ((with_reducible apply w_call (v := .int _ _)); exact rfl))
      | ((with_reducible apply w_conv); exact rfl; exact rfl; exact rfl; first | exact i64_in _ (by omega) | exact u64_in _ (by omega) | exact u8_in _ (by omega) | exact u32_in _ (by omega)))
    | with_reducible refine w_seq ?_
    | with_reducible refine w_nil ?_
    | with_reducible refine w_region ?_)
  refine w_rq (Oct.rput_run (a.length : Nat) 8 (by omega) _ _ _) (fun _ => rfl) ?_
  rintro _ rfl
  repeat' (first
    | ((with_reducible apply g_op); first
      | ((with_reducible apply g_assign); first
        | ((with_reducible apply w_pure (v := .int _ _)); exact rfl; exact rfl)
        | ((with_reducible apply w_pure (v := .string _)); exact rfl; exact rfl)))
    | with_reducible refine w_seq ?_
    | with_reducible refine w_nil ?_
    | with_reducible refine w_region ?_)
  refine w_block ?_
  obtain ⟨p0, hp0⟩ : ∃ p0 : Int, top - txN a - txN e = p0 := ⟨_, rfl⟩
  have hN := numsL_is top a e x p0 hp0
  refine w_gen (fun g1 n1 => g1 n = some (.cells 32 [.int .i64 0, .string ⟨#[]⟩, .int .i64 0]) ∧ n + 1 ≤ n1) ⟨hg, Nat.le_refl _⟩ ?_
  rintro g1 n1 ⟨hg1, hn1⟩
  refine w_env ?_
  intro τ2 hτ
  have k0 : τ2 0 = .int .i64 top := (hτ 0).trans rfl
  have k1 : τ2 1 = tv tg a := (hτ 1).trans rfl
  have k2 : τ2 2 = tv tg e := (hτ 2).trans rfl
  have k3 : τ2 3 = pv tg x := (hτ 3).trans rfl
  have k8 : τ2 8 = ptr n 0 := (hτ 8).trans rfl
  have k12 : τ2 12 = .int .i64 (szN a e x : Nat) := (hτ 12).trans rfl
  have k13 : τ2 13 = .int .i64 p0 := (hτ 13).trans (congrArg (Value.int .i64) hp0)
  have k14 : τ2 14 = .string (oct8 [(a.length : Int)]) := (hτ 14).trans (congrArg Value.string (show putB (a.length : Int) 8 = (⟨#[]⟩ ++ putB (a.length : Int) 8 : ByteArray) from (Bl.empty_app _).symm))
  have k15 : τ2 15 = .string (eB []) := (hτ 15).trans rfl
  have k16 : τ2 16 = .int .i64 0 := (hτ 16).trans rfl
  clear hτ
  refine w_keep (i := 0) k0 (w_keep (i := 1) k1 (w_keep (i := 2) k2 (w_keep (i := 3) k3 (w_keep (i := 8) k8 (w_keep (i := 12) k12 (w_keep (i := 13) k13 (w_keep (i := 14) k14 (w_keep (i := 15) k15 (w_keep (i := 16) k16 ?_)))))))))
  have hq0 : txN ([] : List ByteArray) = 0 := rfl
  refine w_rngK [(13, 16), (103, 128)] a (fun i rest (p : List Int) σ g' n' => σ 16 = .int .i64 (i : Nat) ∧ σ 13 = .int .i64 (p0 + (txN (a.take i) : Nat)) ∧ σ 14 = .string (oct8 p) ∧ σ 15 = .string (eB (([] : List ByteArray) ++ a.take i)) ∧ g1 = g' ∧ n1 = n' ∧ p ++ plc (p0 + (txN (a.take i) : Nat)) rest = [(a.length : Int)] ++ plc p0 a ∧ p.length = 1 + i) ?_ ?_ ([(a.length : Int)]) ⟨rfl, congrArg (Value.int .i64) (by simp [txN]), rfl, congrArg Value.string (by simp), rfl, rfl, by simp [txN], by first | rfl | (simp only [List.length_append, List.length_singleton, plc_len]; omega)⟩
  · rintro i t rest p σ _ _ ht hlt ⟨kx, k13, k14, k15, rfl, rfl, hp, hpl⟩ ih
    have h1 := txN_take a i t ht
    have h2 := txN_le a (i + 1)
    have ho8 := oct8_size p
    have heq := eB_size (([] : List ByteArray) ++ a.take i)
    rw [txN_app] at heq
    have hz1 : (⟨#[0]⟩ : ByteArray).size = 1 := rfl
    have hpz := putB_size (p0 + (txN (a.take i) : Nat)) (wid 8)
    rw [show wid 8 = 8 from rfl] at hpz
    have hq2 : (eB (([] : List ByteArray) ++ a.take i) ++ t).size = txN ([] : List ByteArray) + txN (a.take i) + t.size := by rw [ByteArray.size_append, heq]
    refine w_keep (i := 16) kx ?_
    refine w_keep (i := 13) k13 (w_keep (i := 14) k14 (w_keep (i := 15) k15 ?_))
    repeat' (first
      | ((with_reducible apply g_op); first
        | ((with_reducible apply g_move); first
          | ((with_reducible apply w_pure (v := .int _ _)); exact rfl; exact rfl)
          | ((with_reducible apply w_pure (v := .string _)); exact rfl; exact rfl)
          | ((with_reducible apply w_pure (v := .func _ _ _)); exact rfl; exact rfl))
        | ((with_reducible apply g_bin); first
          | ((with_reducible apply w_pure (v := .bool _)); exact rfl; exact rfl))
        | ((with_reducible apply g_call); first
          | ((with_reducible apply w_call (v := .int _ _)); exact rfl))
        | ((with_reducible apply w_conv); exact rfl; exact rfl; exact rfl; first | exact i64_in _ (by omega) | exact u64_in _ (by omega) | exact u8_in _ (by omega) | exact u32_in _ (by omega)))
      | with_reducible refine w_seq ?_
      | with_reducible refine w_nil ?_
      | with_reducible refine w_region ?_
      | with_reducible refine w_skip ?_
      | with_reducible refine w_block ?_
      | ((with_reducible apply w_ifd); exact rfl; all_goals (intro hc; first | (exfalso; omega) | skip)))
    refine w_rq (Oct.rput_run (p0 + (txN (a.take i) : Nat)) 8 (by omega) _ _ _) (fun _ => rfl) ?_
    rintro _ rfl
    rw [show wid 8 = 8 from rfl]
    repeat' (first
      | ((with_reducible apply g_op); first
        | ((with_reducible apply g_load); first
          | ((with_reducible apply w_fl (v := .string _)); exact rfl; exact (fun _ => rfl); assumption; exact rfl))
        | ((with_reducible apply g_move); first
          | ((with_reducible apply w_pure (v := .int _ _)); exact rfl; exact rfl)
          | ((with_reducible apply w_pure (v := .string _)); exact rfl; exact rfl)
          | ((with_reducible apply w_pure (v := .func _ _ _)); exact rfl; exact rfl))
        | ((with_reducible apply g_bin); first
          | ((with_reducible apply w_cat); exact rfl; exact rfl; exact rfl; exact rfl; exact rfl; omega)
          | ((with_reducible apply w_wrap); exact rfl; exact rfl; first | exact i64_in _ (by omega) | exact u64_in _ (by omega) | exact u8_in _ (by omega)))
        | ((with_reducible apply g_assign); first
          | ((with_reducible apply w_pure (v := .int _ _)); exact rfl; exact rfl)
          | ((with_reducible apply w_pure (v := .string _)); exact rfl; exact rfl))
        | ((with_reducible apply g_call); first
          | ((with_reducible apply w_call (v := .int _ _)); exact rfl))
        | ((with_reducible apply g_ix); first
          | ((with_reducible apply w_fx (sz := 1)); exact rfl; exact rfl; exact rfl; exact rfl; exact rfl; exact (fun _ => rfl); assumption; exact rfl)))
      | with_reducible refine w_seq ?_
      | with_reducible refine w_nil ?_
      | with_reducible refine w_region ?_
      | with_reducible refine w_blk ?_)
    refine ih (p ++ [p0 + (txN (a.take i) : Nat)]) _ _ _ (by repeat' (first | with_reducible exact Fr.mix | with_reducible exact Fr.rfl' | with_reducible refine Fr.put ?_ ?_ | with_reducible refine Fr.mix2 ?_ ?_ | with_reducible refine Fr.put0 ?_ | exact rfl)) ⟨rfl, ?_, ?_, ?_, rfl, rfl, ?_, by simp; omega⟩
    · show Value.int .i64 _ = Value.int .i64 _
      rw [h1]
      refine congrArg (Value.int .i64) ?_
      omega
    · show Value.string _ = Value.string _
      rw [oct8_snoc]
    · show Value.string _ = Value.string _
      rw [List.take_add_one, ht]
      show _ = Value.string (eB (([] : List ByteArray) ++ (a.take i ++ [t])))
      rw [← List.append_assoc, eB_snoc]
      rfl
    rw [← hp, plc, h1, List.append_assoc]
    rw [show p0 + ((txN (a.take i) + t.size + 1 : Nat) : Int) = p0 + (txN (a.take i) : Nat) + t.size + 1 by omega]
    rfl
  rintro p σ2 _ _ ⟨k16, k13, k14, k15, rfl, rfl, hp, hpl⟩
  rw [List.take_length, plc, List.append_nil] at hp
  rw [List.take_length, List.nil_append] at k15
  rw [List.take_length] at k13
  subst hp
  have ho8 := oct8_size ([(a.length : Int)] ++ plc p0 a)
  rw [hpl] at ho8
  have hp8 := putB_size 0 8
  refine w_keep (i := 13) k13 (w_keep (i := 14) k14 (w_keep (i := 15) k15 (w_keep (i := 16) k16 ?_)))
  repeat' (first
    | ((with_reducible apply g_op); first
      | ((with_reducible apply g_move); first
        | ((with_reducible apply w_pure (v := .int _ _)); exact rfl; exact rfl)
        | ((with_reducible apply w_pure (v := .string _)); exact rfl; exact rfl)
        | ((with_reducible apply w_pure (v := .func _ _ _)); exact rfl; exact rfl))
      | ((with_reducible apply g_bin); first
        | ((with_reducible apply w_pure (v := .bool _)); exact rfl; exact rfl))
      | ((with_reducible apply g_call); first
        | ((with_reducible apply w_call (v := .int _ _)); exact rfl)))
    | with_reducible refine w_seq ?_
    | with_reducible refine w_nil ?_
    | with_reducible refine w_region ?_
    | ((with_reducible apply w_exit); exact rfl)
    | ((with_reducible apply w_ifd); exact rfl; all_goals (intro hc; first | (exfalso; omega) | skip)))
  refine w_rq (Oct.rput_run 0 8 (by decide) _ _ _) (fun _ => rfl) ?_
  rintro _ rfl
  rw [show wid 8 = 8 from rfl]
  repeat' (first
    | ((with_reducible apply g_op); first
      | ((with_reducible apply g_bin); first
        | ((with_reducible apply w_cat); exact rfl; exact rfl; exact rfl; exact rfl; exact rfl; omega))
      | ((with_reducible apply g_assign); first
        | ((with_reducible apply w_pure (v := .int _ _)); exact rfl; exact rfl)
        | ((with_reducible apply w_pure (v := .string _)); exact rfl; exact rfl)))
    | with_reducible refine w_seq ?_
    | with_reducible refine w_nil ?_
    | with_reducible refine w_region ?_)
  refine w_block ?_
  rw [← oct8_snoc]
  refine w_env ?_
  intro τ3 hτ
  have k0 : τ3 0 = .int .i64 top := (hτ 0).trans rfl
  have k1 : τ3 1 = tv tg a := (hτ 1).trans rfl
  have k2 : τ3 2 = tv tg e := (hτ 2).trans rfl
  have k3 : τ3 3 = pv tg x := (hτ 3).trans rfl
  have k8 : τ3 8 = ptr n 0 := (hτ 8).trans rfl
  have k12 : τ3 12 = .int .i64 (szN a e x : Nat) := (hτ 12).trans rfl
  have k13 : τ3 13 = .int .i64 (p0 + txN a) := (hτ 13).trans rfl
  have k14 : τ3 14 = .string (oct8 ([(a.length : Int)] ++ plc p0 a ++ [0])) := (hτ 14).trans rfl
  have k15 : τ3 15 = .string (eB a) := (hτ 15).trans rfl
  have k17 : τ3 17 = .int .i64 0 := (hτ 17).trans rfl
  clear hτ
  obtain ⟨p1, hp1⟩ : ∃ p1 : Int, p0 + txN a = p1 := ⟨_, rfl⟩
  rw [hp1] at k13
  refine w_keep (i := 0) k0 (w_keep (i := 1) k1 (w_keep (i := 2) k2 (w_keep (i := 3) k3 (w_keep (i := 8) k8 (w_keep (i := 12) k12 (w_keep (i := 13) k13 (w_keep (i := 14) k14 (w_keep (i := 15) k15 (w_keep (i := 17) k17 ?_)))))))))
  refine w_rngK [(13, 15), (17, 17), (132, 157)] e (fun i rest (p : List Int) σ g' n' => σ 17 = .int .i64 (i : Nat) ∧ σ 13 = .int .i64 (p1 + (txN (e.take i) : Nat)) ∧ σ 14 = .string (oct8 p) ∧ σ 15 = .string (eB (a ++ e.take i)) ∧ g1 = g' ∧ n1 = n' ∧ p ++ plc (p1 + (txN (e.take i) : Nat)) rest = ([(a.length : Int)] ++ plc p0 a ++ [0]) ++ plc p1 e ∧ p.length = (2 + a.length) + i) ?_ ?_ (([(a.length : Int)] ++ plc p0 a ++ [0])) ⟨rfl, congrArg (Value.int .i64) (by simp [txN]), rfl, congrArg Value.string (by simp), rfl, rfl, by simp [txN], by first | rfl | (simp only [List.length_append, List.length_singleton, plc_len]; omega)⟩
  · rintro i t rest p σ _ _ ht hlt ⟨kx, k13, k14, k15, rfl, rfl, hp, hpl⟩ ih
    have h1 := txN_take e i t ht
    have h2 := txN_le e (i + 1)
    have ho8 := oct8_size p
    have heq := eB_size (a ++ e.take i)
    rw [txN_app] at heq
    have hz1 : (⟨#[0]⟩ : ByteArray).size = 1 := rfl
    have hpz := putB_size (p1 + (txN (e.take i) : Nat)) (wid 8)
    rw [show wid 8 = 8 from rfl] at hpz
    have hq2 : (eB (a ++ e.take i) ++ t).size = txN a + txN (e.take i) + t.size := by rw [ByteArray.size_append, heq]
    refine w_keep (i := 17) kx ?_
    refine w_keep (i := 13) k13 (w_keep (i := 14) k14 (w_keep (i := 15) k15 ?_))
    repeat' (first
      | ((with_reducible apply g_op); first
        | ((with_reducible apply g_move); first
          | ((with_reducible apply w_pure (v := .int _ _)); exact rfl; exact rfl)
          | ((with_reducible apply w_pure (v := .string _)); exact rfl; exact rfl)
          | ((with_reducible apply w_pure (v := .func _ _ _)); exact rfl; exact rfl))
        | ((with_reducible apply g_bin); first
          | ((with_reducible apply w_pure (v := .bool _)); exact rfl; exact rfl))
        | ((with_reducible apply g_call); first
          | ((with_reducible apply w_call (v := .int _ _)); exact rfl))
        | ((with_reducible apply w_conv); exact rfl; exact rfl; exact rfl; first | exact i64_in _ (by omega) | exact u64_in _ (by omega) | exact u8_in _ (by omega) | exact u32_in _ (by omega)))
      | with_reducible refine w_seq ?_
      | with_reducible refine w_nil ?_
      | with_reducible refine w_region ?_
      | with_reducible refine w_skip ?_
      | with_reducible refine w_block ?_
      | ((with_reducible apply w_ifd); exact rfl; all_goals (intro hc; first | (exfalso; omega) | skip)))
    refine w_rq (Oct.rput_run (p1 + (txN (e.take i) : Nat)) 8 (by omega) _ _ _) (fun _ => rfl) ?_
    rintro _ rfl
    rw [show wid 8 = 8 from rfl]
    repeat' (first
      | ((with_reducible apply g_op); first
        | ((with_reducible apply g_load); first
          | ((with_reducible apply w_fl (v := .string _)); exact rfl; exact (fun _ => rfl); assumption; exact rfl))
        | ((with_reducible apply g_move); first
          | ((with_reducible apply w_pure (v := .int _ _)); exact rfl; exact rfl)
          | ((with_reducible apply w_pure (v := .string _)); exact rfl; exact rfl)
          | ((with_reducible apply w_pure (v := .func _ _ _)); exact rfl; exact rfl))
        | ((with_reducible apply g_bin); first
          | ((with_reducible apply w_cat); exact rfl; exact rfl; exact rfl; exact rfl; exact rfl; omega)
          | ((with_reducible apply w_wrap); exact rfl; exact rfl; first | exact i64_in _ (by omega) | exact u64_in _ (by omega) | exact u8_in _ (by omega)))
        | ((with_reducible apply g_assign); first
          | ((with_reducible apply w_pure (v := .int _ _)); exact rfl; exact rfl)
          | ((with_reducible apply w_pure (v := .string _)); exact rfl; exact rfl))
        | ((with_reducible apply g_call); first
          | ((with_reducible apply w_call (v := .int _ _)); exact rfl))
        | ((with_reducible apply g_ix); first
          | ((with_reducible apply w_fx (sz := 1)); exact rfl; exact rfl; exact rfl; exact rfl; exact rfl; exact (fun _ => rfl); assumption; exact rfl)))
      | with_reducible refine w_seq ?_
      | with_reducible refine w_nil ?_
      | with_reducible refine w_region ?_
      | with_reducible refine w_blk ?_)
    refine ih (p ++ [p1 + (txN (e.take i) : Nat)]) _ _ _ (by repeat' (first | with_reducible exact Fr.mix | with_reducible exact Fr.rfl' | with_reducible refine Fr.put ?_ ?_ | with_reducible refine Fr.mix2 ?_ ?_ | with_reducible refine Fr.put0 ?_ | exact rfl)) ⟨rfl, ?_, ?_, ?_, rfl, rfl, ?_, by simp; omega⟩
    · show Value.int .i64 _ = Value.int .i64 _
      rw [h1]
      refine congrArg (Value.int .i64) ?_
      omega
    · show Value.string _ = Value.string _
      rw [oct8_snoc]
    · show Value.string _ = Value.string _
      rw [List.take_add_one, ht]
      show _ = Value.string (eB (a ++ (e.take i ++ [t])))
      rw [← List.append_assoc, eB_snoc]
      rfl
    rw [← hp, plc, h1, List.append_assoc]
    rw [show p1 + ((txN (e.take i) + t.size + 1 : Nat) : Int) = p1 + (txN (e.take i) : Nat) + t.size + 1 by omega]
    rfl
  rintro p σ3 _ _ ⟨k17, k13, k14, k15, rfl, rfl, hp, hpl⟩
  rw [List.take_length, plc, List.append_nil] at hp
  rw [List.take_length] at k15
  subst hp
  have ho8 := oct8_size ([(a.length : Int)] ++ plc p0 a ++ [0] ++ plc p1 e)
  rw [hpl] at ho8
  have hp8 := putB_size 0 8
  refine w_keep (i := 13) k13 (w_keep (i := 14) k14 (w_keep (i := 15) k15 (w_keep (i := 17) k17 ?_)))
  repeat' (first
    | ((with_reducible apply g_op); first
      | ((with_reducible apply g_move); first
        | ((with_reducible apply w_pure (v := .int _ _)); exact rfl; exact rfl)
        | ((with_reducible apply w_pure (v := .string _)); exact rfl; exact rfl)
        | ((with_reducible apply w_pure (v := .func _ _ _)); exact rfl; exact rfl))
      | ((with_reducible apply g_bin); first
        | ((with_reducible apply w_pure (v := .bool _)); exact rfl; exact rfl))
      | ((with_reducible apply g_call); first
        | ((with_reducible apply w_call (v := .int _ _)); exact rfl)))
    | with_reducible refine w_seq ?_
    | with_reducible refine w_nil ?_
    | with_reducible refine w_region ?_
    | ((with_reducible apply w_exit); exact rfl)
    | ((with_reducible apply w_ifd); exact rfl; all_goals (intro hc; first | (exfalso; omega) | skip)))
  refine w_rq (Oct.rput_run 0 8 (by decide) _ _ _) (fun _ => rfl) ?_
  rintro _ rfl
  rw [show wid 8 = 8 from rfl]
  repeat' (first
    | ((with_reducible apply g_op); first
      | ((with_reducible apply g_bin); first
        | ((with_reducible apply w_cat); exact rfl; exact rfl; exact rfl; exact rfl; exact rfl; omega))
      | ((with_reducible apply g_assign); first
        | ((with_reducible apply w_pure (v := .int _ _)); exact rfl; exact rfl)
        | ((with_reducible apply w_pure (v := .string _)); exact rfl; exact rfl)))
    | with_reducible refine w_seq ?_
    | with_reducible refine w_nil ?_
    | with_reducible refine w_region ?_)
  refine w_block ?_
  rw [← oct8_snoc]
  refine w_env ?_
  intro τ4 hτ
  have k0 : τ4 0 = .int .i64 top := (hτ 0).trans rfl
  have k3 : τ4 3 = pv tg x := (hτ 3).trans rfl
  have k8 : τ4 8 = ptr n 0 := (hτ 8).trans rfl
  have k12 : τ4 12 = .int .i64 (szN a e x : Nat) := (hτ 12).trans rfl
  have k14 : τ4 14 = .string (oct8 ([(a.length : Int)] ++ plc p0 a ++ [0] ++ plc p1 e ++ [0])) := (hτ 14).trans rfl
  have k15 : τ4 15 = .string (eB (a ++ e)) := (hτ 15).trans rfl
  have k18 : τ4 18 = .int .i64 0 := (hτ 18).trans rfl
  clear hτ
  refine w_keep (i := 0) k0 (w_keep (i := 3) k3 (w_keep (i := 8) k8 (w_keep (i := 12) k12 (w_keep (i := 14) k14 (w_keep (i := 15) k15 (w_keep (i := 18) k18 ?_))))))
  obtain ⟨pre, hpre⟩ : ∃ pre, [(a.length : Int)] ++ plc p0 a ++ [0] ++ plc p1 e ++ [0] = pre := ⟨_, rfl⟩
  have hprl : pre.length = 3 + a.length + e.length := by rw [← hpre, List.length_append, hpl]; simp; omega
  rw [hp1, hpre] at hN
  rw [hpre]
  refine w_rngK [(14, 14), (18, 18), (161, 183)] x (fun i rest (_ : Unit) σ g' n' => σ 18 = .int .i64 (i : Nat) ∧ σ 14 = .string (oct8 (pre ++ twos (x.take i))) ∧ g1 = g' ∧ n1 = n' ∧ prV rest = true) ?_ ?_ () ⟨rfl, by rw [List.take_zero]; show _ = Value.string (oct8 (pre ++ [])); rw [List.append_nil]; rfl, rfl, rfl, hpr⟩
  · rintro i ⟨y1, y2⟩ rest _ σ _ _ hy hlt ⟨k18, k14, rfl, rfl, hgo⟩ ih
    have hy' : x[((i : Int)).toNat]? = some (y1, y2) := hy
    unfold prV at hgo
    rw [List.all_cons, Bool.and_eq_true] at hgo
    have hq : 1 ≤ y1 ∧ y1 ≤ 1099511627776 ∧ 0 ≤ y2 ∧ y2 ≤ 1099511627776 := of_decide_eq_true hgo.1
    have ho8 := oct8_size (pre ++ twos (x.take i))
    have htl : (twos (x.take i)).length = 2 * i := by rw [twos_len, List.length_take, Nat.min_eq_left (by omega)]
    rw [List.length_append, htl, hprl] at ho8
    have hz1 := putB_size y1 8
    have hz2 := putB_size y2 8
    have hz3 : (oct8 (pre ++ twos (x.take i)) ++ putB y1 8).size = (oct8 (pre ++ twos (x.take i))).size + (putB y1 8).size := ByteArray.size_append
    refine w_keep (i := 18) k18 ?_
    refine w_keep (i := 14) k14 ?_
    repeat' (first
      | ((with_reducible apply g_op); first
        | ((with_reducible apply g_load); first
          | ((with_reducible apply w_fl (v := .int _ _)); exact rfl; exact (fun _ => rfl); assumption; exact rfl))
        | ((with_reducible apply g_move); first
          | ((with_reducible apply w_pure (v := .int _ _)); exact rfl; exact rfl)
          | ((with_reducible apply w_pure (v := .string _)); exact rfl; exact rfl)
          | ((with_reducible apply w_pure (v := .func _ _ _)); exact rfl; exact rfl))
        | ((with_reducible apply g_bin); first
          | ((with_reducible apply w_pure (v := .bool _)); exact rfl; exact rfl))
        | ((with_reducible apply g_fld); first
          | ((with_reducible apply w_ffld (o := 0)); exact rfl; exact rfl; exact rfl; exact (by decide)))
        | ((with_reducible apply g_call); first
          | ((with_reducible apply w_call (v := .int _ _)); exact rfl))
        | ((with_reducible apply w_conv); exact rfl; exact rfl; exact rfl; first | exact i64_in _ (by omega) | exact u64_in _ (by omega) | exact u8_in _ (by omega) | exact u32_in _ (by omega))
        | ((with_reducible apply g_ix); first
          | ((with_reducible apply w_fx (sz := 2)); exact rfl; exact rfl; exact rfl; exact rfl; exact rfl; exact (fun _ => rfl); assumption; exact rfl)))
      | with_reducible refine w_seq ?_
      | with_reducible refine w_nil ?_
      | with_reducible refine w_region ?_
      | with_reducible refine w_skip ?_
      | with_reducible refine w_block ?_
      | ((with_reducible apply w_draw); kernel_rfl; kernel_rfl)
      | ((with_reducible apply w_ifd); exact rfl; all_goals (intro hc; first | (exfalso; omega) | skip)))
    refine w_rq (Oct.rput_run y1 8 (by omega) _ _ _) (fun _ => rfl) ?_
    rintro _ rfl
    rw [show wid 8 = 8 from rfl]
    repeat' (first
      | ((with_reducible apply g_op); first
        | ((with_reducible apply g_load); first
          | ((with_reducible apply w_fl (v := .int _ _)); exact rfl; exact (fun _ => rfl); assumption; exact rfl))
        | ((with_reducible apply g_move); first
          | ((with_reducible apply w_pure (v := .int _ _)); exact rfl; exact rfl)
          | ((with_reducible apply w_pure (v := .func _ _ _)); exact rfl; exact rfl))
        | ((with_reducible apply g_bin); first
          | ((with_reducible apply w_cat); exact rfl; exact rfl; exact rfl; exact rfl; exact rfl; omega))
        | ((with_reducible apply g_fld); first
          | ((with_reducible apply w_ffld (o := 1)); exact rfl; exact rfl; exact rfl; exact (by decide)))
        | ((with_reducible apply w_conv); exact rfl; exact rfl; exact rfl; first | exact i64_in _ (by omega) | exact u64_in _ (by omega) | exact u8_in _ (by omega) | exact u32_in _ (by omega))
        | ((with_reducible apply g_ix); first
          | ((with_reducible apply w_fx (sz := 2)); exact rfl; exact rfl; exact rfl; exact rfl; exact rfl; exact (fun _ => rfl); assumption; exact rfl))))
    refine w_rq (Oct.rput_run y2 8 (by omega) _ _ _) (fun _ => rfl) ?_
    rintro _ rfl
    rw [show wid 8 = 8 from rfl]
    repeat' (first
      | ((with_reducible apply g_op); first
        | ((with_reducible apply g_move); first
          | ((with_reducible apply w_pure (v := .int _ _)); exact rfl; exact rfl))
        | ((with_reducible apply g_bin); first
          | ((with_reducible apply w_cat); exact rfl; exact rfl; exact rfl; exact rfl; exact rfl; omega)
          | ((with_reducible apply w_wrap); exact rfl; exact rfl; first | exact i64_in _ (by omega) | exact u64_in _ (by omega) | exact u8_in _ (by omega)))
        | ((with_reducible apply g_assign); first
          | ((with_reducible apply w_pure (v := .int _ _)); exact rfl; exact rfl)
          | ((with_reducible apply w_pure (v := .string _)); exact rfl; exact rfl)))
      | with_reducible refine w_nil ?_
      | with_reducible refine w_region ?_
      | with_reducible refine w_blk ?_)
    refine ih () _ _ _ (by repeat' (first | with_reducible exact Fr.mix | with_reducible exact Fr.rfl' | with_reducible refine Fr.put ?_ ?_ | with_reducible refine Fr.mix2 ?_ ?_ | with_reducible refine Fr.put0 ?_ | exact rfl)) ⟨rfl, ?_, rfl, rfl, hgo.2⟩
    show Value.string _ = Value.string _
    rw [List.take_add_one, hy]
    show _ = Value.string (oct8 (pre ++ twos (x.take i ++ [(y1, y2)])))
    rw [twos_snoc, ← List.append_assoc, ← List.append_assoc, oct8_snoc, oct8_snoc]
  rintro _ σ _ _ ⟨k18, k14, rfl, rfl, -⟩
  rw [List.take_length] at k14
  have ho8 := oct8_size (pre ++ twos x)
  rw [List.length_append, twos_len, hprl] at ho8
  have ho9 := oct8_size (pre ++ twos x ++ [0])
  rw [List.length_append, List.length_append, twos_len, hprl, List.length_singleton] at ho9
  have heq := eB_size (a ++ e)
  rw [txN_app] at heq
  refine w_keep (i := 18) k18 (w_keep (i := 14) k14 ?_)
  repeat' (first
    | ((with_reducible apply g_op); first
      | ((with_reducible apply g_move); first
        | ((with_reducible apply w_pure (v := .int _ _)); exact rfl; exact rfl)
        | ((with_reducible apply w_pure (v := .string _)); exact rfl; exact rfl)
        | ((with_reducible apply w_pure (v := .func _ _ _)); exact rfl; exact rfl))
      | ((with_reducible apply g_bin); first
        | ((with_reducible apply w_pure (v := .bool _)); exact rfl; exact rfl))
      | ((with_reducible apply g_call); first
        | ((with_reducible apply w_call (v := .int _ _)); exact rfl)))
    | with_reducible refine w_seq ?_
    | with_reducible refine w_nil ?_
    | with_reducible refine w_region ?_
    | ((with_reducible apply w_exit); exact rfl)
    | ((with_reducible apply w_ifd); exact rfl; all_goals (intro hc; first | (exfalso; omega) | skip)))
  refine w_rq (Oct.rput_run 0 8 (by decide) _ _ _) (fun _ => rfl) ?_
  rintro _ rfl
  rw [show wid 8 = 8 from rfl]
  repeat' (first
    | ((with_reducible apply g_op); first
      | ((with_reducible apply g_bin); first
        | ((with_reducible apply w_cat); exact rfl; exact rfl; exact rfl; exact rfl; exact rfl; omega))))
  rw [← oct8_snoc]
  refine w_rq (Oct.rput_run 0 8 (by decide) _ _ _) (fun _ => rfl) ?_
  rintro _ rfl
  rw [show wid 8 = 8 from rfl]
  repeat' (first
    | ((with_reducible apply g_op); first
      | ((with_reducible apply g_move); first
        | ((with_reducible apply w_pure (v := .int _ _)); exact rfl; exact rfl)
        | ((with_reducible apply w_pure (v := .string _)); exact rfl; exact rfl))
      | ((with_reducible apply g_bin); first
        | ((with_reducible apply w_cat); exact rfl; exact rfl; exact rfl; exact rfl; exact rfl; omega)
        | ((with_reducible apply w_wrap); exact rfl; exact rfl; first | exact i64_in _ (by omega) | exact u64_in _ (by omega) | exact u8_in _ (by omega)))
      | ((with_reducible apply g_assign); first
        | ((with_reducible apply w_pure (v := .string _)); exact rfl; exact rfl))
      | ((with_reducible apply g_call); first
        | ((with_reducible apply w_call (v := .int _ _)); exact rfl)))
    | with_reducible refine w_seq ?_
    | with_reducible refine w_nil ?_
    | with_reducible refine w_region ?_)
  rw [← oct8_snoc]
  have hNn : pre ++ twos x ++ [0] ++ [0] = numsL top a e x := by
    rw [hN]
  rw [hNn]
  have hfz := fillV_size (oct8 (numsL top a e x)) ((szN a e x : Int) - (txN (a ++ e) : Nat))
  have heq2 : (eB (a ++ e)).size = txN (a ++ e) := eB_size _
  refine w_rq (rfill_run _ _ (by rw [← hNn, oct8_size]; simp only [List.length_append, twos_len, hprl, List.length_singleton]; omega) (by omega) _ _ _) (fun _ => rfl) ?_
  rintro v hv
  obtain ⟨FV, hFV, rfl⟩ : ∃ FV, fillV (oct8 (numsL top a e x)) ((szN a e x : Int) - (txN (a ++ e) : Nat)) = FV ∧ v = .string FV := ⟨_, rfl, by rw [hv, heq2]⟩
  rw [hFV, txN_app] at hfz
  clear hv
  rw [hFV] at hR
  have hcs : (FV ++ eB (a ++ e)).size = FV.size + (eB (a ++ e)).size := ByteArray.size_append
  rw [heq] at hcs
  subst hR
  repeat' (first
    | ((with_reducible apply g_op); first
      | ((with_reducible apply g_move); first
        | ((with_reducible apply w_pure (v := .string _)); exact rfl; exact rfl))
      | ((with_reducible apply g_bin); first
        | ((with_reducible apply w_cat); exact rfl; exact rfl; exact rfl; exact rfl; exact rfl; omega))
      | ((with_reducible apply g_store); first
        | ((with_reducible apply w_store (us := [_, _, _]) (ws := [_, _, _])); exact rfl; exact rfl; (first | assumption | (simp (disch := omega) only [upd_same, upd_ne]; first | done | assumption | exact rfl) | exact rfl); omega; exact rfl; exact rfl; exact rfl))
      | ((with_reducible apply g_build); first
        | ((with_reducible apply w_pure (v := .agg #[_, _, _])); exact rfl; exact rfl)))
    | with_reducible refine w_nil ?_
    | ((with_reducible apply w_retc (v := .agg #[_, _, _])); exact rfl; exact rfl; (first | assumption | (simp (disch := omega) only [upd_same, upd_ne]; first | done | assumption | exact rfl) | exact rfl); exact rfl))
  all_goals first | (exfalso; omega) | skip
  all_goals first | exact fr_plain rfl rfl | exact ⟨_, freeze_plain (by rfl), by rfl⟩ | trace_state
end Stk
end Go.Proofs.Ytkpofbkedolhnaa.L

