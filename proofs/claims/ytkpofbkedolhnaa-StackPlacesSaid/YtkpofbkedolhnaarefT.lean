/- The reference's Text. -/
import Derived.Test.Ytkpofbkedolhnaac17Tab
import Derived.Test.Ytkpofbkedolhnaaoct0
namespace Go.Proofs.Ytkpofbkedolhnaa.L
open Go.L1 Go.IntWalk
set_option linter.unusedVariables false
set_option linter.unusedSimpArgs false
set_option maxHeartbeats 4000000
set_option maxRecDepth 20000
namespace Oct
theorem rtext_run (s : ByteArray) (p : Nat) (most : Int) (hz : s.size ≤ 4611686018427387904) (hm : 0 ≤ most ∧ most ≤ 4611686018427387904) (ha : p ≤ s.size) (g n m) : Rn Try.prog T 15 [.string s, .int .i64 p, .int .i64 most] g n m (fun v g' n' => v = .tuple #[.string (textV s p most).1, .bool (textV s p most).2] ∧ g' = g ∧ n' = n) := by
  refine c_quiet Try.func15 rfl rfl rfl rfl rfl ?_
  obtain ⟨L, hL⟩ : ∃ L, looks s p most = L := ⟨_, rfl⟩
  have hL' : (L : Int) = min ((s.size : Int) - p) (most + 1) := by rw [← hL]; unfold looks; omega
  have hv : textV s p most = textOf s p (find0 s L p) := by unfold textV; rw [if_neg (by omega), hL, Int.toNat_natCast]
  rw [hv]
  repeat' (first
    | ((with_reducible apply g_op); first
      | ((with_reducible apply g_move); first
        | ((with_reducible apply w_pure (v := .int _ _)); exact rfl; exact rfl))
      | ((with_reducible apply g_bin); first
        | ((with_reducible apply w_pure (v := .bool _)); exact rfl; exact rfl))
      | ((with_reducible apply g_assign); first
        | ((with_reducible apply w_pure (v := .int _ _)); exact rfl; exact rfl)
        | ((with_reducible apply w_pure (v := .bool _)); exact rfl; exact rfl)
        | ((with_reducible apply w_pure (v := .string _)); exact rfl; exact rfl)))
    | with_reducible refine w_seq ?_
    | with_reducible refine w_nil ?_
    | with_reducible refine w_region ?_
    | with_reducible refine w_skip ?_
    | with_reducible refine w_block ?_
    | ((with_reducible apply w_no); exact rfl))
  refine w_while (α := Nat) (fun i σ g' n' => σ 0 = .string s ∧ σ 1 = .int .i64 (p : Nat) ∧ σ 2 = .int .i64 most ∧ σ 8 = .int .i64 ((p + i : Nat)) ∧ i ≤ L ∧ find0 s L p = find0 s (L - i) (p + i)) (fun i => L - i) ?_ 0 ⟨rfl, rfl, rfl, rfl, by omega, rfl⟩
  rintro i σ g2 n2 ⟨k0, k1, k2, k8, hi, hf⟩ ih
  have e : (((p + i : Nat) : Int)).toNat = p + i := by omega
  have e0 : ((p : Nat) : Int).toNat = p := Int.toNat_natCast p
  refine w_keep (i := 0) k0 (w_keep (i := 1) k1 (w_keep (i := 2) k2 (w_keep (i := 8) k8 ?_)))
  rcases Nat.lt_or_ge i L with hlt | hge
  · obtain ⟨r, hr⟩ : ∃ r, L - i = r + 1 := ⟨L - i - 1, by omega⟩
    rw [hr, find0] at hf
    repeat' (first
      | ((with_reducible apply g_op); first
        | ((with_reducible apply g_move); first
          | ((with_reducible apply w_pure (v := .int _ _)); exact rfl; exact rfl)
          | ((with_reducible apply w_pure (v := .bool _)); exact rfl; exact rfl)
          | ((with_reducible apply w_pure (v := .string _)); exact rfl; exact rfl))
        | ((with_reducible apply g_bin); first
          | ((with_reducible apply w_wrap); exact rfl; exact rfl; first | exact i64_in _ (by omega) | exact u64_in _ (by omega) | exact u8_in _ (by omega))
          | ((with_reducible apply w_pure (v := .bool _)); exact rfl; exact rfl))
        | ((with_reducible apply g_pick); first
          | ((with_reducible apply w_pk1 (v := .bool _)); exact rfl; exact rfl; (first | assumption | exact decide_eq_true (by assumption) | exact decide_eq_false (by assumption) | exact decide_eq_true (by omega) | exact decide_eq_false (by omega) | exact beq_iff_eq.2 (by omega) | exact beq_eq_false_iff_ne.2 (by omega) | exact bne_iff_ne.2 (by omega) | exact bne_eq_false_iff_eq.2 (by omega))))
        | ((with_reducible apply g_assign); first
          | ((with_reducible apply w_pure (v := .int _ _)); exact rfl; exact rfl)
          | ((with_reducible apply w_pure (v := .bool _)); exact rfl; exact rfl)
          | ((with_reducible apply w_pure (v := .string _)); exact rfl; exact rfl))
        | ((with_reducible apply g_call); first
          | ((with_reducible apply w_call (v := .int _ _)); exact rfl))
        | ((with_reducible apply w_sidx); exact rfl; exact rfl; exact rfl; omega; omega)
        | ((with_reducible apply w_ssl); exact rfl; exact rfl; (first | exact rfl | exact num_of (by omega)); (first | exact rfl | exact num_of (by omega)); omega))
      | ((with_reducible apply g_gd); first
        | ((with_reducible apply w_gd_t); exact rfl; all_goals (intro hc; first | (exfalso; omega) | skip)))
      | with_reducible refine w_seq ?_
      | with_reducible refine w_nil ?_
      | with_reducible refine w_region ?_
      | with_reducible refine w_skip ?_
      | with_reducible refine w_block ?_
      | with_reducible refine w_blk ?_
      | ((with_reducible apply w_ifd); exact rfl; all_goals (intro hc; first | (exfalso; omega) | skip))
      | ((with_reducible apply w_ret (v := .tuple #[.string _, .bool _])); exact rfl))
    · rw [e] at *
      have hb : bt s (p + i) = 0 := by assumption
      rw [if_pos hb] at hf
      exact ⟨rfl, by rw [hf, e0]; rfl⟩
    · rw [e] at *
      have hb : ¬ bt s (p + i) = 0 := by assumption
      rw [if_neg hb] at hf
      exact ih (i + 1) _ _ _ (by omega) ⟨rfl, rfl, rfl, by rfl, by omega, by rw [hf]; congr 1 <;> omega⟩
  · have hiL : i = L := by omega
    subst hiL
    rw [Nat.sub_self, find0] at hf
    rw [hf]
    repeat' (first
      | ((with_reducible apply g_op); first
        | ((with_reducible apply g_move); first
          | ((with_reducible apply w_pure (v := .int _ _)); exact rfl; exact rfl)
          | ((with_reducible apply w_pure (v := .bool _)); exact rfl; exact rfl)
          | ((with_reducible apply w_pure (v := .string _)); exact rfl; exact rfl))
        | ((with_reducible apply g_bin); first
          | ((with_reducible apply w_wrap); exact rfl; exact rfl; first | exact i64_in _ (by omega) | exact u64_in _ (by omega) | exact u8_in _ (by omega))
          | ((with_reducible apply w_pure (v := .bool _)); exact rfl; exact rfl))
        | ((with_reducible apply g_pick); first
          | ((with_reducible apply w_pk1 (v := .bool _)); exact rfl; exact rfl; (first | assumption | exact decide_eq_true (by assumption) | exact decide_eq_false (by assumption) | exact decide_eq_true (by omega) | exact decide_eq_false (by omega) | exact beq_iff_eq.2 (by omega) | exact beq_eq_false_iff_ne.2 (by omega) | exact bne_iff_ne.2 (by omega) | exact bne_eq_false_iff_eq.2 (by omega)))
          | ((with_reducible apply w_pk0 (v := .bool _)); exact rfl; exact rfl; (first | assumption | exact decide_eq_true (by assumption) | exact decide_eq_false (by assumption) | exact decide_eq_true (by omega) | exact decide_eq_false (by omega) | exact beq_iff_eq.2 (by omega) | exact beq_eq_false_iff_ne.2 (by omega) | exact bne_iff_ne.2 (by omega) | exact bne_eq_false_iff_eq.2 (by omega))))
        | ((with_reducible apply g_assign); first
          | ((with_reducible apply w_pure (v := .bool _)); exact rfl; exact rfl)
          | ((with_reducible apply w_pure (v := .string _)); exact rfl; exact rfl))
        | ((with_reducible apply g_call); first
          | ((with_reducible apply w_call (v := .int _ _)); exact rfl)))
      | ((with_reducible apply g_gd); first
        | ((with_reducible apply w_gd_t); exact rfl; all_goals (intro hc; first | (exfalso; omega) | skip)))
      | with_reducible refine w_seq ?_
      | with_reducible refine w_nil ?_
      | with_reducible refine w_region ?_
      | ((with_reducible apply w_exit); exact rfl)
      | ((with_reducible apply w_no); exact rfl)
      | ((with_reducible apply w_ifd); exact rfl; all_goals (intro hc; first | (exfalso; omega) | skip))
      | ((with_reducible apply w_ret (v := .tuple #[.string _, .bool _])); exact rfl))
    all_goals first | (exfalso; omega) | skip
    all_goals exact ⟨rfl, rfl⟩
theorem rtext_int (s : ByteArray) (p : Int) (most : Int) (hz : s.size ≤ 4611686018427387904) (hm : 0 ≤ most ∧ most ≤ 4611686018427387904) (ha : 0 ≤ p ∧ p ≤ s.size) (g n m) : Rn Try.prog T 15 [.string s, .int .i64 p, .int .i64 most] g n m (fun v g' n' => v = .tuple #[.string (textV s p most).1, .bool (textV s p most).2] ∧ g' = g ∧ n' = n) := by
  obtain ⟨q, rfl⟩ := Int.eq_ofNat_of_zero_le ha.1
  exact rtext_run s q most hz hm (by omega) g n m
end Oct
end Go.Proofs.Ytkpofbkedolhnaa.L

