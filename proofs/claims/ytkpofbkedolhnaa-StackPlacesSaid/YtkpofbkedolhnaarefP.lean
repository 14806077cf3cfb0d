/- flyleafref01.Put. -/
import Derived.Test.Ytkpofbkedolhnaac17Tab
import Derived.Test.Ytkpofbkedolhnaaoct0
namespace Go.Proofs.Ytkpofbkedolhnaa.L
open Go.L1 Go.IntWalk
set_option linter.unusedVariables false
set_option linter.unusedSimpArgs false
set_option maxHeartbeats 4000000
set_option maxRecDepth 20000
namespace Oct
theorem rput_run (a w : Int) (ha : 0 ≤ a ∧ a < 18446744073709551616) (g : Nat → Option Ob) (n m : Nat) : Rn Try.prog T 31 [.int .u64 a, .int .i64 w] g n m (fun v g' n' => v = .string (putB a (wid w)) ∧ g' = g ∧ n' = n) := by
  refine c_quiet Try.func31 rfl rfl rfl rfl rfl ?_
  repeat' (first
    | ((with_reducible apply g_op); first
      | ((with_reducible apply g_assign); first
        | ((with_reducible apply w_pure (v := .int _ _)); exact rfl; exact rfl)
        | ((with_reducible apply w_pure (v := .string _)); exact rfl; exact rfl)))
    | with_reducible refine w_seq ?_
    | with_reducible refine w_nil ?_
    | with_reducible refine w_region ?_
    | with_reducible refine w_block ?_)
  refine w_cnt (wid w) (fun i (_ : Unit) σ g' n' => σ 0 = .int .u64 (a / 256 ^ i) ∧ σ 1 = .int .i64 w ∧ σ 5 = .string (putB a i) ∧ σ 6 = .int .i64 (i : Nat) ∧ n ≤ n') ?_ ?_ () ⟨by rw [Int.pow_zero, Int.ediv_one]; rfl, rfl, rfl, rfl, Nat.le_refl _⟩
  · rintro i _ σ g2 n2 hlt ⟨k0, k1, k5, k6, hn⟩ ih
    have hw : (i : Int) < w ∧ (i : Int) < 8 := by unfold wid at hlt; omega
    have hp := pow256_pos i
    have h0 : 0 ≤ a / 256 ^ i := Int.ediv_nonneg ha.1 (by omega)
    have h1 : a / 256 ^ i ≤ a := Int.ediv_le_self _ ha.1
    have e1 : a / 256 ^ i / 256 = a / 256 ^ (i + 1) := by rw [Int.ediv_ediv_of_nonneg (by omega), ← Int.pow_succ]
    have e2 : a / 256 ^ i % 256 = byteN a i := (byteN_256 a i).symm
    have hz := putB_size a i
    generalize a / 256 ^ i = x at *
    refine w_keep (i := 0) k0 (w_keep (i := 1) k1 (w_keep (i := 5) k5 (w_keep (i := 6) k6 ?_)))
    repeat' (first
      | ((with_reducible apply g_op); first
        | ((with_reducible apply g_move); first
          | ((with_reducible apply w_pure (v := .int _ _)); exact rfl; exact rfl)
          | ((with_reducible apply w_pure (v := .bool _)); exact rfl; exact rfl)
          | ((with_reducible apply w_pure (v := .string _)); exact rfl; exact rfl))
        | ((with_reducible apply g_bin); first
          | ((with_reducible apply w_mod); exact rfl; exact rfl; exact rfl; exact rfl; exact rfl; omega; omega)
          | ((with_reducible apply w_pure (v := .bool _)); exact rfl; exact rfl))
        | ((with_reducible apply g_pick); first
          | ((with_reducible apply w_pk1 (v := .bool _)); exact rfl; exact rfl; (first | assumption | exact decide_eq_true (by assumption) | exact decide_eq_false (by assumption) | exact decide_eq_true (by omega) | exact decide_eq_false (by omega) | exact beq_iff_eq.2 (by omega) | exact beq_eq_false_iff_ne.2 (by omega) | exact bne_iff_ne.2 (by omega) | exact bne_eq_false_iff_eq.2 (by omega))))
        | ((with_reducible apply w_conv); exact rfl; exact rfl; exact rfl; first | exact i64_in _ (by omega) | exact u64_in _ (by omega) | exact u8_in _ (by omega) | exact u32_in _ (by omega))
        | ((with_reducible apply w_bsl (ls := [_])); exact rfl; exact rfl; exact rfl; exact ⟨by decide, rfl⟩; exact rfl))
      | ((with_reducible apply g_gd); first
        | ((with_reducible apply w_gd_t); exact rfl; all_goals (intro hc; first | (exfalso; omega) | skip)))
      | with_reducible refine w_seq ?_
      | with_reducible refine w_nil ?_
      | with_reducible refine w_region ?_
      | with_reducible refine w_skip ?_
      | with_reducible refine w_block ?_
      | ((with_reducible apply w_ifd); exact rfl; all_goals (intro hc; first | (exfalso; omega) | skip)))
    refine w_b2s (ns := [x % 256]) rfl rfl rfl rfl upd_same rfl ?_
    have hz2 := nums_size [x % 256]
    simp only [List.length_singleton] at hz2
    repeat' (first
      | ((with_reducible apply g_op); first
        | ((with_reducible apply g_move); first
          | ((with_reducible apply w_pure (v := .int _ _)); exact rfl; exact rfl))
        | ((with_reducible apply g_bin); first
          | ((with_reducible apply w_divk); exact rfl; exact rfl; exact rfl; exact rfl; exact rfl; omega; omega; first | exact u64_in _ (by omega) | exact u8_in _ (by omega) | exact u32_in _ (by omega))
          | ((with_reducible apply w_wrap); exact rfl; exact rfl; first | exact i64_in _ (by omega) | exact u64_in _ (by omega) | exact u8_in _ (by omega))
          | ((with_reducible apply w_cat); exact rfl; exact rfl; exact rfl; exact rfl; exact rfl; omega))
        | ((with_reducible apply g_assign); first
          | ((with_reducible apply w_pure (v := .int _ _)); exact rfl; exact rfl)
          | ((with_reducible apply w_pure (v := .string _)); exact rfl; exact rfl)))
      | with_reducible refine w_nil ?_
      | with_reducible refine w_region ?_
      | with_reducible refine w_blk ?_)
    exact ih () _ _ _ ⟨by rw [← e1]; rfl, rfl, by rw [putB_succ, ← e2]; rfl, rfl, by omega⟩
  · rintro _ σ g2 n2 ⟨k0, k1, k5, k6, hn⟩
    have hw : ¬ ((wid w : Int) < w ∧ (wid w : Int) < 8) := by unfold wid; omega
    refine w_keep (i := 0) k0 (w_keep (i := 1) k1 (w_keep (i := 5) k5 (w_keep (i := 6) k6 ?_)))
    repeat' (first
      | ((with_reducible apply g_op); first
        | ((with_reducible apply g_move); first
          | ((with_reducible apply w_pure (v := .int _ _)); exact rfl; exact rfl)
          | ((with_reducible apply w_pure (v := .bool _)); exact rfl; exact rfl)
          | ((with_reducible apply w_pure (v := .string _)); exact rfl; exact rfl))
        | ((with_reducible apply g_bin); first
          | ((with_reducible apply w_pure (v := .bool _)); exact rfl; exact rfl))
        | ((with_reducible apply g_pick); first
          | ((with_reducible apply w_pk1 (v := .bool _)); exact rfl; exact rfl; (first | assumption | exact decide_eq_true (by assumption) | exact decide_eq_false (by assumption) | exact decide_eq_true (by omega) | exact decide_eq_false (by omega) | exact beq_iff_eq.2 (by omega) | exact beq_eq_false_iff_ne.2 (by omega) | exact bne_iff_ne.2 (by omega) | exact bne_eq_false_iff_eq.2 (by omega)))
          | ((with_reducible apply w_pk0 (v := .bool _)); exact rfl; exact rfl; (first | assumption | exact decide_eq_true (by assumption) | exact decide_eq_false (by assumption) | exact decide_eq_true (by omega) | exact decide_eq_false (by omega) | exact beq_iff_eq.2 (by omega) | exact beq_eq_false_iff_ne.2 (by omega) | exact bne_iff_ne.2 (by omega) | exact bne_eq_false_iff_eq.2 (by omega))))
        | ((with_reducible apply g_assign); first
          | ((with_reducible apply w_pure (v := .string _)); exact rfl; exact rfl)))
      | ((with_reducible apply g_gd); first
        | ((with_reducible apply w_gd_t); exact rfl; all_goals (intro hc; first | (exfalso; omega) | skip)))
      | with_reducible refine w_seq ?_
      | with_reducible refine w_nil ?_
      | with_reducible refine w_region ?_
      | ((with_reducible apply w_exit); exact rfl)
      | ((with_reducible apply w_no); exact rfl)
      | ((with_reducible apply w_ifd); exact rfl; all_goals (intro hc; first | (exfalso; omega) | skip))
      | ((with_reducible apply w_ret (v := .string _)); exact rfl))
    all_goals exact ⟨rfl, rfl⟩
end Oct
end Go.Proofs.Ytkpofbkedolhnaa.L

