/- octet.Within, number, Get. -/
import Derived.Test.Ytkpofbkedolhnaac17Tab
import Derived.Test.Ytkpofbkedolhnaaoct0
namespace Go.Proofs.Ytkpofbkedolhnaa.L
open Go.L1 Go.IntWalk
set_option linter.unusedVariables false
set_option linter.unusedSimpArgs false
set_option maxHeartbeats 4000000
set_option maxRecDepth 20000
namespace Oct
def within (a n z : Int) : Bool := decide (0 ≤ a ∧ 0 ≤ n ∧ a ≤ z ∧ n ≤ z - a)
theorem within_run (a k z : Int) (hz : 0 ≤ z ∧ z ≤ 9223372036854775807) (g n m) : Rn Try.prog T 45 [.int .i64 a, .int .i64 k, .int .i64 z] g n m (fun v g' n' => v = .bool (within a k z) ∧ g' = g ∧ n' = n) := by
  refine c_quiet Try.func45 rfl rfl rfl rfl rfl ?_
  repeat' (first
    | ((with_reducible apply g_op); first
      | ((with_reducible apply g_move); first
        | ((with_reducible apply w_pure (v := .int _ _)); exact rfl; exact rfl)
        | ((with_reducible apply w_pure (v := .bool _)); exact rfl; exact rfl))
      | ((with_reducible apply g_bin); first
        | ((with_reducible apply w_wrap); exact rfl; exact rfl; first | exact i64_in _ (by omega) | exact u64_in _ (by omega) | exact u8_in _ (by omega))
        | ((with_reducible apply w_pure (v := .bool _)); exact rfl; exact rfl))
      | ((with_reducible apply g_pick); first
        | ((with_reducible apply w_pk1 (v := .bool _)); exact rfl; exact rfl; (first | assumption | exact decide_eq_true (by assumption) | exact decide_eq_false (by assumption) | exact decide_eq_true (by omega) | exact decide_eq_false (by omega) | exact beq_iff_eq.2 (by omega) | exact beq_eq_false_iff_ne.2 (by omega) | exact bne_iff_ne.2 (by omega) | exact bne_eq_false_iff_eq.2 (by omega)))
        | ((with_reducible apply w_pk0 (v := .bool _)); exact rfl; exact rfl; (first | assumption | exact decide_eq_true (by assumption) | exact decide_eq_false (by assumption) | exact decide_eq_true (by omega) | exact decide_eq_false (by omega) | exact beq_iff_eq.2 (by omega) | exact beq_eq_false_iff_ne.2 (by omega) | exact bne_iff_ne.2 (by omega) | exact bne_eq_false_iff_eq.2 (by omega))))
      | ((with_reducible apply g_assign); first
        | ((with_reducible apply w_pure (v := .bool _)); exact rfl; exact rfl))
      | ((with_reducible apply w_pure (v := .bool _)); exact rfl; exact rfl))
    | ((with_reducible apply g_gd); first
      | ((with_reducible apply w_pass); exact rfl)
      | ((with_reducible apply w_gd_t); exact rfl; all_goals (intro hc; first | (exfalso; omega) | skip)))
    | with_reducible refine w_seq ?_
    | with_reducible refine w_nil ?_
    | with_reducible refine w_region ?_
    | ((with_reducible apply w_ret (v := .bool _)); exact rfl))
  all_goals refine ⟨rfl, ?_⟩
  all_goals refine congrArg Value.bool ?_
  all_goals unfold within
  all_goals ((try dsimp only); rw [Bool.eq_iff_iff]; simp only [decide_eq_true_eq, beq_iff_eq, bne_iff_ne, ne_eq, Bool.false_eq_true, eq_self, false_iff, true_iff]; omega)
theorem number_run (s : ByteArray) (a w : Int) (hz : s.size ≤ 9223372036854775807) (g n m) : Rn Try.prog T 51 [.string s, .int .i64 a, .int .i64 w] g n m (fun v g' n' => v = .bool (may s a w) ∧ g' = g ∧ n' = n) := by
  refine c_quiet Try.func51 rfl rfl rfl rfl rfl ?_
  by_cases h : 1 ≤ w ∧ w ≤ 8
  · repeat' (first
      | ((with_reducible apply g_op); first
        | ((with_reducible apply g_move); first
          | ((with_reducible apply w_pure (v := .int _ _)); exact rfl; exact rfl)
          | ((with_reducible apply w_pure (v := .bool _)); exact rfl; exact rfl)
          | ((with_reducible apply w_pure (v := .string _)); exact rfl; exact rfl))
        | ((with_reducible apply g_bin); first
          | ((with_reducible apply w_pure (v := .bool _)); exact rfl; exact rfl))
        | ((with_reducible apply g_pick); first
          | ((with_reducible apply w_pk1 (v := .bool _)); exact rfl; exact rfl; (first | assumption | exact decide_eq_true (by assumption) | exact decide_eq_false (by assumption) | exact decide_eq_true (by omega) | exact decide_eq_false (by omega) | exact beq_iff_eq.2 (by omega) | exact beq_eq_false_iff_ne.2 (by omega) | exact bne_iff_ne.2 (by omega) | exact bne_eq_false_iff_eq.2 (by omega))))
        | ((with_reducible apply g_assign); first
          | ((with_reducible apply w_pure (v := .bool _)); exact rfl; exact rfl))
        | ((with_reducible apply g_call); first
          | ((with_reducible apply w_call (v := .int _ _)); exact rfl)))
      | ((with_reducible apply g_gd); first
        | ((with_reducible apply w_gd_t); exact rfl; all_goals (intro hc; first | (exfalso; omega) | skip)))
      | with_reducible refine w_seq ?_
      | with_reducible refine w_nil ?_
      | with_reducible refine w_region ?_)
    refine w_rq (within_run a w s.size ⟨by omega, by omega⟩ _ _ _) (fun _ => rfl) ?_
    rintro v rfl
    repeat' (first
      | ((with_reducible apply g_op); first
        | ((with_reducible apply g_pick); first
          | ((with_reducible apply w_pk1 (v := .bool _)); exact rfl; exact rfl; (first | assumption | exact decide_eq_true (by assumption) | exact decide_eq_false (by assumption) | exact decide_eq_true (by omega) | exact decide_eq_false (by omega) | exact beq_iff_eq.2 (by omega) | exact beq_eq_false_iff_ne.2 (by omega) | exact bne_iff_ne.2 (by omega) | exact bne_eq_false_iff_eq.2 (by omega))))
        | ((with_reducible apply g_assign); first
          | ((with_reducible apply w_pure (v := .bool _)); exact rfl; exact rfl)))
      | with_reducible refine w_nil ?_
      | ((with_reducible apply w_ret (v := .bool _)); exact rfl))
    all_goals refine ⟨rfl, ?_⟩
    all_goals refine congrArg Value.bool ?_
    all_goals unfold within may
    all_goals ((try dsimp only); rw [Bool.eq_iff_iff]; simp only [decide_eq_true_eq, beq_iff_eq, bne_iff_ne, ne_eq, Bool.false_eq_true, eq_self, false_iff, true_iff]; omega)
  · repeat' (first
      | ((with_reducible apply g_op); first
        | ((with_reducible apply g_move); first
          | ((with_reducible apply w_pure (v := .int _ _)); exact rfl; exact rfl)
          | ((with_reducible apply w_pure (v := .bool _)); exact rfl; exact rfl))
        | ((with_reducible apply g_bin); first
          | ((with_reducible apply w_pure (v := .bool _)); exact rfl; exact rfl))
        | ((with_reducible apply g_pick); first
          | ((with_reducible apply w_pk1 (v := .bool _)); exact rfl; exact rfl; (first | assumption | exact decide_eq_true (by assumption) | exact decide_eq_false (by assumption) | exact decide_eq_true (by omega) | exact decide_eq_false (by omega) | exact beq_iff_eq.2 (by omega) | exact beq_eq_false_iff_ne.2 (by omega) | exact bne_iff_ne.2 (by omega) | exact bne_eq_false_iff_eq.2 (by omega)))
          | ((with_reducible apply w_pk0 (v := .bool _)); exact rfl; exact rfl; (first | assumption | exact decide_eq_true (by assumption) | exact decide_eq_false (by assumption) | exact decide_eq_true (by omega) | exact decide_eq_false (by omega) | exact beq_iff_eq.2 (by omega) | exact beq_eq_false_iff_ne.2 (by omega) | exact bne_iff_ne.2 (by omega) | exact bne_eq_false_iff_eq.2 (by omega))))
        | ((with_reducible apply g_assign); first
          | ((with_reducible apply w_pure (v := .bool _)); exact rfl; exact rfl))
        | ((with_reducible apply w_pure (v := .bool _)); exact rfl; exact rfl))
      | ((with_reducible apply g_gd); first
        | ((with_reducible apply w_pass); exact rfl)
        | ((with_reducible apply w_gd_t); exact rfl; all_goals (intro hc; first | (exfalso; omega) | skip)))
      | with_reducible refine w_seq ?_
      | with_reducible refine w_nil ?_
      | with_reducible refine w_region ?_
      | ((with_reducible apply w_ret (v := .bool _)); exact rfl))
    all_goals refine ⟨rfl, ?_⟩
    all_goals refine congrArg Value.bool ?_
    all_goals unfold may
    all_goals ((try dsimp only); rw [Bool.eq_iff_iff]; simp only [decide_eq_true_eq, beq_iff_eq, bne_iff_ne, ne_eq, Bool.false_eq_true, eq_self, false_iff, true_iff]; omega)
theorem get_run (s : ByteArray) (a w : Int) (hz : s.size ≤ 9223372036854775807) (g n m) : Rn Try.prog T 43 [.string s, .int .i64 a, .int .i64 w] g n m (fun v g' n' => v = .tuple #[.int .u64 (getV s a w).1, .bool (getV s a w).2] ∧ g' = g ∧ n' = n) := by
  refine c_quiet Try.func43 rfl rfl rfl rfl rfl ?_
  repeat' (first
    | ((with_reducible apply g_op); first
      | ((with_reducible apply g_move); first
        | ((with_reducible apply w_pure (v := .int _ _)); exact rfl; exact rfl)
        | ((with_reducible apply w_pure (v := .string _)); exact rfl; exact rfl))
      | ((with_reducible apply g_assign); first
        | ((with_reducible apply w_pure (v := .int _ _)); exact rfl; exact rfl)
        | ((with_reducible apply w_pure (v := .bool _)); exact rfl; exact rfl)))
    | with_reducible refine w_seq ?_
    | with_reducible refine w_nil ?_
    | with_reducible refine w_region ?_)
  refine w_rq (number_run s a w hz _ _ _) (fun _ => rfl) ?_
  rintro v rfl
  cases hm : may s a w with
  | false =>
    repeat' (first
      | ((with_reducible apply g_op); first
        | ((with_reducible apply g_assign); first
          | ((with_reducible apply w_pure (v := .int _ _)); exact rfl; exact rfl)
          | ((with_reducible apply w_pure (v := .bool _)); exact rfl; exact rfl))
        | ((with_reducible apply w_pure (v := .bool _)); exact rfl; exact rfl))
      | with_reducible refine w_seq ?_
      | with_reducible refine w_nil ?_
      | with_reducible refine w_region ?_
      | ((with_reducible apply w_yes); exact rfl)
      | ((with_reducible apply w_ret (v := .tuple #[.int _ _, .bool _])); exact rfl))
    exact ⟨rfl, by simp [getV, hm]⟩
  | true =>
    have hm' := of_decide_eq_true hm
    obtain ⟨k, rfl⟩ := Int.eq_ofNat_of_zero_le (show 0 ≤ w by omega)
    obtain ⟨p, rfl⟩ := Int.eq_ofNat_of_zero_le (show 0 ≤ a by omega)
    repeat' (first
      | ((with_reducible apply g_op); first
        | ((with_reducible apply g_move); first
          | ((with_reducible apply w_pure (v := .int _ _)); exact rfl; exact rfl))
        | ((with_reducible apply g_assign); first
          | ((with_reducible apply w_pure (v := .int _ _)); exact rfl; exact rfl))
        | ((with_reducible apply w_pure (v := .bool _)); exact rfl; exact rfl))
      | with_reducible refine w_seq ?_
      | with_reducible refine w_nil ?_
      | with_reducible refine w_region ?_
      | with_reducible refine w_skip ?_
      | with_reducible refine w_block ?_
      | ((with_reducible apply w_no); exact rfl))
    refine w_cnt k (fun i (_ : Unit) σ g' n' => σ 0 = .string s ∧ σ 1 = .int .i64 (p : Nat) ∧ σ 15 = .int .i64 (k : Nat) ∧ σ 16 = .int .i64 (i : Nat) ∧ σ 8 = .int .u64 (gv s p i)) ?_ ?_ () ⟨rfl, rfl, rfl, rfl, rfl⟩
    · rintro i _ σ g2 n2 hlt ⟨k0, k1, k15, k16, k8⟩ ih
      obtain ⟨b0, b1⟩ := bt_range s (p + i)
      obtain ⟨x0, x1⟩ := gv_range s p i
      refine w_keep (i := 0) k0 (w_keep (i := 1) k1 (w_keep (i := 15) k15 (w_keep (i := 16) k16 (w_keep (i := 8) k8 ?_))))
      repeat' (first
        | ((with_reducible apply g_op); first
          | ((with_reducible apply g_move); first
            | ((with_reducible apply w_pure (v := .int _ _)); exact rfl; exact rfl)
            | ((with_reducible apply w_pure (v := .string _)); exact rfl; exact rfl))
          | ((with_reducible apply g_bin); first
            | ((with_reducible apply w_wrap); exact rfl; exact rfl; first | exact i64_in _ (by omega) | exact u64_in _ (by omega) | exact u8_in _ (by omega))
            | ((with_reducible apply w_shl); exact rfl; exact rfl; exact rfl; exact rfl; exact rfl; omega)
            | ((with_reducible apply w_pure (v := .bool _)); exact rfl; exact rfl)
            | ((with_reducible apply w_pure (v := .int _ _)); exact rfl; exact rfl))
          | ((with_reducible apply g_assign); first
            | ((with_reducible apply w_pure (v := .int _ _)); exact rfl; exact rfl))
          | ((with_reducible apply w_convw); exact rfl; exact rfl; exact rfl)
          | ((with_reducible apply w_sidx); exact rfl; exact rfl; exact rfl; omega; omega))
        | with_reducible refine w_seq ?_
        | with_reducible refine w_nil ?_
        | with_reducible refine w_region ?_
        | with_reducible refine w_skip ?_
        | with_reducible refine w_block ?_
        | with_reducible refine w_blk ?_
        | ((with_reducible apply w_ifd); exact rfl; all_goals (intro hc; first | (exfalso; omega) | skip)))
      refine ih () _ _ _ ⟨rfl, rfl, rfl, rfl, ?_⟩
      have e : ((p : Int) + (i : Int)).toNat = p + i := by omega
      have e2 : (8 * (i : Int)).toNat = 8 * i := by omega
      show Value.int .u64 (IntKind.u64.wrap ((BitVec.ofInt IntKind.u64.bits (gv s p i) ||| BitVec.ofInt IntKind.u64.bits (IntKind.u64.wrap (IntKind.u64.wrap (bt s ((p : Int) + (i : Int)).toNat) * 2 ^ min (8 * (i : Int)).toNat IntKind.u64.bits))).toNat : Nat)) = _
      rw [e, e2, u64_in (bt s (p + i)) (by omega)]
      exact congrArg _ (or_byte _ _ i (by omega) x0 x1 b0 b1)
    · rintro _ σ g2 n2 ⟨k0, k1, k15, k16, k8⟩
      refine w_keep (i := 0) k0 (w_keep (i := 1) k1 (w_keep (i := 15) k15 (w_keep (i := 16) k16 (w_keep (i := 8) k8 ?_))))
      repeat' (first
        | ((with_reducible apply g_op); first
          | ((with_reducible apply g_move); first
            | ((with_reducible apply w_pure (v := .int _ _)); exact rfl; exact rfl))
          | ((with_reducible apply g_bin); first
            | ((with_reducible apply w_pure (v := .bool _)); exact rfl; exact rfl))
          | ((with_reducible apply g_assign); first
            | ((with_reducible apply w_pure (v := .int _ _)); exact rfl; exact rfl)
            | ((with_reducible apply w_pure (v := .bool _)); exact rfl; exact rfl)))
        | with_reducible refine w_seq ?_
        | with_reducible refine w_nil ?_
        | with_reducible refine w_region ?_
        | ((with_reducible apply w_exit); exact rfl)
        | ((with_reducible apply w_ifd); exact rfl; all_goals (intro hc; first | (exfalso; omega) | skip))
        | ((with_reducible apply w_ret (v := .tuple #[.int _ _, .bool _])); exact rfl))
      exact ⟨rfl, by unfold getV; rw [if_pos hm]; rfl⟩
end Oct
end Go.Proofs.Ytkpofbkedolhnaa.L

