/- flyleafref01.Fill. -/
import Derived.Test.Ytkpofbkedolhnaac17Tab
import Derived.Test.Ytkpofbkedolhnaaoct0
namespace Go.Proofs.Ytkpofbkedolhnaa.L
open Go.L1 Go.IntWalk
set_option linter.unusedVariables false
set_option linter.unusedSimpArgs false
set_option maxHeartbeats 4000000
set_option maxRecDepth 20000
namespace Oct
theorem zeros_u8' (k : Nat) : (List.replicate k (Value.int .u8 0).cells.toList).flatten = (List.replicate k (0 : Int)).map (Value.int .u8) := by
  induction k with
  | zero => rfl
  | succ k ih => rw [List.replicate_succ, List.flatten_cons, ih, List.replicate_succ]; rfl
theorem rfill_run (s : ByteArray) (z : Int) (hs : s.size ≤ 4611686018427387904) (hz : z ≤ 140737488355328) (g : Nat → Option Ob) (n m : Nat) : Rn Try.prog T 17 [.string s, .int .i64 z] g n m (fun v g' n' => v = .string (fillV s z) ∧ g' = g ∧ n' = n) := by
  refine c_quiet Try.func17 rfl rfl rfl rfl rfl ?_
  by_cases h0 : z < 0
  · repeat' (first
      | ((with_reducible apply g_op); first
        | ((with_reducible apply g_move); first
          | ((with_reducible apply w_pure (v := .int _ _)); exact rfl; exact rfl))
        | ((with_reducible apply g_bin); first
          | ((with_reducible apply w_pure (v := .bool _)); exact rfl; exact rfl))
        | ((with_reducible apply g_assign); first
          | ((with_reducible apply w_pure (v := .string _)); exact rfl; exact rfl)))
      | with_reducible refine w_seq ?_
      | with_reducible refine w_nil ?_
      | with_reducible refine w_region ?_
      | ((with_reducible apply w_ifd); exact rfl; all_goals (intro hc; first | (exfalso; omega) | skip))
      | ((with_reducible apply w_ret (v := .string _)); exact rfl))
    refine ⟨rfl, ?_⟩
    unfold fillV
    rw [if_pos (by omega), show (max z 0).toNat = 0 by omega]
    exact congrArg Value.string (ba_ext (by rw [Lib.extract_data]; simp))
  obtain ⟨p, rfl⟩ := Int.eq_ofNat_of_zero_le (show 0 ≤ z by omega)
  have hp : (max (p : Int) 0).toNat = p := by omega
  by_cases h1 : p ≤ s.size
  · repeat' (first
      | ((with_reducible apply g_op); first
        | ((with_reducible apply g_move); first
          | ((with_reducible apply w_pure (v := .int _ _)); exact rfl; exact rfl)
          | ((with_reducible apply w_pure (v := .string _)); exact rfl; exact rfl))
        | ((with_reducible apply g_bin); first
          | ((with_reducible apply w_pure (v := .bool _)); exact rfl; exact rfl))
        | ((with_reducible apply g_assign); first
          | ((with_reducible apply w_pure (v := .string _)); exact rfl; exact rfl))
        | ((with_reducible apply g_call); first
          | ((with_reducible apply w_call (v := .int _ _)); exact rfl))
        | ((with_reducible apply w_ssl); exact rfl; exact rfl; (first | exact rfl | exact num_of (by omega)); (first | exact rfl | exact num_of (by omega)); omega))
      | with_reducible refine w_seq ?_
      | with_reducible refine w_nil ?_
      | with_reducible refine w_region ?_
      | with_reducible refine w_skip ?_
      | ((with_reducible apply w_no); exact rfl)
      | ((with_reducible apply w_ifd); exact rfl; all_goals (intro hc; first | (exfalso; omega) | skip))
      | ((with_reducible apply w_ret (v := .string _)); exact rfl))
    refine ⟨rfl, ?_⟩
    unfold fillV
    rw [if_pos (by omega), hp]; rfl
  · obtain ⟨d, hd⟩ : ∃ d : Nat, (p : Int) - (s.size : Int) = (d : Int) := ⟨p - s.size, by omega⟩
    repeat' (first
      | ((with_reducible apply g_op); first
        | ((with_reducible apply g_move); first
          | ((with_reducible apply w_pure (v := .int _ _)); exact rfl; exact rfl)
          | ((with_reducible apply w_pure (v := .string _)); exact rfl; exact rfl))
        | ((with_reducible apply g_bin); first
          | ((with_reducible apply w_wrap); exact rfl; exact rfl; first | exact i64_in _ (by omega) | exact u64_in _ (by omega) | exact u8_in _ (by omega))
          | ((with_reducible apply w_pure (v := .bool _)); exact rfl; exact rfl))
        | ((with_reducible apply g_assign); first
          | ((with_reducible apply w_pure (v := .string _)); exact rfl; exact rfl))
        | ((with_reducible apply g_call); first
          | ((with_reducible apply w_call (v := .int _ _)); exact rfl)))
      | with_reducible refine w_seq ?_
      | with_reducible refine w_nil ?_
      | with_reducible refine w_region ?_
      | with_reducible refine w_skip ?_
      | ((with_reducible apply w_no); exact rfl)
      | ((with_reducible apply w_ifd); exact rfl; all_goals (intro hc; first | (exfalso; omega) | skip)))
    rw [hd]
    refine w_mks (nn := d) (by_ := 1) (sz := 1) rfl rfl rfl rfl rfl rfl rfl (by omega) ?_
    repeat' (first
      | fail)
    refine w_b2s (ns := List.replicate d 0) rfl rfl rfl rfl (by rw [upd_same, zeros_u8']) (rd_all (by simp)) ?_
    have hz2 := nums_size (List.replicate d 0)
    rw [List.length_replicate] at hz2
    repeat' (first
      | ((with_reducible apply g_op); first
        | ((with_reducible apply g_bin); first
          | ((with_reducible apply w_cat); exact rfl; exact rfl; exact rfl; exact rfl; exact rfl; omega))
        | ((with_reducible apply g_assign); first
          | ((with_reducible apply w_pure (v := .string _)); exact rfl; exact rfl)))
      | with_reducible refine w_nil ?_
      | ((with_reducible apply w_ret (v := .string _)); exact rfl))
    refine ⟨rfl, ?_⟩
    unfold fillV zeroB
    rw [if_neg (by omega), hp, show p - s.size = d by omega]
end Oct
end Go.Proofs.Ytkpofbkedolhnaa.L

