/- octet.Put. -/
import Derived.Test.Ytkpofbkedolhnaac17Tab
import Derived.Test.Ytkpofbkedolhnaaoct0
namespace Go.Proofs.Ytkpofbkedolhnaa.L
open Go.L1 Go.IntWalk
set_option linter.unusedVariables false
set_option linter.unusedSimpArgs false
set_option maxHeartbeats 4000000
set_option maxRecDepth 20000
namespace Oct
theorem zeros_u8 (k : Nat) : (List.replicate k (Value.int .u8 0).cells.toList).flatten = (List.replicate k (0 : Int)).map (Value.int .u8) := by
  induction k with
  | zero => rfl
  | succ k ih => rw [List.replicate_succ, List.flatten_cons, ih, List.replicate_succ]; rfl
theorem put_row (n : Int) (k i : Nat) (h : i < k) : ((putL n i ++ List.replicate (k - i) 0).map (Value.int .u8)).set i (.int .u8 (byteN n i)) = (putL n (i + 1) ++ List.replicate (k - (i + 1)) 0).map (Value.int .u8) := by
  rw [← List.map_set]
  congr 1
  rw [List.set_append_right _ _ (by rw [putL_length]; omega), putL_length, Nat.sub_self, show k - i = (k - (i + 1)) + 1 by omega, List.replicate_succ, List.set_cons_zero, putL_succ]
  simp
theorem u8_wrap (n : Int) : IntKind.u8.wrap n = n % 256 := by rw [IntKind.wrap_u8]
theorem put_run (a w : Int) (ha : 0 ≤ a) (g : Nat → Option Ob) (n m : Nat) : Rn Try.prog T 24 [.int .u64 a, .int .i64 w] g n m (fun v g' n' => v = .string (putB a (wid w)) ∧ g' = g ∧ n' = n) := by
  refine c_quiet Try.func24 rfl rfl rfl rfl rfl ?_
  obtain ⟨k, hk⟩ : ∃ k : Nat, min (max w 0) 8 = (k : Int) := ⟨(min (max w 0) 8).toNat, by omega⟩
  have hk8 : k ≤ 8 := by omega
  have hw : wid w = k := by unfold wid; omega
  rw [hw]
  repeat' (first
    | ((with_reducible apply g_op); first
      | ((with_reducible apply g_move); first
        | ((with_reducible apply w_pure (v := .int _ _)); exact rfl; exact rfl))
      | ((with_reducible apply g_assign); first
        | ((with_reducible apply w_pure (v := .string _)); exact rfl; exact rfl))
      | ((with_reducible apply g_call); first
        | ((with_reducible apply w_max); exact rfl; exact rfl)
        | ((with_reducible apply w_min); exact rfl; exact rfl)))
    | with_reducible refine w_seq ?_
    | with_reducible refine w_nil ?_
    | with_reducible refine w_region ?_)
  rw [hk]
  refine w_mks (nn := k) (by_ := 1) (sz := 1) rfl rfl rfl rfl rfl rfl rfl (by omega) ?_
  repeat' (first
    | ((with_reducible apply g_op); first
      | ((with_reducible apply g_move); first
        | ((with_reducible apply w_pure (v := .int _ _)); exact rfl; exact rfl)
        | ((with_reducible apply w_pure (v := .slice _ _ _)); exact rfl; exact rfl))
      | ((with_reducible apply g_assign); first
        | ((with_reducible apply w_pure (v := .slice _ _ _)); exact rfl; exact rfl))
      | ((with_reducible apply g_call); first
        | ((with_reducible apply w_call (v := .int _ _)); exact rfl)))
    | with_reducible refine w_seq ?_
    | with_reducible refine w_nil ?_
    | with_reducible refine w_region ?_
    | with_reducible refine w_block ?_)
  refine w_cnt k (fun i (_ : Unit) σ g' n' => σ 5 = slc n 0 k ∧ σ 12 = .int .i64 (k : Nat) ∧ σ 13 = .int .i64 (i : Nat) ∧ σ 0 = .int .u64 a ∧ g' n = some (.cells 5 ((putL a i ++ List.replicate (k - i) 0).map (Value.int .u8))) ∧ n' = n + 1) ?_ ?_ () ⟨rfl, rfl, rfl, rfl, by rw [upd_same, zeros_u8]; rfl, rfl⟩
  · rintro i _ σ g2 n2 hlt ⟨k5, k12, k13, k0, hg, rfl⟩ ih
    refine w_keep (i := 5) k5 (w_keep (i := 12) k12 (w_keep (i := 13) k13 (w_keep (i := 0) k0 ?_)))
    repeat' (first
      | ((with_reducible apply g_op); first
        | ((with_reducible apply g_move); first
          | ((with_reducible apply w_pure (v := .int _ _)); exact rfl; exact rfl)
          | ((with_reducible apply w_pure (v := .slice _ _ _)); exact rfl; exact rfl))
        | ((with_reducible apply g_bin); first
          | ((with_reducible apply w_wrap); exact rfl; exact rfl; first | exact i64_in _ (by omega) | exact u64_in _ (by omega) | exact u8_in _ (by omega))
          | ((with_reducible apply w_shr); exact rfl; exact rfl; exact rfl; exact rfl; exact rfl; omega; omega)
          | ((with_reducible apply w_pure (v := .bool _)); exact rfl; exact rfl))
        | ((with_reducible apply g_assign); first
          | ((with_reducible apply w_pure (v := .int _ _)); exact rfl; exact rfl))
        | ((with_reducible apply w_convw); exact rfl; exact rfl; exact rfl)
        | ((with_reducible apply g_ix); first
          | ((with_reducible apply w_ixr (sz := 1)); exact rfl; exact rfl; exact rfl; exact rfl; omega; omega)))
      | with_reducible refine w_seq ?_
      | with_reducible refine w_nil ?_
      | with_reducible refine w_region ?_
      | with_reducible refine w_skip ?_
      | with_reducible refine w_block ?_
      | ((with_reducible apply w_ifd); exact rfl; all_goals (intro hc; first | (exfalso; omega) | skip)))
    refine w_st1 (i := n) (off := 0 + (i : Int).toNat * 1) (v := .int .u8 (byteN a i)) rfl ?_ rfl rfl hg (by omega) rfl (by simp [putL_length]; omega) ?_
    · show Value.int .u8 (IntKind.u8.wrap (a / 2 ^ min (8 * (i : Int)).toNat IntKind.u64.bits)) = _
      rw [u8_wrap, show min (8 * (i : Int)).toNat IntKind.u64.bits = 8 * i by show min _ 64 = _; omega]; rfl
    rw [show 0 + (i : Int).toNat * 1 = i by omega, put_row a k i hlt]
    repeat' (first
      | ((with_reducible apply g_op); first
        | ((with_reducible apply g_move); first
          | ((with_reducible apply w_pure (v := .int _ _)); exact rfl; exact rfl))
        | ((with_reducible apply g_bin); first
          | ((with_reducible apply w_wrap); exact rfl; exact rfl; first | exact i64_in _ (by omega) | exact u64_in _ (by omega) | exact u8_in _ (by omega))))
      | with_reducible refine w_nil ?_
      | with_reducible refine w_region ?_
      | with_reducible refine w_blk ?_)
    exact ih () _ _ _ ⟨rfl, rfl, rfl, rfl, upd_same, rfl⟩
  · rintro _ σ g2 n2 ⟨k5, k12, k13, k0, hg, rfl⟩
    refine w_keep (i := 5) k5 (w_keep (i := 12) k12 (w_keep (i := 13) k13 (w_keep (i := 0) k0 ?_)))
    repeat' (first
      | ((with_reducible apply g_op); first
        | ((with_reducible apply g_move); first
          | ((with_reducible apply w_pure (v := .slice _ _ _)); exact rfl; exact rfl))
        | ((with_reducible apply g_bin); first
          | ((with_reducible apply w_pure (v := .bool _)); exact rfl; exact rfl)))
      | with_reducible refine w_seq ?_
      | with_reducible refine w_nil ?_
      | with_reducible refine w_region ?_
      | ((with_reducible apply w_exit); exact rfl)
      | ((with_reducible apply w_ifd); exact rfl; all_goals (intro hc; first | (exfalso; omega) | skip)))
    refine w_b2s (ns := putL a k) rfl rfl rfl rfl hg ?_ ?_
    · rw [Nat.sub_self, List.replicate_zero, List.append_nil]
      exact rd_all (by rw [List.length_map, putL_length])
    repeat' (first
      | ((with_reducible apply g_op); first
        | ((with_reducible apply g_assign); first
          | ((with_reducible apply w_pure (v := .string _)); exact rfl; exact rfl)))
      | with_reducible refine w_nil ?_
      | ((with_reducible apply w_ret (v := .string _)); exact rfl))
    exact ⟨rfl, rfl⟩
end Oct
end Go.Proofs.Ytkpofbkedolhnaa.L

