/- octet.Fill, by strings.Repeat. -/
import Derived.Test.YtkpofbkedolhnaaoctP
namespace Go.Proofs.Ytkpofbkedolhnaa.L
open Go.L1 Go.IntWalk
set_option linter.unusedVariables false
set_option linter.unusedSimpArgs false
set_option maxHeartbeats 4000000
set_option maxRecDepth 20000
namespace Oct
theorem repL_zero (n : Nat) : repL ⟨#[0]⟩ n = zeroB n := by
  refine ba_ext ?_
  unfold repL zeroB
  rw [nums_data]
  induction n with
  | zero => rfl
  | succ n ih =>
    have : Lib.repeatL [(0 : UInt8)] (n + 1) = 0 :: Lib.repeatL [(0 : UInt8)] n := by simp [Lib.repeatL, List.replicate_succ]
    show Lib.repeatL [(0 : UInt8)] (n + 1) = _
    rw [this, List.replicate_succ, List.map_cons, ← ih]
    rfl
theorem rep_at (s : ByteArray) (n : Int) (H : Hp) (h1 : s.size = 1) (h2 : 0 ≤ n ∧ n ≤ 100000000) : repExt [.string s, .int .i64 n] H = some (.returned (.string (repL s n.toNat)), H) := by
  unfold repExt
  simp only []
  rw [if_pos ⟨h1, h2.1, h2.2⟩]
theorem fill_run (s : ByteArray) (z : Int) (hs : s.size ≤ 4611686018427387904) (hz : z ≤ 100000000) (g : Nat → Option Ob) (n m : Nat) : Rn Try.prog T 27 [.string s, .int .i64 z] g n m (fun v g' n' => v = .string (fillV s z) ∧ g' = g ∧ n' = n) := by
  refine c_quiet Try.func27 rfl rfl rfl rfl rfl ?_
  by_cases h0 : z < 0
  · repeat' (first
      | ((with_reducible apply g_op); first
        | ((with_reducible apply g_move); first
          | ((with_reducible apply w_pure (v := .int _ _)); exact rfl; exact rfl)
          | ((with_reducible apply w_pure (v := .string _)); exact rfl; exact rfl))
        | ((with_reducible apply g_bin); first
          | ((with_reducible apply w_pure (v := .bool _)); exact rfl; exact rfl))
        | ((with_reducible apply g_assign); first
          | ((with_reducible apply w_pure (v := .int _ _)); exact rfl; exact rfl)
          | ((with_reducible apply w_pure (v := .string _)); exact rfl; exact rfl))
        | ((with_reducible apply g_call); first
          | ((with_reducible apply w_max); exact rfl; exact rfl)
          | ((with_reducible apply w_call (v := .int _ _)); exact rfl))
        | ((with_reducible apply w_ssl); exact rfl; exact rfl; (first | exact rfl | exact num_of (by omega)); (first | exact rfl | exact num_of (by omega)); omega))
      | with_reducible refine w_seq ?_
      | with_reducible refine w_nil ?_
      | with_reducible refine w_region ?_
      | ((with_reducible apply w_ifd); exact rfl; all_goals (intro hc; first | (exfalso; omega) | skip))
      | ((with_reducible apply w_ret (v := .string _)); exact rfl))
    exact ⟨rfl, congrArg Value.string (by unfold fillV; rw [if_pos (by omega)])⟩
  obtain ⟨p, rfl⟩ := Int.eq_ofNat_of_zero_le (show 0 ≤ z by omega)
  have hp : (max (p : Int) 0).toNat = p := by omega
  by_cases h1 : p ≤ s.size
  · repeat' (first
      | ((with_reducible apply g_op); first
        | ((with_reducible apply g_move); first
          | ((with_reducible apply w_pure (v := .int _ _)); exact rfl; exact rfl)
          | ((with_reducible apply w_pure (v := .string _)); exact rfl; exact rfl))
        | ((with_reducible apply g_bin); first
          | ((with_reducible apply w_pure (v := .bool _)); exact rfl; exact rfl))
        | ((with_reducible apply g_assign); first
          | ((with_reducible apply w_pure (v := .int _ _)); exact rfl; exact rfl)
          | ((with_reducible apply w_pure (v := .string _)); exact rfl; exact rfl))
        | ((with_reducible apply g_call); first
          | ((with_reducible apply w_max); exact rfl; exact rfl)
          | ((with_reducible apply w_call (v := .int _ _)); exact rfl))
        | ((with_reducible apply w_ssl); exact rfl; exact rfl; (first | exact rfl | exact num_of (by omega)); (first | exact rfl | exact num_of (by omega)); omega))
      | with_reducible refine w_seq ?_
      | with_reducible refine w_nil ?_
      | with_reducible refine w_region ?_
      | ((with_reducible apply w_ifd); exact rfl; all_goals (intro hc; first | (exfalso; omega) | skip))
      | ((with_reducible apply w_ret (v := .string _)); exact rfl))
    exact ⟨rfl, congrArg Value.string (by unfold fillV; rw [if_pos (by omega)])⟩
  · obtain ⟨d, hd⟩ : ∃ d : Nat, (p : Int) - (s.size : Int) = (d : Int) := ⟨p - s.size, by omega⟩
    repeat' (first
      | ((with_reducible apply g_op); first
        | ((with_reducible apply g_move); first
          | ((with_reducible apply w_pure (v := .int _ _)); exact rfl; exact rfl)
          | ((with_reducible apply w_pure (v := .string _)); exact rfl; exact rfl))
        | ((with_reducible apply g_bin); first
          | ((with_reducible apply w_wrap); exact rfl; exact rfl; first | exact i64_in _ (by omega) | exact u64_in _ (by omega) | exact u8_in _ (by omega))
          | ((with_reducible apply w_pure (v := .bool _)); exact rfl; exact rfl))
        | ((with_reducible apply g_assign); first
          | ((with_reducible apply w_pure (v := .int _ _)); exact rfl; exact rfl)
          | ((with_reducible apply w_pure (v := .string _)); exact rfl; exact rfl))
        | ((with_reducible apply g_call); first
          | ((with_reducible apply w_max); exact rfl; exact rfl)
          | ((with_reducible apply w_call (v := .int _ _)); exact rfl)))
      | with_reducible refine w_seq ?_
      | with_reducible refine w_nil ?_
      | with_reducible refine w_region ?_
      | with_reducible refine w_skip ?_
      | ((with_reducible apply w_ifd); exact rfl; all_goals (intro hc; first | (exfalso; omega) | skip)))
    rw [show max (p : Int) 0 - (s.size : Int) = (d : Int) by omega]
    refine w_ext (gx := repExt) (fun _ => rfl) rfl (rep_at _ _ _ rfl (by omega)) ?_
    rw [show ((d : Int)).toNat = d by omega, repL_zero]
    have hz2 := zeroB_size d
    repeat' (first
      | ((with_reducible apply g_op); first
        | ((with_reducible apply g_bin); first
          | ((with_reducible apply w_cat); exact rfl; exact rfl; exact rfl; exact rfl; exact rfl; omega))
        | ((with_reducible apply g_assign); first
          | ((with_reducible apply w_pure (v := .string _)); exact rfl; exact rfl)))
      | with_reducible refine w_nil ?_
      | ((with_reducible apply w_ret (v := .string _)); exact rfl))
    refine ⟨rfl, congrArg Value.string ?_⟩
    unfold fillV
    rw [if_neg (by omega), hp, show p - s.size = d by omega]
end Oct
end Go.Proofs.Ytkpofbkedolhnaa.L

