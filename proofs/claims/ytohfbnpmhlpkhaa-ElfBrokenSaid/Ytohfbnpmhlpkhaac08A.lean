/- octet.Fill by strings.Repeat; put and get of package elf, put of the reference. -/
import Derived.Test.YtohfbnpmhlpkhaaoctP
import Derived.Test.YtohfbnpmhlpkhaaoctG
import Derived.Test.YtohfbnpmhlpkhaarefF
import Derived.Test.YtohfbnpmhlpkhaarefP
namespace Go.Proofs.Ytohfbnpmhlpkhaa.L
open Go.L1 Go.IntWalk Oct
set_option linter.unusedVariables false
set_option linter.unusedSimpArgs false
set_option maxHeartbeats 4000000
theorem repL_zero (n : Nat) : repL ⟨#[0]⟩ n = zeroB n := by
  refine ba_ext ?_
  unfold repL zeroB
  rw [nums_data]
  induction n with
  | zero => rfl
  | succ n ih =>
    have : Lib.repeatL [(0 : UInt8)] (n + 1) = 0 :: Lib.repeatL [(0 : UInt8)] n := by simp [Lib.repeatL, List.replicate_succ]
    show Lib.repeatL [(0 : UInt8)] (n + 1) = _
    rw [this, List.replicate_succ, List.map_cons, ← ih]
    rfl
theorem rep_at (s : ByteArray) (n : Int) (H : Hp) (h1 : s.size = 1) (h2 : 0 ≤ n ∧ n ≤ 100000000) : repExt [.string s, .int .i64 n] H = some (.returned (.string (repL s n.toNat)), H) := by
  unfold repExt
  simp only []
  rw [if_pos ⟨h1, h2.1, h2.2⟩]
theorem fill_run (s : ByteArray) (z : Int) (hs : s.size ≤ 4611686018427387904) (hz : z ≤ 100000000) (g : Nat → Option Ob) (n m : Nat) : Rn Try.prog T 32 [.string s, .int .i64 z] g n m (fun v g' n' => v = .string (fillV s z) ∧ g' = g ∧ n' = n) := by
  refine c_quiet Try.func32 rfl rfl rfl rfl rfl ?_
  by_cases h0 : z < 0
  · repeat' (first
      | ((with_reducible apply g_op); first
        | ((with_reducible apply g_move); first
          | ((with_reducible apply w_pure (v := .int _ _)); exact rfl; exact rfl)
          | ((with_reducible apply w_pure (v := .string _)); exact rfl; exact rfl))
        | ((with_reducible apply g_bin); first
          | ((with_reducible apply w_pure (v := .bool _)); exact rfl; exact rfl))
        | ((with_reducible apply g_assign); first
          | ((with_reducible apply w_pure (v := .int _ _)); exact rfl; exact rfl)
          | ((with_reducible apply w_pure (v := .string _)); exact rfl; exact rfl))
        | ((with_reducible apply g_call); first
          | ((with_reducible apply w_max); exact rfl; exact rfl)
          | ((with_reducible apply w_call (v := .int _ _)); exact rfl))
        | ((with_reducible apply w_ssl); exact rfl; exact rfl; (first | exact rfl | exact num_of (by omega)); (first | exact rfl | exact num_of (by omega)); omega))
      | with_reducible refine w_seq ?_
      | with_reducible refine w_nil ?_
      | with_reducible refine w_region ?_
      | ((with_reducible apply w_ifd); exact rfl; all_goals (intro hc; first | (exfalso; omega) | skip))
      | ((with_reducible apply w_ret (v := .string _)); exact rfl))
    exact ⟨rfl, congrArg Value.string (by unfold fillV; rw [if_pos (by omega)])⟩
  obtain ⟨p, rfl⟩ := Int.eq_ofNat_of_zero_le (show 0 ≤ z by omega)
  have hp : (max (p : Int) 0).toNat = p := by omega
  by_cases h1 : p ≤ s.size
  · repeat' (first
      | ((with_reducible apply g_op); first
        | ((with_reducible apply g_move); first
          | ((with_reducible apply w_pure (v := .int _ _)); exact rfl; exact rfl)
          | ((with_reducible apply w_pure (v := .string _)); exact rfl; exact rfl))
        | ((with_reducible apply g_bin); first
          | ((with_reducible apply w_pure (v := .bool _)); exact rfl; exact rfl))
        | ((with_reducible apply g_assign); first
          | ((with_reducible apply w_pure (v := .int _ _)); exact rfl; exact rfl)
          | ((with_reducible apply w_pure (v := .string _)); exact rfl; exact rfl))
        | ((with_reducible apply g_call); first
          | ((with_reducible apply w_max); exact rfl; exact rfl)
          | ((with_reducible apply w_call (v := .int _ _)); exact rfl))
        | ((with_reducible apply w_ssl); exact rfl; exact rfl; (first | exact rfl | exact num_of (by omega)); (first | exact rfl | exact num_of (by omega)); omega))
      | with_reducible refine w_seq ?_
      | with_reducible refine w_nil ?_
      | with_reducible refine w_region ?_
      | ((with_reducible apply w_ifd); exact rfl; all_goals (intro hc; first | (exfalso; omega) | skip))
      | ((with_reducible apply w_ret (v := .string _)); exact rfl))
    exact ⟨rfl, congrArg Value.string (by unfold fillV; rw [if_pos (by omega)])⟩
  · obtain ⟨d, hd⟩ : ∃ d : Nat, (p : Int) - (s.size : Int) = (d : Int) := ⟨p - s.size, by omega⟩
    repeat' (first
      | ((with_reducible apply g_op); first
        | ((with_reducible apply g_move); first
          | ((with_reducible apply w_pure (v := .int _ _)); exact rfl; exact rfl)
          | ((with_reducible apply w_pure (v := .string _)); exact rfl; exact rfl))
        | ((with_reducible apply g_bin); first
          | ((with_reducible apply w_wrap); exact rfl; exact rfl; first | exact i64_in _ (by omega) | exact u64_in _ (by omega) | exact u8_in _ (by omega))
          | ((with_reducible apply w_pure (v := .bool _)); exact rfl; exact rfl))
        | ((with_reducible apply g_assign); first
          | ((with_reducible apply w_pure (v := .int _ _)); exact rfl; exact rfl)
          | ((with_reducible apply w_pure (v := .string _)); exact rfl; exact rfl))
        | ((with_reducible apply g_call); first
          | ((with_reducible apply w_max); exact rfl; exact rfl)
          | ((with_reducible apply w_call (v := .int _ _)); exact rfl)))
      | with_reducible refine w_seq ?_
      | with_reducible refine w_nil ?_
      | with_reducible refine w_region ?_
      | with_reducible refine w_skip ?_
      | ((with_reducible apply w_ifd); exact rfl; all_goals (intro hc; first | (exfalso; omega) | skip)))
    rw [show max (p : Int) 0 - (s.size : Int) = (d : Int) by omega]
    refine w_ext (gx := repExt) (fun _ => rfl) rfl (rep_at _ _ _ rfl (by omega)) ?_
    rw [show ((d : Int)).toNat = d by omega, repL_zero]
    have hz2 := zeroB_size d
    repeat' (first
      | ((with_reducible apply g_op); first
        | ((with_reducible apply g_bin); first
          | ((with_reducible apply w_cat); exact rfl; exact rfl; exact rfl; exact rfl; exact rfl; omega))
        | ((with_reducible apply g_assign); first
          | ((with_reducible apply w_pure (v := .string _)); exact rfl; exact rfl)))
      | with_reducible refine w_nil ?_
      | ((with_reducible apply w_ret (v := .string _)); exact rfl))
    refine ⟨rfl, congrArg Value.string ?_⟩
    unfold fillV
    rw [if_neg (by omega), hp, show p - s.size = d by omega]
def putV (n w : Int) : ByteArray := putB (max n 0) (wid w)
theorem eput_run (a w : Int) (ha : a ≤ 9223372036854775807) (g : Nat → Option Ob) (n m : Nat) : Rn Try.prog T 31 [.int .i64 a, .int .i64 w] g n m (fun v g' n' => v = .string (putV a w) ∧ g' = g ∧ n' = n) := by
  refine c_quiet Try.func31 rfl rfl rfl rfl rfl ?_
  repeat' (first
    | ((with_reducible apply g_op); first
      | ((with_reducible apply g_move); first
        | ((with_reducible apply w_pure (v := .int _ _)); exact rfl; exact rfl))
      | ((with_reducible apply g_assign); first
        | ((with_reducible apply w_pure (v := .string _)); exact rfl; exact rfl))
      | ((with_reducible apply g_call); first
        | ((with_reducible apply w_max); exact rfl; exact rfl))
      | ((with_reducible apply w_conv); exact rfl; exact rfl; exact rfl; first | exact i64_in _ (by omega) | exact u64_in _ (by omega) | exact u8_in _ (by omega) | exact u32_in _ (by omega)))
    | with_reducible refine w_seq ?_
    | with_reducible refine w_nil ?_
    | with_reducible refine w_region ?_)
  refine w_rq (put_run (max a 0) w (by omega) _ _ _) (fun _ => rfl) ?_
  rintro _ rfl
  repeat' (first
    | ((with_reducible apply g_op); first
      | ((with_reducible apply g_assign); first
        | ((with_reducible apply w_pure (v := .string _)); exact rfl; exact rfl)))
    | with_reducible refine w_nil ?_
    | ((with_reducible apply w_ret (v := .string _)); exact rfl))
  exact ⟨rfl, rfl⟩
theorem erput_run (a w : Int) (ha : a ≤ 9223372036854775807) (g : Nat → Option Ob) (n m : Nat) : Rn Try.prog T 26 [.int .i64 a, .int .i64 w] g n m (fun v g' n' => v = .string (putV a w) ∧ g' = g ∧ n' = n) := by
  refine c_quiet Try.func26 rfl rfl rfl rfl rfl ?_
  by_cases h0 : a < 0
  · repeat' (first
      | ((with_reducible apply g_op); first
        | ((with_reducible apply g_move); first
          | ((with_reducible apply w_pure (v := .int _ _)); exact rfl; exact rfl))
        | ((with_reducible apply g_bin); first
          | ((with_reducible apply w_pure (v := .bool _)); exact rfl; exact rfl))
        | ((with_reducible apply g_assign); first
          | ((with_reducible apply w_pure (v := .int _ _)); exact rfl; exact rfl)
          | ((with_reducible apply w_pure (v := .string _)); exact rfl; exact rfl))
        | ((with_reducible apply w_conv); exact rfl; exact rfl; exact rfl; first | exact i64_in _ (by omega) | exact u64_in _ (by omega) | exact u8_in _ (by omega) | exact u32_in _ (by omega)))
      | with_reducible refine w_seq ?_
      | with_reducible refine w_nil ?_
      | with_reducible refine w_region ?_
      | ((with_reducible apply w_ifd); exact rfl; all_goals (intro hc; first | (exfalso; omega) | skip)))
    refine w_rq (rput_run 0 w (by omega) _ _ _) (fun _ => rfl) ?_
    rintro _ rfl
    repeat' (first
      | ((with_reducible apply g_op); first
        | ((with_reducible apply g_assign); first
          | ((with_reducible apply w_pure (v := .string _)); exact rfl; exact rfl)))
      | with_reducible refine w_nil ?_
      | ((with_reducible apply w_ret (v := .string _)); exact rfl))
    exact ⟨rfl, congrArg Value.string (by unfold putV; rw [show max a 0 = 0 by omega])⟩
  · repeat' (first
      | ((with_reducible apply g_op); first
        | ((with_reducible apply g_move); first
          | ((with_reducible apply w_pure (v := .int _ _)); exact rfl; exact rfl))
        | ((with_reducible apply g_bin); first
          | ((with_reducible apply w_pure (v := .bool _)); exact rfl; exact rfl))
        | ((with_reducible apply g_assign); first
          | ((with_reducible apply w_pure (v := .string _)); exact rfl; exact rfl))
        | ((with_reducible apply w_conv); exact rfl; exact rfl; exact rfl; first | exact i64_in _ (by omega) | exact u64_in _ (by omega) | exact u8_in _ (by omega) | exact u32_in _ (by omega)))
      | with_reducible refine w_seq ?_
      | with_reducible refine w_nil ?_
      | with_reducible refine w_region ?_
      | with_reducible refine w_skip ?_
      | ((with_reducible apply w_ifd); exact rfl; all_goals (intro hc; first | (exfalso; omega) | skip)))
    refine w_rq (rput_run a w (by omega) _ _ _) (fun _ => rfl) ?_
    rintro _ rfl
    repeat' (first
      | ((with_reducible apply g_op); first
        | ((with_reducible apply g_assign); first
          | ((with_reducible apply w_pure (v := .string _)); exact rfl; exact rfl)))
      | with_reducible refine w_nil ?_
      | ((with_reducible apply w_ret (v := .string _)); exact rfl))
    exact ⟨rfl, congrArg Value.string (by unfold putV; rw [show max a 0 = a by omega])⟩
def getN (s : ByteArray) (a w : Int) : Int := if (getV s a w).2 = true ∧ (getV s a w).1 ≤ 1099511627776 then (getV s a w).1 else -1
theorem eget_run (s : ByteArray) (a w : Int) (hz : s.size ≤ 9223372036854775807) (g : Nat → Option Ob) (n m : Nat) : Rn Try.prog T 27 [.string s, .int .i64 a, .int .i64 w] g n m (fun v g' n' => v = .int .i64 (getN s a w) ∧ g' = g ∧ n' = n) := by
  refine c_quiet Try.func27 rfl rfl rfl rfl rfl ?_
  repeat' (first
    | ((with_reducible apply g_op); first
      | ((with_reducible apply g_move); first
        | ((with_reducible apply w_pure (v := .int _ _)); exact rfl; exact rfl)
        | ((with_reducible apply w_pure (v := .string _)); exact rfl; exact rfl))
      | ((with_reducible apply g_assign); first
        | ((with_reducible apply w_pure (v := .int _ _)); exact rfl; exact rfl)))
    | with_reducible refine w_seq ?_
    | with_reducible refine w_nil ?_
    | with_reducible refine w_region ?_)
  refine w_rq (get_run s a w hz _ _ _) (fun _ => rfl) ?_
  rintro _ rfl
  unfold getN
  have hr := getV_range s a w
  generalize getV s a w = G at *
  obtain ⟨G1, G2⟩ := G
  dsimp only at hr ⊢
  cases G2 with
  | false =>
    repeat' (first
      | ((with_reducible apply g_op); first
        | ((with_reducible apply g_move); first
          | ((with_reducible apply w_pure (v := .bool _)); exact rfl; exact rfl)
          | ((with_reducible apply w_pure (v := .tuple _)); exact rfl; exact rfl))
        | ((with_reducible apply g_assign); first
          | ((with_reducible apply w_pure (v := .int _ _)); exact rfl; exact rfl)
          | ((with_reducible apply w_pure (v := .bool _)); exact rfl; exact rfl))
        | ((with_reducible apply w_pure (v := .int _ _)); exact rfl; exact rfl)
        | ((with_reducible apply w_pure (v := .bool _)); exact rfl; exact rfl))
      | ((with_reducible apply g_gd); first
        | ((with_reducible apply w_pass); exact rfl))
      | with_reducible refine w_seq ?_
      | with_reducible refine w_nil ?_
      | with_reducible refine w_region ?_
      | ((with_reducible apply w_yes); exact rfl)
      | ((with_reducible apply w_ret (v := .int _ _)); exact rfl))
    exact ⟨rfl, by rw [if_neg (by simp)]⟩
  | true =>
    by_cases hG : G1 ≤ 1099511627776
    · repeat' (first
        | ((with_reducible apply g_op); first
          | ((with_reducible apply g_move); first
            | ((with_reducible apply w_pure (v := .int _ _)); exact rfl; exact rfl)
            | ((with_reducible apply w_pure (v := .bool _)); exact rfl; exact rfl)
            | ((with_reducible apply w_pure (v := .tuple _)); exact rfl; exact rfl))
          | ((with_reducible apply g_bin); first
            | ((with_reducible apply w_pure (v := .bool _)); exact rfl; exact rfl))
          | ((with_reducible apply g_assign); first
            | ((with_reducible apply w_pure (v := .int _ _)); exact rfl; exact rfl)
            | ((with_reducible apply w_pure (v := .bool _)); exact rfl; exact rfl))
          | ((with_reducible apply w_conv); exact rfl; exact rfl; exact rfl; first | exact i64_in _ (by omega) | exact u64_in _ (by omega) | exact u8_in _ (by omega) | exact u32_in _ (by omega))
          | ((with_reducible apply w_pure (v := .int _ _)); exact rfl; exact rfl)
          | ((with_reducible apply w_pure (v := .bool _)); exact rfl; exact rfl))
        | ((with_reducible apply g_gd); first
          | ((with_reducible apply w_want); exact rfl))
        | with_reducible refine w_seq ?_
        | with_reducible refine w_nil ?_
        | with_reducible refine w_region ?_
        | with_reducible refine w_skip ?_
        | ((with_reducible apply w_ifd); exact rfl; all_goals (intro hc; first | (exfalso; omega) | skip))
        | ((with_reducible apply w_ret (v := .int _ _)); exact rfl))
      exact ⟨rfl, by rw [if_pos ⟨rfl, hG⟩]⟩
    · repeat' (first
        | ((with_reducible apply g_op); first
          | ((with_reducible apply g_move); first
            | ((with_reducible apply w_pure (v := .int _ _)); exact rfl; exact rfl)
            | ((with_reducible apply w_pure (v := .bool _)); exact rfl; exact rfl)
            | ((with_reducible apply w_pure (v := .tuple _)); exact rfl; exact rfl))
          | ((with_reducible apply g_bin); first
            | ((with_reducible apply w_pure (v := .bool _)); exact rfl; exact rfl))
          | ((with_reducible apply g_assign); first
            | ((with_reducible apply w_pure (v := .int _ _)); exact rfl; exact rfl)
            | ((with_reducible apply w_pure (v := .bool _)); exact rfl; exact rfl))
          | ((with_reducible apply w_pure (v := .int _ _)); exact rfl; exact rfl)
          | ((with_reducible apply w_pure (v := .bool _)); exact rfl; exact rfl))
        | ((with_reducible apply g_gd); first
          | ((with_reducible apply w_want); exact rfl))
        | with_reducible refine w_seq ?_
        | with_reducible refine w_nil ?_
        | with_reducible refine w_region ?_
        | ((with_reducible apply w_ifd); exact rfl; all_goals (intro hc; first | (exfalso; omega) | skip))
        | ((with_reducible apply w_ret (v := .int _ _)); exact rfl))
      exact ⟨rfl, by rw [if_neg (by omega)]⟩
end Go.Proofs.Ytohfbnpmhlpkhaa.L

