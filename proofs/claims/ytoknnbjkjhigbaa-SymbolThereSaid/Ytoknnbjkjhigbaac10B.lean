/- symbol.put, Bytes, and the reference's. -/
import Derived.Test.Ytoknnbjkjhigbaac10A
import Derived.Test.YtoknnbjkjhigbaaoctF
import Derived.Test.YtoknnbjkjhigbaarefP
import Derived.Test.YtoknnbjkjhigbaarefF
import Derived.Test.YtoknnbjkjhigbaaL1V
namespace Go.Proofs.Ytoknnbjkjhigbaa.L
open Go.L1 Go.IntWalk
set_option linter.unusedVariables false
set_option linter.unusedSimpArgs false
set_option maxHeartbeats 4000000
namespace Sym
open Oct
def putV (n w : Int) : ByteArray := putB (max n 0) (wid w)
theorem putV_size (n w : Int) : (putV n w).size = wid w := putB_size _ _
theorem spart_run (a w : Int) (ha : a ≤ 9223372036854775807) (g : Nat → Option Ob) (n m : Nat) : Rn Try.prog T 27 [.int .i64 a, .int .i64 w] g n m (fun v g' n' => v = .string (putV a w) ∧ g' = g ∧ n' = n) := by
  refine c_quiet Try.func27 rfl rfl rfl rfl rfl ?_
  repeat' (first
    | ((with_reducible apply g_op); first
      | ((with_reducible apply g_move); first
        | ((with_reducible apply w_pure (v := .int _ _)); exact rfl; exact rfl))
      | ((with_reducible apply g_assign); first
        | ((with_reducible apply w_pure (v := .string _)); exact rfl; exact rfl))
      | ((with_reducible apply g_call); first
        | ((with_reducible apply w_max); exact rfl; exact rfl))
      | ((with_reducible apply w_conv); exact rfl; exact rfl; exact rfl; first | exact i64_in _ (by omega) | exact u64_in _ (by omega) | exact u8_in _ (by omega) | exact u32_in _ (by omega)))
    | with_reducible refine w_seq ?_
    | with_reducible refine w_nil ?_
    | with_reducible refine w_region ?_)
  refine w_rq (put_run (max a 0) w (by omega) _ _ _) (fun _ => rfl) ?_
  rintro _ rfl
  repeat' (first
    | ((with_reducible apply g_op); first
      | ((with_reducible apply g_assign); first
        | ((with_reducible apply w_pure (v := .string _)); exact rfl; exact rfl)))
    | with_reducible refine w_nil ?_
    | ((with_reducible apply w_ret (v := .string _)); exact rfl))
  exact ⟨rfl, rfl⟩
theorem sput_run (a w : Int) (ha : a ≤ 9223372036854775807) (g : Nat → Option Ob) (n m : Nat) : Rn Try.prog T 27 [.int .i64 a, .int .i64 w] g n m (fun v g' n' => v = .string (putV a w) ∧ g' = g ∧ n' = n) := spart_run a w ha g n m
theorem rput_run (a w : Int) (ha : a ≤ 9223372036854775807) (g : Nat → Option Ob) (n m : Nat) : Rn Try.prog T 29 [.int .i64 a, .int .i64 w] g n m (fun v g' n' => v = .string (putV a w) ∧ g' = g ∧ n' = n) := by
  refine c_quiet Try.func29 rfl rfl rfl rfl rfl ?_
  by_cases h0 : a < 0
  · repeat' (first
      | ((with_reducible apply g_op); first
        | ((with_reducible apply g_move); first
          | ((with_reducible apply w_pure (v := .int _ _)); exact rfl; exact rfl))
        | ((with_reducible apply g_bin); first
          | ((with_reducible apply w_pure (v := .bool _)); exact rfl; exact rfl))
        | ((with_reducible apply g_assign); first
          | ((with_reducible apply w_pure (v := .int _ _)); exact rfl; exact rfl)
          | ((with_reducible apply w_pure (v := .string _)); exact rfl; exact rfl))
        | ((with_reducible apply w_conv); exact rfl; exact rfl; exact rfl; first | exact i64_in _ (by omega) | exact u64_in _ (by omega) | exact u8_in _ (by omega) | exact u32_in _ (by omega)))
      | with_reducible refine w_seq ?_
      | with_reducible refine w_nil ?_
      | with_reducible refine w_region ?_
      | ((with_reducible apply w_ifd); exact rfl; all_goals (intro hc; first | (exfalso; omega) | skip)))
    refine w_rq (Oct.rput_run 0 w (by omega) _ _ _) (fun _ => rfl) ?_
    rintro _ rfl
    repeat' (first
      | ((with_reducible apply g_op); first
        | ((with_reducible apply g_assign); first
          | ((with_reducible apply w_pure (v := .string _)); exact rfl; exact rfl)))
      | with_reducible refine w_nil ?_
      | ((with_reducible apply w_ret (v := .string _)); exact rfl))
    exact ⟨rfl, congrArg Value.string (by unfold putV; rw [show max a 0 = 0 by omega])⟩
  · repeat' (first
      | ((with_reducible apply g_op); first
        | ((with_reducible apply g_move); first
          | ((with_reducible apply w_pure (v := .int _ _)); exact rfl; exact rfl))
        | ((with_reducible apply g_bin); first
          | ((with_reducible apply w_pure (v := .bool _)); exact rfl; exact rfl))
        | ((with_reducible apply g_assign); first
          | ((with_reducible apply w_pure (v := .string _)); exact rfl; exact rfl))
        | ((with_reducible apply w_conv); exact rfl; exact rfl; exact rfl; first | exact i64_in _ (by omega) | exact u64_in _ (by omega) | exact u8_in _ (by omega) | exact u32_in _ (by omega)))
      | with_reducible refine w_seq ?_
      | with_reducible refine w_nil ?_
      | with_reducible refine w_region ?_
      | with_reducible refine w_skip ?_
      | ((with_reducible apply w_ifd); exact rfl; all_goals (intro hc; first | (exfalso; omega) | skip)))
    refine w_rq (Oct.rput_run a w (by omega) _ _ _) (fun _ => rfl) ?_
    rintro _ rfl
    repeat' (first
      | ((with_reducible apply g_op); first
        | ((with_reducible apply g_assign); first
          | ((with_reducible apply w_pure (v := .string _)); exact rfl; exact rfl)))
      | with_reducible refine w_nil ?_
      | ((with_reducible apply w_ret (v := .string _)); exact rfl))
    exact ⟨rfl, congrArg Value.string (by unfold putV; rw [show max a 0 = a by omega])⟩
def glob : ByteArray := ⟨#[18, 0]⟩
def symB (a : Int) (d : Bool) (v : Int) : ByteArray := putV a 4 ++ glob ++ putV (if d then 1 else 0) 2 ++ putV v 8 ++ putV 0 8
theorem symB_size (a : Int) (d : Bool) (v : Int) : (symB a d v).size = 24 := by
  unfold symB
  simp only [ByteArray.size_append, putV_size]
  rfl
theorem zero8 : zeroB 8 = putV 0 8 := by decide +kernel
theorem bytes_run (a : Int) (d : Bool) (x : Int) (ha : a ≤ 9223372036854775807) (hx : x ≤ 9223372036854775807) (g : Nat → Option Ob) (n m : Nat) : Rn Try.prog T 17 [.agg #[.int .i64 a, .bool d, .int .i64 x]] g n m (fun v g' n' => v = .string (symB a d x) ∧ g' = g ∧ n' = n) := by
  refine c_quiet Try.func17 rfl rfl rfl rfl rfl ?_
  have z4 := putV_size a 4
  have z2 := putV_size (if d then 1 else 0) 2
  have z8 := putV_size x 8
  have w4 : wid 4 = 4 := rfl
  have w2 : wid 2 = 2 := rfl
  have w8 : wid 8 = 8 := rfl
  rw [w4] at z4
  rw [w2] at z2
  rw [w8] at z8
  have zg : (⟨#[18, 0]⟩ : ByteArray).size = 2 := rfl
  have hs1 : (putV a 4 ++ ⟨#[18, 0]⟩).size = 6 := by rw [ByteArray.size_append, z4]; rfl
  have hs2 : (putV a 4 ++ ⟨#[18, 0]⟩ ++ putV (if d then 1 else 0) 2).size = 8 := by rw [ByteArray.size_append, hs1, z2]
  have hs3 : (putV a 4 ++ ⟨#[18, 0]⟩ ++ putV (if d then 1 else 0) 2 ++ putV x 8).size = 16 := by rw [ByteArray.size_append, hs2, z8]
  have hf : fillV (putV a 4 ++ ⟨#[18, 0]⟩ ++ putV (if d then 1 else 0) 2 ++ putV x 8) 24 = symB a d x := by
    unfold fillV
    rw [if_neg (by omega), hs3]
    show _ ++ zeroB 8 = _
    rw [zero8]
    rfl
  cases d <;> (
  repeat' (first
    | ((with_reducible apply g_op); first
      | ((with_reducible apply g_load); first
        | ((with_reducible apply w_load (v := .int _ _)); exact rfl; (first | assumption | (simp (disch := omega) only [upd_same, upd_ne]; first | done | assumption | exact rfl) | exact rfl); exact rfl)
        | ((with_reducible apply w_load (v := .bool _)); exact rfl; (first | assumption | (simp (disch := omega) only [upd_same, upd_ne]; first | done | assumption | exact rfl) | exact rfl); exact rfl))
      | ((with_reducible apply g_fld); first
        | ((with_reducible apply w_fldp (o := 0)); exact rfl; exact rfl; exact rfl; exact (by decide))
        | ((with_reducible apply w_fldp (o := 1)); exact rfl; exact rfl; exact rfl; exact (by decide)))
      | ((with_reducible apply g_assign); first
        | ((with_reducible apply w_pure (v := .int _ _)); exact rfl; exact rfl)
        | ((with_reducible apply w_pure (v := .string _)); exact rfl; exact rfl))
      | ((with_reducible apply g_box); first
        | ((with_reducible apply w_box (vs := [_, _, _])); exact rfl; exact rfl)))
    | with_reducible refine w_seq ?_
    | with_reducible refine w_nil ?_
    | with_reducible refine w_region ?_
    | with_reducible refine w_skip ?_
    | ((with_reducible apply w_draw); kernel_rfl; kernel_rfl)
    | ((with_reducible apply w_yes); exact rfl)
    | ((with_reducible apply w_no); exact rfl))
  all_goals refine w_rq (sput_run a 4 ha _ _ _) (fun _ => rfl) ?_
  all_goals rintro _ rfl
  repeat' (first
    | ((with_reducible apply g_op); first
      | ((with_reducible apply g_move); first
        | ((with_reducible apply w_pure (v := .int _ _)); exact rfl; exact rfl))
      | ((with_reducible apply g_bin); first
        | ((with_reducible apply w_cat); exact rfl; exact rfl; exact rfl; exact rfl; exact rfl; omega))))
  all_goals refine w_rq (sput_run _ 2 (by decide) _ _ _) (fun _ => rfl) ?_
  all_goals rintro _ rfl
  repeat' (first
    | ((with_reducible apply g_op); first
      | ((with_reducible apply g_load); first
        | ((with_reducible apply w_load (v := .int _ _)); exact rfl; (first | assumption | (simp (disch := omega) only [upd_same, upd_ne]; first | done | assumption | exact rfl) | exact rfl); exact rfl))
      | ((with_reducible apply g_bin); first
        | ((with_reducible apply w_pure (v := .string _)); exact rfl; exact rfl))
      | ((with_reducible apply g_fld); first
        | ((with_reducible apply w_fldp (o := 2)); exact rfl; exact rfl; exact rfl; exact (by decide)))))
  all_goals refine w_rq (sput_run x 8 hx _ _ _) (fun _ => rfl) ?_
  all_goals rintro _ rfl
  repeat' (first
    | ((with_reducible apply g_op); first
      | ((with_reducible apply g_bin); first
        | ((with_reducible apply w_pure (v := .string _)); exact rfl; exact rfl))))
  all_goals refine w_rq (fill_run _ 24 (Nat.le_trans (Nat.le_of_eq hs3) (by decide)) (by decide) _ _ _) (fun _ => rfl) ?_
  all_goals rintro _ rfl
  repeat' (first
    | ((with_reducible apply g_op); first
      | ((with_reducible apply g_assign); first
        | ((with_reducible apply w_pure (v := .string _)); exact rfl; exact rfl)))
    | with_reducible refine w_nil ?_
    | ((with_reducible apply w_ret (v := .string _)); exact rfl))
  all_goals exact ⟨rfl, congrArg Value.string hf⟩)
theorem rbytes_run (a : Int) (d : Bool) (x : Int) (ha : a ≤ 9223372036854775807) (hx : x ≤ 9223372036854775807) (g : Nat → Option Ob) (n m : Nat) : Rn Try.prog T 18 [.agg #[.int .i64 a, .bool d, .int .i64 x]] g n m (fun v g' n' => v = .string (symB a d x) ∧ g' = g ∧ n' = n) := by
  refine c_quiet Try.func18 rfl rfl rfl rfl rfl ?_
  have z4 := putV_size a 4
  have z2 := putV_size (if d then 1 else 0) 2
  have z8 := putV_size x 8
  have z0 := putV_size 0 8
  have w4 : wid 4 = 4 := rfl
  have w2 : wid 2 = 2 := rfl
  have w8 : wid 8 = 8 := rfl
  rw [w4] at z4
  rw [w2] at z2
  rw [w8] at z8 z0
  have hs1 : (putV a 4 ++ ⟨#[18, 0]⟩).size = 6 := by rw [ByteArray.size_append, z4]; rfl
  have hs2 : (putV a 4 ++ ⟨#[18, 0]⟩ ++ putV (if d then 1 else 0) 2).size = 8 := by rw [ByteArray.size_append, hs1, z2]
  have hs3 : (putV a 4 ++ ⟨#[18, 0]⟩ ++ putV (if d then 1 else 0) 2 ++ putV x 8).size = 16 := by rw [ByteArray.size_append, hs2, z8]
  have zg : (⟨#[18, 0]⟩ : ByteArray).size = 2 := rfl
  cases d <;> (
  repeat' (first
    | ((with_reducible apply g_op); first
      | ((with_reducible apply g_load); first
        | ((with_reducible apply w_load (v := .int _ _)); exact rfl; (first | assumption | (simp (disch := omega) only [upd_same, upd_ne]; first | done | assumption | exact rfl) | exact rfl); exact rfl)
        | ((with_reducible apply w_load (v := .bool _)); exact rfl; (first | assumption | (simp (disch := omega) only [upd_same, upd_ne]; first | done | assumption | exact rfl) | exact rfl); exact rfl))
      | ((with_reducible apply g_fld); first
        | ((with_reducible apply w_fldp (o := 0)); exact rfl; exact rfl; exact rfl; exact (by decide))
        | ((with_reducible apply w_fldp (o := 1)); exact rfl; exact rfl; exact rfl; exact (by decide)))
      | ((with_reducible apply g_assign); first
        | ((with_reducible apply w_pure (v := .int _ _)); exact rfl; exact rfl)
        | ((with_reducible apply w_pure (v := .string _)); exact rfl; exact rfl))
      | ((with_reducible apply g_box); first
        | ((with_reducible apply w_box (vs := [_, _, _])); exact rfl; exact rfl)))
    | with_reducible refine w_seq ?_
    | with_reducible refine w_nil ?_
    | with_reducible refine w_region ?_
    | with_reducible refine w_skip ?_
    | ((with_reducible apply w_draw); kernel_rfl; kernel_rfl)
    | ((with_reducible apply w_yes); exact rfl)
    | ((with_reducible apply w_no); exact rfl))
  all_goals refine w_rq (rput_run a 4 ha _ _ _) (fun _ => rfl) ?_
  all_goals rintro _ rfl
  repeat' (first
    | ((with_reducible apply g_op); first
      | ((with_reducible apply g_move); first
        | ((with_reducible apply w_pure (v := .int _ _)); exact rfl; exact rfl))
      | ((with_reducible apply g_bin); first
        | ((with_reducible apply w_cat); exact rfl; exact rfl; exact rfl; exact rfl; exact rfl; omega))))
  all_goals refine w_rq (rput_run _ 2 (by decide) _ _ _) (fun _ => rfl) ?_
  all_goals rintro _ rfl
  repeat' (first
    | ((with_reducible apply g_op); first
      | ((with_reducible apply g_load); first
        | ((with_reducible apply w_load (v := .int _ _)); exact rfl; (first | assumption | (simp (disch := omega) only [upd_same, upd_ne]; first | done | assumption | exact rfl) | exact rfl); exact rfl))
      | ((with_reducible apply g_bin); first
        | ((with_reducible apply w_pure (v := .string _)); exact rfl; exact rfl))
      | ((with_reducible apply g_fld); first
        | ((with_reducible apply w_fldp (o := 2)); exact rfl; exact rfl; exact rfl; exact (by decide)))))
  all_goals refine w_rq (rput_run x 8 hx _ _ _) (fun _ => rfl) ?_
  all_goals rintro _ rfl
  repeat' (first
    | ((with_reducible apply g_op); first
      | ((with_reducible apply g_bin); first
        | ((with_reducible apply w_pure (v := .string _)); exact rfl; exact rfl))))
  all_goals refine w_rq (rput_run 0 8 (by decide) _ _ _) (fun _ => rfl) ?_
  all_goals rintro _ rfl
  repeat' (first
    | ((with_reducible apply g_op); first
      | ((with_reducible apply g_bin); first
        | ((with_reducible apply w_pure (v := .string _)); exact rfl; exact rfl))
      | ((with_reducible apply g_assign); first
        | ((with_reducible apply w_pure (v := .string _)); exact rfl; exact rfl)))
    | with_reducible refine w_nil ?_
    | ((with_reducible apply w_ret (v := .string _)); exact rfl))
  all_goals exact ⟨rfl, rfl⟩)
end Sym
end Go.Proofs.Ytoknnbjkjhigbaa.L

