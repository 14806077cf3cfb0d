/- PlaceAll: walked. -/
import Derived.Test.Ythfhlfkcphojkaac13F
namespace Go.Proofs.Ythfhlfkcphojkaa.L.PlaceAll
open Go.L1 Go.IntWalk Go.Proofs.Ythfhlfkcphojkaa.L
set_option linter.unusedVariables false
set_option linter.unusedSimpArgs false
set_option maxHeartbeats 4000000
set_option maxRecDepth 20000
def tab : Tb := L.T
theorem tabok : ∀ C : Cx, C.P = Try.prog → TbOk C tab := L.tabok
theorem walk (X : List (Int × Int)) (a b : Int) (g : Nat → Option Ob) (n : Nat) : Rn Try.prog T 3 [wv tg X, .int .i64 a, .int .i64 b] g n n (fun v _ _ => v = .bool true) := by
  refine c_open Try.func3 rfl rfl rfl rfl rfl rfl ?_
  repeat' (first
    | ((with_reducible apply g_op); first
      | ((with_reducible apply g_assign); first
        | ((with_reducible apply w_pure (v := .bool _)); exact rfl; exact rfl)))
    | with_reducible refine w_seq ?_
    | with_reducible refine w_nil ?_
    | with_reducible refine w_region ?_)
  refine w_rf awake_run (fun _ => rfl) sn_nil ?_
  rintro _ rfl
  repeat' (first
    | ((with_reducible apply g_op); first
      | ((with_reducible apply g_move); first
        | ((with_reducible apply w_pure (v := .func _ _ _)); exact rfl; exact rfl))
      | ((with_reducible apply g_assign); first
        | ((with_reducible apply w_pure (v := .bool _)); exact rfl; exact rfl)))
    | with_reducible refine w_seq ?_
    | with_reducible refine w_nil ?_
    | with_reducible refine w_region ?_)
  refine w_rq (few_run X _ _ _) (fun _ => rfl) ?_
  rintro _ rfl
  have hl : (X.take 12).length ≤ 12 := by rw [List.length_take]; omega
  generalize X.take 12 = l at *
  have hal := allS_len l a b
  repeat' (first
    | ((with_reducible apply g_op); first
      | ((with_reducible apply g_move); first
        | ((with_reducible apply w_pure (v := .int _ _)); exact rfl; exact rfl)
        | ((with_reducible apply w_pure (v := .func _ _ _)); exact rfl; exact rfl))
      | ((with_reducible apply g_assign); first
        | ((with_reducible apply w_pure (v := .func _ _ _)); exact rfl; exact rfl)))
    | with_reducible refine w_seq ?_
    | with_reducible refine w_nil ?_
    | with_reducible refine w_region ?_)
  refine w_rf (all_run l a b (by omega)) (fun _ => rfl) (sn_cons wv_sn (sn_cons (sn_plain rfl) (sn_cons (sn_plain rfl) sn_nil))) ?_
  rintro _ rfl
  repeat' (first
    | ((with_reducible apply g_op); first
      | ((with_reducible apply g_move); first
        | ((with_reducible apply w_pure (v := .int _ _)); exact rfl; exact rfl)
        | ((with_reducible apply w_pure (v := .tuple _)); exact rfl; exact rfl)
        | ((with_reducible apply w_pure (v := .func _ _ _)); exact rfl; exact rfl))
      | ((with_reducible apply g_assign); first
        | ((with_reducible apply w_pure (v := .int _ _)); exact rfl; exact rfl)
        | ((with_reducible apply w_pure (v := .func _ _ _)); exact rfl; exact rfl))
      | ((with_reducible apply w_pure (v := .int _ _)); exact rfl; exact rfl)
      | ((with_reducible apply w_pure (v := .func _ _ _)); exact rfl; exact rfl))
    | with_reducible refine w_seq ?_
    | with_reducible refine w_nil ?_
    | with_reducible refine w_region ?_)
  refine w_rf (rall_run l a b (by omega)) (fun _ => rfl) (sn_cons wv_sn (sn_cons (sn_plain rfl) (sn_cons (sn_plain rfl) sn_nil))) ?_
  rintro _ rfl
  generalize allS l a b = A at *
  obtain ⟨A1, A2⟩ := A
  dsimp only at hal
  repeat' (first
    | ((with_reducible apply g_op); first
      | ((with_reducible apply g_move); first
        | ((with_reducible apply w_pure (v := .tuple _)); exact rfl; exact rfl)
        | ((with_reducible apply w_pure (v := .func _ _ _)); exact rfl; exact rfl))
      | ((with_reducible apply g_assign); first
        | ((with_reducible apply w_pure (v := .int _ _)); exact rfl; exact rfl)
        | ((with_reducible apply w_pure (v := .func _ _ _)); exact rfl; exact rfl))
      | ((with_reducible apply w_pure (v := .int _ _)); exact rfl; exact rfl)
      | ((with_reducible apply w_pure (v := .func _ _ _)); exact rfl; exact rfl))
    | with_reducible refine w_seq ?_
    | with_reducible refine w_nil ?_
    | with_reducible refine w_region ?_)
  refine w_rf (same_run A1 A1 (by omega) (by omega)) (fun _ => rfl) (sn_cons iv_sn (sn_cons iv_sn sn_nil)) ?_
  rintro _ ⟨b, rfl, hb⟩
  obtain rfl : b = true := hb.2 rfl
  repeat' (first
    | ((with_reducible apply g_op); first
      | ((with_reducible apply g_move); first
        | ((with_reducible apply w_pure (v := .int _ _)); exact rfl; exact rfl)
        | ((with_reducible apply w_pure (v := .bool _)); exact rfl; exact rfl))
      | ((with_reducible apply g_bin); first
        | ((with_reducible apply w_pure (v := .bool _)); exact rfl; exact rfl))
      | ((with_reducible apply g_assign); first
        | ((with_reducible apply w_pure (v := .bool _)); exact rfl; exact rfl))
      | ((with_reducible apply w_pure (v := .bool _)); exact rfl; exact rfl))
    | ((with_reducible apply g_gd); first
      | ((with_reducible apply w_want); exact rfl))
    | with_reducible refine w_seq ?_
    | with_reducible refine w_nil ?_
    | with_reducible refine w_region ?_
    | ((with_reducible apply w_ret (v := .bool _)); exact rfl))
  exact congrArg Value.bool (beq_self_eq_true A2)
theorem proved (x0 : List (Int × Int)) (x1 x2 : Int) {p q r : Prop} (w0 : p) (w1 : q) (w2 : r) : Rn Try.prog tab 3 [fz tg x0.length (x0.flatMap (kPair (kInt .i64) (kInt .i64)).enc), .int .i64 x1, .int .i64 x2] (fun _ => none) 0 0 (fun v _ _ => v = .bool true) := walk x0 x1 x2 (fun _ => none) 0
end Go.Proofs.Ythfhlfkcphojkaa.L.PlaceAll

