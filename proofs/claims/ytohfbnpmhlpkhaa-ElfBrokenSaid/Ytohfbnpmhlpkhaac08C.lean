/- A segment: its pages, what holds another one, what a program may begin in. -/
import Derived.Test.Ytohfbnpmhlpkhaac08A
namespace Go.Proofs.Ytohfbnpmhlpkhaa.L
open Go.L1 Go.IntWalk Oct
set_option linter.unusedVariables false
set_option linter.unusedSimpArgs false
set_option maxHeartbeats 4000000
structure Sg where
  ty : Int
  fl : Int
  off : Int
  ad : Int
  sz : Int
  me : Int
  al : Int
def Sg.c (s : Sg) : List Value := [.int .i64 s.ty, .int .i64 s.fl, .int .i64 s.off, .int .i64 s.ad, .int .i64 s.sz, .int .i64 s.me, .int .i64 s.al]
def Sg.v (s : Sg) : Value := .agg #[.int .i64 s.ty, .int .i64 s.fl, .int .i64 s.off, .int .i64 s.ad, .int .i64 s.sz, .int .i64 s.me, .int .i64 s.al]
/-- All its numbers are from 0 to 2^40. -/
def Sg.ok (s : Sg) : Prop := (0 ≤ s.ty ∧ s.ty ≤ 1073741824) ∧ (0 ≤ s.fl ∧ s.fl ≤ 7) ∧ (0 ≤ s.off ∧ s.off ≤ 1099511627776) ∧ (0 ≤ s.ad ∧ s.ad ≤ 1099511627776) ∧ (0 ≤ s.sz ∧ s.sz ≤ 1099511627776) ∧ (0 ≤ s.me ∧ s.me ≤ 1099511627776) ∧ (0 ≤ s.al ∧ s.al ≤ 1099511627776)
def firstS (s : Sg) : Int := s.ad / 64
def lastS (s : Sg) : Int := (s.ad + s.me + 63) / 64
def holdsS (l s : Sg) : Bool := decide (l.ty = 1 ∧ s.ad ≥ l.ad ∧ IntKind.i64.wrap (s.ad + s.me) ≤ IntKind.i64.wrap (l.ad + l.me) ∧ IntKind.i64.wrap (s.off - l.off) = IntKind.i64.wrap (s.ad - l.ad))
def beginsS (s : Sg) (e : Int) : Bool := decide (s.ty = 1 ∧ s.fl % 2 = 1 ∧ e ≥ s.ad ∧ e < s.ad + s.me)
theorem in_run (x : Int) (g : Nat → Option Ob) (n m : Nat) : Rn Try.prog T 39 [.int .i64 x] g n m (fun v g' n' => v = .bool (decide (0 ≤ x ∧ x ≤ 1099511627776)) ∧ g' = g ∧ n' = n) := by
  refine c_quiet Try.func39 rfl rfl rfl rfl rfl ?_
  repeat' (first
    | ((with_reducible apply g_op); first
      | ((with_reducible apply g_move); first
        | ((with_reducible apply w_pure (v := .int _ _)); exact rfl; exact rfl)
        | ((with_reducible apply w_pure (v := .bool _)); exact rfl; exact rfl))
      | ((with_reducible apply g_bin); first
        | ((with_reducible apply w_pure (v := .bool _)); exact rfl; exact rfl))
      | ((with_reducible apply g_pick); first
        | ((with_reducible apply w_pk1 (v := .bool _)); exact rfl; exact rfl; (first | assumption | exact decide_eq_true (by assumption) | exact decide_eq_false (by assumption) | exact decide_eq_true (by omega) | exact decide_eq_false (by omega) | exact beq_iff_eq.2 (by omega) | exact beq_eq_false_iff_ne.2 (by omega) | exact bne_iff_ne.2 (by omega) | exact bne_eq_false_iff_eq.2 (by omega)))
        | ((with_reducible apply w_pk0 (v := .bool _)); exact rfl; exact rfl; (first | assumption | exact decide_eq_true (by assumption) | exact decide_eq_false (by assumption) | exact decide_eq_true (by omega) | exact decide_eq_false (by omega) | exact beq_iff_eq.2 (by omega) | exact beq_eq_false_iff_ne.2 (by omega) | exact bne_iff_ne.2 (by omega) | exact bne_eq_false_iff_eq.2 (by omega))))
      | ((with_reducible apply g_assign); first
        | ((with_reducible apply w_pure (v := .bool _)); exact rfl; exact rfl)))
    | ((with_reducible apply g_gd); first
      | ((with_reducible apply w_gd_t); exact rfl; all_goals (intro hc; first | (exfalso; omega) | skip)))
    | with_reducible refine w_seq ?_
    | with_reducible refine w_nil ?_
    | with_reducible refine w_region ?_
    | ((with_reducible apply w_ret (v := .bool _)); exact rfl))
  all_goals refine ⟨rfl, ?_⟩
  all_goals refine congrArg Value.bool ?_
  all_goals ((try dsimp only); rw [Bool.eq_iff_iff]; simp only [decide_eq_true_eq, beq_iff_eq, bne_iff_ne, ne_eq, Bool.false_eq_true, eq_self, false_iff, true_iff]; omega)
theorem first_run (s : Sg) (h : s.ok) (g : Nat → Option Ob) (n m : Nat) : Rn Try.prog T 41 [s.v] g n m (fun v g' n' => v = .int .i64 (firstS s) ∧ g' = g ∧ n' = n) := by
  obtain ⟨a0, a1, a2, a3, a4, a5, a6⟩ := s
  unfold Sg.ok at h
  dsimp only at h
  refine c_quiet Try.func41 rfl rfl rfl rfl rfl ?_
  repeat' (first
    | ((with_reducible apply g_op); first
      | ((with_reducible apply g_load); first
        | ((with_reducible apply w_load (v := .int _ _)); exact rfl; (first | assumption | (simp (disch := omega) only [upd_same, upd_ne]; first | done | assumption | exact rfl) | exact rfl); exact rfl))
      | ((with_reducible apply g_bin); first
        | ((with_reducible apply w_div); exact rfl; exact rfl; exact rfl; exact rfl; exact rfl; omega; omega; omega))
      | ((with_reducible apply g_fld); first
        | ((with_reducible apply w_fldp (o := 3)); exact rfl; exact rfl; exact rfl; exact (by decide)))
      | ((with_reducible apply g_assign); first
        | ((with_reducible apply w_pure (v := .int _ _)); exact rfl; exact rfl))
      | ((with_reducible apply g_box); first
        | ((with_reducible apply w_box (vs := [_, _, _, _, _, _, _])); exact rfl; exact rfl)))
    | with_reducible refine w_seq ?_
    | with_reducible refine w_nil ?_
    | with_reducible refine w_region ?_
    | ((with_reducible apply w_ret (v := .int _ _)); exact rfl))
  exact ⟨rfl, rfl⟩
theorem last_run (s : Sg) (h : s.ok) (g : Nat → Option Ob) (n m : Nat) : Rn Try.prog T 42 [s.v] g n m (fun v g' n' => v = .int .i64 (lastS s) ∧ g' = g ∧ n' = n) := by
  obtain ⟨a0, a1, a2, a3, a4, a5, a6⟩ := s
  unfold Sg.ok at h
  dsimp only at h
  refine c_quiet Try.func42 rfl rfl rfl rfl rfl ?_
  repeat' (first
    | ((with_reducible apply g_op); first
      | ((with_reducible apply g_load); first
        | ((with_reducible apply w_load (v := .int _ _)); exact rfl; (first | assumption | (simp (disch := omega) only [upd_same, upd_ne]; first | done | assumption | exact rfl) | exact rfl); exact rfl))
      | ((with_reducible apply g_bin); first
        | ((with_reducible apply w_div); exact rfl; exact rfl; exact rfl; exact rfl; exact rfl; omega; omega; omega)
        | ((with_reducible apply w_wrap); exact rfl; exact rfl; first | exact i64_in _ (by omega) | exact u64_in _ (by omega) | exact u8_in _ (by omega)))
      | ((with_reducible apply g_fld); first
        | ((with_reducible apply w_fldp (o := 3)); exact rfl; exact rfl; exact rfl; exact (by decide))
        | ((with_reducible apply w_fldp (o := 5)); exact rfl; exact rfl; exact rfl; exact (by decide)))
      | ((with_reducible apply g_assign); first
        | ((with_reducible apply w_pure (v := .int _ _)); exact rfl; exact rfl))
      | ((with_reducible apply g_box); first
        | ((with_reducible apply w_box (vs := [_, _, _, _, _, _, _])); exact rfl; exact rfl)))
    | with_reducible refine w_seq ?_
    | with_reducible refine w_nil ?_
    | with_reducible refine w_region ?_
    | ((with_reducible apply w_ret (v := .int _ _)); exact rfl))
  exact ⟨rfl, rfl⟩
theorem pages_run (s : Sg) (h : s.ok) (g : Nat → Option Ob) (n m : Nat) : Rn Try.prog T 21 [s.v] g n m (fun v g' n' => v = .tuple #[.int .i64 (firstS s), .int .i64 (lastS s)] ∧ g' = g ∧ n' = n) := by
  obtain ⟨a0, a1, a2, a3, a4, a5, a6⟩ := s
  unfold Sg.ok at h
  dsimp only at h
  refine c_quiet Try.func21 rfl rfl rfl rfl rfl ?_
  repeat' (first
    | ((with_reducible apply g_op); first
      | ((with_reducible apply g_load); first
        | ((with_reducible apply w_load (v := .int _ _)); exact rfl; (first | assumption | (simp (disch := omega) only [upd_same, upd_ne]; first | done | assumption | exact rfl) | exact rfl); exact rfl))
      | ((with_reducible apply g_bin); first
        | ((with_reducible apply w_div); exact rfl; exact rfl; exact rfl; exact rfl; exact rfl; omega; omega; omega)
        | ((with_reducible apply w_wrap); exact rfl; exact rfl; first | exact i64_in _ (by omega) | exact u64_in _ (by omega) | exact u8_in _ (by omega)))
      | ((with_reducible apply g_fld); first
        | ((with_reducible apply w_fldp (o := 3)); exact rfl; exact rfl; exact rfl; exact (by decide))
        | ((with_reducible apply w_fldp (o := 5)); exact rfl; exact rfl; exact rfl; exact (by decide)))
      | ((with_reducible apply g_assign); first
        | ((with_reducible apply w_pure (v := .int _ _)); exact rfl; exact rfl))
      | ((with_reducible apply g_box); first
        | ((with_reducible apply w_box (vs := [_, _, _, _, _, _, _])); exact rfl; exact rfl)))
    | with_reducible refine w_seq ?_
    | with_reducible refine w_nil ?_
    | with_reducible refine w_region ?_
    | ((with_reducible apply w_draw); kernel_rfl; kernel_rfl)
    | ((with_reducible apply w_ret (v := .tuple #[.int _ _, .int _ _])); exact rfl))
  refine ⟨rfl, ?_⟩
  unfold firstS lastS
  rw [show a3 + a5 + 64 - 1 = a3 + a5 + 63 by omega]
theorem holds_run (l s : Sg) (g : Nat → Option Ob) (n m : Nat) : Rn Try.prog T 38 [l.v, s.v] g n m (fun v g' n' => v = .bool (holdsS l s) ∧ g' = g ∧ n' = n) := by
  obtain ⟨a0, a1, a2, a3, a4, a5, a6⟩ := s
  obtain ⟨b0, b1, b2, b3, b4, b5, b6⟩ := l
  refine c_quiet Try.func38 rfl rfl rfl rfl rfl ?_
  repeat' (first
    | ((with_reducible apply g_op); first
      | ((with_reducible apply g_load); first
        | ((with_reducible apply w_load (v := .int _ _)); exact rfl; (first | assumption | (simp (disch := omega) only [upd_same, upd_ne]; first | done | assumption | exact rfl) | exact rfl); exact rfl))
      | ((with_reducible apply g_move); first
        | ((with_reducible apply w_pure (v := .bool _)); exact rfl; exact rfl))
      | ((with_reducible apply g_bin); first
        | ((with_reducible apply w_pure (v := .bool _)); exact rfl; exact rfl)
        | ((with_reducible apply w_pure (v := .int _ _)); exact rfl; exact rfl))
      | ((with_reducible apply g_fld); first
        | ((with_reducible apply w_fldp (o := 0)); exact rfl; exact rfl; exact rfl; exact (by decide))
        | ((with_reducible apply w_fldp (o := 2)); exact rfl; exact rfl; exact rfl; exact (by decide))
        | ((with_reducible apply w_fldp (o := 3)); exact rfl; exact rfl; exact rfl; exact (by decide))
        | ((with_reducible apply w_fldp (o := 5)); exact rfl; exact rfl; exact rfl; exact (by decide)))
      | ((with_reducible apply g_pick); first
        | ((with_reducible apply w_pk1 (v := .bool _)); exact rfl; exact rfl; (first | assumption | exact decide_eq_true (by assumption) | exact decide_eq_false (by assumption) | exact decide_eq_true (by omega) | exact decide_eq_false (by omega) | exact beq_iff_eq.2 (by omega) | exact beq_eq_false_iff_ne.2 (by omega) | exact bne_iff_ne.2 (by omega) | exact bne_eq_false_iff_eq.2 (by omega)))
        | ((with_reducible apply w_pk0 (v := .bool _)); exact rfl; exact rfl; (first | assumption | exact decide_eq_true (by assumption) | exact decide_eq_false (by assumption) | exact decide_eq_true (by omega) | exact decide_eq_false (by omega) | exact beq_iff_eq.2 (by omega) | exact beq_eq_false_iff_ne.2 (by omega) | exact bne_iff_ne.2 (by omega) | exact bne_eq_false_iff_eq.2 (by omega))))
      | ((with_reducible apply g_assign); first
        | ((with_reducible apply w_pure (v := .bool _)); exact rfl; exact rfl))
      | ((with_reducible apply g_box); first
        | ((with_reducible apply w_box (vs := [_, _, _, _, _, _, _])); exact rfl; exact rfl))
      | ((with_reducible apply w_pure (v := .bool _)); exact rfl; exact rfl))
    | ((with_reducible apply g_gd); first
      | ((with_reducible apply w_pass); exact rfl)
      | ((with_reducible apply w_gd_t); exact rfl; all_goals (intro hc; first | (exfalso; omega) | skip)))
    | with_reducible refine w_seq ?_
    | with_reducible refine w_nil ?_
    | with_reducible refine w_region ?_
    | ((with_reducible apply w_ret (v := .bool _)); exact rfl))
  all_goals refine ⟨rfl, ?_⟩
  all_goals refine congrArg Value.bool ?_
  all_goals unfold holdsS
  all_goals ((try dsimp only); rw [Bool.eq_iff_iff]; simp only [decide_eq_true_eq, beq_iff_eq, bne_iff_ne, ne_eq, Bool.false_eq_true, eq_self, false_iff, true_iff]; omega)
theorem begins_run (s : Sg) (h : s.ok) (e : Int) (g : Nat → Option Ob) (n m : Nat) : Rn Try.prog T 35 [s.v, .int .i64 e] g n m (fun v g' n' => v = .bool (beginsS s e) ∧ g' = g ∧ n' = n) := by
  obtain ⟨a0, a1, a2, a3, a4, a5, a6⟩ := s
  unfold Sg.ok at h
  dsimp only at h
  refine c_quiet Try.func35 rfl rfl rfl rfl rfl ?_
  repeat' (first
    | ((with_reducible apply g_op); first
      | ((with_reducible apply g_load); first
        | ((with_reducible apply w_load (v := .int _ _)); exact rfl; (first | assumption | (simp (disch := omega) only [upd_same, upd_ne]; first | done | assumption | exact rfl) | exact rfl); exact rfl))
      | ((with_reducible apply g_move); first
        | ((with_reducible apply w_pure (v := .int _ _)); exact rfl; exact rfl)
        | ((with_reducible apply w_pure (v := .bool _)); exact rfl; exact rfl))
      | ((with_reducible apply g_bin); first
        | ((with_reducible apply w_and (j := 1) (c1 := 2)); exact rfl; exact rfl; exact rfl; exact rfl; exact rfl; exact (by decide); exact (by decide); exact (by decide))
        | ((with_reducible apply w_wrap); exact rfl; exact rfl; first | exact i64_in _ (by omega) | exact u64_in _ (by omega) | exact u8_in _ (by omega))
        | ((with_reducible apply w_pure (v := .bool _)); exact rfl; exact rfl))
      | ((with_reducible apply g_fld); first
        | ((with_reducible apply w_fldp (o := 0)); exact rfl; exact rfl; exact rfl; exact (by decide))
        | ((with_reducible apply w_fldp (o := 1)); exact rfl; exact rfl; exact rfl; exact (by decide))
        | ((with_reducible apply w_fldp (o := 3)); exact rfl; exact rfl; exact rfl; exact (by decide))
        | ((with_reducible apply w_fldp (o := 5)); exact rfl; exact rfl; exact rfl; exact (by decide)))
      | ((with_reducible apply g_pick); first
        | ((with_reducible apply w_pk1 (v := .bool _)); exact rfl; exact rfl; (first | assumption | exact decide_eq_true (by assumption) | exact decide_eq_false (by assumption) | exact decide_eq_true (by omega) | exact decide_eq_false (by omega) | exact beq_iff_eq.2 (by omega) | exact beq_eq_false_iff_ne.2 (by omega) | exact bne_iff_ne.2 (by omega) | exact bne_eq_false_iff_eq.2 (by omega)))
        | ((with_reducible apply w_pk0 (v := .bool _)); exact rfl; exact rfl; (first | assumption | exact decide_eq_true (by assumption) | exact decide_eq_false (by assumption) | exact decide_eq_true (by omega) | exact decide_eq_false (by omega) | exact beq_iff_eq.2 (by omega) | exact beq_eq_false_iff_ne.2 (by omega) | exact bne_iff_ne.2 (by omega) | exact bne_eq_false_iff_eq.2 (by omega))))
      | ((with_reducible apply g_assign); first
        | ((with_reducible apply w_pure (v := .bool _)); exact rfl; exact rfl))
      | ((with_reducible apply g_box); first
        | ((with_reducible apply w_box (vs := [_, _, _, _, _, _, _])); exact rfl; exact rfl))
      | ((with_reducible apply w_pure (v := .bool _)); exact rfl; exact rfl))
    | ((with_reducible apply g_gd); first
      | ((with_reducible apply w_pass); exact rfl)
      | ((with_reducible apply w_gd_t); exact rfl; all_goals (intro hc; first | (exfalso; omega) | skip))
      | ((with_reducible apply w_gn_t); exact rfl; all_goals (intro hc; first | (exfalso; omega) | skip)))
    | with_reducible refine w_seq ?_
    | with_reducible refine w_nil ?_
    | with_reducible refine w_region ?_
    | ((with_reducible apply w_ret (v := .bool _)); exact rfl))
  all_goals refine ⟨rfl, ?_⟩
  all_goals refine congrArg Value.bool ?_
  all_goals unfold beginsS
  all_goals ((try dsimp only); rw [Bool.eq_iff_iff]; simp only [decide_eq_true_eq, beq_iff_eq, bne_iff_ne, ne_eq, Bool.false_eq_true, eq_self, false_iff, true_iff]; omega)
end Go.Proofs.Ytohfbnpmhlpkhaa.L

