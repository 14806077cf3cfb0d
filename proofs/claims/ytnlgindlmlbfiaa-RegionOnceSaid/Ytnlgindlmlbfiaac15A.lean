import Derived.Test.YtnlgindlmlbfiaaL1V
import Derived.Test.YtnlgindlmlbfiaaProg
import Derived.KernelRfl
namespace Go.Proofs.Ytnlgindlmlbfiaa.L
open Go.L1 Go.IntWalk
set_option linter.unusedVariables false
set_option linter.unusedSimpArgs false
def T : Tb := tb [3, 4, 5, 6, 7, 8, 9, 10, 11, 12, 13, 14, 15, 16, 17, 18, 19, 20, 21, 22, 23, 24, 25, 26, 27, 28, 29, 30, 31, 32, 33, 34, 35, 36, 37, 38] [9, 10, 11, 12, 13, 14, 15, 16, 17, 18, 19, 20, 21, 22, 23, 24, 25, 26, 27, 29, 30, 31, 32, 33, 36, 37, 38] [10, 19, 24, 27, 29, 33, 37, 38] [9, 11, 12, 13, 14, 15, 16, 17, 18, 20, 21, 22, 23, 26, 30, 31, 32, 36]
theorem tabok : ∀ C : Cx, C.P = Try.prog → TbOk C T := tb_ok (by kernel_rfl) (by kernel_rfl)
structure Rg where
  f : Int
  t : Int
  p : Int
  k : Int
  l : Int
  g : Int
def Rg.c (r : Rg) : List Value := [.int .i64 r.f, .int .i64 r.t, .int .i64 r.p, .int .i64 r.k, .int .i64 r.l, .int .i64 r.g]
def Rg.v (r : Rg) : Value := .agg #[.int .i64 r.f, .int .i64 r.t, .int .i64 r.p, .int .i64 r.k, .int .i64 r.l, .int .i64 r.g]
def may (r : Rg) : Bool := decide (¬ (r.f < 0 ∨ r.t ≤ r.f ∨ r.t > 4096 ∨ r.p < 0 ∨ r.p > 7) ∧ ((r.k = 1 ∧ r.l ≥ 0 ∧ r.g ≥ 0 ∧ r.g ≤ 1073741824 - (r.t - r.f)) ∨ (r.k > 1 ∧ r.k ≤ 4 ∧ r.l = -1 ∧ r.g = 0)))
theorem may_run (r : Rg) (g n m) : Rn Try.prog T 27 [r.v] g n m (fun v g' n' => v = .bool (may r) ∧ g' = g ∧ n' = n) := by
  obtain ⟨rf, rt, rp, rk, rl, rg⟩ := r
  refine c_quiet Try.func27 rfl rfl rfl rfl rfl ?_
  repeat' (first
    | ((with_reducible apply g_op); first
      | ((with_reducible apply g_load); first
        | ((with_reducible apply w_load (v := .int _ _)); exact rfl; (first | assumption | (simp (disch := omega) only [upd_same, upd_ne]; first | done | assumption | exact rfl) | exact rfl); exact rfl))
      | ((with_reducible apply g_move); first
        | ((with_reducible apply w_pure (v := .bool _)); exact rfl; exact rfl))
      | ((with_reducible apply g_bin); first
        | ((with_reducible apply w_wrap); exact rfl; exact rfl; first | exact i64_in _ (by omega) | exact u64_in _ (by omega) | exact u8_in _ (by omega))
        | ((with_reducible apply w_pure (v := .bool _)); exact rfl; exact rfl))
      | ((with_reducible apply g_fld); first
        | ((with_reducible apply w_fldp (o := 0)); exact rfl; exact rfl; exact rfl; exact (by decide))
        | ((with_reducible apply w_fldp (o := 1)); exact rfl; exact rfl; exact rfl; exact (by decide))
        | ((with_reducible apply w_fldp (o := 2)); exact rfl; exact rfl; exact rfl; exact (by decide))
        | ((with_reducible apply w_fldp (o := 3)); exact rfl; exact rfl; exact rfl; exact (by decide))
        | ((with_reducible apply w_fldp (o := 4)); exact rfl; exact rfl; exact rfl; exact (by decide))
        | ((with_reducible apply w_fldp (o := 5)); exact rfl; exact rfl; exact rfl; exact (by decide)))
      | ((with_reducible apply g_pick); first
        | ((with_reducible apply w_pk1 (v := .bool _)); exact rfl; exact rfl; (first | assumption | exact decide_eq_true (by assumption) | exact decide_eq_false (by assumption) | exact decide_eq_true (by omega) | exact decide_eq_false (by omega) | exact beq_iff_eq.2 (by omega) | exact beq_eq_false_iff_ne.2 (by omega) | exact bne_iff_ne.2 (by omega) | exact bne_eq_false_iff_eq.2 (by omega)))
        | ((with_reducible apply w_pk0 (v := .bool _)); exact rfl; exact rfl; (first | assumption | exact decide_eq_true (by assumption) | exact decide_eq_false (by assumption) | exact decide_eq_true (by omega) | exact decide_eq_false (by omega) | exact beq_iff_eq.2 (by omega) | exact beq_eq_false_iff_ne.2 (by omega) | exact bne_iff_ne.2 (by omega) | exact bne_eq_false_iff_eq.2 (by omega))))
      | ((with_reducible apply g_assign); first
        | ((with_reducible apply w_pure (v := .bool _)); exact rfl; exact rfl))
      | ((with_reducible apply g_box); first
        | ((with_reducible apply w_box (vs := [_, _, _, _, _, _])); exact rfl; exact rfl))
      | ((with_reducible apply w_pure (v := .bool _)); exact rfl; exact rfl))
    | ((with_reducible apply g_gd); first
      | ((with_reducible apply w_pass); exact rfl)
      | ((with_reducible apply w_gd_t); exact rfl; all_goals (intro hc; first | (exfalso; omega) | skip))
      | ((with_reducible apply w_gd_f); exact rfl; all_goals (intro hc; first | (exfalso; omega) | skip)))
    | with_reducible refine w_seq ?_
    | with_reducible refine w_nil ?_
    | with_reducible refine w_region ?_
    | with_reducible refine w_skip ?_
    | with_reducible refine w_block ?_
    | with_reducible refine w_blk ?_
    | ((with_reducible apply w_yes); exact rfl)
    | ((with_reducible apply w_ifd); exact rfl; all_goals (intro hc; first | (exfalso; omega) | skip))
    | ((with_reducible apply w_ret (v := .bool _)); exact rfl))
  all_goals refine ⟨rfl, ?_⟩
  all_goals refine congrArg Value.bool ?_
  all_goals unfold may
  all_goals ((try dsimp only); rw [Bool.eq_iff_iff]; simp only [decide_eq_true_eq, beq_iff_eq, bne_iff_ne, ne_eq, Bool.false_eq_true, eq_self, false_iff, true_iff]; omega)
def one (a b : Rg) : Bool := decide (a.t = b.f ∧ a.p = b.p ∧ a.k = b.k ∧ a.l = b.l ∧ (a.k ≠ 1 ∨ b.g = IntKind.i64.wrap (IntKind.i64.wrap (a.g + a.t) - a.f)))
theorem one_run (a b : Rg) (g n m) : Rn Try.prog T 29 [a.v, b.v] g n m (fun v g' n' => v = .bool (one a b) ∧ g' = g ∧ n' = n) := by
  obtain ⟨af, at_, ap, ak, al, ag⟩ := a
  obtain ⟨bf, bt, bp, bk, bl, bg⟩ := b
  refine c_quiet Try.func29 rfl rfl rfl rfl rfl ?_
  repeat' (first
    | ((with_reducible apply g_op); first
      | ((with_reducible apply g_load); first
        | ((with_reducible apply w_load (v := .int _ _)); exact rfl; (first | assumption | (simp (disch := omega) only [upd_same, upd_ne]; first | done | assumption | exact rfl) | exact rfl); exact rfl))
      | ((with_reducible apply g_move); first
        | ((with_reducible apply w_pure (v := .bool _)); exact rfl; exact rfl))
      | ((with_reducible apply g_bin); first
        | ((with_reducible apply w_pure (v := .bool _)); exact rfl; exact rfl)
        | ((with_reducible apply w_pure (v := .int _ _)); exact rfl; exact rfl))
      | ((with_reducible apply g_fld); first
        | ((with_reducible apply w_fldp (o := 0)); exact rfl; exact rfl; exact rfl; exact (by decide))
        | ((with_reducible apply w_fldp (o := 1)); exact rfl; exact rfl; exact rfl; exact (by decide))
        | ((with_reducible apply w_fldp (o := 2)); exact rfl; exact rfl; exact rfl; exact (by decide))
        | ((with_reducible apply w_fldp (o := 3)); exact rfl; exact rfl; exact rfl; exact (by decide))
        | ((with_reducible apply w_fldp (o := 4)); exact rfl; exact rfl; exact rfl; exact (by decide))
        | ((with_reducible apply w_fldp (o := 5)); exact rfl; exact rfl; exact rfl; exact (by decide)))
      | ((with_reducible apply g_pick); first
        | ((with_reducible apply w_pk1 (v := .bool _)); exact rfl; exact rfl; (first | assumption | exact decide_eq_true (by assumption) | exact decide_eq_false (by assumption) | exact decide_eq_true (by omega) | exact decide_eq_false (by omega) | exact beq_iff_eq.2 (by omega) | exact beq_eq_false_iff_ne.2 (by omega) | exact bne_iff_ne.2 (by omega) | exact bne_eq_false_iff_eq.2 (by omega)))
        | ((with_reducible apply w_pk0 (v := .bool _)); exact rfl; exact rfl; (first | assumption | exact decide_eq_true (by assumption) | exact decide_eq_false (by assumption) | exact decide_eq_true (by omega) | exact decide_eq_false (by omega) | exact beq_iff_eq.2 (by omega) | exact beq_eq_false_iff_ne.2 (by omega) | exact bne_iff_ne.2 (by omega) | exact bne_eq_false_iff_eq.2 (by omega))))
      | ((with_reducible apply g_assign); first
        | ((with_reducible apply w_pure (v := .bool _)); exact rfl; exact rfl))
      | ((with_reducible apply g_box); first
        | ((with_reducible apply w_box (vs := [_, _, _, _, _, _])); exact rfl; exact rfl))
      | ((with_reducible apply w_pure (v := .bool _)); exact rfl; exact rfl))
    | ((with_reducible apply g_gd); first
      | ((with_reducible apply w_pass); exact rfl)
      | ((with_reducible apply w_gn_f); exact rfl; all_goals (intro hc; first | (exfalso; omega) | skip)))
    | with_reducible refine w_seq ?_
    | with_reducible refine w_nil ?_
    | with_reducible refine w_region ?_
    | with_reducible refine w_skip ?_
    | ((with_reducible apply w_yes); exact rfl)
    | ((with_reducible apply w_ifn); exact rfl; all_goals (intro hc; first | (exfalso; omega) | skip))
    | ((with_reducible apply w_ret (v := .bool _)); exact rfl))
  all_goals refine ⟨rfl, ?_⟩
  all_goals refine congrArg Value.bool ?_
  all_goals unfold one
  all_goals ((try dsimp only); rw [Bool.eq_iff_iff]; simp only [decide_eq_true_eq, beq_iff_eq, bne_iff_ne, ne_eq, Bool.false_eq_true, eq_self, false_iff, true_iff]; omega)
def part (r : Rg) (f t : Int) : Rg := ⟨f, t, r.p, r.k, r.l, if r.k = 1 then IntKind.i64.wrap (r.g + IntKind.i64.wrap (f - r.f)) else r.g⟩
theorem part_run (r : Rg) (f t : Int) (g n m) : Rn Try.prog T 33 [r.v, .int .i64 f, .int .i64 t] g n m (fun v g' n' => v = (part r f t).v ∧ g' = g ∧ n' = n) := by
  obtain ⟨rf, rt, rp, rk, rl, rg⟩ := r
  refine c_quiet Try.func33 rfl rfl rfl rfl rfl ?_
  repeat' (first
    | ((with_reducible apply g_op); first
      | ((with_reducible apply g_load); first
        | ((with_reducible apply w_load (v := .int _ _)); exact rfl; (first | assumption | (simp (disch := omega) only [upd_same, upd_ne]; first | done | assumption | exact rfl) | exact rfl); exact rfl)
        | ((with_reducible apply w_load (v := .agg #[_, _, _, _, _, _])); exact rfl; (first | assumption | (simp (disch := omega) only [upd_same, upd_ne]; first | done | assumption | exact rfl) | exact rfl); exact rfl))
      | ((with_reducible apply g_move); first
        | ((with_reducible apply w_pure (v := .int _ _)); exact rfl; exact rfl))
      | ((with_reducible apply g_bin); first
        | ((with_reducible apply w_pure (v := .bool _)); exact rfl; exact rfl)
        | ((with_reducible apply w_pure (v := .int _ _)); exact rfl; exact rfl))
      | ((with_reducible apply g_fld); first
        | ((with_reducible apply w_fldp (o := 0)); exact rfl; exact rfl; exact rfl; exact (by decide))
        | ((with_reducible apply w_fldp (o := 1)); exact rfl; exact rfl; exact rfl; exact (by decide))
        | ((with_reducible apply w_fldp (o := 3)); exact rfl; exact rfl; exact rfl; exact (by decide))
        | ((with_reducible apply w_fldp (o := 5)); exact rfl; exact rfl; exact rfl; exact (by decide)))
      | ((with_reducible apply g_box); first
        | ((with_reducible apply w_box (vs := [_, _, _, _, _, _])); exact rfl; exact rfl))
      | ((with_reducible apply g_store); first
        | ((with_reducible apply w_store (us := [.int _ _]) (ws := [_, _, _, _, _, _])); exact rfl; exact rfl; (first | assumption | (simp (disch := omega) only [upd_same, upd_ne]; first | done | assumption | exact rfl) | exact rfl); omega; exact rfl; exact rfl; exact rfl)
        | ((with_reducible apply w_store (us := [_, _, _, _, _, _]) (ws := [_, _, _, _, _, _])); exact rfl; exact rfl; (first | assumption | (simp (disch := omega) only [upd_same, upd_ne]; first | done | assumption | exact rfl) | exact rfl); omega; exact rfl; exact rfl; exact rfl))
      | ((with_reducible apply w_alloc (ls := [_, _, _, _, _, _])); exact rfl; exact rfl))
    | with_reducible refine w_seq ?_
    | with_reducible refine w_nil ?_
    | with_reducible refine w_region ?_
    | with_reducible refine w_skip ?_
    | ((with_reducible apply w_ifd); exact rfl; all_goals (intro hc; first | (exfalso; omega) | skip))
    | ((with_reducible apply w_retc (v := .agg #[_, _, _, _, _, _])); exact rfl; exact rfl; (first | assumption | (simp (disch := omega) only [upd_same, upd_ne]; first | done | assumption | exact rfl) | exact rfl); exact rfl))
  · exact ⟨rfl, by simp [part, Rg.v, hc]⟩
  · exact ⟨rfl, by simp [part, Rg.v, hc]⟩
/-- The row that a builder has made so far: its variable's cell, where the row lies. -/
def Out (g : Nat → Option Ob) (c n m : Nat) (i : Option Nat) (rs : List Rg) : Prop := match i with
  | none => rs = [] ∧ g c = some (.cells 28 [.slice none 0 0])
  | some i => rs ≠ [] ∧ i ≠ c ∧ m ≤ i ∧ i < n ∧ g c = some (.cells 28 [slc i 0 rs.length]) ∧ g i = some (.cells 23 (rs.flatMap Rg.c))
def putS (rs : List Rg) (r : Rg) : List Rg := if r.f ≥ r.t then rs else match rs.getLast? with
  | none => [r]
  | some x => if one x r then rs.dropLast ++ [{ x with t := r.t }] else rs ++ [r]
theorem put0 (r : Rg) (g : Nat → Option Ob) (c n m : Nat) (h : Out g c n m none []) (hc : m ≤ c) (hcn : c < n) : Rn Try.prog T 34 [r.v, ptr c 0] g n m (fun v g' n' => ∃ i', Out g' c n' m i' (putS [] r) ∧ (i' = none ∨ ∃ k, i' = some k ∧ n ≤ k) ∧ n ≤ n' ∧ ∀ j, j < n → j ≠ c → g' j = g j) := by
  obtain ⟨rf, rt, rp, rk, rl, rg⟩ := r
  obtain ⟨_, hg⟩ := h
  refine c_open Try.func34 rfl rfl rfl rfl rfl rfl ?_
  repeat' (first
    | ((with_reducible apply g_op); first
      | ((with_reducible apply g_load); first
        | ((with_reducible apply w_load (v := .int _ _)); exact rfl; (first | assumption | (simp (disch := omega) only [upd_same, upd_ne]; first | done | assumption | exact rfl) | exact rfl); exact rfl)
        | ((with_reducible apply w_load (v := .slice _ _ _)); exact rfl; (first | assumption | (simp (disch := omega) only [upd_same, upd_ne]; first | done | assumption | exact rfl) | exact rfl); exact rfl)
        | ((with_reducible apply w_load (v := .agg #[_, _, _, _, _, _])); exact rfl; (first | assumption | (simp (disch := omega) only [upd_same, upd_ne]; first | done | assumption | exact rfl) | exact rfl); exact rfl))
      | ((with_reducible apply g_move); first
        | ((with_reducible apply w_pure (v := .int _ _)); exact rfl; exact rfl)
        | ((with_reducible apply w_pure (v := .bool _)); exact rfl; exact rfl))
      | ((with_reducible apply g_bin); first
        | ((with_reducible apply w_pure (v := .bool _)); exact rfl; exact rfl))
      | ((with_reducible apply g_fld); first
        | ((with_reducible apply w_fldp (o := 0)); exact rfl; exact rfl; exact rfl; exact (by decide))
        | ((with_reducible apply w_fldp (o := 1)); exact rfl; exact rfl; exact rfl; exact (by decide)))
      | ((with_reducible apply g_pick); first
        | ((with_reducible apply w_pk0 (v := .bool _)); exact rfl; exact rfl; (first | assumption | exact decide_eq_true (by assumption) | exact decide_eq_false (by assumption) | exact decide_eq_true (by omega) | exact decide_eq_false (by omega) | exact beq_iff_eq.2 (by omega) | exact beq_eq_false_iff_ne.2 (by omega) | exact bne_iff_ne.2 (by omega) | exact bne_eq_false_iff_eq.2 (by omega))))
      | ((with_reducible apply g_assign); first
        | ((with_reducible apply w_pure (v := .int _ _)); exact rfl; exact rfl)
        | ((with_reducible apply w_pure (v := .bool _)); exact rfl; exact rfl))
      | ((with_reducible apply g_call); first
        | ((with_reducible apply w_call (v := .int _ _)); exact rfl)
        | ((with_reducible apply w_app0 (ns := [_, _, _, _, _, _])); exact rfl; exact rfl; exact rfl; exact rfl; exact rfl; exact rfl; (first | assumption | (simp (disch := omega) only [upd_same, upd_ne]; first | done | assumption | exact rfl) | exact rfl); exact rfl; exact rfl; exact (by decide); exact ⟨by decide, by decide⟩))
      | ((with_reducible apply g_box); first
        | ((with_reducible apply w_box (vs := [_, _, _, _, _, _])); exact rfl; exact rfl))
      | ((with_reducible apply g_store); first
        | ((with_reducible apply w_store (us := [.slice _ _ _]) (ws := [_])); exact rfl; exact rfl; (first | assumption | (simp (disch := omega) only [upd_same, upd_ne]; first | done | assumption | exact rfl) | exact rfl); omega; exact rfl; exact rfl; exact rfl))
      | ((with_reducible apply w_bsl (ls := [_, _, _, _, _, _])); exact rfl; exact rfl; exact rfl; exact ⟨by decide, rfl⟩; exact rfl))
    | ((with_reducible apply g_gd); first
      | ((with_reducible apply w_pass); exact rfl))
    | with_reducible refine w_seq ?_
    | with_reducible refine w_nil ?_
    | with_reducible refine w_region ?_
    | with_reducible refine w_skip ?_
    | with_reducible refine w_block ?_
    | with_reducible refine w_blk ?_
    | ((with_reducible apply w_draw); kernel_rfl; kernel_rfl)
    | ((with_reducible apply w_no); exact rfl)
    | ((with_reducible apply w_ifd); exact rfl; all_goals (intro hc; first | (exfalso; omega) | skip))
    | ((with_reducible apply w_end (v := .tuple #[])); exact rfl))
  · exact ⟨none, ⟨by simp [putS, hc], by rw [upd_ne (by omega)]; exact hg⟩, .inl rfl, by omega, fun j hj hjc => upd_ne (by omega)⟩
  · have e : putS [] ⟨rf, rt, rp, rk, rl, rg⟩ = [⟨rf, rt, rp, rk, rl, rg⟩] := by simp [putS, hc]
    refine ⟨some (n + 2), ⟨by rw [e]; simp, by omega, by omega, by omega, ?_, ?_⟩, .inr ⟨_, rfl, by omega⟩, by omega, fun j hj hjc => ?_⟩
    · rw [e]; exact upd_same
    · rw [e]; simp (disch := omega) only [upd_same, upd_ne]; rfl
    · simp (disch := omega) only [upd_ne]
theorem rc_len (rs : List Rg) : (rs.flatMap Rg.c).length = rs.length * 6 := flat_len (enc := Rg.c) (sz := 6) (fun _ => rfl) rs
theorem put1 (ys : List Rg) (x r : Rg) (g : Nat → Option Ob) (c n m i : Nat) (h : Out g c n m (some i) (ys ++ [x])) (hc : m ≤ c) (hcn : c < n) (hl : ys.length ≤ 1000000) : Rn Try.prog T 34 [r.v, ptr c 0] g n m (fun v g' n' => ∃ i', Out g' c n' m (some i') (putS (ys ++ [x]) r) ∧ (i' = i ∨ n ≤ i') ∧ n ≤ n' ∧ ∀ j, j < n → j ≠ c → j ≠ i → g' j = g j) := by
  obtain ⟨rf, rt, rp, rk, rl, rg⟩ := r
  obtain ⟨hne, hic, hmi, hin, hg, hgi⟩ := h
  have hlen : (ys ++ [x]).length = ys.length + 1 := by simp
  rw [hlen] at hg
  have hx : (ys ++ [x])[ys.length]? = some x := by simp
  have hrow : Row (upd g n (some (.cells 23 (Rg.c ⟨rf, rt, rp, rk, rl, rg⟩)))) (some ⟨i, 0, none⟩) 23 ((ys ++ [x]).flatMap Rg.c) := .inr ⟨i, 0, _, rfl, by rw [upd_ne (by omega)]; exact hgi, by omega, by rw [List.drop_zero, List.take_length]⟩
  refine c_open Try.func34 rfl rfl rfl rfl rfl rfl ?_
  repeat' (first
    | ((with_reducible apply g_op); first
      | ((with_reducible apply g_load); first
        | ((with_reducible apply w_load (v := .int _ _)); exact rfl; (first | assumption | (simp (disch := omega) only [upd_same, upd_ne]; first | done | assumption | exact rfl) | exact rfl); exact rfl)
        | ((with_reducible apply w_load (v := .slice _ _ _)); exact rfl; (first | assumption | (simp (disch := omega) only [upd_same, upd_ne]; first | done | assumption | exact rfl) | exact rfl); exact rfl))
      | ((with_reducible apply g_move); first
        | ((with_reducible apply w_pure (v := .int _ _)); exact rfl; exact rfl)
        | ((with_reducible apply w_pure (v := .bool _)); exact rfl; exact rfl))
      | ((with_reducible apply g_bin); first
        | ((with_reducible apply w_wrap); exact rfl; exact rfl; first | exact i64_in _ (by omega) | exact u64_in _ (by omega) | exact u8_in _ (by omega))
        | ((with_reducible apply w_pure (v := .bool _)); exact rfl; exact rfl))
      | ((with_reducible apply g_fld); first
        | ((with_reducible apply w_fldp (o := 0)); exact rfl; exact rfl; exact rfl; exact (by decide))
        | ((with_reducible apply w_fldp (o := 1)); exact rfl; exact rfl; exact rfl; exact (by decide)))
      | ((with_reducible apply g_assign); first
        | ((with_reducible apply w_pure (v := .int _ _)); exact rfl; exact rfl)
        | ((with_reducible apply w_pure (v := .bool _)); exact rfl; exact rfl))
      | ((with_reducible apply g_call); first
        | ((with_reducible apply w_call (v := .int _ _)); exact rfl))
      | ((with_reducible apply g_box); first
        | ((with_reducible apply w_box (vs := [_, _, _, _, _, _])); exact rfl; exact rfl)))
    | ((with_reducible apply g_gd); first
      | ((with_reducible apply w_gd_t); exact rfl; all_goals (intro hc; first | (exfalso; omega) | skip)))
    | with_reducible refine w_seq ?_
    | with_reducible refine w_nil ?_
    | with_reducible refine w_region ?_
    | with_reducible refine w_skip ?_
    | with_reducible refine w_block ?_
    | with_reducible refine w_blk ?_
    | ((with_reducible apply w_draw); kernel_rfl; kernel_rfl)
    | ((with_reducible apply w_ifd); exact rfl; all_goals (intro hc; first | (exfalso; omega) | skip))
    | ((with_reducible apply w_end (v := .tuple #[])); exact rfl))
  · have e : putS (ys ++ [x]) ⟨rf, rt, rp, rk, rl, rg⟩ = ys ++ [x] := by simp [putS, hc]
    refine ⟨i, ⟨by rw [e]; simp, hic, hmi, by omega, ?_, ?_⟩, .inl rfl, by omega, fun j hj hjc hji => upd_ne (by omega)⟩
    · rw [e, hlen, upd_ne (by omega)]; exact hg
    · rw [e, upd_ne (by omega)]; exact hgi
  · refine w_ix (i := ys.length) (sz := 6) rfl rfl rfl rfl (by decide) (by omega) hrow (fun _ => rfl) hx (by omega) ?_
    repeat' (first
      | ((with_reducible apply g_op); first
        | ((with_reducible apply g_load); first
          | ((with_reducible apply w_ld (v := .agg #[_, _, _, _, _, _])); exact rfl; assumption; exact (fun _ => rfl); assumption; exact (by decide); exact rfl)
          | ((with_reducible apply w_load (v := .agg #[_, _, _, _, _, _])); exact rfl; (first | assumption | (simp (disch := omega) only [upd_same, upd_ne]; first | done | assumption | exact rfl) | exact rfl); exact rfl)))
      | ((with_reducible apply g_gd); first
        | ((with_reducible apply w_gd_t); exact rfl; all_goals (intro hc; first | (exfalso; omega) | skip))))
    refine w_rq (one_run x ⟨rf, rt, rp, rk, rl, rg⟩ _ _ _) (fun _ => rfl) ?_
    rintro v rfl
    repeat' (first
      | ((with_reducible apply g_op); first
        | ((with_reducible apply g_load); first
          | ((with_reducible apply w_load (v := .int _ _)); exact rfl; (first | assumption | (simp (disch := omega) only [upd_same, upd_ne]; first | done | assumption | exact rfl) | exact rfl); exact rfl)
          | ((with_reducible apply w_load (v := .slice _ _ _)); exact rfl; (first | assumption | (simp (disch := omega) only [upd_same, upd_ne]; first | done | assumption | exact rfl) | exact rfl); exact rfl)
          | ((with_reducible apply w_load (v := .agg #[_, _, _, _, _, _])); exact rfl; (first | assumption | (simp (disch := omega) only [upd_same, upd_ne]; first | done | assumption | exact rfl) | exact rfl); exact rfl))
        | ((with_reducible apply g_move); first
          | ((with_reducible apply w_pure (v := .int _ _)); exact rfl; exact rfl))
        | ((with_reducible apply g_bin); first
          | ((with_reducible apply w_wrap); exact rfl; exact rfl; first | exact i64_in _ (by omega) | exact u64_in _ (by omega) | exact u8_in _ (by omega)))
        | ((with_reducible apply g_fld); first
          | ((with_reducible apply w_fldp (o := 1)); exact rfl; exact rfl; exact rfl; exact (by decide)))
        | ((with_reducible apply g_pick); first
          | ((with_reducible apply w_pk1 (v := .bool _)); exact rfl; exact rfl; (first | assumption | exact decide_eq_true (by assumption) | exact decide_eq_false (by assumption) | exact decide_eq_true (by omega) | exact decide_eq_false (by omega) | exact beq_iff_eq.2 (by omega) | exact beq_eq_false_iff_ne.2 (by omega) | exact bne_iff_ne.2 (by omega) | exact bne_eq_false_iff_eq.2 (by omega))))
        | ((with_reducible apply g_assign); first
          | ((with_reducible apply w_pure (v := .bool _)); exact rfl; exact rfl))
        | ((with_reducible apply w_bsl (ls := [_, _, _, _, _, _])); exact rfl; exact rfl; exact rfl; exact ⟨by decide, rfl⟩; exact rfl))
      | with_reducible refine w_nil ?_
      | with_reducible refine w_region ?_
      | ((with_reducible apply w_ifd); exact rfl; all_goals (intro hc; first | (exfalso; omega) | skip)))
    · refine w_ix (i := ys.length) (sz := 6) rfl rfl rfl rfl (by decide) (by omega) hrow (fun _ => rfl) hx (by omega) ?_
      repeat' (first
        | ((with_reducible apply g_op); first
          | ((with_reducible apply g_fld); first
            | ((with_reducible apply w_fldp (o := 1)); exact rfl; exact rfl; exact rfl; exact (by decide)))))
      refine w_store (i := i) (off := 0 + (ys.length * 6 + (0 + 1))) (us := [.int .i64 rt]) (ws := (ys ++ [{ x with t := rt }]).flatMap Rg.c) rfl rfl (by rw [upd_ne (by omega)]; exact hgi) (by omega) rfl rfl ?_ ?_
      · rw [Nat.zero_add]
        have := wr_flat (enc := Rg.c) (sz := 6) (c := 1) (us := [.int .i64 rt]) (y := x) (y' := { x with t := rt }) (fun _ => rfl) (show 2 ≤ 6 by omega) rfl hx
        rwa [List.set_append_right _ _ (by omega), Nat.sub_self, List.set_cons_zero] at this
      repeat' (first
        | with_reducible refine w_nil ?_
        | with_reducible refine w_blk ?_
        | ((with_reducible apply w_end (v := .tuple #[])); exact rfl))
      have e : putS (ys ++ [x]) ⟨rf, rt, rp, rk, rl, rg⟩ = ys ++ [{ x with t := rt }] := by
        have ho : one x ⟨rf, rt, rp, rk, rl, rg⟩ = true := decide_eq_true hc
        have hn : ¬ rf ≥ rt := by assumption
        simp [putS, ho]; omega
      refine ⟨i, ⟨by rw [e]; simp, hic, hmi, by omega, ?_, ?_⟩, .inl rfl, by omega, fun j hj hjc hji => ?_⟩
      · rw [e]; simp (disch := omega) only [upd_ne]; simpa using hg
      · rw [e]; exact upd_same
      · simp (disch := omega) only [upd_ne]
    · refine w_app1 (by_ := 48) (sz := 6) (ns := [_, _, _, _, _, _]) rfl rfl rfl rfl rfl rfl (by simp (disch := omega) only [upd_ne]; exact hgi) (rd_all (by rw [rc_len, hlen])) (by exact upd_same) rfl rfl (by decide) (by omega) ?_
      repeat' (first
        | ((with_reducible apply g_op); first
          | ((with_reducible apply g_store); first
            | ((with_reducible apply w_store (us := [.slice _ _ _]) (ws := [_])); exact rfl; exact rfl; (first | assumption | (simp (disch := omega) only [upd_same, upd_ne]; first | done | assumption | exact rfl) | exact rfl); omega; exact rfl; exact rfl; exact rfl)))
        | with_reducible refine w_nil ?_
        | with_reducible refine w_blk ?_
        | ((with_reducible apply w_end (v := .tuple #[])); exact rfl))
      have e : putS (ys ++ [x]) ⟨rf, rt, rp, rk, rl, rg⟩ = ys ++ [x] ++ [⟨rf, rt, rp, rk, rl, rg⟩] := by
        have ho : one x ⟨rf, rt, rp, rk, rl, rg⟩ = false := decide_eq_false hc
        have hn : ¬ rf ≥ rt := by assumption
        simp [putS, ho]; omega
      refine ⟨n + 2, ⟨by rw [e]; simp, by omega, by omega, by omega, ?_, ?_⟩, .inr (by omega), by omega, fun j hj hjc hji => ?_⟩
      · rw [e, upd_same]; simp
      · rw [e]; simp (disch := omega) only [upd_same, upd_ne]; rw [List.flatMap_append (xs := ys ++ [x])]; rfl
      · simp (disch := omega) only [upd_ne]
abbrev putF (c : Nat) : Value := .func (.func 34) #[] [ptr c 0].toArray
abbrev toldF (c : Nat) : Value := .func (.func 35) #[] [ptr c 0].toArray
theorem row_run (g n m) : Rn Try.prog T 28 [] g n m (fun v g' n' => v = .tuple #[putF n, toldF n] ∧ g' = upd g n (some (.cells 28 [.slice none 0 0])) ∧ n' = n + 1) := by
  refine c_open Try.func28 rfl rfl rfl rfl rfl rfl ?_
  repeat' (first
    | ((with_reducible apply g_op); first
      | ((with_reducible apply g_move); first
        | ((with_reducible apply w_pure (v := .func _ _ _)); exact rfl; exact rfl))
      | ((with_reducible apply g_assign); first
        | ((with_reducible apply w_pure (v := .func _ _ _)); exact rfl; exact rfl)
        | ((with_reducible apply w_pure (v := .nilFunc)); exact rfl; exact rfl))
      | ((with_reducible apply w_alloc (ls := [.slice _ _ _])); exact rfl; exact rfl)
      | ((with_reducible apply w_mkf (cs := [.pointer _])); exact rfl))
    | with_reducible refine w_seq ?_
    | with_reducible refine w_nil ?_
    | with_reducible refine w_region ?_
    | ((with_reducible apply w_ret (v := .tuple #[.func _ _ _, .func _ _ _])); exact rfl))
  exact ⟨rfl, rfl, rfl⟩
theorem num_len (d k : Nat) : numOf d (some (Value.int .i64 (k : Int))) = some k := by simp [numOf]
theorem told0 (g : Nat → Option Ob) (c n m : Nat) (h : Out g c n m none []) : Rn Try.prog T 35 [ptr c 0] g n m (fun v g' n' => v = .slice none 0 0 ∧ g' = g ∧ n' = n) := by
  obtain ⟨_, hg⟩ := h
  refine c_open Try.func35 rfl rfl rfl rfl rfl rfl ?_
  repeat' (first
    | ((with_reducible apply g_op); first
      | ((with_reducible apply g_load); first
        | ((with_reducible apply w_load (v := .slice _ _ _)); exact rfl; (first | assumption | (simp (disch := omega) only [upd_same, upd_ne]; first | done | assumption | exact rfl) | exact rfl); exact rfl))
      | ((with_reducible apply g_assign); first
        | ((with_reducible apply w_pure (v := .slice _ _ _)); exact rfl; exact rfl))
      | ((with_reducible apply g_call); first
        | ((with_reducible apply w_call (v := .int _ _)); exact rfl)))
    | with_reducible refine w_seq ?_
    | with_reducible refine w_nil ?_
    | with_reducible refine w_region ?_)
  refine w_sl0 rfl rfl rfl rfl (num_len 0 0) (num_len 0 0) (fun _ => rfl) ?_
  repeat' (first
    | ((with_reducible apply g_op); first
      | ((with_reducible apply g_assign); first
        | ((with_reducible apply w_pure (v := .slice _ _ _)); exact rfl; exact rfl)))
    | with_reducible refine w_nil ?_
    | ((with_reducible apply w_ret (v := .slice _ _ _)); exact rfl))
  exact ⟨rfl, rfl, rfl⟩
theorem told1 (rs : List Rg) (g : Nat → Option Ob) (c n m i : Nat) (h : Out g c n m (some i) rs) : Rn Try.prog T 35 [ptr c 0] g n m (fun v g' n' => v = slc i 0 rs.length ∧ g' = g ∧ n' = n) := by
  obtain ⟨hne, hic, hmi, hin, hg, hgi⟩ := h
  refine c_open Try.func35 rfl rfl rfl rfl rfl rfl ?_
  repeat' (first
    | ((with_reducible apply g_op); first
      | ((with_reducible apply g_load); first
        | ((with_reducible apply w_load (v := .slice _ _ _)); exact rfl; (first | assumption | (simp (disch := omega) only [upd_same, upd_ne]; first | done | assumption | exact rfl) | exact rfl); exact rfl))
      | ((with_reducible apply g_assign); first
        | ((with_reducible apply w_pure (v := .slice _ _ _)); exact rfl; exact rfl))
      | ((with_reducible apply g_call); first
        | ((with_reducible apply w_call (v := .int _ _)); exact rfl)))
    | with_reducible refine w_seq ?_
    | with_reducible refine w_nil ?_
    | with_reducible refine w_region ?_)
  refine w_sl (p := 0) (q := rs.length) (sz := 6) rfl rfl rfl rfl (num_len _ _) (num_len _ _) (fun _ => rfl) ⟨by omega, by omega⟩ hgi ?_
  repeat' (first
    | ((with_reducible apply g_op); first
      | ((with_reducible apply g_assign); first
        | ((with_reducible apply w_pure (v := .slice _ _ _)); exact rfl; exact rfl)))
    | with_reducible refine w_nil ?_
    | ((with_reducible apply w_ret (v := .slice _ _ _)); exact rfl))
  exact ⟨by simp, rfl, rfl⟩
theorem put_run (rs : List Rg) (r : Rg) (g : Nat → Option Ob) (c n m : Nat) (i : Option Nat) (h : Out g c n m i rs) (hc : m ≤ c) (hcn : c < n) (hl : rs.length ≤ 1000000) : Rn Try.prog T 34 [r.v, ptr c 0] g n m (fun v g' n' => ∃ i', Out g' c n' m i' (putS rs r) ∧ (i' = i ∨ ∃ k, i' = some k ∧ n ≤ k) ∧ n ≤ n' ∧ ∀ j, j < n → j ≠ c → some j ≠ i → g' j = g j) := by
  cases i with
  | none =>
    obtain ⟨rfl, _⟩ := id h
    refine (put0 r g c n m h hc hcn).mono ?_
    rintro v g' n' ⟨i', h1, h2, h3, h4⟩
    exact ⟨i', h1, h2, h3, fun j hj hjc _ => h4 j hj hjc⟩
  | some i =>
    have hne : rs ≠ [] := h.1
    obtain ⟨ys, x, rfl⟩ : ∃ ys x, rs = ys ++ [x] := ⟨rs.dropLast, rs.getLast hne, (List.dropLast_concat_getLast hne).symm⟩
    refine (put1 ys x r g c n m i h hc hcn (by simp at hl; omega)).mono ?_
    rintro v g' n' ⟨i', h1, h2, h3, h4⟩
    refine ⟨some i', h1, ?_, h3, fun j hj hjc hji => h4 j hj hjc (fun e => hji (by rw [e]))⟩
    rcases h2 with rfl | h2
    · exact .inl rfl
    · exact .inr ⟨_, rfl, h2⟩
def outV (i : Option Nat) (k : Nat) : Value := match i with | none => .slice none 0 0 | some i => slc i 0 k
theorem told_run (rs : List Rg) (g : Nat → Option Ob) (c n m : Nat) (i : Option Nat) (h : Out g c n m i rs) : Rn Try.prog T 35 [ptr c 0] g n m (fun v g' n' => v = outV i rs.length ∧ g' = g ∧ n' = n) := by
  cases i with
  | none =>
    obtain ⟨rfl, _⟩ := id h
    exact told0 g c n m h
  | some i => exact told1 rs g c n m i h
theorem Rg.plain (r : Rg) : r.c.all plain = true := rfl
theorem Rg.plains (l : List Rg) : (l.flatMap Rg.c).all L1.plain = true := all_flat Rg.plain l
/-- A row by its cells. -/
abbrev rv (s : Array Value) (l : List Rg) : Value := fz s l.length (l.flatMap Rg.c)
theorem rv_sn {P : Program} {g : Nat → Option Ob} {a s : Array Value} {lo k : Nat} {l : List Rg} (h : a = #[] ∨ s ≠ #[] := by simp) : L1.freeze P g s lo (k + 2) (rv a l) = some (rv s l) := sn_fzp h (Rg.plains l)
theorem Out.fz {g : Nat → Option Ob} {c n m lo k : Nat} {i : Option Nat} {rs : List Rg} (h : Out g c n m i rs) (hl : lo ≤ m) : L1.freeze Try.prog g #[] lo (k + 2) (outV i rs.length) = some (rv #[] rs) := by
  cases i with
  | none => obtain ⟨rfl, _⟩ := h; rfl
  | some i => exact sn_row (sz := 6) h.2.2.2.2.2 (Nat.le_trans hl h.2.2.1) (by kernel_rfl) (by decide) (rd_all (rc_len rs).symm) (sn_plains (Rg.plains rs))
end Go.Proofs.Ytnlgindlmlbfiaa.L

