/- Rows of segments, images; slices.ContainsFunc of a segment's holders. -/
import Derived.Test.Ytohfbnpmhlpkhaac08F
namespace Go.Proofs.Ytohfbnpmhlpkhaa.L
open Go.L1 Go.IntWalk Oct
set_option linter.unusedVariables false
set_option linter.unusedSimpArgs false
set_option maxHeartbeats 4000000
set_option maxRecDepth 20000
theorem Sg.plain (s : Sg) : s.c.all L1.plain = true := rfl
theorem Sg.plains (l : List Sg) : (l.flatMap Sg.c).all L1.plain = true := all_flat Sg.plain l
theorem Sg.len (s : Sg) : s.c.length = 7 := rfl
abbrev rv (a : Array Value) (l : List Sg) : Value := fz a l.length (l.flatMap Sg.c)
theorem rv_sn {P : Program} {g : Nat → Option Ob} {a s : Array Value} {lo k : Nat} {l : List Sg} (h : a = #[] ∨ s ≠ #[] := by simp) : L1.freeze P g s lo (k + 2) (rv a l) = some (rv s l) := sn_fzp h (Sg.plains l)
structure Im where
  k : Int
  e : Int
  l : List Sg
def Im.v (a : Array Value) (x : Im) : Value := .agg #[.int .i64 x.k, .int .i64 x.e, rv a x.l]
def Im.c (a : Array Value) (x : Im) : List Value := [.int .i64 x.k, .int .i64 x.e, rv a x.l]
theorem im_sn {P : Program} {g : Nat → Option Ob} {a s : Array Value} {lo k : Nat} {x : Im} (h : a = #[] ∨ s ≠ #[] := by simp) : L1.freeze P g s lo (k + 3) (x.v a) = some (x.v s) :=
  sn_agg (l := [_, _, _]) (sn_cons (sn_plain rfl) (sn_cons (sn_plain rfl) (sn_cons (rv_sn h) sn_nil)))
theorem hold1_run (l s : Sg) (q : Nat) (g : Nat → Option Ob) (n m : Nat) (hg : g q = some (.cells 43 s.c)) (hq : q < n) : Rn Try.prog T 37 [l.v, ptr q 0] g n m (fun v g' n' => v = .bool (holdsS l s) ∧ g' = g ∧ n' = n) := by
  refine c_quiet Try.func37 rfl rfl rfl rfl rfl ?_
  repeat' (first
    | ((with_reducible apply g_op); first
      | ((with_reducible apply g_load); first
        | ((with_reducible apply w_load (v := .agg #[_, _, _, _, _, _, _])); exact rfl; (first | assumption | (simp (disch := omega) only [upd_same, upd_ne]; first | done | assumption | exact rfl) | exact rfl); exact rfl))
      | ((with_reducible apply g_assign); first
        | ((with_reducible apply w_pure (v := .bool _)); exact rfl; exact rfl))
      | ((with_reducible apply g_box); first
        | ((with_reducible apply w_box (vs := [_, _, _, _, _, _, _])); exact rfl; exact rfl)))
    | with_reducible refine w_seq ?_
    | with_reducible refine w_nil ?_
    | with_reducible refine w_region ?_)
  refine w_rq (holds_run l s _ _ _) (fun _ => rfl) ?_
  rintro _ rfl
  repeat' (first
    | ((with_reducible apply g_op); first
      | ((with_reducible apply g_assign); first
        | ((with_reducible apply w_pure (v := .bool _)); exact rfl; exact rfl)))
    | with_reducible refine w_nil ?_
    | ((with_reducible apply w_ret (v := .bool _)); exact rfl))
  exact ⟨rfl, rfl⟩
theorem index_run {a : Array Value} (l : List Sg) (s : Sg) (q : Nat) (g : Nat → Option Ob) (n m : Nat) (hg : g q = some (.cells 43 s.c)) (hq : q < n) (hl : l.length ≤ 5000) : Rn Try.prog T 53 [rv a l, .func (.func 37) #[] #[ptr q 0]] g n m (fun v g' n' => (∃ r : Int, v = .int .i64 r ∧ decide (r ≥ 0) = l.any (fun x => holdsS x s)) ∧ g' = g ∧ n' = n) := by
  refine c_quiet Try.func53 rfl rfl rfl rfl rfl ?_
  repeat' (first
    | ((with_reducible apply g_op); first
      | ((with_reducible apply g_move); first
        | ((with_reducible apply w_pure (v := .int _ _)); exact rfl; exact rfl)
        | ((with_reducible apply w_pure (v := .func _ _ _)); exact rfl; exact rfl))
      | ((with_reducible apply g_assign); first
        | ((with_reducible apply w_pure (v := .int _ _)); exact rfl; exact rfl))
      | ((with_reducible apply g_call); first
        | ((with_reducible apply w_call (v := .int _ _)); exact rfl)))
    | with_reducible refine w_seq ?_
    | with_reducible refine w_nil ?_
    | with_reducible refine w_region ?_
    | with_reducible refine w_block ?_)
  refine w_rngK [(4, 5), (8, 18)] l (fun i rest (_ : Unit) σ g' n' => σ 8 = .int .i64 (i : Nat) ∧ g' = g ∧ n' = n ∧ (rest.any fun x => holdsS x s) = (l.any fun x => holdsS x s)) ?_ ?_ () ⟨rfl, rfl, rfl, rfl⟩
  · rintro i x rest _ σ g2 n2 hx hlt ⟨k8, rfl, rfl, hr⟩ ih
    refine w_keep (i := 8) k8 ?_
    repeat' (first
      | ((with_reducible apply g_op); first
        | ((with_reducible apply g_load); first
          | ((with_reducible apply w_fl (v := .agg #[_, _, _, _, _, _, _])); exact rfl; exact (fun _ => rfl); assumption; exact rfl))
        | ((with_reducible apply g_move); first
          | ((with_reducible apply w_pure (v := .int _ _)); exact rfl; exact rfl)
          | ((with_reducible apply w_pure (v := .func _ _ _)); exact rfl; exact rfl))
        | ((with_reducible apply g_bin); first
          | ((with_reducible apply w_pure (v := .bool _)); exact rfl; exact rfl))
        | ((with_reducible apply g_assign); first
          | ((with_reducible apply w_pure (v := .int _ _)); exact rfl; exact rfl))
        | ((with_reducible apply g_ix); first
          | ((with_reducible apply w_fx (sz := 7)); exact rfl; exact rfl; exact rfl; exact rfl; exact rfl; exact (fun _ => rfl); assumption; exact rfl)))
      | with_reducible refine w_seq ?_
      | with_reducible refine w_nil ?_
      | with_reducible refine w_region ?_
      | with_reducible refine w_skip ?_
      | with_reducible refine w_block ?_
      | ((with_reducible apply w_ifd); exact rfl; all_goals (intro hc; first | (exfalso; omega) | skip)))
    refine w_rq (hold1_run x s q _ _ _ hg hq) (fun _ => rfl) ?_
    rintro _ rfl
    cases hh : holdsS x s with
    | true =>
      repeat' (first
        | ((with_reducible apply g_op); first
          | ((with_reducible apply g_move); first
            | ((with_reducible apply w_pure (v := .int _ _)); exact rfl; exact rfl))
          | ((with_reducible apply g_assign); first
            | ((with_reducible apply w_pure (v := .int _ _)); exact rfl; exact rfl)))
        | with_reducible refine w_seq ?_
        | with_reducible refine w_nil ?_
        | with_reducible refine w_region ?_
        | ((with_reducible apply w_yes); exact rfl)
        | ((with_reducible apply w_ret (v := .int _ _)); exact rfl))
      refine ⟨rfl, _, rfl, ?_⟩
      rw [← hr, List.any_cons, hh, Bool.true_or]
      exact decide_eq_true (by omega)
    | false =>
      repeat' (first
        | ((with_reducible apply g_op); first
          | ((with_reducible apply g_move); first
            | ((with_reducible apply w_pure (v := .int _ _)); exact rfl; exact rfl))
          | ((with_reducible apply g_bin); first
            | ((with_reducible apply w_wrap); exact rfl; exact rfl; first | exact i64_in _ (by omega) | exact u64_in _ (by omega) | exact u8_in _ (by omega))))
        | with_reducible refine w_nil ?_
        | with_reducible refine w_region ?_
        | with_reducible refine w_skip ?_
        | with_reducible refine w_blk ?_
        | ((with_reducible apply w_no); exact rfl))
      refine ih () _ _ _ (by repeat' (first | with_reducible exact Fr.mix | with_reducible exact Fr.rfl' | with_reducible refine Fr.put ?_ ?_ | with_reducible refine Fr.mix2 ?_ ?_ | with_reducible refine Fr.put0 ?_ | exact rfl)) ⟨by push_cast; rfl, rfl, rfl, ?_⟩
      rw [← hr, List.any_cons, hh, Bool.false_or]
  · rintro _ σ g2 n2 ⟨k8, rfl, rfl, hr⟩
    refine w_keep (i := 8) k8 ?_
    repeat' (first
      | ((with_reducible apply g_op); first
        | ((with_reducible apply g_bin); first
          | ((with_reducible apply w_pure (v := .bool _)); exact rfl; exact rfl))
        | ((with_reducible apply g_assign); first
          | ((with_reducible apply w_pure (v := .int _ _)); exact rfl; exact rfl)))
      | with_reducible refine w_seq ?_
      | with_reducible refine w_nil ?_
      | with_reducible refine w_region ?_
      | ((with_reducible apply w_exit); exact rfl)
      | ((with_reducible apply w_ifd); exact rfl; all_goals (intro hc; first | (exfalso; omega) | skip))
      | ((with_reducible apply w_ret (v := .int _ _)); exact rfl))
    refine ⟨rfl, _, rfl, ?_⟩
    rw [← hr]
    rfl
theorem contains_run {a : Array Value} (l : List Sg) (s : Sg) (q : Nat) (g : Nat → Option Ob) (n m : Nat) (hg : g q = some (.cells 43 s.c)) (hq : q < n) (hl : l.length ≤ 5000) : Rn Try.prog T 36 [rv a l, .func (.func 37) #[] #[ptr q 0]] g n m (fun v g' n' => v = .bool (l.any (fun x => holdsS x s)) ∧ g' = g ∧ n' = n) := by
  refine c_quiet Try.func36 rfl rfl rfl rfl rfl ?_
  repeat' (first
    | ((with_reducible apply g_op); first
      | ((with_reducible apply g_move); first
        | ((with_reducible apply w_pure (v := .func _ _ _)); exact rfl; exact rfl))
      | ((with_reducible apply g_assign); first
        | ((with_reducible apply w_pure (v := .bool _)); exact rfl; exact rfl)))
    | with_reducible refine w_seq ?_
    | with_reducible refine w_nil ?_
    | with_reducible refine w_region ?_)
  refine w_rq (index_run l s q _ _ _ hg hq hl) (fun _ => rfl) ?_
  rintro _ ⟨r, rfl, hr⟩
  repeat' (first
    | ((with_reducible apply g_op); first
      | ((with_reducible apply g_bin); first
        | ((with_reducible apply w_pure (v := .bool _)); exact rfl; exact rfl))
      | ((with_reducible apply g_assign); first
        | ((with_reducible apply w_pure (v := .bool _)); exact rfl; exact rfl)))
    | with_reducible refine w_nil ?_
    | ((with_reducible apply w_ret (v := .bool _)); exact rfl))
  exact ⟨rfl, congrArg Value.bool hr⟩
end Go.Proofs.Ytohfbnpmhlpkhaa.L

