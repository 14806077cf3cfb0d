/- Op.small. -/
import Derived.Test.Ytnlgindlmlbfiaac15G
namespace Go.Proofs.Ytnlgindlmlbfiaa.L
open Go.L1 Go.IntWalk
set_option linter.unusedVariables false
set_option linter.unusedSimpArgs false
structure Sop where
  k : Int
  f : Int
  t : Int
  p : Int
  i : Bool
  r : Rg
def Sop.c (o : Sop) : List Value := [.int .i64 o.k, .int .i64 o.f, .int .i64 o.t, .int .i64 o.p, .bool o.i, .int .i64 o.r.f, .int .i64 o.r.t, .int .i64 o.r.p, .int .i64 o.r.k, .int .i64 o.r.l, .int .i64 o.r.g]
def Sop.v (o : Sop) : Value := .agg #[.int .i64 o.k, .int .i64 o.f, .int .i64 o.t, .int .i64 o.p, .bool o.i, .int .i64 o.r.f, .int .i64 o.r.t, .int .i64 o.r.p, .int .i64 o.r.k, .int .i64 o.r.l, .int .i64 o.r.g]
def smallS (o : Sop) : Sop := if o.i then ⟨o.k, o.f % 64, o.t % 64, o.p % 8, o.i, ⟨o.r.f % 64, o.r.t % 64, o.r.p, o.r.k, o.r.l, o.r.g⟩⟩ else o
theorem small_run (o : Sop) (g n m) : Rn Try.prog T 10 [o.v] g n m (fun v g' n' => v = (smallS o).v ∧ g' = g ∧ n' = n) := by
  obtain ⟨ok, of, ot, op, oi, ⟨rf, rt, rp, rk, rl, rg⟩⟩ := o
  refine c_quiet Try.func10 rfl rfl rfl rfl rfl ?_
  cases oi with
  | true =>
    repeat' (first
      | ((with_reducible apply g_op); first
        | ((with_reducible apply g_load); first
          | ((with_reducible apply w_load (v := .int _ _)); exact rfl; (first | assumption | (simp (disch := omega) only [upd_same, upd_ne]; first | done | assumption | exact rfl) | exact rfl); exact rfl)
          | ((with_reducible apply w_load (v := .bool _)); exact rfl; (first | assumption | (simp (disch := omega) only [upd_same, upd_ne]; first | done | assumption | exact rfl) | exact rfl); exact rfl)
          | ((with_reducible apply w_load (v := .agg #[_, _, _, _, _, _, _, _, _, _, _])); exact rfl; (first | assumption | (simp (disch := omega) only [upd_same, upd_ne]; first | done | assumption | exact rfl) | exact rfl); exact rfl))
        | ((with_reducible apply g_bin); first
          | ((with_reducible apply w_and (j := 3) (c1 := 8)); exact rfl; exact rfl; exact rfl; exact rfl; exact rfl; exact (by decide); exact (by decide); exact (by decide))
          | ((with_reducible apply w_and (j := 6) (c1 := 64)); exact rfl; exact rfl; exact rfl; exact rfl; exact rfl; exact (by decide); exact (by decide); exact (by decide)))
        | ((with_reducible apply g_fld); first
          | ((with_reducible apply w_fldp (o := 0)); exact rfl; exact rfl; exact rfl; exact (by decide))
          | ((with_reducible apply w_fldp (o := 1)); exact rfl; exact rfl; exact rfl; exact (by decide))
          | ((with_reducible apply w_fldp (o := 2)); exact rfl; exact rfl; exact rfl; exact (by decide))
          | ((with_reducible apply w_fldp (o := 3)); exact rfl; exact rfl; exact rfl; exact (by decide))
          | ((with_reducible apply w_fldp (o := 4)); exact rfl; exact rfl; exact rfl; exact (by decide))
          | ((with_reducible apply w_fldp (o := 5)); exact rfl; exact rfl; exact rfl; exact (by decide)))
        | ((with_reducible apply g_box); first
          | ((with_reducible apply w_box (vs := [_, _, _, _, _, _, _, _, _, _, _])); exact rfl; exact rfl))
        | ((with_reducible apply g_store); first
          | ((with_reducible apply w_store (us := [.int _ _]) (ws := [_, _, _, _, _, _, _, _, _, _, _])); exact rfl; exact rfl; (first | assumption | (simp (disch := omega) only [upd_same, upd_ne]; first | done | assumption | exact rfl) | exact rfl); omega; exact rfl; exact rfl; exact rfl)
          | ((with_reducible apply w_store (us := [_, _, _, _, _, _, _, _, _, _, _]) (ws := [_, _, _, _, _, _, _, _, _, _, _])); exact rfl; exact rfl; (first | assumption | (simp (disch := omega) only [upd_same, upd_ne]; first | done | assumption | exact rfl) | exact rfl); omega; exact rfl; exact rfl; exact rfl))
        | ((with_reducible apply w_alloc (ls := [_, _, _, _, _, _, _, _, _, _, _])); exact rfl; exact rfl))
      | with_reducible refine w_seq ?_
      | with_reducible refine w_nil ?_
      | with_reducible refine w_region ?_
      | ((with_reducible apply w_yes); exact rfl)
      | ((with_reducible apply w_retc (v := .agg #[_, _, _, _, _, _, _, _, _, _, _])); exact rfl; exact rfl; (first | assumption | (simp (disch := omega) only [upd_same, upd_ne]; first | done | assumption | exact rfl) | exact rfl); exact rfl))
    exact ⟨rfl, rfl⟩
  | false =>
    repeat' (first
      | ((with_reducible apply g_op); first
        | ((with_reducible apply g_load); first
          | ((with_reducible apply w_load (v := .bool _)); exact rfl; (first | assumption | (simp (disch := omega) only [upd_same, upd_ne]; first | done | assumption | exact rfl) | exact rfl); exact rfl)
          | ((with_reducible apply w_load (v := .agg #[_, _, _, _, _, _, _, _, _, _, _])); exact rfl; (first | assumption | (simp (disch := omega) only [upd_same, upd_ne]; first | done | assumption | exact rfl) | exact rfl); exact rfl))
        | ((with_reducible apply g_fld); first
          | ((with_reducible apply w_fldp (o := 4)); exact rfl; exact rfl; exact rfl; exact (by decide)))
        | ((with_reducible apply g_box); first
          | ((with_reducible apply w_box (vs := [_, _, _, _, _, _, _, _, _, _, _])); exact rfl; exact rfl))
        | ((with_reducible apply g_store); first
          | ((with_reducible apply w_store (us := [_, _, _, _, _, _, _, _, _, _, _]) (ws := [_, _, _, _, _, _, _, _, _, _, _])); exact rfl; exact rfl; (first | assumption | (simp (disch := omega) only [upd_same, upd_ne]; first | done | assumption | exact rfl) | exact rfl); omega; exact rfl; exact rfl; exact rfl))
        | ((with_reducible apply w_alloc (ls := [_, _, _, _, _, _, _, _, _, _, _])); exact rfl; exact rfl))
      | with_reducible refine w_seq ?_
      | with_reducible refine w_nil ?_
      | with_reducible refine w_region ?_
      | with_reducible refine w_skip ?_
      | ((with_reducible apply w_no); exact rfl)
      | ((with_reducible apply w_retc (v := .agg #[_, _, _, _, _, _, _, _, _, _, _])); exact rfl; exact rfl; (first | assumption | (simp (disch := omega) only [upd_same, upd_ne]; first | done | assumption | exact rfl) | exact rfl); exact rfl))
    exact ⟨rfl, rfl⟩
end Go.Proofs.Ytnlgindlmlbfiaa.L

