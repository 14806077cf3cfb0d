/- needs.table. -/
import Derived.Test.Ytgljofdhdnhekaac12Tab
namespace Go.Proofs.Ytgljofdhdnhekaa.L
open Go.L1 Go.IntWalk
set_option linter.unusedVariables false
set_option linter.unusedSimpArgs false
set_option maxHeartbeats 4000000
structure Lib where
  name : ByteArray
  nd : List ByteArray
deriving DecidableEq
def ts (s : ByteArray) : List Value := [.string s]
abbrev tv (s : Array Value) (l : List ByteArray) : Value := fz s l.length (l.flatMap ts)
def Lib.cs (a : Array Value) (l : Lib) : List Value := [.string l.name, tv a l.nd]
abbrev lv (s : Array Value) (l : List Lib) : Value := fz s l.length (l.flatMap (Lib.cs s))
abbrev Tbl := List (ByteArray × List ByteArray)
def tabStep (t : Tbl) (x : Lib) : Tbl := if (mget t x.name).isSome then t else mput t x.name x.nd
def tabS (l : List Lib) : Tbl := l.foldl tabStep []
theorem table_run (l : List Lib) (hl : l.length ≤ 5000) (g : Nat → Option Ob) (n m : Nat) (hm : m ≤ n) : Rn Try.prog T 19 [lv tg l] g n m (fun v g' n' => v = .map (some n) ∧ g' n = some (.map (ents Value.string (tv tg) (tabS l))) ∧ (∀ j, j < n → g' j = g j) ∧ n < n') := by
  refine c_open Try.func19 rfl rfl rfl rfl rfl rfl ?_
  repeat' (first
    | ((with_reducible apply g_op); first
      | ((with_reducible apply g_assign); first
        | ((with_reducible apply w_pure (v := .map _)); exact rfl; exact rfl)))
    | with_reducible refine w_seq ?_
    | with_reducible refine w_nil ?_
    | with_reducible refine w_region ?_)
  refine w_mkm ?_
  repeat' (first
    | ((with_reducible apply g_op); first
      | ((with_reducible apply g_move); first
        | ((with_reducible apply w_pure (v := .int _ _)); exact rfl; exact rfl)
        | ((with_reducible apply w_pure (v := .func _ _ _)); exact rfl; exact rfl))
      | ((with_reducible apply g_assign); first
        | ((with_reducible apply w_pure (v := .map _)); exact rfl; exact rfl))
      | ((with_reducible apply g_call); first
        | ((with_reducible apply w_call (v := .int _ _)); exact rfl)))
    | with_reducible refine w_seq ?_
    | with_reducible refine w_nil ?_
    | with_reducible refine w_region ?_
    | with_reducible refine w_block ?_)
  refine w_rng l (fun i rest (t : Tbl) σ g' n' => σ 3 = .map (some n) ∧ σ 9 = lv tg l ∧ σ 10 = .int .i64 l.length ∧ σ 11 = .int .i64 (i : Nat)
    ∧ g' n = some (.map (ents Value.string (tv tg) t)) ∧ (∀ j, j < n → g' j = g j) ∧ n < n' ∧ rest.foldl tabStep t = tabS l) ?_ ?_ [] ⟨rfl, rfl, rfl, rfl, upd_same, fun j hj => upd_ne (by omega), by omega, rfl⟩
  · intro i x rest b σ gl nl hx hlt hI ih; obtain ⟨k3, k9, k10, k11, hg, hfr, hn, ht⟩ := hI; (try dsimp only at k3 k9 k10 k11 hg hfr hn ht); refine w_keep (i := 3) k3 (w_keep (i := 9) k9 (w_keep (i := 10) k10 (w_keep (i := 11) k11 ?_)))
    rw [List.foldl_cons] at ht
    repeat' (first
      | ((with_reducible apply g_op); first
        | ((with_reducible apply g_load); first
          | ((with_reducible apply w_fl (v := .agg #[_, _])); exact rfl; exact (fun _ => rfl); assumption; exact rfl)
          | ((with_reducible apply w_load (v := .string _)); exact rfl; (first | assumption | (simp (disch := omega) only [upd_same, upd_ne]; first | done | assumption | exact rfl) | exact rfl); exact rfl))
        | ((with_reducible apply g_move); first
          | ((with_reducible apply w_pure (v := .map _)); exact rfl; exact rfl))
        | ((with_reducible apply g_bin); first
          | ((with_reducible apply w_pure (v := .bool _)); exact rfl; exact rfl))
        | ((with_reducible apply g_fld); first
          | ((with_reducible apply w_fldp (o := 0)); exact rfl; exact rfl; exact rfl; exact (by decide)))
        | ((with_reducible apply g_store); first
          | ((with_reducible apply w_store (us := [_, _]) (ws := [_, _])); exact rfl; exact rfl; (first | assumption | (simp (disch := omega) only [upd_same, upd_ne]; first | done | assumption | exact rfl) | exact rfl); omega; exact rfl; exact rfl; exact rfl))
        | ((with_reducible apply g_ix); first
          | ((with_reducible apply w_fx (sz := 2)); exact rfl; exact rfl; exact rfl; exact rfl; exact rfl; exact (fun _ => rfl); assumption; exact rfl))
        | ((with_reducible apply w_alloc (ls := [_, _])); exact rfl; exact rfl))
      | with_reducible refine w_seq ?_
      | with_reducible refine w_nil ?_
      | with_reducible refine w_region ?_
      | with_reducible refine w_skip ?_
      | with_reducible refine w_block ?_
      | ((with_reducible apply w_ifd); exact rfl; all_goals (intro hc; first | (exfalso; omega) | skip)))
    refine w_look2 (ek := Value.string) (evv := tv tg) (es := b) (key := x.name) (z := .slice none 0 0) rfl rfl rfl (keyK_str (by kernel_rfl)) rfl (by simp (disch := omega) only [upd_ne]; exact hg) ?_
    cases hmg : mget b x.name with
    | some nd =>
      have e : tabStep b x = b := by unfold tabStep; rw [hmg]; rfl
      rw [e] at ht
      repeat' (first
        | ((with_reducible apply g_op); first
          | ((with_reducible apply g_move); first
            | ((with_reducible apply w_pure (v := .int _ _)); exact rfl; exact rfl)
            | ((with_reducible apply w_pure (v := .bool _)); exact rfl; exact rfl)
            | ((with_reducible apply w_pure (v := .tuple _)); exact rfl; exact rfl))
          | ((with_reducible apply g_bin); first
            | ((with_reducible apply w_wrap); exact rfl; exact rfl; first | exact i64_in _ (by omega) | exact u64_in _ (by omega) | exact u8_in _ (by omega)))
          | ((with_reducible apply g_assign); first
            | ((with_reducible apply w_pure (v := .bool _)); exact rfl; exact rfl)
            | ((with_reducible apply w_pure (v := .func _ _ _)); exact rfl; exact rfl))
          | ((with_reducible apply w_pure (v := .bool _)); exact rfl; exact rfl)
          | ((with_reducible apply w_pure (v := .func _ _ _)); exact rfl; exact rfl))
        | with_reducible refine w_seq ?_
        | with_reducible refine w_nil ?_
        | with_reducible refine w_region ?_
        | with_reducible refine w_skip ?_
        | with_reducible refine w_blk ?_
        | ((with_reducible apply w_no); exact rfl))
      exact ih b _ _ _ ⟨rfl, rfl, rfl, rfl, by simp (disch := omega) only [upd_ne]; exact hg, fun j hj => by simp (disch := omega) only [upd_ne]; exact hfr j hj, by omega, ht⟩
    | none =>
      have e : tabStep b x = mput b x.name x.nd := by unfold tabStep; rw [hmg]; rfl
      rw [e] at ht
      repeat' (first
        | ((with_reducible apply g_op); first
          | ((with_reducible apply g_load); first
            | ((with_reducible apply w_load (v := .string _)); exact rfl; (first | assumption | (simp (disch := omega) only [upd_same, upd_ne]; first | done | assumption | exact rfl) | exact rfl); exact rfl)
            | ((with_reducible apply w_load (v := .func _ _ _)); exact rfl; (first | assumption | (simp (disch := omega) only [upd_same, upd_ne]; first | done | assumption | exact rfl) | exact rfl); exact rfl))
          | ((with_reducible apply g_move); first
            | ((with_reducible apply w_pure (v := .bool _)); exact rfl; exact rfl)
            | ((with_reducible apply w_pure (v := .tuple _)); exact rfl; exact rfl)
            | ((with_reducible apply w_pure (v := .map _)); exact rfl; exact rfl))
          | ((with_reducible apply g_fld); first
            | ((with_reducible apply w_fldp (o := 0)); exact rfl; exact rfl; exact rfl; exact (by decide))
            | ((with_reducible apply w_fldp (o := 1)); exact rfl; exact rfl; exact rfl; exact (by decide)))
          | ((with_reducible apply g_assign); first
            | ((with_reducible apply w_pure (v := .bool _)); exact rfl; exact rfl)
            | ((with_reducible apply w_pure (v := .slice _ _ _)); exact rfl; exact rfl))
          | ((with_reducible apply w_pure (v := .bool _)); exact rfl; exact rfl)
          | ((with_reducible apply w_pure (v := .slice _ _ _)); exact rfl; exact rfl))
        | with_reducible refine w_seq ?_
        | with_reducible refine w_nil ?_
        | with_reducible refine w_region ?_
        | ((with_reducible apply w_yes); exact rfl))
      refine w_mput (ek := Value.string) (evv := tv tg) (es := b) (key := x.name) (v := x.nd) rfl rfl rfl rfl (keyK_str (by kernel_rfl)) (by simp (disch := omega) only [upd_ne]; exact hg) (by omega) ?_
      repeat' (first
        | ((with_reducible apply g_op); first
          | ((with_reducible apply g_move); first
            | ((with_reducible apply w_pure (v := .int _ _)); exact rfl; exact rfl))
          | ((with_reducible apply g_bin); first
            | ((with_reducible apply w_wrap); exact rfl; exact rfl; first | exact i64_in _ (by omega) | exact u64_in _ (by omega) | exact u8_in _ (by omega))))
        | with_reducible refine w_nil ?_
        | with_reducible refine w_region ?_
        | with_reducible refine w_blk ?_)
      exact ih _ _ _ _ ⟨rfl, rfl, rfl, rfl, upd_same, fun j hj => by simp (disch := omega) only [upd_ne]; exact hfr j hj, by omega, ht⟩
  · intro b σ gl nl hI; obtain ⟨k3, k9, k10, k11, hg, hfr, hn, ht⟩ := hI; (try dsimp only at k3 k9 k10 k11 hg hfr hn ht); refine w_keep (i := 3) k3 (w_keep (i := 9) k9 (w_keep (i := 10) k10 (w_keep (i := 11) k11 ?_)))
    have ht : b = tabS l := ht
    subst ht
    repeat' (first
      | ((with_reducible apply g_op); first
        | ((with_reducible apply g_move); first
          | ((with_reducible apply w_pure (v := .map _)); exact rfl; exact rfl))
        | ((with_reducible apply g_bin); first
          | ((with_reducible apply w_pure (v := .bool _)); exact rfl; exact rfl))
        | ((with_reducible apply g_assign); first
          | ((with_reducible apply w_pure (v := .map _)); exact rfl; exact rfl)))
      | with_reducible refine w_seq ?_
      | with_reducible refine w_nil ?_
      | with_reducible refine w_region ?_
      | ((with_reducible apply w_exit); exact rfl)
      | ((with_reducible apply w_ifd); exact rfl; all_goals (intro hc; first | (exfalso; omega) | skip))
      | ((with_reducible apply w_ret (v := .map _)); exact rfl))
    exact ⟨rfl, hg, hfr, hn⟩
end Go.Proofs.Ytgljofdhdnhekaa.L

