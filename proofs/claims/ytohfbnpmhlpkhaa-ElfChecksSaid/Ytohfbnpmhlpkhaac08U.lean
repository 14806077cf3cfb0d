/- An image with 17 segments at most. -/
import Derived.Test.Ytohfbnpmhlpkhaac08Q
namespace Go.Proofs.Ytohfbnpmhlpkhaa.L
open Go.L1 Go.IntWalk Oct
set_option linter.unusedVariables false
set_option linter.unusedSimpArgs false
set_option maxHeartbeats 4000000
set_option maxRecDepth 20000
def fewI (x : Im) : Im := ⟨x.k, x.e, x.l.take 17⟩
theorem fewI_len (x : Im) : (fewI x).l.length ≤ 17 := by unfold fewI; dsimp only; rw [List.length_take]; omega
theorem fewI_rg {x : Im} (h : x.rg) : (fewI x).rg := ⟨h.1, h.2.1, fun s hs => h.2.2 s (List.mem_of_mem_take hs)⟩
theorem few_run (x : Im) (g : Nat → Option Ob) (n m : Nat) : Rn Try.prog T 13 [x.v tg] g n m (fun v g' n' => v = (fewI x).v tg ∧ (∀ j, j < n → g' j = g j) ∧ n ≤ n') := by
  refine c_clean Try.func13 rfl rfl rfl rfl rfl rfl ?_
  obtain ⟨k, e, l⟩ := x
  by_cases hl : l.length > 17
  · repeat' (first
      | ((with_reducible apply g_op); first
        | ((with_reducible apply g_load); first
          | ((with_reducible apply w_load (v := .func _ _ _)); exact rfl; (first | assumption | (simp (disch := omega) only [upd_same, upd_ne]; first | done | assumption | exact rfl) | exact rfl); exact rfl))
        | ((with_reducible apply g_bin); first
          | ((with_reducible apply w_pure (v := .bool _)); exact rfl; exact rfl))
        | ((with_reducible apply g_fld); first
          | ((with_reducible apply w_fldp (o := 2)); exact rfl; exact rfl; exact rfl; exact (by decide)))
        | ((with_reducible apply g_call); first
          | ((with_reducible apply w_call (v := .int _ _)); exact rfl))
        | ((with_reducible apply g_box); first
          | ((with_reducible apply w_box (vs := [_, _, _])); exact rfl; exact rfl))
        | ((with_reducible apply w_alloc (ls := [_, _, _])); exact rfl; exact rfl))
      | with_reducible refine w_seq ?_
      | with_reducible refine w_nil ?_
      | with_reducible refine w_region ?_
      | ((with_reducible apply w_ifd); exact rfl; all_goals (intro hc; first | (exfalso; omega) | skip)))
    refine w_fsl (enc := Sg.c) (ls := l) (sz := 7) rfl rfl rfl rfl rfl rfl (fun h => by cases h) (fun _ => rfl) rfl ⟨by omega, by omega⟩ ?_
    repeat' (first
      | ((with_reducible apply g_op); first
        | ((with_reducible apply g_load); first
          | ((with_reducible apply w_load (v := .agg #[_, _, _])); exact rfl; (first | assumption | (simp (disch := omega) only [upd_same, upd_ne]; first | done | assumption | exact rfl) | exact rfl); exact rfl))
        | ((with_reducible apply g_fld); first
          | ((with_reducible apply w_fldp (o := 2)); exact rfl; exact rfl; exact rfl; exact (by decide)))
        | ((with_reducible apply g_store); first
          | ((with_reducible apply w_store (us := [.func _ _ _]) (ws := [_, _, _])); exact rfl; exact rfl; (first | assumption | (simp (disch := omega) only [upd_same, upd_ne]; first | done | assumption | exact rfl) | exact rfl); omega; exact rfl; exact rfl; exact rfl)
          | ((with_reducible apply w_store (us := [_, _, _]) (ws := [_, _, _])); exact rfl; exact rfl; (first | assumption | (simp (disch := omega) only [upd_same, upd_ne]; first | done | assumption | exact rfl) | exact rfl); omega; exact rfl; exact rfl; exact rfl)))
      | with_reducible refine w_seq ?_
      | with_reducible refine w_nil ?_
      | with_reducible refine w_region ?_
      | ((with_reducible apply w_retc (v := .agg #[_, _, _])); exact rfl; exact rfl; (first | assumption | (simp (disch := omega) only [upd_same, upd_ne]; first | done | assumption | exact rfl) | exact rfl); exact rfl))
    have e1 : fz tg (17 - 0) (((l.drop 0).take (17 - 0)).flatMap Sg.c) = rv tg (l.take 17) := by
      unfold rv
      rw [List.length_take, show min 17 l.length = 17 - 0 by omega]
      rfl
    have e1 := e1
    split
    · exact ⟨by exact congrArg (fun w => Value.agg #[Value.int .i64 k, Value.int .i64 e, w]) e1, fun _ _ => rfl, Nat.le_refl _⟩
    · exact ⟨by exact congrArg (fun w => Value.agg #[Value.int .i64 k, Value.int .i64 e, w]) e1, fun j hj => by simp (disch := omega) only [upd_ne], by omega⟩
  · repeat' (first
      | ((with_reducible apply g_op); first
        | ((with_reducible apply g_load); first
          | ((with_reducible apply w_load (v := .func _ _ _)); exact rfl; (first | assumption | (simp (disch := omega) only [upd_same, upd_ne]; first | done | assumption | exact rfl) | exact rfl); exact rfl)
          | ((with_reducible apply w_load (v := .agg #[_, _, _])); exact rfl; (first | assumption | (simp (disch := omega) only [upd_same, upd_ne]; first | done | assumption | exact rfl) | exact rfl); exact rfl))
        | ((with_reducible apply g_bin); first
          | ((with_reducible apply w_pure (v := .bool _)); exact rfl; exact rfl))
        | ((with_reducible apply g_fld); first
          | ((with_reducible apply w_fldp (o := 2)); exact rfl; exact rfl; exact rfl; exact (by decide)))
        | ((with_reducible apply g_call); first
          | ((with_reducible apply w_call (v := .int _ _)); exact rfl))
        | ((with_reducible apply g_box); first
          | ((with_reducible apply w_box (vs := [_, _, _])); exact rfl; exact rfl))
        | ((with_reducible apply g_store); first
          | ((with_reducible apply w_store (us := [_, _, _]) (ws := [_, _, _])); exact rfl; exact rfl; (first | assumption | (simp (disch := omega) only [upd_same, upd_ne]; first | done | assumption | exact rfl) | exact rfl); omega; exact rfl; exact rfl; exact rfl))
        | ((with_reducible apply w_alloc (ls := [_, _, _])); exact rfl; exact rfl))
      | with_reducible refine w_seq ?_
      | with_reducible refine w_nil ?_
      | with_reducible refine w_region ?_
      | with_reducible refine w_skip ?_
      | ((with_reducible apply w_ifd); exact rfl; all_goals (intro hc; first | (exfalso; omega) | skip))
      | ((with_reducible apply w_retc (v := .agg #[_, _, _])); exact rfl; exact rfl; (first | assumption | (simp (disch := omega) only [upd_same, upd_ne]; first | done | assumption | exact rfl) | exact rfl); exact rfl))
    have e1 : fewI ⟨k, e, l⟩ = ⟨k, e, l⟩ := by unfold fewI; dsimp only; rw [List.take_of_length_le (by omega)]
    rw [e1]
    split
    · exact ⟨rfl, fun _ _ => rfl, Nat.le_refl _⟩
    · exact ⟨rfl, fun j hj => by simp (disch := omega) only [upd_ne], by omega⟩
end Go.Proofs.Ytohfbnpmhlpkhaa.L

