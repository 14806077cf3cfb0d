/- region.Pages, Covers, Find, Check, Gap. -/
import Derived.Test.Ytnlgindlmlbfiaac15B
namespace Go.Proofs.Ytnlgindlmlbfiaa.L
open Go.L1 Go.IntWalk
set_option linter.unusedVariables false
set_option linter.unusedSimpArgs false
def pagesGo : List Rg → Int → Int
  | [], n => n
  | x :: xs, n => pagesGo xs (IntKind.i64.wrap (n + IntKind.i64.wrap (x.t - x.f)))
theorem pages_run (l : List Rg) (hl : l.length ≤ 5000) : Rf Try.prog T 13 [rv tg l] (fun v => v = .int .i64 (pagesGo l 0)) := by
  refine c_froz Try.func13 rfl rfl rfl rfl rfl rfl ?_
  intro g n
  repeat' (first
    | ((with_reducible apply g_op); first
      | ((with_reducible apply g_move); first
        | ((with_reducible apply w_pure (v := .int _ _)); exact rfl; exact rfl)
        | ((with_reducible apply w_pure (v := .func _ _ _)); exact rfl; exact rfl))
      | ((with_reducible apply g_assign); first
        | ((with_reducible apply w_pure (v := .int _ _)); exact rfl; exact rfl))
      | ((with_reducible apply g_call); first
        | ((with_reducible apply w_call (v := .int _ _)); exact rfl)))
    | with_reducible refine w_seq ?_
    | with_reducible refine w_nil ?_
    | with_reducible refine w_region ?_
    | with_reducible refine w_block ?_)
  refine w_rng l (fun i rest (s : Int) σ g' n' => σ 6 = rv tg l ∧ σ 7 = .int .i64 l.length ∧ σ 8 = .int .i64 (i : Nat) ∧ σ 3 = .int .i64 s ∧ pagesGo rest s = pagesGo l 0 ∧ n ≤ n') ?_ ?_ 0 ⟨rfl, rfl, rfl, rfl, rfl, by omega⟩
  · intro i x rest b σ gl nl hx hlt hI ih; obtain ⟨k6, k7, k8, k3, hgo, hn⟩ := hI; (try dsimp only at k6 k7 k8 k3 hgo hn); refine w_keep (i := 6) k6 (w_keep (i := 7) k7 (w_keep (i := 8) k8 (w_keep (i := 3) k3 ?_)))
    repeat' (first
      | ((with_reducible apply g_op); first
        | ((with_reducible apply g_load); first
          | ((with_reducible apply w_fl (v := .agg #[_, _, _, _, _, _])); exact rfl; exact (fun _ => rfl); assumption; exact rfl)
          | ((with_reducible apply w_load (v := .int _ _)); exact rfl; (first | assumption | (simp (disch := omega) only [upd_same, upd_ne]; first | done | assumption | exact rfl) | exact rfl); exact rfl))
        | ((with_reducible apply g_move); first
          | ((with_reducible apply w_pure (v := .int _ _)); exact rfl; exact rfl))
        | ((with_reducible apply g_bin); first
          | ((with_reducible apply w_wrap); exact rfl; exact rfl; first | exact i64_in _ (by omega) | exact u64_in _ (by omega) | exact u8_in _ (by omega))
          | ((with_reducible apply w_pure (v := .bool _)); exact rfl; exact rfl)
          | ((with_reducible apply w_pure (v := .int _ _)); exact rfl; exact rfl))
        | ((with_reducible apply g_fld); first
          | ((with_reducible apply w_fldp (o := 0)); exact rfl; exact rfl; exact rfl; exact (by decide))
          | ((with_reducible apply w_fldp (o := 1)); exact rfl; exact rfl; exact rfl; exact (by decide)))
        | ((with_reducible apply g_assign); first
          | ((with_reducible apply w_pure (v := .int _ _)); exact rfl; exact rfl))
        | ((with_reducible apply g_store); first
          | ((with_reducible apply w_store (us := [_, _, _, _, _, _]) (ws := [_, _, _, _, _, _])); exact rfl; exact rfl; (first | assumption | (simp (disch := omega) only [upd_same, upd_ne]; first | done | assumption | exact rfl) | exact rfl); omega; exact rfl; exact rfl; exact rfl))
        | ((with_reducible apply g_ix); first
          | ((with_reducible apply w_fx (sz := 6)); exact rfl; exact rfl; exact rfl; exact rfl; exact rfl; exact (fun _ => rfl); assumption; exact rfl))
        | ((with_reducible apply w_alloc (ls := [_, _, _, _, _, _])); exact rfl; exact rfl))
      | with_reducible refine w_seq ?_
      | with_reducible refine w_nil ?_
      | with_reducible refine w_region ?_
      | with_reducible refine w_skip ?_
      | with_reducible refine w_block ?_
      | with_reducible refine w_blk ?_
      | ((with_reducible apply w_ifd); exact rfl; all_goals (intro hc; first | (exfalso; omega) | skip)))
    exact ih _ _ _ _ ⟨rfl, rfl, rfl, rfl, hgo, by omega⟩
  · intro b σ gl nl hI; obtain ⟨k6, k7, k8, k3, hgo, hn⟩ := hI; (try dsimp only at k6 k7 k8 k3 hgo hn); refine w_keep (i := 6) k6 (w_keep (i := 7) k7 (w_keep (i := 8) k8 (w_keep (i := 3) k3 ?_)))
    repeat' (first
      | ((with_reducible apply g_op); first
        | ((with_reducible apply g_move); first
          | ((with_reducible apply w_pure (v := .int _ _)); exact rfl; exact rfl))
        | ((with_reducible apply g_bin); first
          | ((with_reducible apply w_pure (v := .bool _)); exact rfl; exact rfl))
        | ((with_reducible apply g_assign); first
          | ((with_reducible apply w_pure (v := .int _ _)); exact rfl; exact rfl)))
      | with_reducible refine w_seq ?_
      | with_reducible refine w_nil ?_
      | with_reducible refine w_region ?_
      | ((with_reducible apply w_exit); exact rfl)
      | ((with_reducible apply w_ifd); exact rfl; all_goals (intro hc; first | (exfalso; omega) | skip))
      | ((with_reducible apply w_ret (v := .int _ _)); exact rfl))
    exact fr_plain rfl (by rw [← hgo]; rfl)
def coversGo (to : Int) : List Rg → Int → Int
  | [], at_ => at_
  | x :: xs, at_ => if at_ ≥ to ∨ x.f > at_ then at_ else coversGo to xs (max at_ x.t)
def coversS (l : List Rg) (f t : Int) : Bool := decide (coversGo t l f ≥ t)
theorem covers_run (l : List Rg) (f t : Int) (hl : l.length ≤ 5000) : Rf Try.prog T 20 [rv tg l, .int .i64 f, .int .i64 t] (fun v => v = .bool (coversS l f t)) := by
  refine c_froz Try.func20 rfl rfl rfl rfl rfl rfl ?_
  intro g n
  repeat' (first
    | ((with_reducible apply g_op); first
      | ((with_reducible apply g_move); first
        | ((with_reducible apply w_pure (v := .int _ _)); exact rfl; exact rfl)
        | ((with_reducible apply w_pure (v := .func _ _ _)); exact rfl; exact rfl))
      | ((with_reducible apply g_assign); first
        | ((with_reducible apply w_pure (v := .int _ _)); exact rfl; exact rfl)
        | ((with_reducible apply w_pure (v := .bool _)); exact rfl; exact rfl))
      | ((with_reducible apply g_call); first
        | ((with_reducible apply w_call (v := .int _ _)); exact rfl)))
    | with_reducible refine w_seq ?_
    | with_reducible refine w_nil ?_
    | with_reducible refine w_region ?_
    | with_reducible refine w_block ?_
    | with_reducible refine w_label ?_
    | with_reducible refine w_scope ?_)
  refine w_rng l (fun i rest (s : Int) σ g' n' => σ 11 = rv tg l ∧ σ 12 = .int .i64 l.length ∧ σ 13 = .int .i64 (i : Nat) ∧ σ 7 = .int .i64 s ∧ σ 2 = .int .i64 t ∧ coversGo t rest s = coversGo t l f ∧ n ≤ n') ?_ ?_ f ⟨rfl, rfl, rfl, rfl, rfl, rfl, by omega⟩
  · intro i x rest b σ gl nl hx hlt hI ih; obtain ⟨k11, k12, k13, k7, k2, hgo, hn⟩ := hI; (try dsimp only at k11 k12 k13 k7 k2 hgo hn); refine w_keep (i := 11) k11 (w_keep (i := 12) k12 (w_keep (i := 13) k13 (w_keep (i := 7) k7 (w_keep (i := 2) k2 ?_))))
    simp only [coversGo] at hgo
    repeat' (first
      | ((with_reducible apply g_op); first
        | ((with_reducible apply g_load); first
          | ((with_reducible apply w_fl (v := .agg #[_, _, _, _, _, _])); exact rfl; exact (fun _ => rfl); assumption; exact rfl)
          | ((with_reducible apply w_load (v := .int _ _)); exact rfl; (first | assumption | (simp (disch := omega) only [upd_same, upd_ne]; first | done | assumption | exact rfl) | exact rfl); exact rfl))
        | ((with_reducible apply g_move); first
          | ((with_reducible apply w_pure (v := .int _ _)); exact rfl; exact rfl)
          | ((with_reducible apply w_pure (v := .bool _)); exact rfl; exact rfl))
        | ((with_reducible apply g_bin); first
          | ((with_reducible apply w_wrap); exact rfl; exact rfl; first | exact i64_in _ (by omega) | exact u64_in _ (by omega) | exact u8_in _ (by omega))
          | ((with_reducible apply w_pure (v := .bool _)); exact rfl; exact rfl))
        | ((with_reducible apply g_fld); first
          | ((with_reducible apply w_fldp (o := 0)); exact rfl; exact rfl; exact rfl; exact (by decide))
          | ((with_reducible apply w_fldp (o := 1)); exact rfl; exact rfl; exact rfl; exact (by decide)))
        | ((with_reducible apply g_pick); first
          | ((with_reducible apply w_pk1 (v := .bool _)); exact rfl; exact rfl; (first | assumption | exact decide_eq_true (by assumption) | exact decide_eq_false (by assumption) | exact decide_eq_true (by omega) | exact decide_eq_false (by omega) | exact beq_iff_eq.2 (by omega) | exact beq_eq_false_iff_ne.2 (by omega) | exact bne_iff_ne.2 (by omega) | exact bne_eq_false_iff_eq.2 (by omega)))
          | ((with_reducible apply w_pk0 (v := .bool _)); exact rfl; exact rfl; (first | assumption | exact decide_eq_true (by assumption) | exact decide_eq_false (by assumption) | exact decide_eq_true (by omega) | exact decide_eq_false (by omega) | exact beq_iff_eq.2 (by omega) | exact beq_eq_false_iff_ne.2 (by omega) | exact bne_iff_ne.2 (by omega) | exact bne_eq_false_iff_eq.2 (by omega))))
        | ((with_reducible apply g_assign); first
          | ((with_reducible apply w_pure (v := .int _ _)); exact rfl; exact rfl)
          | ((with_reducible apply w_pure (v := .bool _)); exact rfl; exact rfl))
        | ((with_reducible apply g_call); first
          | ((with_reducible apply w_max); exact rfl; exact rfl))
        | ((with_reducible apply g_store); first
          | ((with_reducible apply w_store (us := [_, _, _, _, _, _]) (ws := [_, _, _, _, _, _])); exact rfl; exact rfl; (first | assumption | (simp (disch := omega) only [upd_same, upd_ne]; first | done | assumption | exact rfl) | exact rfl); omega; exact rfl; exact rfl; exact rfl))
        | ((with_reducible apply g_ix); first
          | ((with_reducible apply w_fx (sz := 6)); exact rfl; exact rfl; exact rfl; exact rfl; exact rfl; exact (fun _ => rfl); assumption; exact rfl))
        | ((with_reducible apply w_alloc (ls := [_, _, _, _, _, _])); exact rfl; exact rfl))
      | ((with_reducible apply g_gd); first
        | ((with_reducible apply w_gd_f); exact rfl; all_goals (intro hc; first | (exfalso; omega) | skip)))
      | with_reducible refine w_seq ?_
      | with_reducible refine w_nil ?_
      | with_reducible refine w_region ?_
      | with_reducible refine w_skip ?_
      | with_reducible refine w_block ?_
      | with_reducible refine w_blk ?_
      | ((with_reducible apply w_exit); exact rfl)
      | ((with_reducible apply w_yes); exact rfl)
      | ((with_reducible apply w_ifd); exact rfl; all_goals (intro hc; first | (exfalso; omega) | skip))
      | ((with_reducible apply w_ret (v := .bool _)); exact rfl))
    all_goals first
      | (rw [if_pos (by omega)] at hgo; exact fr_plain rfl (by simp only [coversS]; rw [← hgo]))
      | (rw [if_neg (by omega)] at hgo; exact ih _ _ _ _ ⟨rfl, rfl, rfl, rfl, rfl, hgo, by omega⟩)
  · intro b σ gl nl hI; obtain ⟨k11, k12, k13, k7, k2, hgo, hn⟩ := hI; (try dsimp only at k11 k12 k13 k7 k2 hgo hn); refine w_keep (i := 11) k11 (w_keep (i := 12) k12 (w_keep (i := 13) k13 (w_keep (i := 7) k7 (w_keep (i := 2) k2 ?_))))
    repeat' (first
      | ((with_reducible apply g_op); first
        | ((with_reducible apply g_move); first
          | ((with_reducible apply w_pure (v := .int _ _)); exact rfl; exact rfl))
        | ((with_reducible apply g_bin); first
          | ((with_reducible apply w_pure (v := .bool _)); exact rfl; exact rfl))
        | ((with_reducible apply g_assign); first
          | ((with_reducible apply w_pure (v := .bool _)); exact rfl; exact rfl)))
      | with_reducible refine w_seq ?_
      | with_reducible refine w_nil ?_
      | with_reducible refine w_region ?_
      | ((with_reducible apply w_exit); exact rfl)
      | ((with_reducible apply w_ifd); exact rfl; all_goals (intro hc; first | (exfalso; omega) | skip))
      | ((with_reducible apply w_ret (v := .bool _)); exact rfl))
    exact fr_plain rfl (by simp only [coversS]; rw [← hgo]; rfl)
def Rg.zero : Rg := ⟨0, 0, 0, 0, 0, 0⟩
def findS (p : Int) : List Rg → Rg × Bool
  | [] => (.zero, false)
  | x :: xs => if p ≥ x.f ∧ p < x.t then (x, true) else findS p xs
theorem find_run (l : List Rg) (p : Int) (hl : l.length ≤ 5000) : Rf Try.prog T 18 [rv tg l, .int .i64 p] (fun v => v = .tuple #[(findS p l).1.v, .bool (findS p l).2]) := by
  refine c_froz Try.func18 rfl rfl rfl rfl rfl rfl ?_
  intro g n
  repeat' (first
    | ((with_reducible apply g_op); first
      | ((with_reducible apply g_move); first
        | ((with_reducible apply w_pure (v := .int _ _)); exact rfl; exact rfl)
        | ((with_reducible apply w_pure (v := .func _ _ _)); exact rfl; exact rfl))
      | ((with_reducible apply g_assign); first
        | ((with_reducible apply w_pure (v := .bool _)); exact rfl; exact rfl))
      | ((with_reducible apply g_call); first
        | ((with_reducible apply w_call (v := .int _ _)); exact rfl))
      | ((with_reducible apply w_alloc (ls := [_, _, _, _, _, _])); exact rfl; exact rfl))
    | with_reducible refine w_seq ?_
    | with_reducible refine w_nil ?_
    | with_reducible refine w_region ?_
    | with_reducible refine w_block ?_)
  refine w_rng l (fun i rest (_ : Unit) σ g' n' => σ 8 = rv tg l ∧ σ 9 = .int .i64 l.length ∧ σ 10 = .int .i64 (i : Nat) ∧ σ 1 = .int .i64 p ∧ σ 4 = ptr n 0 ∧ g' n = some (.cells 23 Rg.zero.c) ∧ findS p rest = findS p l ∧ n + 1 ≤ n') ?_ ?_ () ⟨rfl, rfl, rfl, rfl, rfl, upd_same, rfl, by omega⟩
  · intro i x rest b σ gl nl hx hlt hI ih; obtain ⟨k8, k9, k10, k1, k4, hg, hgo, hn⟩ := hI; (try dsimp only at k8 k9 k10 k1 k4 hg hgo hn); refine w_keep (i := 8) k8 (w_keep (i := 9) k9 (w_keep (i := 10) k10 (w_keep (i := 1) k1 (w_keep (i := 4) k4 ?_))))
    simp only [findS] at hgo
    repeat' (first
      | ((with_reducible apply g_op); first
        | ((with_reducible apply g_load); first
          | ((with_reducible apply w_fl (v := .agg #[_, _, _, _, _, _])); exact rfl; exact (fun _ => rfl); assumption; exact rfl)
          | ((with_reducible apply w_load (v := .int _ _)); exact rfl; (first | assumption | (simp (disch := omega) only [upd_same, upd_ne]; first | done | assumption | exact rfl) | exact rfl); exact rfl)
          | ((with_reducible apply w_load (v := .agg #[_, _, _, _, _, _])); exact rfl; (first | assumption | (simp (disch := omega) only [upd_same, upd_ne]; first | done | assumption | exact rfl) | exact rfl); exact rfl))
        | ((with_reducible apply g_move); first
          | ((with_reducible apply w_pure (v := .int _ _)); exact rfl; exact rfl)
          | ((with_reducible apply w_pure (v := .bool _)); exact rfl; exact rfl))
        | ((with_reducible apply g_bin); first
          | ((with_reducible apply w_wrap); exact rfl; exact rfl; first | exact i64_in _ (by omega) | exact u64_in _ (by omega) | exact u8_in _ (by omega))
          | ((with_reducible apply w_pure (v := .bool _)); exact rfl; exact rfl))
        | ((with_reducible apply g_fld); first
          | ((with_reducible apply w_fldp (o := 0)); exact rfl; exact rfl; exact rfl; exact (by decide))
          | ((with_reducible apply w_fldp (o := 1)); exact rfl; exact rfl; exact rfl; exact (by decide)))
        | ((with_reducible apply g_pick); first
          | ((with_reducible apply w_pk1 (v := .bool _)); exact rfl; exact rfl; (first | assumption | exact decide_eq_true (by assumption) | exact decide_eq_false (by assumption) | exact decide_eq_true (by omega) | exact decide_eq_false (by omega) | exact beq_iff_eq.2 (by omega) | exact beq_eq_false_iff_ne.2 (by omega) | exact bne_iff_ne.2 (by omega) | exact bne_eq_false_iff_eq.2 (by omega)))
          | ((with_reducible apply w_pk0 (v := .bool _)); exact rfl; exact rfl; (first | assumption | exact decide_eq_true (by assumption) | exact decide_eq_false (by assumption) | exact decide_eq_true (by omega) | exact decide_eq_false (by omega) | exact beq_iff_eq.2 (by omega) | exact beq_eq_false_iff_ne.2 (by omega) | exact bne_iff_ne.2 (by omega) | exact bne_eq_false_iff_eq.2 (by omega))))
        | ((with_reducible apply g_assign); first
          | ((with_reducible apply w_pure (v := .bool _)); exact rfl; exact rfl))
        | ((with_reducible apply g_store); first
          | ((with_reducible apply w_store (us := [_, _, _, _, _, _]) (ws := [_, _, _, _, _, _])); exact rfl; exact rfl; (first | assumption | (simp (disch := omega) only [upd_same, upd_ne]; first | done | assumption | exact rfl) | exact rfl); omega; exact rfl; exact rfl; exact rfl))
        | ((with_reducible apply g_ix); first
          | ((with_reducible apply w_fx (sz := 6)); exact rfl; exact rfl; exact rfl; exact rfl; exact rfl; exact (fun _ => rfl); assumption; exact rfl))
        | ((with_reducible apply w_alloc (ls := [_, _, _, _, _, _])); exact rfl; exact rfl))
      | ((with_reducible apply g_gd); first
        | ((with_reducible apply w_gd_t); exact rfl; all_goals (intro hc; first | (exfalso; omega) | skip)))
      | with_reducible refine w_seq ?_
      | with_reducible refine w_nil ?_
      | with_reducible refine w_region ?_
      | with_reducible refine w_skip ?_
      | with_reducible refine w_block ?_
      | with_reducible refine w_blk ?_
      | ((with_reducible apply w_no); exact rfl)
      | ((with_reducible apply w_ifd); exact rfl; all_goals (intro hc; first | (exfalso; omega) | skip))
      | ((with_reducible apply w_retct (v := .agg #[_, _, _, _, _, _]) (u := .bool _)); exact rfl; exact rfl; (first | assumption | (simp (disch := omega) only [upd_same, upd_ne]; first | done | assumption | exact rfl) | exact rfl); exact rfl; exact rfl))
    all_goals first
      | (rw [if_pos (by omega)] at hgo; exact fr_plain rfl (by rw [← hgo]; rfl))
      | (rw [if_neg (by omega)] at hgo; exact ih () _ _ _ ⟨rfl, rfl, rfl, rfl, rfl, by simp (disch := omega) only [upd_ne]; exact hg, hgo, by omega⟩)
  · intro b σ gl nl hI; obtain ⟨k8, k9, k10, k1, k4, hg, hgo, hn⟩ := hI; (try dsimp only at k8 k9 k10 k1 k4 hg hgo hn); refine w_keep (i := 8) k8 (w_keep (i := 9) k9 (w_keep (i := 10) k10 (w_keep (i := 1) k1 (w_keep (i := 4) k4 ?_))))
    repeat' (first
      | ((with_reducible apply g_op); first
        | ((with_reducible apply g_bin); first
          | ((with_reducible apply w_pure (v := .bool _)); exact rfl; exact rfl))
        | ((with_reducible apply g_assign); first
          | ((with_reducible apply w_pure (v := .bool _)); exact rfl; exact rfl))
        | ((with_reducible apply g_store); first
          | ((with_reducible apply w_store (us := [_, _, _, _, _, _]) (ws := [_, _, _, _, _, _])); exact rfl; exact rfl; (first | assumption | (simp (disch := omega) only [upd_same, upd_ne]; first | done | assumption | exact rfl) | exact rfl); omega; exact rfl; exact rfl; exact rfl))
        | ((with_reducible apply g_build); first
          | ((with_reducible apply w_pure (v := .agg #[.int _ _, .int _ _, .int _ _, .int _ _, .int _ _, .int _ _])); exact rfl; exact rfl)))
      | with_reducible refine w_seq ?_
      | with_reducible refine w_nil ?_
      | with_reducible refine w_region ?_
      | ((with_reducible apply w_exit); exact rfl)
      | ((with_reducible apply w_ifd); exact rfl; all_goals (intro hc; first | (exfalso; omega) | skip))
      | ((with_reducible apply w_retct (v := .agg #[_, _, _, _, _, _]) (u := .bool _)); exact rfl; exact rfl; (first | assumption | (simp (disch := omega) only [upd_same, upd_ne]; first | done | assumption | exact rfl) | exact rfl); exact rfl; exact rfl))
    exact fr_plain rfl (by rw [← hgo]; rfl)
end Go.Proofs.Ytnlgindlmlbfiaa.L

