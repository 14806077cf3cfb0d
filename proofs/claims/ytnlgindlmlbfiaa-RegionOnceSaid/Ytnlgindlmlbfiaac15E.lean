/- region.Protect. -/
import Derived.Test.Ytnlgindlmlbfiaac15D
namespace Go.Proofs.Ytnlgindlmlbfiaa.L
open Go.L1 Go.IntWalk
set_option linter.unusedVariables false
set_option linter.unusedSimpArgs false
def perm (r : Rg) (p : Int) : Rg := ⟨r.f, r.t, p, r.k, r.l, r.g⟩
def protGo (p f t : Int) : List Rg → List Rg → List Rg
  | [], acc => acc
  | x :: xs, acc => if max x.f f ≥ min x.t t then protGo p f t xs (putS acc x) else protGo p f t xs (putS (putS (putS acc (part x x.f (max x.f f))) (perm (part x (max x.f f) (min x.t t)) p)) (part x (min x.t t) x.t))
def protS (l : List Rg) (f t p : Int) : List Rg × Int := if p < 0 ∨ p > 7 ∨ f ≥ t then ([], 1) else if coversS l f t then (protGo p f t l [], 0) else ([], 12)
theorem prot_run (l : List Rg) (f t p : Int) (hl : l.length ≤ 5000) : Rf Try.prog T 17 [rv tg l, .int .i64 f, .int .i64 t, .int .i64 p] (fun v => v = .tuple #[rv #[] (protS l f t p).1, .int .i64 (protS l f t p).2]) := by
  refine c_froz Try.func17 rfl rfl rfl rfl rfl rfl ?_
  intro g n
  repeat' (first
    | ((with_reducible apply g_op); first
      | ((with_reducible apply g_move); first
        | ((with_reducible apply w_pure (v := .int _ _)); exact rfl; exact rfl)
        | ((with_reducible apply w_pure (v := .bool _)); exact rfl; exact rfl)
        | ((with_reducible apply w_pure (v := .func _ _ _)); exact rfl; exact rfl))
      | ((with_reducible apply g_bin); first
        | ((with_reducible apply w_pure (v := .bool _)); exact rfl; exact rfl))
      | ((with_reducible apply g_pick); first
        | ((with_reducible apply w_pk1 (v := .bool _)); exact rfl; exact rfl; (first | assumption | exact decide_eq_true (by assumption) | exact decide_eq_false (by assumption) | exact decide_eq_true (by omega) | exact decide_eq_false (by omega) | exact beq_iff_eq.2 (by omega) | exact beq_eq_false_iff_ne.2 (by omega) | exact bne_iff_ne.2 (by omega) | exact bne_eq_false_iff_eq.2 (by omega)))
        | ((with_reducible apply w_pk0 (v := .bool _)); exact rfl; exact rfl; (first | assumption | exact decide_eq_true (by assumption) | exact decide_eq_false (by assumption) | exact decide_eq_true (by omega) | exact decide_eq_false (by omega) | exact beq_iff_eq.2 (by omega) | exact beq_eq_false_iff_ne.2 (by omega) | exact bne_iff_ne.2 (by omega) | exact bne_eq_false_iff_eq.2 (by omega))))
      | ((with_reducible apply g_assign); first
        | ((with_reducible apply w_pure (v := .int _ _)); exact rfl; exact rfl)
        | ((with_reducible apply w_pure (v := .bool _)); exact rfl; exact rfl)
        | ((with_reducible apply w_pure (v := .slice _ _ _)); exact rfl; exact rfl))
      | ((with_reducible apply w_pure (v := .bool _)); exact rfl; exact rfl))
    | ((with_reducible apply g_gd); first
      | ((with_reducible apply w_pass); exact rfl)
      | ((with_reducible apply w_gd_f); exact rfl; all_goals (intro hc; first | (exfalso; omega) | skip)))
    | with_reducible refine w_seq ?_
    | with_reducible refine w_nil ?_
    | with_reducible refine w_region ?_
    | with_reducible refine w_block ?_
    | ((with_reducible apply w_yes); exact rfl)
    | ((with_reducible apply w_ifd); exact rfl; all_goals (intro hc; first | (exfalso; omega) | skip))
    | ((with_reducible apply w_ret (v := .tuple #[.slice _ _ _, .int _ _])); exact rfl))
  · have e : protS l f t p = ([], 1) := if_pos (by omega)
    rw [e]; exact ⟨_, sn_tuple (l := [_, _]) (sn_cons sn_none (sn_cons (sn_plain rfl) sn_nil)), rfl⟩
  · have e : protS l f t p = ([], 1) := if_pos (by omega)
    rw [e]; exact ⟨_, sn_tuple (l := [_, _]) (sn_cons sn_none (sn_cons (sn_plain rfl) sn_nil)), rfl⟩
  · have e : protS l f t p = ([], 1) := if_pos (by omega)
    rw [e]; exact ⟨_, sn_tuple (l := [_, _]) (sn_cons sn_none (sn_cons (sn_plain rfl) sn_nil)), rfl⟩
  refine w_rf (covers_run l f t hl) (fun _ => rfl) (sn_cons rv_sn (sn_plains rfl)) ?_
  rintro v rfl
  cases hcov : coversS l f t with
  | false =>
    repeat' (first
      | ((with_reducible apply g_op); first
        | ((with_reducible apply g_assign); first
          | ((with_reducible apply w_pure (v := .int _ _)); exact rfl; exact rfl)
          | ((with_reducible apply w_pure (v := .bool _)); exact rfl; exact rfl)
          | ((with_reducible apply w_pure (v := .slice _ _ _)); exact rfl; exact rfl))
        | ((with_reducible apply w_pure (v := .bool _)); exact rfl; exact rfl))
      | with_reducible refine w_seq ?_
      | with_reducible refine w_nil ?_
      | with_reducible refine w_region ?_
      | ((with_reducible apply w_yes); exact rfl)
      | ((with_reducible apply w_ret (v := .tuple #[.slice _ _ _, .int _ _])); exact rfl))
    have e : protS l f t p = ([], 12) := by unfold protS; rw [if_neg (by omega), hcov]; rfl
    rw [e]; exact ⟨_, sn_tuple (l := [_, _]) (sn_cons sn_none (sn_cons (sn_plain rfl) sn_nil)), rfl⟩
  | true =>
  have e0 : protS l f t p = (protGo p f t l [], 0) := by unfold protS; rw [if_neg (by omega), hcov]; rfl
  rw [e0]
  repeat' (first
    | ((with_reducible apply g_op); first
      | ((with_reducible apply g_assign); first
        | ((with_reducible apply w_pure (v := .bool _)); exact rfl; exact rfl))
      | ((with_reducible apply w_pure (v := .bool _)); exact rfl; exact rfl))
    | with_reducible refine w_seq ?_
    | with_reducible refine w_nil ?_
    | with_reducible refine w_region ?_
    | with_reducible refine w_skip ?_
    | with_reducible refine w_blk ?_
    | ((with_reducible apply w_no); exact rfl))
  refine w_rn (row_run _ _ _) (fun _ => rfl) ?_
  rintro v g1 n1 ⟨rfl, rfl, rfl⟩
  have hb0 := Bld.start (g := g) (m := n) (Nat.le_refl _)
  repeat' (first
    | ((with_reducible apply g_op); first
      | ((with_reducible apply g_move); first
        | ((with_reducible apply w_pure (v := .int _ _)); exact rfl; exact rfl)
        | ((with_reducible apply w_pure (v := .tuple _)); exact rfl; exact rfl)
        | ((with_reducible apply w_pure (v := .func _ _ _)); exact rfl; exact rfl))
      | ((with_reducible apply g_assign); first
        | ((with_reducible apply w_pure (v := .func _ _ _)); exact rfl; exact rfl))
      | ((with_reducible apply g_call); first
        | ((with_reducible apply w_call (v := .int _ _)); exact rfl))
      | ((with_reducible apply w_pure (v := .func _ _ _)); exact rfl; exact rfl))
    | with_reducible refine w_seq ?_
    | with_reducible refine w_nil ?_
    | with_reducible refine w_region ?_
    | with_reducible refine w_block ?_)
  refine w_while (α := Nat × List Rg) (fun x σ g' n' => σ 39 = rv tg l ∧ σ 40 = .int .i64 l.length ∧ σ 41 = .int .i64 (x.1 : Nat) ∧ σ 1 = .int .i64 f ∧ σ 2 = .int .i64 t ∧ σ 3 = .int .i64 p ∧ σ 10 = putF n ∧ σ 11 = toldF n
    ∧ x.1 ≤ l.length ∧ protGo p f t (l.drop x.1) x.2 = protGo p f t l [] ∧ x.2.length ≤ 3 * x.1 ∧ Bld g n g' n' n x.2 []) (fun x => l.length + 1 - x.1) ?_ (0, []) ⟨rfl, rfl, rfl, rfl, rfl, rfl, rfl, rfl, by dsimp only; omega, rfl, by dsimp only; simp, hb0⟩
  rintro ⟨i, acc⟩ σ g2 n2 ⟨k39, k40, k41, k1, k2, k3, k10, k11, hi, hgo, hacc, hb⟩ ih
  dsimp only at k39 k40 k41 k1 k2 k3 k10 k11 hi hgo hacc hb
  refine w_keep (i := 39) k39 (w_keep (i := 40) k40 (w_keep (i := 41) k41 (w_keep (i := 1) k1 (w_keep (i := 2) k2 (w_keep (i := 3) k3 (w_keep (i := 10) k10 (w_keep (i := 11) k11 ?_)))))))
  rcases Nat.lt_or_ge i l.length with hlt | hge
  · obtain ⟨x, hx⟩ : ∃ x, l[i]? = some x := ⟨_, List.getElem?_eq_getElem hlt⟩
    have hd : l.drop i = x :: l.drop (i + 1) := by
      rw [List.drop_eq_getElem_cons hlt]; congr 1
      rw [List.getElem?_eq_getElem hlt] at hx; exact Option.some.inj hx
    rw [hd] at hgo
    simp only [protGo] at hgo
    have hn2 : n < n2 := hb.1
    repeat' (first
      | ((with_reducible apply g_op); first
        | ((with_reducible apply g_load); first
          | ((with_reducible apply w_fl (v := .agg #[_, _, _, _, _, _])); exact rfl; exact (fun _ => rfl); assumption; exact rfl)
          | ((with_reducible apply w_load (v := .int _ _)); exact rfl; (first | assumption | (simp (disch := omega) only [upd_same, upd_ne]; first | done | assumption | exact rfl) | exact rfl); exact rfl)
          | ((with_reducible apply w_load (v := .agg #[_, _, _, _, _, _])); exact rfl; (first | assumption | (simp (disch := omega) only [upd_same, upd_ne]; first | done | assumption | exact rfl) | exact rfl); exact rfl))
        | ((with_reducible apply g_move); first
          | ((with_reducible apply w_pure (v := .int _ _)); exact rfl; exact rfl)
          | ((with_reducible apply w_pure (v := .func _ _ _)); exact rfl; exact rfl))
        | ((with_reducible apply g_bin); first
          | ((with_reducible apply w_pure (v := .bool _)); exact rfl; exact rfl))
        | ((with_reducible apply g_fld); first
          | ((with_reducible apply w_fldp (o := 0)); exact rfl; exact rfl; exact rfl; exact (by decide))
          | ((with_reducible apply w_fldp (o := 1)); exact rfl; exact rfl; exact rfl; exact (by decide)))
        | ((with_reducible apply g_assign); first
          | ((with_reducible apply w_pure (v := .int _ _)); exact rfl; exact rfl))
        | ((with_reducible apply g_call); first
          | ((with_reducible apply w_max); exact rfl; exact rfl)
          | ((with_reducible apply w_min); exact rfl; exact rfl))
        | ((with_reducible apply g_store); first
          | ((with_reducible apply w_store (us := [_, _, _, _, _, _]) (ws := [_, _, _, _, _, _])); exact rfl; exact rfl; (first | assumption | (simp (disch := omega) only [upd_same, upd_ne]; first | done | assumption | exact rfl) | exact rfl); omega; exact rfl; exact rfl; exact rfl))
        | ((with_reducible apply g_ix); first
          | ((with_reducible apply w_fx (sz := 6)); exact rfl; exact rfl; exact rfl; exact rfl; exact rfl; exact (fun _ => rfl); assumption; exact rfl))
        | ((with_reducible apply w_alloc (ls := [_, _, _, _, _, _])); exact rfl; exact rfl))
      | with_reducible refine w_seq ?_
      | with_reducible refine w_nil ?_
      | with_reducible refine w_region ?_
      | with_reducible refine w_skip ?_
      | with_reducible refine w_block ?_
      | ((with_reducible apply w_draw); kernel_rfl; kernel_rfl)
      | ((with_reducible apply w_ifd); exact rfl; all_goals (intro hc; first | (exfalso; omega) | skip)))
    · refine w_rn ((hb.step (G := upd (upd g2 n2 _) n2 _) [(n2, .cells 23 x.c)] (N := n2 + 1) (by omega) (fun j hj => by simp (disch := omega) only [upd_ne]) (fun p hp => by cases (List.mem_singleton.1 hp); exact ⟨by omega, by omega, upd_same⟩)).put x (by omega)) (fun _ => rfl) ?_
      intro v g3 n3 hb3
      have hl3 := putS_len acc x
      repeat' (first
        | ((with_reducible apply g_op); first
          | ((with_reducible apply g_move); first
            | ((with_reducible apply w_pure (v := .int _ _)); exact rfl; exact rfl))
          | ((with_reducible apply g_bin); first
            | ((with_reducible apply w_wrap); exact rfl; exact rfl; first | exact i64_in _ (by omega) | exact u64_in _ (by omega) | exact u8_in _ (by omega))))
        | with_reducible refine w_nil ?_
        | with_reducible refine w_region ?_
        | ((with_reducible apply w_exit); exact rfl))
      rw [if_pos (by omega)] at hgo
      exact ih (i + 1, putS acc x) _ _ _ (by first | omega | (dsimp only; omega)) ⟨rfl, rfl, rfl, rfl, rfl, rfl, rfl, rfl, by first | omega | (dsimp only; omega), hgo, by first | omega | (dsimp only; omega), hb3.drop⟩
    · rw [if_neg (by omega)] at hgo
      generalize hA : max x.f f = A at hgo ⊢
      generalize hB : min x.t t = B at hgo ⊢
      refine w_rq (part_run x x.f A _ _ _) (fun _ => rfl) ?_
      rintro v rfl
      repeat' (first
        | fail)
      refine w_rn ((hb.step (G := upd (upd g2 n2 _) n2 _) [(n2, .cells 23 x.c)] (N := n2 + 1) (by omega) (fun j hj => by simp (disch := omega) only [upd_ne]) (fun p hp => by cases (List.mem_singleton.1 hp); exact ⟨by omega, by omega, upd_same⟩)).put (part x x.f A) (by omega)) (fun _ => rfl) ?_
      intro v g3 n3 hb3
      have hl3 := putS_len acc (part x x.f A)
      obtain ⟨hx3, hc3, hn3⟩ := hb3.at (List.mem_cons_self ..)
      repeat' (first
        | ((with_reducible apply g_op); first
          | ((with_reducible apply g_load); first
            | ((with_reducible apply w_load (v := .agg #[_, _, _, _, _, _])); exact rfl; (first | assumption | (simp (disch := omega) only [upd_same, upd_ne]; first | done | assumption | exact rfl) | exact rfl); exact rfl))
          | ((with_reducible apply g_move); first
            | ((with_reducible apply w_pure (v := .int _ _)); exact rfl; exact rfl)))
        | with_reducible refine w_seq ?_
        | with_reducible refine w_nil ?_
        | with_reducible refine w_region ?_)
      refine w_rq (part_run x A B _ _ _) (fun _ => rfl) ?_
      rintro v rfl
      repeat' (first
        | ((with_reducible apply g_op); first
          | ((with_reducible apply g_load); first
            | ((with_reducible apply w_load (v := .agg #[_, _, _, _, _, _])); exact rfl; (first | assumption | (simp (disch := omega) only [upd_same, upd_ne]; first | done | assumption | exact rfl) | exact rfl); exact rfl))
          | ((with_reducible apply g_move); first
            | ((with_reducible apply w_pure (v := .int _ _)); exact rfl; exact rfl)
            | ((with_reducible apply w_pure (v := .func _ _ _)); exact rfl; exact rfl))
          | ((with_reducible apply g_fld); first
            | ((with_reducible apply w_fldp (o := 2)); exact rfl; exact rfl; exact rfl; exact (by decide)))
          | ((with_reducible apply g_store); first
            | ((with_reducible apply w_store (us := [.int _ _]) (ws := [_, _, _, _, _, _])); exact rfl; exact rfl; (first | assumption | (simp (disch := omega) only [upd_same, upd_ne]; first | done | assumption | exact rfl) | exact rfl); omega; exact rfl; exact rfl; exact rfl)
            | ((with_reducible apply w_store (us := [_, _, _, _, _, _]) (ws := [_, _, _, _, _, _])); exact rfl; exact rfl; (first | assumption | (simp (disch := omega) only [upd_same, upd_ne]; first | done | assumption | exact rfl) | exact rfl); omega; exact rfl; exact rfl; exact rfl))
          | ((with_reducible apply w_alloc (ls := [_, _, _, _, _, _])); exact rfl; exact rfl))
        | with_reducible refine w_seq ?_
        | with_reducible refine w_nil ?_
        | with_reducible refine w_region ?_)
      refine w_rn ((hb3.step (G := upd (upd (upd g3 n3 _) n3 _) n3 _) [(n3, .cells 23 (Rg.c (perm (part x A B) p)))] (N := n3 + 1) (by omega) (fun j hj => by simp (disch := omega) only [upd_ne]) (fun q hq => by cases (List.mem_singleton.1 hq); exact ⟨by omega, by omega, upd_same⟩)).put (perm (part x A B) p) (by omega)) (fun _ => rfl) ?_
      intro v g4 n4 hb4
      have hl4 := putS_len (putS acc (part x x.f A)) (perm (part x A B) p)
      obtain ⟨hx4, hc4, hn4⟩ := hb4.at (List.mem_cons_of_mem _ (List.mem_cons_self ..))
      repeat' (first
        | ((with_reducible apply g_op); first
          | ((with_reducible apply g_load); first
            | ((with_reducible apply w_load (v := .int _ _)); exact rfl; (first | assumption | (simp (disch := omega) only [upd_same, upd_ne]; first | done | assumption | exact rfl) | exact rfl); exact rfl)
            | ((with_reducible apply w_load (v := .agg #[_, _, _, _, _, _])); exact rfl; (first | assumption | (simp (disch := omega) only [upd_same, upd_ne]; first | done | assumption | exact rfl) | exact rfl); exact rfl))
          | ((with_reducible apply g_move); first
            | ((with_reducible apply w_pure (v := .int _ _)); exact rfl; exact rfl)
            | ((with_reducible apply w_pure (v := .func _ _ _)); exact rfl; exact rfl))
          | ((with_reducible apply g_fld); first
            | ((with_reducible apply w_fldp (o := 1)); exact rfl; exact rfl; exact rfl; exact (by decide))))
        | with_reducible refine w_nil ?_
        | with_reducible refine w_region ?_)
      refine w_rq (part_run x B x.t _ _ _) (fun _ => rfl) ?_
      rintro v rfl
      repeat' (first
        | fail)
      refine w_rn (hb4.put (part x B x.t) (by omega)) (fun _ => rfl) ?_
      intro v g5 n5 hb5
      have hl5 := putS_len (putS (putS acc (part x x.f A)) (perm (part x A B) p)) (part x B x.t)
      repeat' (first
        | ((with_reducible apply g_op); first
          | ((with_reducible apply g_move); first
            | ((with_reducible apply w_pure (v := .int _ _)); exact rfl; exact rfl))
          | ((with_reducible apply g_bin); first
            | ((with_reducible apply w_wrap); exact rfl; exact rfl; first | exact i64_in _ (by omega) | exact u64_in _ (by omega) | exact u8_in _ (by omega))))
        | with_reducible refine w_nil ?_
        | with_reducible refine w_region ?_
        | with_reducible refine w_blk ?_)
      exact ih (i + 1, putS (putS (putS acc (part x x.f A)) (perm (part x A B) p)) (part x B x.t)) _ _ _ (by first | omega | (dsimp only; omega)) ⟨rfl, rfl, rfl, rfl, rfl, rfl, rfl, rfl, by first | omega | (dsimp only; omega), hgo, by first | omega | (dsimp only; omega), hb5.drop⟩
  · rw [List.drop_eq_nil_of_le hge] at hgo
    repeat' (first
      | ((with_reducible apply g_op); first
        | ((with_reducible apply g_move); first
          | ((with_reducible apply w_pure (v := .func _ _ _)); exact rfl; exact rfl))
        | ((with_reducible apply g_bin); first
          | ((with_reducible apply w_pure (v := .bool _)); exact rfl; exact rfl)))
      | with_reducible refine w_seq ?_
      | with_reducible refine w_nil ?_
      | with_reducible refine w_region ?_
      | ((with_reducible apply w_exit); exact rfl)
      | ((with_reducible apply w_ifd); exact rfl; all_goals (intro hc; first | (exfalso; omega) | skip)))
    refine w_rq hb.told (fun _ => rfl) ?_
    rintro v ⟨⟨ba, bk, rfl⟩, hf8, hf9⟩
    repeat' (first
      | ((with_reducible apply g_op); first
        | ((with_reducible apply g_assign); first
          | ((with_reducible apply w_pure (v := .int _ _)); exact rfl; exact rfl)
          | ((with_reducible apply w_pure (v := .slice _ _ _)); exact rfl; exact rfl)))
      | with_reducible refine w_nil ?_
      | ((with_reducible apply w_ret (v := .tuple #[.slice _ _ _, .int _ _])); exact rfl))
    exact ⟨_, sn_tuple (l := [_, _]) (sn_cons hf8 (sn_cons (sn_plain rfl) sn_nil)), by rw [← hgo]; rfl⟩
end Go.Proofs.Ytnlgindlmlbfiaa.L

