/- A builder, and what is kept beside it; region.Cut. -/
import Derived.Test.Ytnlgindlmlbfiaac15C
namespace Go.Proofs.Ytnlgindlmlbfiaa.L
open Go.L1 Go.IntWalk
set_option linter.unusedVariables false
set_option linter.unusedSimpArgs false
/-- A builder at c; below c all is as it was; K: cells of others above it. -/
def Bld (g0 : Nat → Option Ob) (c : Nat) (g : Nat → Option Ob) (n m : Nat) (rs : List Rg) (K : List (Nat × Ob)) : Prop :=
  c < n ∧ m ≤ c ∧ (∀ j, j < c → g j = g0 j) ∧ ∃ o, Out g c n m o rs ∧ (∀ k, o = some k → c < k) ∧ ∀ p ∈ K, c < p.1 ∧ p.1 < n ∧ g p.1 = some p.2 ∧ o ≠ some p.1
theorem Bld.start {g : Nat → Option Ob} {n m : Nat} (hm : m ≤ n) : Bld g n (upd g n (some (.cells 28 [.slice none 0 0]))) (n + 1) m [] [] :=
  ⟨by omega, hm, fun j hj => upd_ne (by omega), none, ⟨rfl, upd_same⟩, fun k h => (by cases h), fun p hp => (List.not_mem_nil hp).elim⟩
theorem Bld.step {g0 g G : Nat → Option Ob} {c n N m : Nat} {rs : List Rg} {K : List (Nat × Ob)} (h : Bld g0 c g n m rs K) (K' : List (Nat × Ob)) (hN : n ≤ N) (hg : ∀ j, j < n → G j = g j) (hK : ∀ p ∈ K', n ≤ p.1 ∧ p.1 < N ∧ G p.1 = some p.2) : Bld g0 c G N m rs (K' ++ K) := by
  obtain ⟨h1, h2, h3, o, h4, h5, h6⟩ := h
  refine ⟨by omega, h2, fun j hj => (hg j (by omega)).trans (h3 j hj), o, h4.new h1 hN hg, h5, fun p hp => ?_⟩
  rcases List.mem_append.1 hp with hp | hp
  · obtain ⟨a, b, e⟩ := hK p hp
    refine ⟨by omega, b, e, fun he => ?_⟩
    subst he
    have := h4.2.2.2.1
    omega
  · obtain ⟨a, b, e, f⟩ := h6 p hp
    exact ⟨a, by omega, (hg _ b).trans e, f⟩
theorem Bld.put {g0 g : Nat → Option Ob} {c n m : Nat} {rs : List Rg} {K : List (Nat × Ob)} (h : Bld g0 c g n m rs K) (r : Rg) (hl : rs.length ≤ 1000000) : Rn Try.prog T 34 [r.v, ptr c 0] g n m (fun v g' n' => Bld g0 c g' n' m (putS rs r) K) := by
  obtain ⟨h1, h2, h3, o, h4, h5, h6⟩ := h
  refine (put_run rs r g c n m o h4 h2 h1 hl).mono ?_
  rintro v g' n' ⟨o', q1, q2, q3, q4⟩
  refine ⟨by omega, h2, fun j hj => (q4 j (by omega) (by omega) (fun e => by have := h5 j e.symm; omega)).trans (h3 j hj), o', q1, fun k hk => ?_, fun p hp => ?_⟩
  · rcases q2 with rfl | ⟨k', e1, e2⟩
    · exact h5 k hk
    · rw [e1] at hk; cases hk; omega
  · obtain ⟨a, b, e, f⟩ := h6 p hp
    refine ⟨a, by omega, (q4 _ b (by omega) (fun e => f e.symm)).trans e, fun he => ?_⟩
    rcases q2 with rfl | ⟨k', e1, e2⟩
    · exact f he
    · rw [e1] at he; cases he; omega
theorem Bld.at {g0 g : Nat → Option Ob} {c n m : Nat} {rs : List Rg} {K : List (Nat × Ob)} (h : Bld g0 c g n m rs K) {q : Nat} {ob : Ob} (hq : (q, ob) ∈ K) : g q = some ob ∧ c < q ∧ q < n := by
  obtain ⟨h1, h2, h3, o, h4, h5, h6⟩ := h
  obtain ⟨a, b, e, f⟩ := h6 _ hq
  exact ⟨e, a, b⟩
theorem Bld.drop {g0 g : Nat → Option Ob} {c n m : Nat} {rs : List Rg} {K : List (Nat × Ob)} (h : Bld g0 c g n m rs K) : Bld g0 c g n m rs [] := by
  obtain ⟨h1, h2, h3, o, h4, h5, h6⟩ := h
  exact ⟨h1, h2, h3, o, h4, h5, fun p hp => (List.not_mem_nil hp).elim⟩
theorem Bld.told {g0 g : Nat → Option Ob} {c n m : Nat} {rs : List Rg} {K : List (Nat × Ob)} (h : Bld g0 c g n m rs K) : Rn Try.prog T 35 [ptr c 0] g n m (fun v g' n' => ((∃ a k, v = .slice a k k) ∧ L1.freeze Try.prog g #[] m 8 v = some (rv #[] rs) ∧ L1.freeze Try.prog g #[] m 9 v = some (rv #[] rs)) ∧ g' = g ∧ n' = n) := by
  obtain ⟨h1, h2, h3, o, h4, h5, h6⟩ := h
  refine (told_run rs g c n m o h4).mono ?_
  rintro v g' n' ⟨rfl, rfl, rfl⟩
  exact ⟨⟨by cases o <;> exact ⟨_, _, rfl⟩, h4.fz (Nat.le_refl _), h4.fz (Nat.le_refl _)⟩, rfl, rfl⟩
def cutGo (f t : Int) : List Rg → List Rg → List Rg
  | [], acc => acc
  | x :: xs, acc => if f ≥ t ∨ x.t ≤ f ∨ x.f ≥ t then cutGo f t xs (putS acc x) else cutGo f t xs (putS (putS acc (part x x.f f)) (part x t x.t))
theorem cut_run (l : List Rg) (f t : Int) (hl : l.length ≤ 5000) : Rf Try.prog T 16 [rv tg l, .int .i64 f, .int .i64 t] (fun v => v = rv #[] (cutGo f t l [])) := by
  refine c_froz Try.func16 rfl rfl rfl rfl rfl rfl ?_
  intro g n
  repeat' (first
    | ((with_reducible apply g_op); first
      | ((with_reducible apply g_assign); first
        | ((with_reducible apply w_pure (v := .slice _ _ _)); exact rfl; exact rfl)))
    | with_reducible refine w_seq ?_
    | with_reducible refine w_nil ?_
    | with_reducible refine w_region ?_)
  refine w_rn (row_run _ _ _) (fun _ => rfl) ?_
  rintro v g1 n1 ⟨rfl, rfl, rfl⟩
  have hb0 := Bld.start (g := g) (m := n) (Nat.le_refl _)
  repeat' (first
    | ((with_reducible apply g_op); first
      | ((with_reducible apply g_move); first
        | ((with_reducible apply w_pure (v := .int _ _)); exact rfl; exact rfl)
        | ((with_reducible apply w_pure (v := .tuple _)); exact rfl; exact rfl)
        | ((with_reducible apply w_pure (v := .func _ _ _)); exact rfl; exact rfl))
      | ((with_reducible apply g_assign); first
        | ((with_reducible apply w_pure (v := .func _ _ _)); exact rfl; exact rfl))
      | ((with_reducible apply g_call); first
        | ((with_reducible apply w_call (v := .int _ _)); exact rfl))
      | ((with_reducible apply w_pure (v := .func _ _ _)); exact rfl; exact rfl))
    | with_reducible refine w_seq ?_
    | with_reducible refine w_nil ?_
    | with_reducible refine w_region ?_
    | with_reducible refine w_block ?_)
  refine w_while (α := Nat × List Rg) (fun x σ g' n' => σ 15 = rv tg l ∧ σ 16 = .int .i64 l.length ∧ σ 17 = .int .i64 (x.1 : Nat) ∧ σ 1 = .int .i64 f ∧ σ 2 = .int .i64 t ∧ σ 7 = putF n ∧ σ 8 = toldF n
    ∧ x.1 ≤ l.length ∧ cutGo f t (l.drop x.1) x.2 = cutGo f t l [] ∧ x.2.length ≤ 2 * x.1 ∧ Bld g n g' n' n x.2 []) (fun x => l.length + 1 - x.1) ?_ (0, []) ⟨rfl, rfl, rfl, rfl, rfl, rfl, rfl, by dsimp only; omega, rfl, by dsimp only; simp, hb0⟩
  rintro ⟨i, acc⟩ σ g2 n2 ⟨k15, k16, k17, k1, k2, k7, k8, hi, hgo, hacc, hb⟩ ih
  dsimp only at k15 k16 k17 k1 k2 k7 k8 hi hgo hacc hb
  refine w_keep (i := 15) k15 (w_keep (i := 16) k16 (w_keep (i := 17) k17 (w_keep (i := 1) k1 (w_keep (i := 2) k2 (w_keep (i := 7) k7 (w_keep (i := 8) k8 ?_))))))
  rcases Nat.lt_or_ge i l.length with hlt | hge
  · obtain ⟨x, hx⟩ : ∃ x, l[i]? = some x := ⟨_, List.getElem?_eq_getElem hlt⟩
    have hd : l.drop i = x :: l.drop (i + 1) := by
      rw [List.drop_eq_getElem_cons hlt]; congr 1
      rw [List.getElem?_eq_getElem hlt] at hx; exact Option.some.inj hx
    rw [hd] at hgo
    simp only [cutGo] at hgo
    have hn2 : n < n2 := hb.1
    repeat' (first
      | ((with_reducible apply g_op); first
        | ((with_reducible apply g_load); first
          | ((with_reducible apply w_fl (v := .agg #[_, _, _, _, _, _])); exact rfl; exact (fun _ => rfl); assumption; exact rfl)
          | ((with_reducible apply w_load (v := .int _ _)); exact rfl; (first | assumption | (simp (disch := omega) only [upd_same, upd_ne]; first | done | assumption | exact rfl) | exact rfl); exact rfl)
          | ((with_reducible apply w_load (v := .agg #[_, _, _, _, _, _])); exact rfl; (first | assumption | (simp (disch := omega) only [upd_same, upd_ne]; first | done | assumption | exact rfl) | exact rfl); exact rfl))
        | ((with_reducible apply g_move); first
          | ((with_reducible apply w_pure (v := .int _ _)); exact rfl; exact rfl)
          | ((with_reducible apply w_pure (v := .bool _)); exact rfl; exact rfl)
          | ((with_reducible apply w_pure (v := .func _ _ _)); exact rfl; exact rfl))
        | ((with_reducible apply g_bin); first
          | ((with_reducible apply w_pure (v := .bool _)); exact rfl; exact rfl))
        | ((with_reducible apply g_fld); first
          | ((with_reducible apply w_fldp (o := 0)); exact rfl; exact rfl; exact rfl; exact (by decide))
          | ((with_reducible apply w_fldp (o := 1)); exact rfl; exact rfl; exact rfl; exact (by decide)))
        | ((with_reducible apply g_pick); first
          | ((with_reducible apply w_pk1 (v := .bool _)); exact rfl; exact rfl; (first | assumption | exact decide_eq_true (by assumption) | exact decide_eq_false (by assumption) | exact decide_eq_true (by omega) | exact decide_eq_false (by omega) | exact beq_iff_eq.2 (by omega) | exact beq_eq_false_iff_ne.2 (by omega) | exact bne_iff_ne.2 (by omega) | exact bne_eq_false_iff_eq.2 (by omega)))
          | ((with_reducible apply w_pk0 (v := .bool _)); exact rfl; exact rfl; (first | assumption | exact decide_eq_true (by assumption) | exact decide_eq_false (by assumption) | exact decide_eq_true (by omega) | exact decide_eq_false (by omega) | exact beq_iff_eq.2 (by omega) | exact beq_eq_false_iff_ne.2 (by omega) | exact bne_iff_ne.2 (by omega) | exact bne_eq_false_iff_eq.2 (by omega))))
        | ((with_reducible apply g_store); first
          | ((with_reducible apply w_store (us := [_, _, _, _, _, _]) (ws := [_, _, _, _, _, _])); exact rfl; exact rfl; (first | assumption | (simp (disch := omega) only [upd_same, upd_ne]; first | done | assumption | exact rfl) | exact rfl); omega; exact rfl; exact rfl; exact rfl))
        | ((with_reducible apply g_ix); first
          | ((with_reducible apply w_fx (sz := 6)); exact rfl; exact rfl; exact rfl; exact rfl; exact rfl; exact (fun _ => rfl); assumption; exact rfl))
        | ((with_reducible apply w_alloc (ls := [_, _, _, _, _, _])); exact rfl; exact rfl)
        | ((with_reducible apply w_pure (v := .bool _)); exact rfl; exact rfl))
      | ((with_reducible apply g_gd); first
        | ((with_reducible apply w_pass); exact rfl)
        | ((with_reducible apply w_gd_f); exact rfl; all_goals (intro hc; first | (exfalso; omega) | skip)))
      | with_reducible refine w_seq ?_
      | with_reducible refine w_nil ?_
      | with_reducible refine w_region ?_
      | with_reducible refine w_skip ?_
      | with_reducible refine w_block ?_
      | ((with_reducible apply w_yes); exact rfl)
      | ((with_reducible apply w_ifd); exact rfl; all_goals (intro hc; first | (exfalso; omega) | skip)))
    · refine w_rn ((hb.step (G := upd (upd g2 n2 _) n2 _) [(n2, .cells 23 x.c)] (N := n2 + 1) (by omega) (fun j hj => by simp (disch := omega) only [upd_ne]) (fun p hp => by cases (List.mem_singleton.1 hp); exact ⟨by omega, by omega, upd_same⟩)).put x (by omega)) (fun _ => rfl) ?_
      intro v g3 n3 hb3
      have hl3 := putS_len acc x
      repeat' (first
        | ((with_reducible apply g_op); first
          | ((with_reducible apply g_move); first
            | ((with_reducible apply w_pure (v := .int _ _)); exact rfl; exact rfl))
          | ((with_reducible apply g_bin); first
            | ((with_reducible apply w_wrap); exact rfl; exact rfl; first | exact i64_in _ (by omega) | exact u64_in _ (by omega) | exact u8_in _ (by omega))))
        | with_reducible refine w_nil ?_
        | with_reducible refine w_region ?_
        | ((with_reducible apply w_exit); exact rfl))
      rw [if_pos (by omega)] at hgo
      exact ih (i + 1, putS acc x) _ _ _ (by first | omega | (dsimp only; omega)) ⟨rfl, rfl, rfl, rfl, rfl, rfl, rfl, by first | omega | (dsimp only; omega), hgo, by first | omega | (dsimp only; omega), hb3.drop⟩
    · refine w_rn ((hb.step (G := upd (upd g2 n2 _) n2 _) [(n2, .cells 23 x.c)] (N := n2 + 1) (by omega) (fun j hj => by simp (disch := omega) only [upd_ne]) (fun p hp => by cases (List.mem_singleton.1 hp); exact ⟨by omega, by omega, upd_same⟩)).put x (by omega)) (fun _ => rfl) ?_
      intro v g3 n3 hb3
      have hl3 := putS_len acc x
      repeat' (first
        | ((with_reducible apply g_op); first
          | ((with_reducible apply g_move); first
            | ((with_reducible apply w_pure (v := .int _ _)); exact rfl; exact rfl))
          | ((with_reducible apply g_bin); first
            | ((with_reducible apply w_wrap); exact rfl; exact rfl; first | exact i64_in _ (by omega) | exact u64_in _ (by omega) | exact u8_in _ (by omega))))
        | with_reducible refine w_nil ?_
        | with_reducible refine w_region ?_
        | ((with_reducible apply w_exit); exact rfl))
      rw [if_pos (by omega)] at hgo
      exact ih (i + 1, putS acc x) _ _ _ (by first | omega | (dsimp only; omega)) ⟨rfl, rfl, rfl, rfl, rfl, rfl, rfl, by first | omega | (dsimp only; omega), hgo, by first | omega | (dsimp only; omega), hb3.drop⟩
    · refine w_rn ((hb.step (G := upd (upd g2 n2 _) n2 _) [(n2, .cells 23 x.c)] (N := n2 + 1) (by omega) (fun j hj => by simp (disch := omega) only [upd_ne]) (fun p hp => by cases (List.mem_singleton.1 hp); exact ⟨by omega, by omega, upd_same⟩)).put x (by omega)) (fun _ => rfl) ?_
      intro v g3 n3 hb3
      have hl3 := putS_len acc x
      repeat' (first
        | ((with_reducible apply g_op); first
          | ((with_reducible apply g_move); first
            | ((with_reducible apply w_pure (v := .int _ _)); exact rfl; exact rfl))
          | ((with_reducible apply g_bin); first
            | ((with_reducible apply w_wrap); exact rfl; exact rfl; first | exact i64_in _ (by omega) | exact u64_in _ (by omega) | exact u8_in _ (by omega))))
        | with_reducible refine w_nil ?_
        | with_reducible refine w_region ?_
        | ((with_reducible apply w_exit); exact rfl))
      rw [if_pos (by omega)] at hgo
      exact ih (i + 1, putS acc x) _ _ _ (by first | omega | (dsimp only; omega)) ⟨rfl, rfl, rfl, rfl, rfl, rfl, rfl, by first | omega | (dsimp only; omega), hgo, by first | omega | (dsimp only; omega), hb3.drop⟩
    · refine w_rq (part_run x x.f f _ _ _) (fun _ => rfl) ?_
      rintro v rfl
      repeat' (first
        | fail)
      refine w_rn ((hb.step (G := upd (upd g2 n2 _) n2 _) [(n2, .cells 23 x.c)] (N := n2 + 1) (by omega) (fun j hj => by simp (disch := omega) only [upd_ne]) (fun p hp => by cases (List.mem_singleton.1 hp); exact ⟨by omega, by omega, upd_same⟩)).put (part x x.f f) (by omega)) (fun _ => rfl) ?_
      intro v g3 n3 hb3
      have hl3 := putS_len acc (part x x.f f)
      have hx3 := (hb3.at (List.mem_cons_self ..)).1
      repeat' (first
        | ((with_reducible apply g_op); first
          | ((with_reducible apply g_load); first
            | ((with_reducible apply w_load (v := .int _ _)); exact rfl; (first | assumption | (simp (disch := omega) only [upd_same, upd_ne]; first | done | assumption | exact rfl) | exact rfl); exact rfl)
            | ((with_reducible apply w_load (v := .agg #[_, _, _, _, _, _])); exact rfl; (first | assumption | (simp (disch := omega) only [upd_same, upd_ne]; first | done | assumption | exact rfl) | exact rfl); exact rfl))
          | ((with_reducible apply g_move); first
            | ((with_reducible apply w_pure (v := .int _ _)); exact rfl; exact rfl)
            | ((with_reducible apply w_pure (v := .func _ _ _)); exact rfl; exact rfl))
          | ((with_reducible apply g_fld); first
            | ((with_reducible apply w_fldp (o := 1)); exact rfl; exact rfl; exact rfl; exact (by decide))))
        | with_reducible refine w_nil ?_
        | with_reducible refine w_region ?_)
      refine w_rq (part_run x t x.t _ _ _) (fun _ => rfl) ?_
      rintro v rfl
      repeat' (first
        | fail)
      refine w_rn (hb3.put (part x t x.t) (by omega)) (fun _ => rfl) ?_
      intro v g4 n4 hb4
      have hl4 := putS_len (putS acc (part x x.f f)) (part x t x.t)
      repeat' (first
        | ((with_reducible apply g_op); first
          | ((with_reducible apply g_move); first
            | ((with_reducible apply w_pure (v := .int _ _)); exact rfl; exact rfl))
          | ((with_reducible apply g_bin); first
            | ((with_reducible apply w_wrap); exact rfl; exact rfl; first | exact i64_in _ (by omega) | exact u64_in _ (by omega) | exact u8_in _ (by omega))))
        | with_reducible refine w_nil ?_
        | with_reducible refine w_region ?_
        | with_reducible refine w_blk ?_)
      rw [if_neg (by omega)] at hgo
      exact ih (i + 1, putS (putS acc (part x x.f f)) (part x t x.t)) _ _ _ (by first | omega | (dsimp only; omega)) ⟨rfl, rfl, rfl, rfl, rfl, rfl, rfl, by first | omega | (dsimp only; omega), hgo, by first | omega | (dsimp only; omega), hb4.drop⟩
  · rw [List.drop_eq_nil_of_le hge] at hgo
    repeat' (first
      | ((with_reducible apply g_op); first
        | ((with_reducible apply g_move); first
          | ((with_reducible apply w_pure (v := .func _ _ _)); exact rfl; exact rfl))
        | ((with_reducible apply g_bin); first
          | ((with_reducible apply w_pure (v := .bool _)); exact rfl; exact rfl)))
      | with_reducible refine w_seq ?_
      | with_reducible refine w_nil ?_
      | with_reducible refine w_region ?_
      | ((with_reducible apply w_exit); exact rfl)
      | ((with_reducible apply w_ifd); exact rfl; all_goals (intro hc; first | (exfalso; omega) | skip)))
    refine w_rq hb.told (fun _ => rfl) ?_
    rintro v ⟨⟨ba, bk, rfl⟩, hf8, hf9⟩
    repeat' (first
      | ((with_reducible apply g_op); first
        | ((with_reducible apply g_assign); first
          | ((with_reducible apply w_pure (v := .slice _ _ _)); exact rfl; exact rfl)))
      | with_reducible refine w_nil ?_
      | ((with_reducible apply w_ret (v := .slice _ _ _)); exact rfl))
    exact ⟨_, hf9, by rw [← hgo]; rfl⟩
end Go.Proofs.Ytnlgindlmlbfiaa.L

