/- region.Add. -/
import Derived.Test.Ytnlgindlmlbfiaac15A
namespace Go.Proofs.Ytnlgindlmlbfiaa.L
open Go.L1 Go.IntWalk
set_option linter.unusedVariables false
set_option linter.unusedSimpArgs false
def addGo (r : Rg) : List Rg → List Rg → Bool → Option (List Rg)
  | [], acc, ad => some (if ad then acc else putS acc r)
  | x :: xs, acc, ad => if x.f < r.t ∧ r.f < x.t then none else if ad = false ∧ x.f ≥ r.t then addGo r xs (putS (putS acc r) x) true else addGo r xs (putS acc x) ad
def addS (l : List Rg) (r : Rg) : List Rg × Int := if may r then (match addGo r l [] false with | none => ([], 13) | some rs => (rs, 0)) else ([], 1)
theorem putS_len (rs : List Rg) (r : Rg) : (putS rs r).length ≤ rs.length + 1 := by
  unfold putS
  split
  · omega
  · split
    · simp
    · split
      · simp <;> omega
      · simp
theorem Out.same {g g' : Nat → Option Ob} {c n n' m : Nat} {i : Option Nat} {rs : List Rg} (h : Out g c n m i rs) (hn : n ≤ n') (hg : ∀ j, j = c ∨ some j = i → g' j = g j) : Out g' c n' m i rs := by
  cases i with
  | none => exact ⟨h.1, by rw [hg c (.inl rfl)]; exact h.2⟩
  | some i =>
    obtain ⟨h1, h2, h3, h4, h5, h6⟩ := h
    exact ⟨h1, h2, h3, by omega, by rw [hg c (.inl rfl)]; exact h5, by rw [hg i (.inr rfl)]; exact h6⟩
theorem Out.new {g g' : Nat → Option Ob} {c n n' m : Nat} {i : Option Nat} {rs : List Rg} (h : Out g c n m i rs) (hc : c < n) (hn : n ≤ n') (hg : ∀ j, j < n → g' j = g j) : Out g' c n' m i rs := by
  refine h.same hn (fun j hj => hg j ?_)
  rcases hj with rfl | hj
  · exact hc
  · subst hj; exact h.2.2.2.1
theorem add_run (l : List Rg) (r : Rg) (hl : l.length ≤ 5000) : Rf Try.prog T 11 [rv tg l, r.v] (fun v => v = .tuple #[rv #[] (addS l r).1, .int .i64 (addS l r).2]) := by
  refine c_froz Try.func11 rfl rfl rfl rfl rfl rfl ?_
  intro g n
  repeat' (first
    | ((with_reducible apply g_op); first
      | ((with_reducible apply g_load); first
        | ((with_reducible apply w_load (v := .agg #[_, _, _, _, _, _])); exact rfl; (first | assumption | (simp (disch := omega) only [upd_same, upd_ne]; first | done | assumption | exact rfl) | exact rfl); exact rfl))
      | ((with_reducible apply g_assign); first
        | ((with_reducible apply w_pure (v := .int _ _)); exact rfl; exact rfl)
        | ((with_reducible apply w_pure (v := .slice _ _ _)); exact rfl; exact rfl))
      | ((with_reducible apply g_box); first
        | ((with_reducible apply w_box (vs := [_, _, _, _, _, _])); exact rfl; exact rfl)))
    | with_reducible refine w_seq ?_
    | with_reducible refine w_nil ?_
    | with_reducible refine w_region ?_)
  refine w_rq (may_run r _ _ _) (fun _ => rfl) ?_
  rintro v rfl
  cases hmay : may r with
  | false =>
    repeat' (first
      | ((with_reducible apply g_op); first
        | ((with_reducible apply g_assign); first
          | ((with_reducible apply w_pure (v := .int _ _)); exact rfl; exact rfl)
          | ((with_reducible apply w_pure (v := .slice _ _ _)); exact rfl; exact rfl))
        | ((with_reducible apply w_pure (v := .bool _)); exact rfl; exact rfl))
      | with_reducible refine w_seq ?_
      | with_reducible refine w_nil ?_
      | with_reducible refine w_region ?_
      | ((with_reducible apply w_yes); exact rfl)
      | ((with_reducible apply w_ret (v := .tuple #[.slice _ _ _, .int _ _])); exact rfl))
    exact ⟨_, sn_tuple (l := [_, _]) (sn_cons sn_none (sn_cons (sn_plain rfl) sn_nil)), by simp only [addS, hmay]; rfl⟩
  | true =>
  repeat' (first
    | ((with_reducible apply g_op); first
      | ((with_reducible apply w_pure (v := .bool _)); exact rfl; exact rfl))
    | with_reducible refine w_seq ?_
    | with_reducible refine w_nil ?_
    | with_reducible refine w_region ?_
    | with_reducible refine w_skip ?_
    | ((with_reducible apply w_no); exact rfl))
  refine w_rn (row_run _ _ _) (fun _ => rfl) ?_
  rintro v g1 n1 ⟨rfl, rfl, rfl⟩
  repeat' (first
    | ((with_reducible apply g_op); first
      | ((with_reducible apply g_move); first
        | ((with_reducible apply w_pure (v := .int _ _)); exact rfl; exact rfl)
        | ((with_reducible apply w_pure (v := .tuple _)); exact rfl; exact rfl)
        | ((with_reducible apply w_pure (v := .func _ _ _)); exact rfl; exact rfl))
      | ((with_reducible apply g_assign); first
        | ((with_reducible apply w_pure (v := .bool _)); exact rfl; exact rfl)
        | ((with_reducible apply w_pure (v := .func _ _ _)); exact rfl; exact rfl))
      | ((with_reducible apply g_call); first
        | ((with_reducible apply w_call (v := .int _ _)); exact rfl))
      | ((with_reducible apply w_pure (v := .func _ _ _)); exact rfl; exact rfl))
    | with_reducible refine w_seq ?_
    | with_reducible refine w_nil ?_
    | with_reducible refine w_region ?_
    | with_reducible refine w_block ?_)
  refine w_while (α := Nat × List Rg × Bool × Option Nat) (fun x σ g' n' => σ 18 = rv tg l ∧ σ 19 = .int .i64 l.length ∧ σ 20 = .int .i64 (x.1 : Nat) ∧ σ 8 = .bool x.2.2.1 ∧ σ 6 = putF (n + 1) ∧ σ 7 = toldF (n + 1) ∧ σ 3 = ptr n 0
    ∧ x.1 ≤ l.length ∧ addGo r (l.drop x.1) x.2.1 x.2.2.1 = addGo r l [] false ∧ x.2.1.length ≤ 2 * x.1 ∧ Out g' (n + 1) n' n x.2.2.2 x.2.1 ∧ (∀ k, x.2.2.2 = some k → n + 2 ≤ k) ∧ n + 2 ≤ n' ∧ g' n = some (.cells 23 r.c)) (fun x => l.length + 1 - x.1) ?_ (0, [], false, none) ?_
  · rintro ⟨i, acc, ad, o⟩ σ g2 n2 ⟨k18, k19, k20, k8, k6, k7, k3, hi, hgo, hacc, hout, ho, hn2, hgn⟩ ih
    dsimp only at k18 k19 k20 k8 k6 k7 k3 hi hgo hacc hout ho hn2 hgn
    refine w_keep (i := 18) k18 (w_keep (i := 19) k19 (w_keep (i := 20) k20 (w_keep (i := 8) k8 (w_keep (i := 6) k6 (w_keep (i := 7) k7 (w_keep (i := 3) k3 ?_))))))
    rcases Nat.lt_or_ge i l.length with hlt | hge
    · obtain ⟨x, hx⟩ : ∃ x, l[i]? = some x := ⟨_, List.getElem?_eq_getElem hlt⟩
      have hd : l.drop i = x :: l.drop (i + 1) := by
        rw [List.drop_eq_getElem_cons hlt]; congr 1
        rw [List.getElem?_eq_getElem hlt] at hx; exact Option.some.inj hx
      rw [hd] at hgo
      cases ad with
      | false =>
        repeat' (first
          | ((with_reducible apply g_op); first
            | ((with_reducible apply g_load); first
              | ((with_reducible apply w_fl (v := .agg #[_, _, _, _, _, _])); exact rfl; exact (fun _ => rfl); assumption; exact rfl)
              | ((with_reducible apply w_load (v := .int _ _)); exact rfl; (first | assumption | (simp (disch := omega) only [upd_same, upd_ne]; first | done | assumption | exact rfl) | exact rfl); exact rfl)
              | ((with_reducible apply w_load (v := .agg #[_, _, _, _, _, _])); exact rfl; (first | assumption | (simp (disch := omega) only [upd_same, upd_ne]; first | done | assumption | exact rfl) | exact rfl); exact rfl))
            | ((with_reducible apply g_move); first
              | ((with_reducible apply w_pure (v := .bool _)); exact rfl; exact rfl)
              | ((with_reducible apply w_pure (v := .func _ _ _)); exact rfl; exact rfl))
            | ((with_reducible apply g_bin); first
              | ((with_reducible apply w_pure (v := .bool _)); exact rfl; exact rfl))
            | ((with_reducible apply g_fld); first
              | ((with_reducible apply w_fldp (o := 0)); exact rfl; exact rfl; exact rfl; exact (by decide))
              | ((with_reducible apply w_fldp (o := 1)); exact rfl; exact rfl; exact rfl; exact (by decide)))
            | ((with_reducible apply g_pick); first
              | ((with_reducible apply w_pk1 (v := .bool _)); exact rfl; exact rfl; (first | assumption | exact decide_eq_true (by assumption) | exact decide_eq_false (by assumption) | exact decide_eq_true (by omega) | exact decide_eq_false (by omega) | exact beq_iff_eq.2 (by omega) | exact beq_eq_false_iff_ne.2 (by omega) | exact bne_iff_ne.2 (by omega) | exact bne_eq_false_iff_eq.2 (by omega)))
              | ((with_reducible apply w_pk0 (v := .bool _)); exact rfl; exact rfl; (first | assumption | exact decide_eq_true (by assumption) | exact decide_eq_false (by assumption) | exact decide_eq_true (by omega) | exact decide_eq_false (by omega) | exact beq_iff_eq.2 (by omega) | exact beq_eq_false_iff_ne.2 (by omega) | exact bne_iff_ne.2 (by omega) | exact bne_eq_false_iff_eq.2 (by omega))))
            | ((with_reducible apply g_assign); first
              | ((with_reducible apply w_pure (v := .int _ _)); exact rfl; exact rfl)
              | ((with_reducible apply w_pure (v := .slice _ _ _)); exact rfl; exact rfl))
            | ((with_reducible apply g_store); first
              | ((with_reducible apply w_store (us := [_, _, _, _, _, _]) (ws := [_, _, _, _, _, _])); exact rfl; exact rfl; (first | assumption | (simp (disch := omega) only [upd_same, upd_ne]; first | done | assumption | exact rfl) | exact rfl); omega; exact rfl; exact rfl; exact rfl))
            | ((with_reducible apply g_ix); first
              | ((with_reducible apply w_fx (sz := 6)); exact rfl; exact rfl; exact rfl; exact rfl; exact rfl; exact (fun _ => rfl); assumption; exact rfl))
            | ((with_reducible apply w_alloc (ls := [_, _, _, _, _, _])); exact rfl; exact rfl)
            | ((with_reducible apply w_pure (v := .bool _)); exact rfl; exact rfl))
          | ((with_reducible apply g_gd); first
            | ((with_reducible apply w_want); exact rfl)
            | ((with_reducible apply w_gd_t); exact rfl; all_goals (intro hc; first | (exfalso; omega) | skip)))
          | with_reducible refine w_seq ?_
          | with_reducible refine w_nil ?_
          | with_reducible refine w_region ?_
          | with_reducible refine w_skip ?_
          | with_reducible refine w_block ?_
          | ((with_reducible apply w_no); exact rfl)
          | ((with_reducible apply w_ifd); exact rfl; all_goals (intro hc; first | (exfalso; omega) | skip))
          | ((with_reducible apply w_ret (v := .tuple #[.slice _ _ _, .int _ _])); exact rfl))
        · have e : addGo r l [] false = none := by rw [← hgo]; simp only [addGo]; rw [if_pos ⟨by omega, by omega⟩]
          exact ⟨_, sn_tuple (l := [_, _]) (sn_cons sn_none (sn_cons (sn_plain rfl) sn_nil)), by simp only [addS, hmay, e]; rfl⟩
        · refine w_rn (put_run acc x _ (n + 1) _ n o (hout.new (by omega) (by omega) (fun j hj => by simp (disch := omega) only [upd_ne])) (by omega) (by omega) (by omega)) (fun _ => rfl) ?_
          rintro v g3 n3 ⟨o3, hout3, ho3, hn3, hfr3⟩
          have key : ∀ j, j < n + 1 → g3 j = g2 j := fun j hj => by
            rw [hfr3 j (by omega) (by omega) (fun e => by have := ho j e.symm; omega)]
            simp (disch := omega) only [upd_ne]
          repeat' (first
            | ((with_reducible apply g_op); first
              | ((with_reducible apply g_move); first
                | ((with_reducible apply w_pure (v := .int _ _)); exact rfl; exact rfl))
              | ((with_reducible apply g_bin); first
                | ((with_reducible apply w_wrap); exact rfl; exact rfl; first | exact i64_in _ (by omega) | exact u64_in _ (by omega) | exact u8_in _ (by omega))))
            | with_reducible refine w_nil ?_
            | with_reducible refine w_region ?_
            | with_reducible refine w_blk ?_)
          refine ih (i + 1, putS acc x, false, o3) _ _ _ (by first | omega | (dsimp only; omega)) ⟨rfl, rfl, rfl, rfl, rfl, rfl, rfl, by first | omega | (dsimp only; omega), ?_, ?_, hout3, ?_, by first | omega | (dsimp only; omega), ?_⟩
          · rw [← hgo]; simp only [addGo]; rw [if_neg (by omega), if_neg (by simp; omega)]
          · have := putS_len acc x; dsimp only; omega
          · intro k hk
            rcases ho3 with rfl | ⟨k', h1, h2⟩
            · exact ho k hk
            · rw [h1] at hk; cases hk; omega
          · rw [key n (by omega)]; exact hgn
        · refine w_rn (put_run acc r _ (n + 1) _ n o (hout.new (by omega) (by omega) (fun j hj => by simp (disch := omega) only [upd_ne])) (by omega) (by omega) (by omega)) (fun _ => rfl) ?_
          rintro v g3 n3 ⟨o3, hout3, ho3, hn3, hfr3⟩
          have key : ∀ j, j < n2 + 1 → j ≠ n + 1 → some j ≠ o → g3 j = upd g2 n2 (some (.cells 23 x.c)) j := fun j hj hj1 hj2 => by
            rw [hfr3 j (by omega) hj1 hj2]
            by_cases e : j = n2
            · subst e; simp only [upd_same]; rfl
            · simp (disch := omega) only [upd_ne]
          have hlow3 : ∀ k, o = some k → k ≠ n2 := fun k hk e => by subst hk; subst e; exact absurd hout.2.2.2.1 (by omega)
          have hx3 : g3 n2 = some (.cells 23 x.c) := by rw [key n2 (by omega) (by omega) (fun e => hlow3 n2 e.symm rfl)]; exact upd_same
          have hl3 := putS_len acc r
          repeat' (first
            | ((with_reducible apply g_op); first
              | ((with_reducible apply g_load); first
                | ((with_reducible apply w_load (v := .agg #[_, _, _, _, _, _])); exact rfl; (first | assumption | (simp (disch := omega) only [upd_same, upd_ne]; first | done | assumption | exact rfl) | exact rfl); exact rfl))
              | ((with_reducible apply g_move); first
                | ((with_reducible apply w_pure (v := .func _ _ _)); exact rfl; exact rfl))
              | ((with_reducible apply g_assign); first
                | ((with_reducible apply w_pure (v := .bool _)); exact rfl; exact rfl)))
            | with_reducible refine w_nil ?_
            | with_reducible refine w_region ?_)
          refine w_rn (put_run (putS acc r) x _ (n + 1) _ n o3 hout3 (by omega) (by omega) (by omega)) (fun _ => rfl) ?_
          rintro v g4 n4 ⟨o4, hout4, ho4, hn4, hfr4⟩
          have ho3' : ∀ k, o3 = some k → n + 2 ≤ k := by
            intro k hk
            rcases ho3 with rfl | ⟨k', h1, h2⟩
            · exact ho k hk
            · rw [h1] at hk; cases hk; omega
          have key4 : ∀ j, j < n + 1 → g4 j = g2 j := fun j hj => by
            rw [hfr4 j (by omega) (by omega) (fun e => by have := ho3' j e.symm; omega), key j (by omega) (by omega) (fun e => by have := ho j e.symm; omega), upd_ne (by omega)]
          repeat' (first
            | ((with_reducible apply g_op); first
              | ((with_reducible apply g_move); first
                | ((with_reducible apply w_pure (v := .int _ _)); exact rfl; exact rfl))
              | ((with_reducible apply g_bin); first
                | ((with_reducible apply w_wrap); exact rfl; exact rfl; first | exact i64_in _ (by omega) | exact u64_in _ (by omega) | exact u8_in _ (by omega))))
            | with_reducible refine w_nil ?_
            | with_reducible refine w_region ?_
            | with_reducible refine w_blk ?_)
          refine ih (i + 1, putS (putS acc r) x, true, o4) _ _ _ (by first | omega | (dsimp only; omega)) ⟨rfl, rfl, rfl, rfl, rfl, rfl, rfl, by first | omega | (dsimp only; omega), ?_, ?_, hout4, ?_, by first | omega | (dsimp only; omega), ?_⟩
          · rw [← hgo]; simp only [addGo]; rw [if_neg (by omega), if_pos ⟨trivial, by omega⟩]
          · have := putS_len (putS acc r) x; dsimp only; omega
          · intro k hk
            rcases ho4 with rfl | ⟨k', h1, h2⟩
            · exact ho3' k hk
            · rw [h1] at hk; cases hk; omega
          · rw [key4 n (by omega)]; exact hgn
      | true =>
        repeat' (first
          | ((with_reducible apply g_op); first
            | ((with_reducible apply g_load); first
              | ((with_reducible apply w_fl (v := .agg #[_, _, _, _, _, _])); exact rfl; exact (fun _ => rfl); assumption; exact rfl)
              | ((with_reducible apply w_load (v := .int _ _)); exact rfl; (first | assumption | (simp (disch := omega) only [upd_same, upd_ne]; first | done | assumption | exact rfl) | exact rfl); exact rfl)
              | ((with_reducible apply w_load (v := .agg #[_, _, _, _, _, _])); exact rfl; (first | assumption | (simp (disch := omega) only [upd_same, upd_ne]; first | done | assumption | exact rfl) | exact rfl); exact rfl))
            | ((with_reducible apply g_move); first
              | ((with_reducible apply w_pure (v := .bool _)); exact rfl; exact rfl)
              | ((with_reducible apply w_pure (v := .func _ _ _)); exact rfl; exact rfl))
            | ((with_reducible apply g_bin); first
              | ((with_reducible apply w_pure (v := .bool _)); exact rfl; exact rfl))
            | ((with_reducible apply g_fld); first
              | ((with_reducible apply w_fldp (o := 0)); exact rfl; exact rfl; exact rfl; exact (by decide))
              | ((with_reducible apply w_fldp (o := 1)); exact rfl; exact rfl; exact rfl; exact (by decide)))
            | ((with_reducible apply g_pick); first
              | ((with_reducible apply w_pk1 (v := .bool _)); exact rfl; exact rfl; (first | assumption | exact decide_eq_true (by assumption) | exact decide_eq_false (by assumption) | exact decide_eq_true (by omega) | exact decide_eq_false (by omega) | exact beq_iff_eq.2 (by omega) | exact beq_eq_false_iff_ne.2 (by omega) | exact bne_iff_ne.2 (by omega) | exact bne_eq_false_iff_eq.2 (by omega)))
              | ((with_reducible apply w_pk0 (v := .bool _)); exact rfl; exact rfl; (first | assumption | exact decide_eq_true (by assumption) | exact decide_eq_false (by assumption) | exact decide_eq_true (by omega) | exact decide_eq_false (by omega) | exact beq_iff_eq.2 (by omega) | exact beq_eq_false_iff_ne.2 (by omega) | exact bne_iff_ne.2 (by omega) | exact bne_eq_false_iff_eq.2 (by omega))))
            | ((with_reducible apply g_assign); first
              | ((with_reducible apply w_pure (v := .int _ _)); exact rfl; exact rfl)
              | ((with_reducible apply w_pure (v := .slice _ _ _)); exact rfl; exact rfl))
            | ((with_reducible apply g_store); first
              | ((with_reducible apply w_store (us := [_, _, _, _, _, _]) (ws := [_, _, _, _, _, _])); exact rfl; exact rfl; (first | assumption | (simp (disch := omega) only [upd_same, upd_ne]; first | done | assumption | exact rfl) | exact rfl); omega; exact rfl; exact rfl; exact rfl))
            | ((with_reducible apply g_ix); first
              | ((with_reducible apply w_fx (sz := 6)); exact rfl; exact rfl; exact rfl; exact rfl; exact rfl; exact (fun _ => rfl); assumption; exact rfl))
            | ((with_reducible apply w_alloc (ls := [_, _, _, _, _, _])); exact rfl; exact rfl)
            | ((with_reducible apply w_pure (v := .bool _)); exact rfl; exact rfl))
          | ((with_reducible apply g_gd); first
            | ((with_reducible apply w_pass); exact rfl)
            | ((with_reducible apply w_gd_t); exact rfl; all_goals (intro hc; first | (exfalso; omega) | skip)))
          | with_reducible refine w_seq ?_
          | with_reducible refine w_nil ?_
          | with_reducible refine w_region ?_
          | with_reducible refine w_skip ?_
          | with_reducible refine w_block ?_
          | ((with_reducible apply w_no); exact rfl)
          | ((with_reducible apply w_ifd); exact rfl; all_goals (intro hc; first | (exfalso; omega) | skip))
          | ((with_reducible apply w_ret (v := .tuple #[.slice _ _ _, .int _ _])); exact rfl))
        · have e : addGo r l [] false = none := by rw [← hgo]; simp only [addGo]; rw [if_pos ⟨by omega, by omega⟩]
          exact ⟨_, sn_tuple (l := [_, _]) (sn_cons sn_none (sn_cons (sn_plain rfl) sn_nil)), by simp only [addS, hmay, e]; rfl⟩
        · refine w_rn (put_run acc x _ (n + 1) _ n o (hout.new (by omega) (by omega) (fun j hj => by simp (disch := omega) only [upd_ne])) (by omega) (by omega) (by omega)) (fun _ => rfl) ?_
          rintro v g3 n3 ⟨o3, hout3, ho3, hn3, hfr3⟩
          have key : ∀ j, j < n + 1 → g3 j = g2 j := fun j hj => by
            rw [hfr3 j (by omega) (by omega) (fun e => by have := ho j e.symm; omega)]
            simp (disch := omega) only [upd_ne]
          repeat' (first
            | ((with_reducible apply g_op); first
              | ((with_reducible apply g_move); first
                | ((with_reducible apply w_pure (v := .int _ _)); exact rfl; exact rfl))
              | ((with_reducible apply g_bin); first
                | ((with_reducible apply w_wrap); exact rfl; exact rfl; first | exact i64_in _ (by omega) | exact u64_in _ (by omega) | exact u8_in _ (by omega))))
            | with_reducible refine w_nil ?_
            | with_reducible refine w_region ?_
            | with_reducible refine w_blk ?_)
          refine ih (i + 1, putS acc x, true, o3) _ _ _ (by first | omega | (dsimp only; omega)) ⟨rfl, rfl, rfl, rfl, rfl, rfl, rfl, by first | omega | (dsimp only; omega), ?_, ?_, hout3, ?_, by first | omega | (dsimp only; omega), ?_⟩
          · rw [← hgo]; simp only [addGo]; rw [if_neg (by omega), if_neg (by simp)]
          · have := putS_len acc x; dsimp only; omega
          · intro k hk
            rcases ho3 with rfl | ⟨k', h1, h2⟩
            · exact ho k hk
            · rw [h1] at hk; cases hk; omega
          · rw [key n (by omega)]; exact hgn
        · refine w_rn (put_run acc x _ (n + 1) _ n o (hout.new (by omega) (by omega) (fun j hj => by simp (disch := omega) only [upd_ne])) (by omega) (by omega) (by omega)) (fun _ => rfl) ?_
          rintro v g3 n3 ⟨o3, hout3, ho3, hn3, hfr3⟩
          have key : ∀ j, j < n + 1 → g3 j = g2 j := fun j hj => by
            rw [hfr3 j (by omega) (by omega) (fun e => by have := ho j e.symm; omega)]
            simp (disch := omega) only [upd_ne]
          repeat' (first
            | ((with_reducible apply g_op); first
              | ((with_reducible apply g_move); first
                | ((with_reducible apply w_pure (v := .int _ _)); exact rfl; exact rfl))
              | ((with_reducible apply g_bin); first
                | ((with_reducible apply w_wrap); exact rfl; exact rfl; first | exact i64_in _ (by omega) | exact u64_in _ (by omega) | exact u8_in _ (by omega))))
            | with_reducible refine w_nil ?_
            | with_reducible refine w_region ?_
            | with_reducible refine w_blk ?_)
          refine ih (i + 1, putS acc x, true, o3) _ _ _ (by first | omega | (dsimp only; omega)) ⟨rfl, rfl, rfl, rfl, rfl, rfl, rfl, by first | omega | (dsimp only; omega), ?_, ?_, hout3, ?_, by first | omega | (dsimp only; omega), ?_⟩
          · rw [← hgo]; simp only [addGo]; rw [if_neg (by omega), if_neg (by simp)]
          · have := putS_len acc x; dsimp only; omega
          · intro k hk
            rcases ho3 with rfl | ⟨k', h1, h2⟩
            · exact ho k hk
            · rw [h1] at hk; cases hk; omega
          · rw [key n (by omega)]; exact hgn
    · have hd : l.drop i = [] := List.drop_eq_nil_of_le hge
      rw [hd] at hgo
      cases ad with
      | false =>
        repeat' (first
          | ((with_reducible apply g_op); first
            | ((with_reducible apply g_load); first
              | ((with_reducible apply w_load (v := .agg #[_, _, _, _, _, _])); exact rfl; (first | assumption | (simp (disch := omega) only [upd_same, upd_ne]; first | done | assumption | exact rfl) | exact rfl); exact rfl))
            | ((with_reducible apply g_move); first
              | ((with_reducible apply w_pure (v := .bool _)); exact rfl; exact rfl)
              | ((with_reducible apply w_pure (v := .func _ _ _)); exact rfl; exact rfl))
            | ((with_reducible apply g_bin); first
              | ((with_reducible apply w_pure (v := .bool _)); exact rfl; exact rfl))
            | ((with_reducible apply w_pure (v := .bool _)); exact rfl; exact rfl))
          | with_reducible refine w_seq ?_
          | with_reducible refine w_nil ?_
          | with_reducible refine w_region ?_
          | ((with_reducible apply w_exit); exact rfl)
          | ((with_reducible apply w_yes); exact rfl)
          | ((with_reducible apply w_ifd); exact rfl; all_goals (intro hc; first | (exfalso; omega) | skip)))
        refine w_rn (put_run acc r _ (n + 1) _ n o hout (by omega) (by omega) (by omega)) (fun _ => rfl) ?_
        rintro v g3 n3 ⟨o3, hout3, ho3, hn3, hfr3⟩
        repeat' (first
          | ((with_reducible apply g_op); first
            | ((with_reducible apply g_move); first
              | ((with_reducible apply w_pure (v := .func _ _ _)); exact rfl; exact rfl)))
          | with_reducible refine w_seq ?_
          | with_reducible refine w_nil ?_
          | with_reducible refine w_region ?_)
        refine w_rq (told_run _ _ (n + 1) _ n o3 hout3) (fun _ => rfl) ?_
        rintro v rfl
        have hr3 := hout3.fz (lo := n) (k := 6) (Nat.le_refl _)
        cases o3 <;> (
          simp only [outV] at hr3 ⊢
          repeat' (first
            | ((with_reducible apply g_op); first
              | ((with_reducible apply g_assign); first
                | ((with_reducible apply w_pure (v := .int _ _)); exact rfl; exact rfl)
                | ((with_reducible apply w_pure (v := .slice _ _ _)); exact rfl; exact rfl)))
            | with_reducible refine w_nil ?_
            | ((with_reducible apply w_ret (v := .tuple #[.slice _ _ _, .int _ _])); exact rfl))
          have e : addGo r l [] false = some (putS acc r) := by rw [← hgo]; rfl
          exact ⟨_, sn_tuple (l := [_, _]) (sn_cons hr3 (sn_cons (sn_plain rfl) sn_nil)), by simp only [addS, hmay, e]; rfl⟩)
      | true =>
        repeat' (first
          | ((with_reducible apply g_op); first
            | ((with_reducible apply g_move); first
              | ((with_reducible apply w_pure (v := .bool _)); exact rfl; exact rfl)
              | ((with_reducible apply w_pure (v := .func _ _ _)); exact rfl; exact rfl))
            | ((with_reducible apply g_bin); first
              | ((with_reducible apply w_pure (v := .bool _)); exact rfl; exact rfl))
            | ((with_reducible apply w_pure (v := .bool _)); exact rfl; exact rfl))
          | with_reducible refine w_seq ?_
          | with_reducible refine w_nil ?_
          | with_reducible refine w_region ?_
          | with_reducible refine w_skip ?_
          | ((with_reducible apply w_exit); exact rfl)
          | ((with_reducible apply w_no); exact rfl)
          | ((with_reducible apply w_ifd); exact rfl; all_goals (intro hc; first | (exfalso; omega) | skip)))
        refine w_rq (told_run _ _ (n + 1) _ n o hout) (fun _ => rfl) ?_
        rintro v rfl
        have hr3 := hout.fz (lo := n) (k := 6) (Nat.le_refl _)
        cases o <;> (
          simp only [outV] at hr3 ⊢
          repeat' (first
            | ((with_reducible apply g_op); first
              | ((with_reducible apply g_assign); first
                | ((with_reducible apply w_pure (v := .int _ _)); exact rfl; exact rfl)
                | ((with_reducible apply w_pure (v := .slice _ _ _)); exact rfl; exact rfl)))
            | with_reducible refine w_nil ?_
            | ((with_reducible apply w_ret (v := .tuple #[.slice _ _ _, .int _ _])); exact rfl))
          have e : addGo r l [] false = some acc := by rw [← hgo]; rfl
          exact ⟨_, sn_tuple (l := [_, _]) (sn_cons hr3 (sn_cons (sn_plain rfl) sn_nil)), by simp only [addS, hmay, e]; rfl⟩)
  · refine ⟨rfl, rfl, rfl, rfl, rfl, rfl, rfl, by first | omega | (dsimp only; omega), rfl, by dsimp only; simp, ⟨rfl, upd_same⟩, (fun k hk => by cases hk), by omega, ?_⟩
    simp (disch := omega) only [upd_same, upd_ne]; rfl
end Go.Proofs.Ytnlgindlmlbfiaa.L

