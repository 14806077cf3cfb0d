/- Place: the program's Free, a range over a function. -/
import Derived.Test.Ythfhlfkcphojkaac13B
namespace Go.Proofs.Ythfhlfkcphojkaa.L
open Go.L1 Go.IntWalk
set_option linter.unusedVariables false
set_option linter.unusedSimpArgs false
set_option maxHeartbeats 4000000
set_option maxRecDepth 20000
theorem better_run (p best : Int) (found : Bool) (pf pb : Nat) (g : Nat → Option Ob) (n m : Nat) (hf : g pf = some (.cells 4 [.bool found])) (hb : g pb = some (.cells 3 [.int .i64 best])) : Rn Try.prog T 22 [.int .i64 p, ptr pf 0, ptr pb 0] g n m (fun v g' n' => v = .bool (!found || decide (p < best)) ∧ g' = g ∧ n' = n) := by
  refine c_quiet Try.func22 rfl rfl rfl rfl rfl ?_
  repeat' (first
    | ((with_reducible apply g_op); first
      | ((with_reducible apply g_load); first
        | ((with_reducible apply w_load (v := .bool _)); exact rfl; (first | assumption | (simp (disch := omega) only [upd_same, upd_ne]; first | done | assumption | exact rfl) | exact rfl); exact rfl))
      | ((with_reducible apply g_move); first
        | ((with_reducible apply w_pure (v := .bool _)); exact rfl; exact rfl))
      | ((with_reducible apply g_assign); first
        | ((with_reducible apply w_pure (v := .bool _)); exact rfl; exact rfl))
      | ((with_reducible apply w_pure (v := .bool _)); exact rfl; exact rfl))
    | with_reducible refine w_seq ?_
    | with_reducible refine w_nil ?_
    | with_reducible refine w_region ?_)
  cases found <;> (
    repeat' (first
      | ((with_reducible apply g_op); first
        | ((with_reducible apply g_load); first
          | ((with_reducible apply w_load (v := .int _ _)); exact rfl; (first | assumption | (simp (disch := omega) only [upd_same, upd_ne]; first | done | assumption | exact rfl) | exact rfl); exact rfl))
        | ((with_reducible apply g_move); first
          | ((with_reducible apply w_pure (v := .int _ _)); exact rfl; exact rfl))
        | ((with_reducible apply g_bin); first
          | ((with_reducible apply w_pure (v := .bool _)); exact rfl; exact rfl))
        | ((with_reducible apply g_assign); first
          | ((with_reducible apply w_pure (v := .bool _)); exact rfl; exact rfl))
        | ((with_reducible apply w_pure (v := .bool _)); exact rfl; exact rfl))
      | ((with_reducible apply g_gd); first
        | ((with_reducible apply w_want); exact rfl)
        | ((with_reducible apply w_pass); exact rfl))
      | with_reducible refine w_nil ?_
      | ((with_reducible apply w_ret (v := .bool _)); exact rfl))
    all_goals exact ⟨rfl, rfl⟩)
theorem ends_run (l : List (Int × Int)) (at_ : List Int) (low : Int) (g : Nat → Option Ob) (n m : Nat) : Rn Try.prog T 23 [wv tg l, iv tg at_, .int .i64 low] g n m (fun v g' n' => v = .func (.func 25) #[] #[ptr (n + 2) 0, ptr (n + 1) 0, ptr n 0] ∧ g' = upd (upd (upd g n (some (.cells 22 [wv tg l]))) (n + 1) (some (.cells 25 [iv tg at_]))) (n + 2) (some (.cells 3 [.int .i64 low])) ∧ n' = n + 3) := by
  refine c_clean Try.func23 rfl rfl rfl rfl rfl rfl ?_
  repeat' (first
    | ((with_reducible apply g_op); first
      | ((with_reducible apply g_assign); first
        | ((with_reducible apply w_pure (v := .func _ _ _)); exact rfl; exact rfl)
        | ((with_reducible apply w_pure (v := .nilFunc)); exact rfl; exact rfl))
      | ((with_reducible apply g_box); first
        | ((with_reducible apply w_box (vs := [.int _ _])); exact rfl; exact rfl)
        | ((with_reducible apply w_box (vs := [.func _ _ _])); exact rfl; exact rfl))
      | ((with_reducible apply w_mkf (cs := [.pointer _, .pointer _, .pointer _])); exact rfl))
    | with_reducible refine w_seq ?_
    | with_reducible refine w_nil ?_
    | with_reducible refine w_region ?_
    | ((with_reducible apply w_ret (v := .func _ _ _)); exact rfl))
  exact ⟨rfl, rfl, rfl⟩
/-- What lies in memory while places are gone through. -/
structure Fs (l : List (Int × Int)) (at_ : List Int) (low high sz : Int) (n : Nat) (s : Int × Bool) (G : Nat → Option Ob) (N : Nat) : Prop where
  h0 : G n = some (.cells 22 [wv tg l])
  h1 : G (n + 1) = some (.cells 25 [iv tg at_])
  h2 : G (n + 2) = some (.cells 3 [.int .i64 low])
  h3 : G (n + 3) = some (.cells 3 [.int .i64 high])
  h4 : G (n + 4) = some (.cells 3 [.int .i64 sz])
  h5 : G (n + 5) = some (.cells 3 [.int .i64 s.1])
  h6 : G (n + 6) = some (.cells 4 [.bool s.2])
  h7 : G (n + 7) = some (.cells 45 [.func (.func 22) #[] #[ptr (n + 6) 0, ptr (n + 5) 0]])
  h8 : G (n + 8) = some (.cells 22 [wv tg l])
  h9 : G (n + 9) = some (.cells 25 [iv tg at_])
  h10 : G (n + 10) = some (.cells 3 [.int .i64 low])
theorem Fs.loop {l : List (Int × Int)} {at_ : List Int} {low high sz : Int} {n : Nat} {s : Int × Bool} {G : Nat → Option Ob} {N N' i : Nat} {o : Option Ob} (h : Fs l at_ low high sz n s G N) (hi : n + 11 ≤ i) : Fs l at_ low high sz n s (upd G i o) N' :=
  ⟨by rw [upd_ne (by omega)]; exact h.h0, by rw [upd_ne (by omega)]; exact h.h1, by rw [upd_ne (by omega)]; exact h.h2, by rw [upd_ne (by omega)]; exact h.h3, by rw [upd_ne (by omega)]; exact h.h4, by rw [upd_ne (by omega)]; exact h.h5, by rw [upd_ne (by omega)]; exact h.h6, by rw [upd_ne (by omega)]; exact h.h7, by rw [upd_ne (by omega)]; exact h.h8, by rw [upd_ne (by omega)]; exact h.h9, by rw [upd_ne (by omega)]; exact h.h10⟩
theorem Fs.best {l : List (Int × Int)} {at_ : List Int} {low high sz : Int} {n : Nat} {s : Int × Bool} {G : Nat → Option Ob} {N N' : Nat} {p : Int} {e1 e2 : TypeId} (h : Fs l at_ low high sz n s G N) (h1 : e1 = 3) (h2 : e2 = 4) : Fs l at_ low high sz n (p, true) (upd (upd G (n + 5) (some (.cells e1 [.int .i64 p]))) (n + 6) (some (.cells e2 [.bool true]))) N' := by
  subst h1 h2
  refine ⟨?_, ?_, ?_, ?_, ?_, ?_, ?_, ?_, ?_, ?_, ?_⟩
  all_goals first
    | exact upd_same
    | (rw [upd_ne (by omega)]; exact upd_same)
    | (rw [upd_ne (by omega), upd_ne (by omega)]; first | exact h.h0 | exact h.h1 | exact h.h2 | exact h.h3 | exact h.h4 | exact h.h7 | exact h.h8 | exact h.h9 | exact h.h10)
theorem free_run (l : List (Int × Int)) (at_ : List Int) (low high size : Int) (hok : Ok l at_) (hrm : roomS low high = true) (hs : 1 ≤ size) :
    Rf Try.prog T 15 [wv tg l, iv tg at_, .int .i64 low, .int .i64 high, .int .i64 size] (fun v => v = .tuple #[.int .i64 (freeS l at_ low high size).1, .bool (freeS l at_ low high size).2]) := by
  have hok' := hok
  obtain ⟨hl, hat, hr⟩ := hok
  obtain ⟨m1, m2, m3, m4, m5⟩ := roomS_iff.1 hrm
  refine c_froz Try.func15 rfl rfl rfl rfl rfl rfl ?_
  intro g n
  repeat' (first
    | ((with_reducible apply g_op); first
      | ((with_reducible apply g_load); first
        | ((with_reducible apply w_load (v := .int _ _)); exact rfl; (first | assumption | (simp (disch := omega) only [upd_same, upd_ne]; first | done | assumption | exact rfl) | exact rfl); exact rfl))
      | ((with_reducible apply g_assign); first
        | ((with_reducible apply w_pure (v := .int _ _)); exact rfl; exact rfl)
        | ((with_reducible apply w_pure (v := .bool _)); exact rfl; exact rfl))
      | ((with_reducible apply g_box); first
        | ((with_reducible apply w_box (vs := [.int _ _])); exact rfl; exact rfl)
        | ((with_reducible apply w_box (vs := [.func _ _ _])); exact rfl; exact rfl)))
    | with_reducible refine w_seq ?_
    | with_reducible refine w_nil ?_
    | with_reducible refine w_region ?_
    | with_reducible refine w_scope ?_)
  refine w_rq (room_run _ _ _ _ _) (fun _ => rfl) ?_
  rintro v rfl
  rw [hrm]
  repeat' (first
    | ((with_reducible apply g_op); first
      | ((with_reducible apply g_move); first
        | ((with_reducible apply w_pure (v := .int _ _)); exact rfl; exact rfl)
        | ((with_reducible apply w_pure (v := .bool _)); exact rfl; exact rfl))
      | ((with_reducible apply g_bin); first
        | ((with_reducible apply w_pure (v := .bool _)); exact rfl; exact rfl))
      | ((with_reducible apply w_pure (v := .bool _)); exact rfl; exact rfl))
    | ((with_reducible apply g_gd); first
      | ((with_reducible apply w_want); exact rfl))
    | with_reducible refine w_seq ?_
    | with_reducible refine w_nil ?_
    | with_reducible refine w_region ?_
    | with_reducible refine w_skip ?_
    | ((with_reducible apply w_ifd); exact rfl; all_goals (intro hc; first | (exfalso; omega) | skip)))
  refine w_rq (round_run _ _ _ _) (fun _ => rfl) ?_
  rintro v rfl
  have hrs := rnd_le size
  repeat' (first
    | ((with_reducible apply g_op); first
      | ((with_reducible apply g_load); first
        | ((with_reducible apply w_load (v := .int _ _)); exact rfl; (first | assumption | (simp (disch := omega) only [upd_same, upd_ne]; first | done | assumption | exact rfl) | exact rfl); exact rfl)
        | ((with_reducible apply w_load (v := .func _ _ _)); exact rfl; (first | assumption | (simp (disch := omega) only [upd_same, upd_ne]; first | done | assumption | exact rfl) | exact rfl); exact rfl))
      | ((with_reducible apply g_store); first
        | ((with_reducible apply w_store (us := [.int _ _]) (ws := [_])); exact rfl; exact rfl; (first | assumption | (simp (disch := omega) only [upd_same, upd_ne]; first | done | assumption | exact rfl) | exact rfl); omega; exact rfl; exact rfl; exact rfl)
        | ((with_reducible apply w_store (us := [.bool _]) (ws := [_])); exact rfl; exact rfl; (first | assumption | (simp (disch := omega) only [upd_same, upd_ne]; first | done | assumption | exact rfl) | exact rfl); omega; exact rfl; exact rfl; exact rfl)
        | ((with_reducible apply w_store (us := [.func _ _ _]) (ws := [_])); exact rfl; exact rfl; (first | assumption | (simp (disch := omega) only [upd_same, upd_ne]; first | done | assumption | exact rfl) | exact rfl); omega; exact rfl; exact rfl; exact rfl))
      | ((with_reducible apply w_alloc (ls := [.int _ _])); exact rfl; exact rfl)
      | ((with_reducible apply w_alloc (ls := [.bool _])); exact rfl; exact rfl)
      | ((with_reducible apply w_alloc (ls := [.nilFunc])); exact rfl; exact rfl)
      | ((with_reducible apply w_mkf (cs := [.pointer _, .pointer _])); exact rfl))
    | with_reducible refine w_seq ?_
    | with_reducible refine w_nil ?_
    | with_reducible refine w_region ?_
    | with_reducible refine w_label ?_)
  refine w_rn (ends_run l at_ low _ _ _) (fun _ => rfl) ?_
  rintro _ _ _ ⟨rfl, rfl, rfl⟩
  repeat' (first
    | with_reducible refine w_nil ?_
    | with_reducible refine w_block ?_)
  refine w_gen (fun G N => Fs l at_ low high (rnd size) n (0, false) G N ∧ N = n + 11) ⟨⟨?_, ?_, ?_, ?_, ?_, ?_, ?_, ?_, ?_, ?_, ?_⟩, rfl⟩ ?_
  iterate 11 (focus (repeat (first | exact upd_at (by omega) | refine (upd_ne (by omega)).trans ?_)))
  rintro G _ ⟨hG, rfl⟩
  refine w_env fun τ hτ => ?_
  have k5 : τ 5 = ptr n 0 := hτ 5
  have k6 : τ 6 = ptr (n + 1) 0 := hτ 6
  have k7 : τ 7 = ptr (n + 2) 0 := hτ 7
  have k8 : τ 8 = ptr (n + 3) 0 := hτ 8
  have k12 : τ 12 = ptr (n + 4) 0 := hτ 12
  have k13 : τ 13 = ptr (n + 5) 0 := hτ 13
  have k14 : τ 14 = ptr (n + 6) 0 := hτ 14
  have k15 : τ 15 = ptr (n + 7) 0 := hτ 15
  refine w_rangeE (vs := [.func (.yield (n + 11)) #[] #[], ptr (n + 10) 0, ptr (n + 9) 0, ptr (n + 8) 0]) (hτ 31) rfl (by kernel_rfl) ?_
  intro ca cb G1 hca hcb hL hG1
  have round : ∀ (p : Int) (s : Int × Bool) (g : Nat → Option Ob) (N : Nat) (K : Bool → (Nat → Option Ob) → Nat → Prop), 0 ≤ p → p ≤ 4398046511104 → Fs l at_ low high (rnd size) n s g N → g (n + 11) = some (.loop τ [32] ca cb .ready none) →
      (∀ g' N', N ≤ N' → Fs l at_ low high (rnd size) n (stepS l at_ low high (rnd size) s p) g' N' → g' (n + 11) = some (.loop τ [32] ca cb .ready none) → K true g' N') →
      Go Try.prog T yfn [.code ca, .beg (n + 11), .code cb, .yend] (put (some 32) (.int .i64 p) τ) g N n (Yq (n + 11) K) := by
    rintro p ⟨s1, s2⟩ g N K hp0 hp1 hF hL hK
    obtain ⟨h0, h1, h2, h3, h4, h5, h6, h7, h8, h9, h10⟩ := id hF
    dsimp only at h5 h6
    rw [hca, hcb]
    refine w_keep (i := 5) k5 (w_keep (i := 6) k6 (w_keep (i := 7) k7 (w_keep (i := 8) k8 (w_keep (i := 12) k12 (w_keep (i := 13) k13 (w_keep (i := 14) k14 (w_keep (i := 15) k15 ?_)))))))
    repeat' (first
      | ((with_reducible apply g_op); first
        | ((with_reducible apply g_assign); first
          | ((with_reducible apply w_pure (v := .int _ _)); exact rfl; exact rfl)))
      | with_reducible refine w_nil ?_
      | with_reducible refine w_region ?_)
    refine w_beg hL ?_
    have hF1 := hF.loop (i := n + 11) (o := some (.loop τ [32] ca cb .busy none)) (N' := N) (Nat.le_refl _)
    have hL1 : upd g (n + 11) (some (.loop τ [32] ca cb .busy none)) (n + 11) = some (.loop τ [32] ca cb .busy none) := upd_same
    generalize upd g (n + 11) (some (.loop τ [32] ca cb .busy none)) = g1 at *
    clear h0 h1 h2 h3 h4 h5 h6 h7 h8 h9 h10
    obtain ⟨h0, h1, h2, h3, h4, h5, h6, h7, h8, h9, h10⟩ := id hF1
    dsimp only at h5 h6
    repeat' (first
      | ((with_reducible apply g_op); first
        | ((with_reducible apply g_load); first
          | ((with_reducible apply w_load (v := .func _ _ _)); exact rfl; (first | assumption | (simp (disch := omega) only [upd_same, upd_ne]; first | done | assumption | exact rfl) | exact rfl); exact rfl))
        | ((with_reducible apply g_move); first
          | ((with_reducible apply w_pure (v := .int _ _)); exact rfl; exact rfl)
          | ((with_reducible apply w_pure (v := .bool _)); exact rfl; exact rfl))
        | ((with_reducible apply g_bin); first
          | ((with_reducible apply w_mod); exact rfl; exact rfl; exact rfl; exact rfl; exact rfl; omega; omega)
          | ((with_reducible apply w_pure (v := .bool _)); exact rfl; exact rfl))
        | ((with_reducible apply g_pick); first
          | ((with_reducible apply w_pk1 (v := .bool _)); exact rfl; exact rfl; (first | assumption | exact decide_eq_true (by assumption) | exact decide_eq_false (by assumption) | exact decide_eq_true (by omega) | exact decide_eq_false (by omega) | exact beq_iff_eq.2 (by omega) | exact beq_eq_false_iff_ne.2 (by omega) | exact bne_iff_ne.2 (by omega) | exact bne_eq_false_iff_eq.2 (by omega))))
        | ((with_reducible apply w_pure (v := .bool _)); exact rfl; exact rfl))
      | ((with_reducible apply g_gd); first
        | ((with_reducible apply w_pass); exact rfl)
        | ((with_reducible apply w_gn_f); exact rfl; all_goals (intro hc; first | (exfalso; omega) | skip)))
      | with_reducible refine w_seq ?_
      | with_reducible refine w_nil ?_
      | with_reducible refine w_region ?_
      | with_reducible refine w_block ?_
      | ((with_reducible apply w_exit); exact rfl)
      | ((with_reducible apply w_yes); exact rfl))
    all_goals first
      | (refine w_yend ⟨τ, [32], ca, cb, .busy, none, hL1, .inl ⟨rfl, hK _ _ (Nat.le_refl _) ?_ upd_same⟩⟩; rw [show stepS l at_ low high (rnd size) _ p = _ from if_neg (by rintro ⟨h, _, _⟩; omega)]; exact hF1.loop (Nat.le_refl _))
      | skip
    refine w_rq (better_run p s1 s2 (n + 6) (n + 5) g1 N n h6 h5) (fun _ => rfl) ?_
    rintro _ rfl
    cases s2
    · repeat' (first
        | ((with_reducible apply g_op); first
          | ((with_reducible apply g_load); first
            | ((with_reducible apply w_load (v := .int _ _)); exact rfl; (first | assumption | (simp (disch := omega) only [upd_same, upd_ne]; first | done | assumption | exact rfl) | exact rfl); exact rfl)
            | ((with_reducible apply w_load (v := .func _ _ _)); exact rfl; (first | assumption | (simp (disch := omega) only [upd_same, upd_ne]; first | done | assumption | exact rfl) | exact rfl); exact rfl))
          | ((with_reducible apply g_move); first
            | ((with_reducible apply w_pure (v := .int _ _)); exact rfl; exact rfl)
            | ((with_reducible apply w_pure (v := .bool _)); exact rfl; exact rfl))
          | ((with_reducible apply g_pick); first
            | ((with_reducible apply w_pk0 (v := .bool _)); exact rfl; exact rfl; (first | assumption | exact decide_eq_true (by assumption) | exact decide_eq_false (by assumption) | exact decide_eq_true (by omega) | exact decide_eq_false (by omega) | exact beq_iff_eq.2 (by omega) | exact beq_eq_false_iff_ne.2 (by omega) | exact bne_iff_ne.2 (by omega) | exact bne_eq_false_iff_eq.2 (by omega))))
          | ((with_reducible apply w_pure (v := .bool _)); exact rfl; exact rfl))
        | ((with_reducible apply g_gd); first
          | ((with_reducible apply w_want); exact rfl)
          | ((with_reducible apply w_gn_f); exact rfl; all_goals (intro hc; first | (exfalso; omega) | skip))))
      refine w_rf (fits_run l at_ low high p (rnd size) hok' (by omega) (by omega) (by omega) (by omega) (by omega) (by omega) (by omega) (by omega)) (fun _ => rfl) (sn_cons wv_sn (sn_cons iv_sn (sn_cons (sn_plain rfl) (sn_cons (sn_plain rfl) (sn_cons (sn_plain rfl) (sn_cons (sn_plain rfl) sn_nil)))))) ?_
      rintro _ rfl
      repeat' (first
        | ((with_reducible apply g_op); first
          | ((with_reducible apply w_pure (v := .bool _)); exact rfl; exact rfl))
        | ((with_reducible apply g_gd); first
          | ((with_reducible apply w_want); exact rfl))
        | with_reducible refine w_nil ?_)
      have hst : ∀ s, stepS l at_ low high (rnd size) s p = if p % 64 = 0 ∧ (s.2 = false ∨ p < s.1) ∧ fitsS l at_ low high p (rnd size) = true then (p, true) else s := fun _ => rfl
      generalize fitsS l at_ low high p (rnd size) = F at *
      cases F
      · repeat' (first
          | ((with_reducible apply w_exit); exact rfl)
          | ((with_reducible apply w_yes); exact rfl))
        refine w_yend ⟨τ, [32], ca, cb, .busy, none, hL1, .inl ⟨rfl, hK _ _ (Nat.le_refl _) ?_ upd_same⟩⟩
        rw [hst, if_neg (by rintro ⟨_, _, h⟩; cases h)]
        exact hF1.loop (Nat.le_refl _)
      · repeat' (first
          | ((with_reducible apply g_op); first
            | ((with_reducible apply g_move); first
              | ((with_reducible apply w_pure (v := .int _ _)); exact rfl; exact rfl))
            | ((with_reducible apply g_store); first
              | ((with_reducible apply w_store (us := [.int _ _]) (ws := [_])); exact rfl; exact rfl; (first | assumption | (simp (disch := omega) only [upd_same, upd_ne]; first | done | assumption | exact rfl) | exact rfl); omega; exact rfl; exact rfl; exact rfl)
              | ((with_reducible apply w_store (us := [.bool _]) (ws := [_])); exact rfl; exact rfl; (first | assumption | (simp (disch := omega) only [upd_same, upd_ne]; first | done | assumption | exact rfl) | exact rfl); omega; exact rfl; exact rfl; exact rfl)))
          | with_reducible refine w_nil ?_
          | with_reducible refine w_region ?_
          | with_reducible refine w_skip ?_
          | with_reducible refine w_blk ?_
          | ((with_reducible apply w_no); exact rfl))
        refine w_yend ⟨τ, [32], ca, cb, .busy, none, (upd_ne (by omega)).trans ((upd_ne (by omega)).trans hL1), .inl ⟨rfl, hK _ _ (Nat.le_refl _) ?_ upd_same⟩⟩
        rw [hst, if_pos (by exact ⟨by omega, .inl rfl, rfl⟩)]
        exact (hF1.best (N' := N) rfl rfl).loop (Nat.le_refl _)
    · repeat' (first
        | ((with_reducible apply g_op); first
          | ((with_reducible apply g_load); first
            | ((with_reducible apply w_load (v := .int _ _)); exact rfl; (first | assumption | (simp (disch := omega) only [upd_same, upd_ne]; first | done | assumption | exact rfl) | exact rfl); exact rfl)
            | ((with_reducible apply w_load (v := .func _ _ _)); exact rfl; (first | assumption | (simp (disch := omega) only [upd_same, upd_ne]; first | done | assumption | exact rfl) | exact rfl); exact rfl))
          | ((with_reducible apply g_move); first
            | ((with_reducible apply w_pure (v := .int _ _)); exact rfl; exact rfl)
            | ((with_reducible apply w_pure (v := .bool _)); exact rfl; exact rfl))
          | ((with_reducible apply g_pick); first
            | ((with_reducible apply w_pk1 (v := .bool _)); exact rfl; exact rfl; (first | assumption | exact decide_eq_true (by assumption) | exact decide_eq_false (by assumption) | exact decide_eq_true (by omega) | exact decide_eq_false (by omega) | exact beq_iff_eq.2 (by omega) | exact beq_eq_false_iff_ne.2 (by omega) | exact bne_iff_ne.2 (by omega) | exact bne_eq_false_iff_eq.2 (by omega)))
            | ((with_reducible apply w_pk0 (v := .bool _)); exact rfl; exact rfl; (first | assumption | exact decide_eq_true (by assumption) | exact decide_eq_false (by assumption) | exact decide_eq_true (by omega) | exact decide_eq_false (by omega) | exact beq_iff_eq.2 (by omega) | exact beq_eq_false_iff_ne.2 (by omega) | exact bne_iff_ne.2 (by omega) | exact bne_eq_false_iff_eq.2 (by omega))))
          | ((with_reducible apply w_notd); exact rfl))
        | ((with_reducible apply g_gd); first
          | ((with_reducible apply w_gd_f); exact rfl; all_goals (intro hc; first | (exfalso; omega) | skip))
          | ((with_reducible apply w_gn_f); exact rfl; all_goals (intro hc; first | (exfalso; omega) | skip)))
        | with_reducible refine w_nil ?_
        | ((with_reducible apply w_exit); exact rfl)
        | ((with_reducible apply w_yes); exact rfl))
      all_goals first
        | (refine w_yend ⟨τ, [32], ca, cb, .busy, none, hL1, .inl ⟨rfl, hK _ _ (Nat.le_refl _) ?_ upd_same⟩⟩; rw [show stepS l at_ low high (rnd size) _ p = _ from if_neg (by rintro ⟨_, h, _⟩; rcases h with h | h; { cases h }; { omega })]; exact hF1.loop (Nat.le_refl _))
        | skip
      refine w_rf (fits_run l at_ low high p (rnd size) hok' (by omega) (by omega) (by omega) (by omega) (by omega) (by omega) (by omega) (by omega)) (fun _ => rfl) (sn_cons wv_sn (sn_cons iv_sn (sn_cons (sn_plain rfl) (sn_cons (sn_plain rfl) (sn_cons (sn_plain rfl) (sn_cons (sn_plain rfl) sn_nil)))))) ?_
      rintro _ rfl
      repeat' (first
        | ((with_reducible apply g_op); first
          | ((with_reducible apply g_pick); first
            | ((with_reducible apply w_pk0 (v := .bool _)); exact rfl; exact rfl; (first | assumption | exact decide_eq_true (by assumption) | exact decide_eq_false (by assumption) | exact decide_eq_true (by omega) | exact decide_eq_false (by omega) | exact beq_iff_eq.2 (by omega) | exact beq_eq_false_iff_ne.2 (by omega) | exact bne_iff_ne.2 (by omega) | exact bne_eq_false_iff_eq.2 (by omega))))
          | ((with_reducible apply w_pure (v := .bool _)); exact rfl; exact rfl))
        | ((with_reducible apply g_gd); first
          | ((with_reducible apply w_gd_f); exact rfl; all_goals (intro hc; first | (exfalso; omega) | skip)))
        | with_reducible refine w_nil ?_)
      have hst : ∀ s, stepS l at_ low high (rnd size) s p = if p % 64 = 0 ∧ (s.2 = false ∨ p < s.1) ∧ fitsS l at_ low high p (rnd size) = true then (p, true) else s := fun _ => rfl
      generalize fitsS l at_ low high p (rnd size) = F at *
      cases F
      · repeat' (first
          | ((with_reducible apply w_exit); exact rfl)
          | ((with_reducible apply w_yes); exact rfl))
        refine w_yend ⟨τ, [32], ca, cb, .busy, none, hL1, .inl ⟨rfl, hK _ _ (Nat.le_refl _) ?_ upd_same⟩⟩
        rw [hst, if_neg (by rintro ⟨_, _, h⟩; cases h)]
        exact hF1.loop (Nat.le_refl _)
      · repeat' (first
          | ((with_reducible apply g_op); first
            | ((with_reducible apply g_move); first
              | ((with_reducible apply w_pure (v := .int _ _)); exact rfl; exact rfl))
            | ((with_reducible apply g_store); first
              | ((with_reducible apply w_store (us := [.int _ _]) (ws := [_])); exact rfl; exact rfl; (first | assumption | (simp (disch := omega) only [upd_same, upd_ne]; first | done | assumption | exact rfl) | exact rfl); omega; exact rfl; exact rfl; exact rfl)
              | ((with_reducible apply w_store (us := [.bool _]) (ws := [_])); exact rfl; exact rfl; (first | assumption | (simp (disch := omega) only [upd_same, upd_ne]; first | done | assumption | exact rfl) | exact rfl); omega; exact rfl; exact rfl; exact rfl)))
          | with_reducible refine w_nil ?_
          | with_reducible refine w_region ?_
          | with_reducible refine w_skip ?_
          | with_reducible refine w_blk ?_
          | ((with_reducible apply w_no); exact rfl))
        refine w_yend ⟨τ, [32], ca, cb, .busy, none, (upd_ne (by omega)).trans ((upd_ne (by omega)).trans hL1), .inl ⟨rfl, hK _ _ (Nat.le_refl _) ?_ upd_same⟩⟩
        rw [hst, if_pos (by exact ⟨by omega, .inr (by omega), rfl⟩)]
        exact (hF1.best (N' := N) rfl rfl).loop (Nat.le_refl _)
  have hF1 : Fs l at_ low high (rnd size) n (0, false) G1 (n + 12) := ⟨by rw [hG1 _ (by omega)]; exact hG.h0, by rw [hG1 _ (by omega)]; exact hG.h1, by rw [hG1 _ (by omega)]; exact hG.h2, by rw [hG1 _ (by omega)]; exact hG.h3, by rw [hG1 _ (by omega)]; exact hG.h4, by rw [hG1 _ (by omega)]; exact hG.h5, by rw [hG1 _ (by omega)]; exact hG.h6, by rw [hG1 _ (by omega)]; exact hG.h7, by rw [hG1 _ (by omega)]; exact hG.h8, by rw [hG1 _ (by omega)]; exact hG.h9, by rw [hG1 _ (by omega)]; exact hG.h10⟩
  have j8 := hF1.h8
  have j9 := hF1.h9
  have j10 := hF1.h10
  refine c_open Try.func25 rfl rfl rfl rfl rfl rfl ?_
  repeat' (first
    | ((with_reducible apply g_op); first
      | ((with_reducible apply g_load); first
        | ((with_reducible apply w_load (v := .int _ _)); exact rfl; (first | assumption | (simp (disch := omega) only [upd_same, upd_ne]; first | done | assumption | exact rfl) | exact rfl); exact rfl))
      | ((with_reducible apply g_move); first
        | ((with_reducible apply w_pure (v := .func _ _ _)); exact rfl; exact rfl)))
    | with_reducible refine w_seq ?_
    | with_reducible refine w_region ?_)
  refine w_yield rfl rfl hL (by omega) rfl (by rw [hca]; rfl) ?_
  refine round low (0, false) G1 _ _ (by omega) (by omega) hF1 hL ?_
  intro g' N' hN hF hL
  have j8 := hF.h8
  have j9 := hF.h9
  have j10 := hF.h10
  repeat' (first
    | ((with_reducible apply g_op); first
      | ((with_reducible apply g_load); first
        | ((with_reducible apply w_load (v := .func _ _ _)); exact rfl; (first | assumption | (simp (disch := omega) only [upd_same, upd_ne]; first | done | assumption | exact rfl) | exact rfl); exact rfl))
      | ((with_reducible apply g_move); first
        | ((with_reducible apply w_pure (v := .int _ _)); exact rfl; exact rfl))
      | ((with_reducible apply g_call); first
        | ((with_reducible apply w_min); exact rfl; exact rfl)
        | ((with_reducible apply w_call (v := .int _ _)); exact rfl))
      | ((with_reducible apply w_pure (v := .bool _)); exact rfl; exact rfl))
    | with_reducible refine w_seq ?_
    | with_reducible refine w_nil ?_
    | with_reducible refine w_region ?_
    | with_reducible refine w_skip ?_
    | with_reducible refine w_block ?_
    | ((with_reducible apply w_no); exact rfl))
  refine w_cntK [(5, 5), (15, 32)] (min at_.length l.length) (fun i s σ g' n' => σ 15 = .int .i64 (i : Nat) ∧ n + 12 ≤ n' ∧ s = ((cands l at_ low).take (i + 1)).foldl (stepS l at_ low high (rnd size)) (0, false) ∧ Fs l at_ low high (rnd size) n s g' n' ∧ g' (n + 11) = some (.loop τ [32] ca cb .ready none)) ?_ ?_ (stepS l at_ low high (rnd size) (0, false) low) ⟨rfl, hN, by simp [cands], hF, hL⟩
  · clear hF hL j8 j9 j10
    rintro i s σ g2 n2 hi ⟨k15, hN2, hsd, hF, hL⟩ ih
    obtain ⟨w, hw⟩ : ∃ w, l[i]? = some w := ⟨_, List.getElem?_eq_getElem (by omega)⟩
    obtain ⟨q, hq⟩ : ∃ q, at_[i]? = some q := ⟨_, List.getElem?_eq_getElem (by omega)⟩
    have hcc := cands_get (low := low) hw hq
    have hst := foldl_take (f := stepS l at_ low high (rnd size)) (b := (0, false)) hcc
    rw [← hsd] at hst
    have hqr := hr q (List.mem_of_getElem? hq)
    have hr1 := rnd_le w.1
    have j8 := hF.h8
    have j9 := hF.h9
    have j10 := hF.h10
    refine w_keep (i := 15) k15 ?_
    repeat' (first
      | ((with_reducible apply g_op); first
        | ((with_reducible apply g_load); first
          | ((with_reducible apply w_fl (v := .int _ _)); exact rfl; exact (fun _ => rfl); assumption; exact rfl)
          | ((with_reducible apply w_load (v := .func _ _ _)); exact rfl; (first | assumption | (simp (disch := omega) only [upd_same, upd_ne]; first | done | assumption | exact rfl) | exact rfl); exact rfl))
        | ((with_reducible apply g_move); first
          | ((with_reducible apply w_pure (v := .int _ _)); exact rfl; exact rfl)
          | ((with_reducible apply w_pure (v := .func _ _ _)); exact rfl; exact rfl))
        | ((with_reducible apply g_bin); first
          | ((with_reducible apply w_pure (v := .bool _)); exact rfl; exact rfl))
        | ((with_reducible apply g_fld); first
          | ((with_reducible apply w_ffld (o := 0)); exact rfl; exact rfl; exact rfl; exact (by decide)))
        | ((with_reducible apply g_assign); first
          | ((with_reducible apply w_pure (v := .int _ _)); exact rfl; exact rfl))
        | ((with_reducible apply g_ix); first
          | ((with_reducible apply w_fx (sz := 1)); exact rfl; exact rfl; exact rfl; exact rfl; exact rfl; exact (fun _ => rfl); assumption; exact rfl)
          | ((with_reducible apply w_fx (sz := 2)); exact rfl; exact rfl; exact rfl; exact rfl; exact rfl; exact (fun _ => rfl); assumption; exact rfl)))
      | with_reducible refine w_seq ?_
      | with_reducible refine w_nil ?_
      | with_reducible refine w_region ?_
      | with_reducible refine w_skip ?_
      | with_reducible refine w_block ?_
      | ((with_reducible apply w_draw); kernel_rfl; kernel_rfl)
      | ((with_reducible apply w_ifd); exact rfl; all_goals (intro hc; first | (exfalso; omega) | skip)))
    refine w_rq (round_run _ _ _ _) (fun _ => rfl) ?_
    rintro v rfl
    repeat' (first
      | ((with_reducible apply g_op); first
        | ((with_reducible apply g_bin); first
          | ((with_reducible apply w_wrap); exact rfl; exact rfl; first | exact i64_in _ (by omega) | exact u64_in _ (by omega) | exact u8_in _ (by omega)))))
    refine w_yield rfl rfl hL (by omega) rfl (by rw [hca]; rfl) ?_
    refine round (q + rnd w.1) s g2 _ _ (by omega) (by omega) hF hL ?_
    intro g3 n3 hN3 hF3 hL3
    repeat' (first
      | ((with_reducible apply g_op); first
        | ((with_reducible apply g_move); first
          | ((with_reducible apply w_pure (v := .int _ _)); exact rfl; exact rfl))
        | ((with_reducible apply g_bin); first
          | ((with_reducible apply w_wrap); exact rfl; exact rfl; first | exact i64_in _ (by omega) | exact u64_in _ (by omega) | exact u8_in _ (by omega)))
        | ((with_reducible apply w_pure (v := .bool _)); exact rfl; exact rfl))
      | with_reducible refine w_nil ?_
      | with_reducible refine w_region ?_
      | with_reducible refine w_skip ?_
      | with_reducible refine w_blk ?_
      | ((with_reducible apply w_no); exact rfl))
    exact ih _ _ _ _ (by repeat' (first | with_reducible exact Fr.mix | with_reducible exact Fr.rfl' | with_reducible refine Fr.put ?_ ?_ | with_reducible refine Fr.mix2 ?_ ?_ | with_reducible refine Fr.put0 ?_ | exact rfl)) ⟨rfl, by omega, hst.symm, hF3, hL3⟩
  · clear hF hL j8 j9 j10
    rintro s σ g2 n2 ⟨k15, hN2, hsd, hF, hL⟩
    rw [List.take_of_length_le (by rw [cands_len]; exact Nat.le_refl _)] at hsd
    have j8 := hF.h8
    refine w_keep (i := 15) k15 ?_
    repeat' (first
      | ((with_reducible apply g_op); first
        | ((with_reducible apply g_bin); first
          | ((with_reducible apply w_pure (v := .bool _)); exact rfl; exact rfl)))
      | with_reducible refine w_seq ?_
      | with_reducible refine w_nil ?_
      | with_reducible refine w_region ?_
      | ((with_reducible apply w_exit); exact rfl)
      | ((with_reducible apply w_ifd); exact rfl; all_goals (intro hc; first | (exfalso; omega) | skip))
      | ((with_reducible apply w_end (v := .tuple #[])); exact rfl))
    refine ⟨τ, [32], ca, cb, .ready, none, hL, by simp, .inl ⟨rfl, ?_⟩⟩
    have hF2 := hF.loop (i := n + 11) (o := none) (N' := n2) (Nat.le_refl _)
    generalize upd g2 (n + 11) none = g3 at *
    obtain ⟨s1, s2⟩ := s
    have j5 := hF2.h5
    have j6 := hF2.h6
    dsimp only at j5 j6
    refine w_keep (i := 13) k13 (w_keep (i := 14) k14 ?_)
    repeat' (first
      | ((with_reducible apply g_op); first
        | ((with_reducible apply g_load); first
          | ((with_reducible apply w_load (v := .int _ _)); exact rfl; (first | assumption | (simp (disch := omega) only [upd_same, upd_ne]; first | done | assumption | exact rfl) | exact rfl); exact rfl)
          | ((with_reducible apply w_load (v := .bool _)); exact rfl; (first | assumption | (simp (disch := omega) only [upd_same, upd_ne]; first | done | assumption | exact rfl) | exact rfl); exact rfl))
        | ((with_reducible apply g_assign); first
          | ((with_reducible apply w_pure (v := .int _ _)); exact rfl; exact rfl)
          | ((with_reducible apply w_pure (v := .bool _)); exact rfl; exact rfl)))
      | with_reducible refine w_seq ?_
      | with_reducible refine w_nil ?_
      | with_reducible refine w_blk ?_
      | ((with_reducible apply w_draw); kernel_rfl; kernel_rfl)
      | ((with_reducible apply w_ret (v := .tuple #[.int _ _, .bool _])); exact rfl))
    exact fr_plain rfl (by unfold freeS; rw [← hsd])
end Go.Proofs.Ythfhlfkcphojkaa.L

