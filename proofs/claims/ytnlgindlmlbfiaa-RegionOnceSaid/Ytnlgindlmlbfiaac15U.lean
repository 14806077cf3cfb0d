/- region.Check; a row put together of single pages. -/
import Derived.Test.Ytnlgindlmlbfiaac15S
namespace Go.Proofs.Ytnlgindlmlbfiaa.L
open Go.L1 Go.IntWalk
set_option linter.unusedVariables false
set_option linter.unusedSimpArgs false
set_option maxHeartbeats 4000000
set_option maxRecDepth 20000
theorem check_run (l : List Rg) (hl : Can l) (hll : l.length ≤ 5000) : Rf Try.prog T 14 [rv tg l] (fun v => v = .int .i64 0) := by
  refine c_froz Try.func14 rfl rfl rfl rfl rfl rfl ?_
  intro g n
  repeat' (first
    | ((with_reducible apply g_op); first
      | ((with_reducible apply g_move); first
        | ((with_reducible apply w_pure (v := .int _ _)); exact rfl; exact rfl)
        | ((with_reducible apply w_pure (v := .func _ _ _)); exact rfl; exact rfl))
      | ((with_reducible apply g_assign); first
        | ((with_reducible apply w_pure (v := .int _ _)); exact rfl; exact rfl))
      | ((with_reducible apply g_call); first
        | ((with_reducible apply w_call (v := .int _ _)); exact rfl)))
    | with_reducible refine w_seq ?_
    | with_reducible refine w_nil ?_
    | with_reducible refine w_region ?_
    | with_reducible refine w_block ?_)
  refine w_cntK [(2, 4), (7, 39)] l.length (fun i (_ : Unit) σ g' n' => σ 7 = .int .i64 (i : Nat) ∧ n ≤ n') ?_ ?_ () ⟨rfl, Nat.le_refl _⟩
  · rintro i _ σ g2 n2 hi ⟨k7, hn2⟩ ih
    refine w_keep (i := 7) k7 ?_
    obtain ⟨x, hx⟩ : ∃ x, l[i]? = some x := ⟨_, List.getElem?_eq_getElem hi⟩
    have hxm : x ∈ l := List.mem_of_getElem? hx
    have hm := hl.may x hxm
    have hpx := hl.pos hxm
    obtain ⟨xf, xt, xp, xk, xl, xg⟩ := x
    dsimp only at hpx
    repeat' (first
      | ((with_reducible apply g_op); first
        | ((with_reducible apply g_load); first
          | ((with_reducible apply w_fl (v := .agg #[_, _, _, _, _, _])); exact rfl; exact (fun _ => rfl); assumption; exact rfl)
          | ((with_reducible apply w_load (v := .agg #[_, _, _, _, _, _])); exact rfl; (first | assumption | (simp (disch := omega) only [upd_same, upd_ne]; first | done | assumption | exact rfl) | exact rfl); exact rfl))
        | ((with_reducible apply g_move); first
          | ((with_reducible apply w_pure (v := .int _ _)); exact rfl; exact rfl))
        | ((with_reducible apply g_bin); first
          | ((with_reducible apply w_pure (v := .bool _)); exact rfl; exact rfl))
        | ((with_reducible apply g_assign); first
          | ((with_reducible apply w_pure (v := .int _ _)); exact rfl; exact rfl))
        | ((with_reducible apply g_store); first
          | ((with_reducible apply w_store (us := [_, _, _, _, _, _]) (ws := [_, _, _, _, _, _])); exact rfl; exact rfl; (first | assumption | (simp (disch := omega) only [upd_same, upd_ne]; first | done | assumption | exact rfl) | exact rfl); omega; exact rfl; exact rfl; exact rfl))
        | ((with_reducible apply g_ix); first
          | ((with_reducible apply w_fx (sz := 6)); exact rfl; exact rfl; exact rfl; exact rfl; exact rfl; exact (fun _ => rfl); assumption; exact rfl))
        | ((with_reducible apply w_alloc (ls := [_, _, _, _, _, _])); exact rfl; exact rfl))
      | with_reducible refine w_seq ?_
      | with_reducible refine w_nil ?_
      | with_reducible refine w_region ?_
      | with_reducible refine w_skip ?_
      | with_reducible refine w_block ?_
      | ((with_reducible apply w_draw); kernel_rfl; kernel_rfl)
      | ((with_reducible apply w_ifd); exact rfl; all_goals (intro hc; first | (exfalso; omega) | skip)))
    refine w_rq (may_run ⟨xf, xt, xp, xk, xl, xg⟩ _ _ _) (fun _ => rfl) ?_
    rintro _ rfl
    rw [hm]
    rcases Nat.eq_zero_or_pos i with h0 | h0
    · subst h0
      repeat' (first
        | ((with_reducible apply g_op); first
          | ((with_reducible apply g_move); first
            | ((with_reducible apply w_pure (v := .int _ _)); exact rfl; exact rfl)
            | ((with_reducible apply w_pure (v := .bool _)); exact rfl; exact rfl))
          | ((with_reducible apply g_bin); first
            | ((with_reducible apply w_wrap); exact rfl; exact rfl; first | exact i64_in _ (by omega) | exact u64_in _ (by omega) | exact u8_in _ (by omega))
            | ((with_reducible apply w_pure (v := .bool _)); exact rfl; exact rfl))
          | ((with_reducible apply g_pick); first
            | ((with_reducible apply w_pk0 (v := .bool _)); exact rfl; exact rfl; (first | assumption | exact decide_eq_true (by assumption) | exact decide_eq_false (by assumption) | exact decide_eq_true (by omega) | exact decide_eq_false (by omega) | exact beq_iff_eq.2 (by omega) | exact beq_eq_false_iff_ne.2 (by omega) | exact bne_iff_ne.2 (by omega) | exact bne_eq_false_iff_eq.2 (by omega))))
          | ((with_reducible apply w_pure (v := .bool _)); exact rfl; exact rfl))
        | ((with_reducible apply g_gd); first
          | ((with_reducible apply w_want); exact rfl)
          | ((with_reducible apply w_pass); exact rfl)
          | ((with_reducible apply w_psn); exact rfl))
        | with_reducible refine w_nil ?_
        | with_reducible refine w_region ?_
        | with_reducible refine w_skip ?_
        | with_reducible refine w_blk ?_
        | ((with_reducible apply w_no); exact rfl))
      exact ih () _ _ _ (by repeat' (first | with_reducible exact Fr.mix | with_reducible exact Fr.rfl' | with_reducible refine Fr.put ?_ ?_ | with_reducible refine Fr.mix2 ?_ ?_ | with_reducible refine Fr.put0 ?_ | exact rfl)) ⟨by push_cast; rfl, by omega⟩
    · obtain ⟨j, hj⟩ : ∃ j, i = j + 1 := ⟨i - 1, by omega⟩
      obtain ⟨y, hy⟩ : ∃ y, l[j]? = some y := ⟨_, List.getElem?_eq_getElem (by omega)⟩
      have hym : y ∈ l := List.mem_of_getElem? hy
      have hap : Apart y ⟨xf, xt, xp, xk, xl, xg⟩ := by
        obtain ⟨g1, e1⟩ := List.getElem?_eq_some_iff.1 hy
        obtain ⟨g2, e2⟩ := List.getElem?_eq_some_iff.1 hx
        have := List.pairwise_iff_getElem.1 hl.pw j i g1 g2 (by omega)
        rw [e1, e2] at this
        exact this
      have hap1 : y.t ≤ xf := hap.1
      have hone : one y ⟨xf, xt, xp, xk, xl, xg⟩ = false := by
        cases h : one y ⟨xf, xt, xp, xk, xl, xg⟩ with
        | false => rfl
        | true => exact absurd ((one_tag (hl.may y hym)).1 h).2 (hap.2 ((one_tag (hl.may y hym)).1 h).1)
      have hji : ((i : Nat) : Int) - 1 = (j : Int) := by omega
      repeat' (first
        | ((with_reducible apply g_op); first
          | ((with_reducible apply g_load); first
            | ((with_reducible apply w_load (v := .int _ _)); exact rfl; (first | assumption | (simp (disch := omega) only [upd_same, upd_ne]; first | done | assumption | exact rfl) | exact rfl); exact rfl))
          | ((with_reducible apply g_move); first
            | ((with_reducible apply w_pure (v := .int _ _)); exact rfl; exact rfl)
            | ((with_reducible apply w_pure (v := .bool _)); exact rfl; exact rfl)
            | ((with_reducible apply w_pure (v := .func _ _ _)); exact rfl; exact rfl))
          | ((with_reducible apply g_bin); first
            | ((with_reducible apply w_wrap); exact rfl; exact rfl; first | exact i64_in _ (by omega) | exact u64_in _ (by omega) | exact u8_in _ (by omega))
            | ((with_reducible apply w_pure (v := .bool _)); exact rfl; exact rfl))
          | ((with_reducible apply g_fld); first
            | ((with_reducible apply w_fldp (o := 0)); exact rfl; exact rfl; exact rfl; exact (by decide)))
          | ((with_reducible apply w_pure (v := .bool _)); exact rfl; exact rfl))
        | ((with_reducible apply g_gd); first
          | ((with_reducible apply w_want); exact rfl)
          | ((with_reducible apply w_gd_t); exact rfl; all_goals (intro hc; first | (exfalso; omega) | skip))))
      refine w_fx (enc := Rg.c) (ls := l) (y := y) (i := j) (sz := 6) rfl rfl rfl rfl hji (fun _ => rfl) hy rfl ?_
      repeat' (first
        | ((with_reducible apply g_op); first
          | ((with_reducible apply g_load); first
            | ((with_reducible apply w_fl (v := .int _ _)); exact rfl; exact (fun _ => rfl); assumption; exact rfl))
          | ((with_reducible apply g_move); first
            | ((with_reducible apply w_pure (v := .int _ _)); exact rfl; exact rfl)
            | ((with_reducible apply w_pure (v := .bool _)); exact rfl; exact rfl)
            | ((with_reducible apply w_pure (v := .func _ _ _)); exact rfl; exact rfl))
          | ((with_reducible apply g_bin); first
            | ((with_reducible apply w_wrap); exact rfl; exact rfl; first | exact i64_in _ (by omega) | exact u64_in _ (by omega) | exact u8_in _ (by omega))
            | ((with_reducible apply w_pure (v := .bool _)); exact rfl; exact rfl))
          | ((with_reducible apply g_fld); first
            | ((with_reducible apply w_ffld (o := 1)); exact rfl; exact rfl; exact rfl; exact (by decide))))
        | ((with_reducible apply g_gd); first
          | ((with_reducible apply w_gd_t); exact rfl; all_goals (intro hc; first | (exfalso; omega) | skip))
          | ((with_reducible apply w_gd_f); exact rfl; all_goals (intro hc; first | (exfalso; omega) | skip))))
      refine w_fx (enc := Rg.c) (ls := l) (y := y) (i := j) (sz := 6) rfl rfl rfl rfl hji (fun _ => rfl) hy rfl ?_
      repeat' (first
        | ((with_reducible apply g_op); first
          | ((with_reducible apply g_load); first
            | ((with_reducible apply w_fl (v := .agg #[_, _, _, _, _, _])); exact rfl; exact (fun _ => rfl); assumption; exact rfl)
            | ((with_reducible apply w_load (v := .agg #[_, _, _, _, _, _])); exact rfl; (first | assumption | (simp (disch := omega) only [upd_same, upd_ne]; first | done | assumption | exact rfl) | exact rfl); exact rfl)))
        | ((with_reducible apply g_gd); first
          | ((with_reducible apply w_gd_f); exact rfl; all_goals (intro hc; first | (exfalso; omega) | skip))))
      refine w_rq (one_run y ⟨xf, xt, xp, xk, xl, xg⟩ _ _ _) (fun _ => rfl) ?_
      rintro _ rfl
      rw [hone]
      repeat' (first
        | ((with_reducible apply g_op); first
          | ((with_reducible apply g_move); first
            | ((with_reducible apply w_pure (v := .int _ _)); exact rfl; exact rfl))
          | ((with_reducible apply g_bin); first
            | ((with_reducible apply w_wrap); exact rfl; exact rfl; first | exact i64_in _ (by omega) | exact u64_in _ (by omega) | exact u8_in _ (by omega)))
          | ((with_reducible apply g_pick); first
            | ((with_reducible apply w_pk1 (v := .bool _)); exact rfl; exact rfl; (first | assumption | exact decide_eq_true (by assumption) | exact decide_eq_false (by assumption) | exact decide_eq_true (by omega) | exact decide_eq_false (by omega) | exact beq_iff_eq.2 (by omega) | exact beq_eq_false_iff_ne.2 (by omega) | exact bne_iff_ne.2 (by omega) | exact bne_eq_false_iff_eq.2 (by omega)))
            | ((with_reducible apply w_pk0 (v := .bool _)); exact rfl; exact rfl; (first | assumption | exact decide_eq_true (by assumption) | exact decide_eq_false (by assumption) | exact decide_eq_true (by omega) | exact decide_eq_false (by omega) | exact beq_iff_eq.2 (by omega) | exact beq_eq_false_iff_ne.2 (by omega) | exact bne_iff_ne.2 (by omega) | exact bne_eq_false_iff_eq.2 (by omega))))
          | ((with_reducible apply w_pure (v := .bool _)); exact rfl; exact rfl))
        | ((with_reducible apply g_gd); first
          | ((with_reducible apply w_want); exact rfl)
          | ((with_reducible apply w_gd_t); exact rfl; all_goals (intro hc; first | (exfalso; omega) | skip)))
        | with_reducible refine w_nil ?_
        | with_reducible refine w_region ?_
        | with_reducible refine w_skip ?_
        | with_reducible refine w_blk ?_
        | ((with_reducible apply w_no); exact rfl))
      exact ih () _ _ _ (by repeat' (first | with_reducible exact Fr.mix | with_reducible exact Fr.rfl' | with_reducible refine Fr.put ?_ ?_ | with_reducible refine Fr.mix2 ?_ ?_ | with_reducible refine Fr.put0 ?_ | exact rfl)) ⟨by push_cast; rfl, by omega⟩
  · rintro _ σ g2 n2 ⟨k7, hn2⟩
    refine w_keep (i := 7) k7 ?_
    repeat' (first
      | ((with_reducible apply g_op); first
        | ((with_reducible apply g_bin); first
          | ((with_reducible apply w_pure (v := .bool _)); exact rfl; exact rfl))
        | ((with_reducible apply g_assign); first
          | ((with_reducible apply w_pure (v := .int _ _)); exact rfl; exact rfl)))
      | with_reducible refine w_seq ?_
      | with_reducible refine w_nil ?_
      | with_reducible refine w_region ?_
      | ((with_reducible apply w_exit); exact rfl)
      | ((with_reducible apply w_ifd); exact rfl; all_goals (intro hc; first | (exfalso; omega) | skip))
      | ((with_reducible apply w_ret (v := .int _ _)); exact rfl))
    exact fr_plain rfl rfl
/-- A region's page. -/
def pg1 (r : Rg) (k : Int) : Rg := ⟨r.f + k, r.f + k + 1, r.p, r.k, r.l, if r.k = 1 then r.g + k else r.g⟩
theorem pg1_may {r : Rg} (hr : may r = true) {k : Int} (h : 0 ≤ k ∧ k < r.t - r.f) : may (pg1 r k) = true ∧ tagOf (pg1 r k) = tagOf r := by
  rw [may_iff] at hr
  refine ⟨?_, ?_⟩
  · rw [may_iff]
    unfold pg1
    simp only
    by_cases hk : r.k = 1
    · rw [if_pos hk]; omega
    · rw [if_neg hk]; omega
  · rw [tag_iff]
    unfold pg1
    simp only
    refine ⟨trivial, trivial, trivial, ?_⟩
    by_cases hk : r.k = 1
    · rw [if_pos hk, if_pos hk, if_pos hk]; omega
    · rw [if_neg hk, if_neg hk]
/-- What a row has when some pages are done. -/
def Made (r : Rg) (n : Nat) (D : List Bool) (l : List Rg) : Prop := Can l ∧ D.length = 16 ∧ ∀ p v, Has l p v ↔ ∃ k : Nat, k < n ∧ D[k]? = some true ∧ p = r.f + k ∧ v = tagOf r
theorem Made.nil (r : Rg) (n : Nat) : Made r n (List.replicate 16 false) [] := by
  refine ⟨Can.nil, rfl, fun p v => ⟨fun h => absurd h Has.nil, ?_⟩⟩
  rintro ⟨k, _, h, _⟩
  rw [List.getElem?_replicate] at h
  split at h <;> cases h
theorem Made.add {r : Rg} {n : Nat} {D : List Bool} {l : List Rg} (hr : may r = true) (hn : (n : Int) = r.t - r.f) (h : Made r n D l) {k : Nat} (hk : k < n) (hd : D[k]? = some false) : (addS l (pg1 r k)).2 = 0 ∧ Made r n (D.set k true) (addS l (pg1 r k)).1 := by
  obtain ⟨hm, ht⟩ := pg1_may hr (k := (k : Int)) (by omega)
  have hD : k < D.length := (List.getElem?_eq_some_iff.1 hd).1
  have hg := addGo_can hm (l := l) (acc := []) (ad := false) h.1 Can.nil (fun a ha => by cases ha) (fun _ a ha => by cases ha) (fun hh => by cases hh)
  unfold addS
  rw [if_pos hm]
  cases hgo : addGo (pg1 r k) l [] false with
  | none =>
    rw [hgo] at hg
    obtain ⟨y, hy, h1, h2⟩ := hg
    have h1 : y.f < r.f + k + 1 := h1
    have h2 : r.f + k < y.t := h2
    obtain ⟨k', _, h3, h4, _⟩ := (h.2.2 (r.f + k) (tagOf y)).1 ⟨y, hy, ⟨by omega, h2⟩, rfl⟩
    have : k' = k := by omega
    subst this
    rw [hd] at h3
    cases h3
  | some rs =>
    rw [hgo] at hg
    obtain ⟨t1, _, t3⟩ := hg
    refine ⟨rfl, t1, by rw [List.length_set]; exact h.2.1, fun p v => ?_⟩
    show Has rs p v ↔ _
    rw [t3, h.2.2]
    have hin : In (pg1 r k) p ↔ p = r.f + k := by
      show r.f + (k : Int) ≤ p ∧ p < r.f + k + 1 ↔ _
      omega
    rw [hin, ht]
    constructor
    · rintro (h | ⟨k', h1, h2, h3, h4⟩ | ⟨_, h1, h2⟩)
      · exact absurd h Has.nil
      · refine ⟨k', h1, ?_, h3, h4⟩
        rw [List.getElem?_set]
        by_cases e : k = k'
        · rw [if_pos e, if_pos (by omega)]
        · rw [if_neg e]; exact h2
      · exact ⟨k, hk, by rw [List.getElem?_set, if_pos rfl, if_pos hD], h1, h2.symm⟩
    · rintro ⟨k', h1, h2, h3, h4⟩
      by_cases e : k = k'
      · exact .inr (.inr ⟨rfl, by rw [h3, e], h4.symm⟩)
      · rw [List.getElem?_set, if_neg e] at h2
        exact .inr (.inl ⟨k', h1, h2, h3, h4⟩)
theorem Made.all {r : Rg} {n : Nat} {D : List Bool} {l : List Rg} (hr : may r = true) (hn : (n : Int) = r.t - r.f) (h : Made r n D l) (hd : ∀ k, k < n → D[k]? = some true) : l = [r] := by
  refine Can.ext h.1 (Can.one hr) fun p v => ?_
  rw [h.2.2, has_one]
  unfold In
  constructor
  · rintro ⟨k, h1, _, h3, h4⟩
    exact ⟨by omega, h4.symm⟩
  · rintro ⟨h1, h2⟩
    exact ⟨(p - r.f).toNat, by omega, hd _ (by omega), by omega, h2.symm⟩
theorem addS_one {r : Rg} (hr : may r = true) : addS [] r = ([r], 0) := by
  have := (may_iff r).1 hr
  have hp : putS [] r = [r] := by unfold putS; rw [if_neg (by omega)]; rfl
  unfold addS
  rw [if_pos hr]
  simp [addGo, hp]
end Go.Proofs.Ytnlgindlmlbfiaa.L

