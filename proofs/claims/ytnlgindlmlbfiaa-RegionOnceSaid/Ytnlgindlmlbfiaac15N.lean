/- The reference: Covers, Protect, Add: as the program's. -/
import Derived.Test.Ytnlgindlmlbfiaac15M
namespace Go.Proofs.Ytnlgindlmlbfiaa.L
open Go.L1 Go.IntWalk
set_option linter.unusedVariables false
set_option linter.unusedSimpArgs false
set_option maxHeartbeats 4000000
set_option maxRecDepth 20000
theorem at_has {l : List Rg} (hl : Can l) (q : Nat) : (pgAt l q).2 = true ↔ ∃ v, Has l q v := by
  obtain ⟨h1, h2⟩ := pgAt_ok hl q
  constructor
  · intro h; exact ⟨_, (h1 h).2.2.2⟩
  · rintro ⟨v, hv⟩
    cases hb : (pgAt l q).2 with
    | true => rfl
    | false => exact absurd hv (h2 hb v)
theorem has_in {l : List Rg} (hl : Can l) {p : Int} {v} (h : Has l p v) : 0 ≤ p ∧ p < 4096 := by
  obtain ⟨x, hx, hi, _⟩ := h
  have := hl.pos hx
  unfold In at hi
  omega
theorem rcovers_run (l : List Rg) (f t : Int) (hl : Can l) : Rf Try.prog T 26 [rv tg l, .int .i64 f, .int .i64 t] (fun v => v = .bool (coversS l f t)) := by
  refine c_froz Try.func26 rfl rfl rfl rfl rfl rfl ?_
  intro g n
  have hll := lenR hl
  by_cases h1 : f ≥ t
  · have hc : coversS l f t = true := (covers_iff hl).2 fun q a b => by omega
    rw [hc]
    repeat' (first
      | ((with_reducible apply g_op); first
        | ((with_reducible apply g_move); first
          | ((with_reducible apply w_pure (v := .int _ _)); exact rfl; exact rfl))
        | ((with_reducible apply g_bin); first
          | ((with_reducible apply w_pure (v := .bool _)); exact rfl; exact rfl))
        | ((with_reducible apply g_assign); first
          | ((with_reducible apply w_pure (v := .bool _)); exact rfl; exact rfl)))
      | with_reducible refine w_seq ?_
      | with_reducible refine w_nil ?_
      | with_reducible refine w_region ?_
      | ((with_reducible apply w_ifd); exact rfl; all_goals (intro hc; first | (exfalso; omega) | skip))
      | ((with_reducible apply w_ret (v := .bool _)); exact rfl))
    exact fr_plain rfl rfl
  · by_cases h2 : f < 0 ∨ t > 4096
    · have hc : coversS l f t = false := by
        cases hb : coversS l f t with
        | false => rfl
        | true =>
          have hh := (covers_iff hl).1 hb
          by_cases h3 : f < 0
          · obtain ⟨v, hv⟩ := hh f (Int.le_refl _) (by omega)
            have := has_in hl hv; omega
          · obtain ⟨v, hv⟩ := hh (t - 1) (by omega) (by omega)
            have := has_in hl hv; omega
      rw [hc]
      repeat' (first
        | ((with_reducible apply g_op); first
          | ((with_reducible apply g_move); first
            | ((with_reducible apply w_pure (v := .int _ _)); exact rfl; exact rfl)
            | ((with_reducible apply w_pure (v := .bool _)); exact rfl; exact rfl))
          | ((with_reducible apply g_bin); first
            | ((with_reducible apply w_pure (v := .bool _)); exact rfl; exact rfl))
          | ((with_reducible apply g_pick); first
            | ((with_reducible apply w_pk1 (v := .bool _)); exact rfl; exact rfl; (first | assumption | exact decide_eq_true (by assumption) | exact decide_eq_false (by assumption) | exact decide_eq_true (by omega) | exact decide_eq_false (by omega) | exact beq_iff_eq.2 (by omega) | exact beq_eq_false_iff_ne.2 (by omega) | exact bne_iff_ne.2 (by omega) | exact bne_eq_false_iff_eq.2 (by omega)))
            | ((with_reducible apply w_pk0 (v := .bool _)); exact rfl; exact rfl; (first | assumption | exact decide_eq_true (by assumption) | exact decide_eq_false (by assumption) | exact decide_eq_true (by omega) | exact decide_eq_false (by omega) | exact beq_iff_eq.2 (by omega) | exact beq_eq_false_iff_ne.2 (by omega) | exact bne_iff_ne.2 (by omega) | exact bne_eq_false_iff_eq.2 (by omega))))
          | ((with_reducible apply g_assign); first
            | ((with_reducible apply w_pure (v := .bool _)); exact rfl; exact rfl)))
        | ((with_reducible apply g_gd); first
          | ((with_reducible apply w_gd_f); exact rfl; all_goals (intro hc; first | (exfalso; omega) | skip)))
        | with_reducible refine w_seq ?_
        | with_reducible refine w_nil ?_
        | with_reducible refine w_region ?_
        | with_reducible refine w_skip ?_
        | ((with_reducible apply w_yes); exact rfl)
        | ((with_reducible apply w_ifd); exact rfl; all_goals (intro hc; first | (exfalso; omega) | skip))
        | ((with_reducible apply w_ret (v := .bool _)); exact rfl))
      all_goals first | (exfalso; omega) | exact fr_plain rfl rfl
    · obtain ⟨f', rfl⟩ : ∃ f' : Nat, f = (f' : Int) := ⟨f.toNat, by omega⟩
      repeat' (first
        | ((with_reducible apply g_op); first
          | ((with_reducible apply g_move); first
            | ((with_reducible apply w_pure (v := .int _ _)); exact rfl; exact rfl)
            | ((with_reducible apply w_pure (v := .bool _)); exact rfl; exact rfl)
            | ((with_reducible apply w_pure (v := .func _ _ _)); exact rfl; exact rfl))
          | ((with_reducible apply g_bin); first
            | ((with_reducible apply w_pure (v := .bool _)); exact rfl; exact rfl))
          | ((with_reducible apply g_pick); first
            | ((with_reducible apply w_pk0 (v := .bool _)); exact rfl; exact rfl; (first | assumption | exact decide_eq_true (by assumption) | exact decide_eq_false (by assumption) | exact decide_eq_true (by omega) | exact decide_eq_false (by omega) | exact beq_iff_eq.2 (by omega) | exact beq_eq_false_iff_ne.2 (by omega) | exact bne_iff_ne.2 (by omega) | exact bne_eq_false_iff_eq.2 (by omega))))
          | ((with_reducible apply g_assign); first
            | ((with_reducible apply w_pure (v := .bool _)); exact rfl; exact rfl)))
        | ((with_reducible apply g_gd); first
          | ((with_reducible apply w_want); exact rfl))
        | with_reducible refine w_seq ?_
        | with_reducible refine w_nil ?_
        | with_reducible refine w_region ?_
        | with_reducible refine w_skip ?_
        | ((with_reducible apply w_ifd); exact rfl; all_goals (intro hc; first | (exfalso; omega) | skip)))
      refine w_rn (spread_run l hl (by omega) g n n) (fun _ => rfl) ?_
      rintro _ g1 n1 ⟨rfl, ⟨PS, hP, hg1⟩, hfr, hn1⟩
      repeat' (first
        | ((with_reducible apply g_op); first
          | ((with_reducible apply g_move); first
            | ((with_reducible apply w_pure (v := .int _ _)); exact rfl; exact rfl))
          | ((with_reducible apply g_assign); first
            | ((with_reducible apply w_pure (v := .int _ _)); exact rfl; exact rfl)
            | ((with_reducible apply w_pure (v := .slice _ _ _)); exact rfl; exact rfl)))
        | with_reducible refine w_seq ?_
        | with_reducible refine w_nil ?_
        | with_reducible refine w_region ?_
        | with_reducible refine w_block ?_)
      refine w_whileK [(6, 6), (8, 8), (21, 31)] (α := Nat) (fun p σ g' n' => σ 8 = .int .i64 (p : Nat) ∧ g' n = some (.cells 60 (PS.flatMap pgc)) ∧ f' ≤ p ∧ (p : Int) ≤ t ∧ (∀ q, f' ≤ q → q < p → (pgAt l q).2 = true)) (fun p => t.toNat - p) ?_ f' ⟨rfl, hg1, Nat.le_refl _, by omega, fun q a b => by omega⟩
      rintro p σ g2 n2 ⟨k8, hg2, hp1, hp2, hall⟩ ih
      refine w_keep (i := 8) k8 ?_
      by_cases hpt : (p : Int) < t
      · have hp4 : p < 4096 := by omega
        have hpp := hP.at_ p hp4
        cases hb : (pgAt l p).2 with
        | true =>
          repeat' (first
            | ((with_reducible apply g_op); first
              | ((with_reducible apply g_move); first
                | ((with_reducible apply w_pure (v := .int _ _)); exact rfl; exact rfl)
                | ((with_reducible apply w_pure (v := .slice _ _ _)); exact rfl; exact rfl))
              | ((with_reducible apply g_bin); first
                | ((with_reducible apply w_pure (v := .bool _)); exact rfl; exact rfl))
              | ((with_reducible apply g_fld); first
                | ((with_reducible apply w_fldp (o := 6)); exact rfl; exact rfl; exact rfl; exact (by decide)))
              | ((with_reducible apply g_ix); first
                | ((with_reducible apply w_ixr (sz := 7)); exact rfl; exact rfl; exact rfl; exact rfl; omega; omega)))
            | with_reducible refine w_seq ?_
            | with_reducible refine w_nil ?_
            | with_reducible refine w_region ?_
            | with_reducible refine w_skip ?_
            | with_reducible refine w_block ?_
            | ((with_reducible apply w_ifd); exact rfl; all_goals (intro hc; first | (exfalso; omega) | skip)))
          refine w_load (v := .bool true) rfl hg2 (by rw [show 0 + ((p : Int)).toNat * 7 + 6 = p * 7 + 6 by omega]; exact part_flat pgc_len hpp (by rw [part_one (by kernel_rfl)]; show some (Value.bool (pgAt l p).2) = _; rw [hb])) ?_
          repeat' (first
            | ((with_reducible apply g_op); first
              | ((with_reducible apply g_move); first
                | ((with_reducible apply w_pure (v := .int _ _)); exact rfl; exact rfl))
              | ((with_reducible apply g_bin); first
                | ((with_reducible apply w_wrap); exact rfl; exact rfl; first | exact i64_in _ (by omega) | exact u64_in _ (by omega) | exact u8_in _ (by omega)))
              | ((with_reducible apply g_assign); first
                | ((with_reducible apply w_pure (v := .int _ _)); exact rfl; exact rfl))
              | ((with_reducible apply w_pure (v := .bool _)); exact rfl; exact rfl))
            | with_reducible refine w_nil ?_
            | with_reducible refine w_region ?_
            | with_reducible refine w_skip ?_
            | with_reducible refine w_blk ?_
            | ((with_reducible apply w_no); exact rfl))
          exact ih (p + 1) _ _ _ (by omega) (by repeat' (first | with_reducible exact Fr.mix | with_reducible exact Fr.rfl' | with_reducible refine Fr.put ?_ ?_ | with_reducible refine Fr.mix2 ?_ ?_ | with_reducible refine Fr.put0 ?_ | exact rfl)) ⟨by push_cast; rfl, hg2, by omega, by omega, fun q a b => by
            by_cases e : q = p
            · subst e; exact hb
            · exact hall q a (by omega)⟩
        | false =>
          have hc : coversS l f' t = false := by
            cases hbb : coversS l f' t with
            | false => rfl
            | true =>
              have := (at_has hl p).2 ((covers_iff hl).1 hbb p (by omega) hpt)
              rw [hb] at this; cases this
          rw [hc]
          repeat' (first
            | ((with_reducible apply g_op); first
              | ((with_reducible apply g_move); first
                | ((with_reducible apply w_pure (v := .int _ _)); exact rfl; exact rfl)
                | ((with_reducible apply w_pure (v := .slice _ _ _)); exact rfl; exact rfl))
              | ((with_reducible apply g_bin); first
                | ((with_reducible apply w_pure (v := .bool _)); exact rfl; exact rfl))
              | ((with_reducible apply g_fld); first
                | ((with_reducible apply w_fldp (o := 6)); exact rfl; exact rfl; exact rfl; exact (by decide)))
              | ((with_reducible apply g_ix); first
                | ((with_reducible apply w_ixr (sz := 7)); exact rfl; exact rfl; exact rfl; exact rfl; omega; omega)))
            | with_reducible refine w_seq ?_
            | with_reducible refine w_nil ?_
            | with_reducible refine w_region ?_
            | with_reducible refine w_skip ?_
            | with_reducible refine w_block ?_
            | ((with_reducible apply w_ifd); exact rfl; all_goals (intro hc; first | (exfalso; omega) | skip)))
          refine w_load (v := .bool false) rfl hg2 (by rw [show 0 + ((p : Int)).toNat * 7 + 6 = p * 7 + 6 by omega]; exact part_flat pgc_len hpp (by rw [part_one (by kernel_rfl)]; show some (Value.bool (pgAt l p).2) = _; rw [hb])) ?_
          repeat' (first
            | ((with_reducible apply g_op); first
              | ((with_reducible apply g_assign); first
                | ((with_reducible apply w_pure (v := .bool _)); exact rfl; exact rfl))
              | ((with_reducible apply w_pure (v := .bool _)); exact rfl; exact rfl))
            | with_reducible refine w_seq ?_
            | with_reducible refine w_nil ?_
            | with_reducible refine w_region ?_
            | ((with_reducible apply w_yes); exact rfl)
            | ((with_reducible apply w_ret (v := .bool _)); exact rfl))
          exact fr_plain rfl rfl
      · have hc : coversS l f' t = true := (covers_iff hl).2 fun q a b => by
          have := (at_has hl q.toNat).1 (hall q.toNat (by omega) (by omega))
          rwa [show ((q.toNat : Nat) : Int) = q by omega] at this
        rw [hc]
        repeat' (first
          | ((with_reducible apply g_op); first
            | ((with_reducible apply g_move); first
              | ((with_reducible apply w_pure (v := .int _ _)); exact rfl; exact rfl))
            | ((with_reducible apply g_bin); first
              | ((with_reducible apply w_pure (v := .bool _)); exact rfl; exact rfl))
            | ((with_reducible apply g_assign); first
              | ((with_reducible apply w_pure (v := .bool _)); exact rfl; exact rfl)))
          | with_reducible refine w_seq ?_
          | with_reducible refine w_nil ?_
          | with_reducible refine w_region ?_
          | ((with_reducible apply w_exit); exact rfl)
          | ((with_reducible apply w_ifd); exact rfl; all_goals (intro hc; first | (exfalso; omega) | skip))
          | ((with_reducible apply w_ret (v := .bool _)); exact rfl))
        exact fr_plain rfl rfl
theorem prot_same {l : List Rg} (hl : Can l) {f t p : Int} (hp : 0 ≤ p ∧ p ≤ 7) {PS : List PG} (h : Pgs PS (fun q => if f ≤ (q : Int) ∧ (q : Int) < t then (perm (pgAt l q).1 p, (pgAt l q).2) else pgAt l q)) : rowS PS = protGo p f t l [] := by
  obtain ⟨r1, r2⟩ := row_can h (fun q hq hb => by
    split at hb
    · rename_i hn
      rw [if_pos hn]
      obtain ⟨a, b, c, _⟩ := (pgAt_ok hl q).1 hb
      refine ⟨a, b, ?_⟩
      rw [may_iff] at c ⊢
      unfold perm
      simp only at c ⊢
      omega
    · rename_i hn; rw [if_neg hn]; obtain ⟨a, b, c, _⟩ := (pgAt_ok hl q).1 hb; exact ⟨a, b, c⟩)
  obtain ⟨c1, c2⟩ := prot_can (p := p) (f := f) (t := t) hp hl Can.nil (fun a ha => by cases ha)
  refine Can.ext r1 c1 fun q v => ?_
  rw [r2, c2]
  constructor
  · rintro ⟨q', h1, rfl, h3, h4⟩
    right
    split at h3
    · rename_i hn
      rw [if_pos hn] at h4
      refine ⟨tagOf (pgAt l q').1, ((pgAt_ok hl q').1 h3).2.2.2, ?_⟩
      unfold perV
      rw [if_pos hn, ← h4]; rfl
    · rename_i hn
      rw [if_neg hn] at h4
      exact ⟨tagOf (pgAt l q').1, ((pgAt_ok hl q').1 h3).2.2.2, by unfold perV; rw [if_neg hn]; exact h4⟩
  · rintro (h | ⟨w, h, h'⟩)
    · exact absurd h Has.nil
    · obtain ⟨q', h1, rfl, h3, h4⟩ := (pg_has hl).1 h
      refine ⟨q', h1, rfl, ?_, ?_⟩
      · split <;> exact h3
      · unfold perV at h'
        by_cases hn : f ≤ (q' : Int) ∧ (q' : Int) < t
        · rw [if_pos hn] at h' ⊢
          rw [← h', ← h4]; rfl
        · rw [if_neg hn] at h' ⊢
          rw [h4]; exact h'
theorem rprot_run (l : List Rg) (f t p : Int) (hl : Can l) : Rf Try.prog T 31 [rv tg l, .int .i64 f, .int .i64 t, .int .i64 p] (fun v => v = .tuple #[rv #[] (protS l f t p).1, .int .i64 (protS l f t p).2]) := by
  refine c_froz Try.func31 rfl rfl rfl rfl rfl rfl ?_
  intro g n
  have hll := lenR hl
  obtain ⟨R, hR⟩ : ∃ R, R = protS l f t p := ⟨_, rfl⟩
  rw [← hR]
  unfold protS at hR
  by_cases h1 : p < 0 ∨ p > 7 ∨ f ≥ t
  · rw [if_pos h1] at hR
    subst hR
    repeat' (first
      | ((with_reducible apply g_op); first
        | ((with_reducible apply g_move); first
          | ((with_reducible apply w_pure (v := .int _ _)); exact rfl; exact rfl)
          | ((with_reducible apply w_pure (v := .bool _)); exact rfl; exact rfl))
        | ((with_reducible apply g_bin); first
          | ((with_reducible apply w_pure (v := .bool _)); exact rfl; exact rfl))
        | ((with_reducible apply g_pick); first
          | ((with_reducible apply w_pk1 (v := .bool _)); exact rfl; exact rfl; (first | assumption | exact decide_eq_true (by assumption) | exact decide_eq_false (by assumption) | exact decide_eq_true (by omega) | exact decide_eq_false (by omega) | exact beq_iff_eq.2 (by omega) | exact beq_eq_false_iff_ne.2 (by omega) | exact bne_iff_ne.2 (by omega) | exact bne_eq_false_iff_eq.2 (by omega)))
          | ((with_reducible apply w_pk0 (v := .bool _)); exact rfl; exact rfl; (first | assumption | exact decide_eq_true (by assumption) | exact decide_eq_false (by assumption) | exact decide_eq_true (by omega) | exact decide_eq_false (by omega) | exact beq_iff_eq.2 (by omega) | exact beq_eq_false_iff_ne.2 (by omega) | exact bne_iff_ne.2 (by omega) | exact bne_eq_false_iff_eq.2 (by omega))))
        | ((with_reducible apply g_assign); first
          | ((with_reducible apply w_pure (v := .int _ _)); exact rfl; exact rfl)
          | ((with_reducible apply w_pure (v := .slice _ _ _)); exact rfl; exact rfl))
        | ((with_reducible apply w_pure (v := .bool _)); exact rfl; exact rfl))
      | ((with_reducible apply g_gd); first
        | ((with_reducible apply w_pass); exact rfl)
        | ((with_reducible apply w_gd_f); exact rfl; all_goals (intro hc; first | (exfalso; omega) | skip)))
      | with_reducible refine w_seq ?_
      | with_reducible refine w_nil ?_
      | with_reducible refine w_region ?_
      | ((with_reducible apply w_yes); exact rfl)
      | ((with_reducible apply w_ifd); exact rfl; all_goals (intro hc; first | (exfalso; omega) | skip))
      | ((with_reducible apply w_ret (v := .tuple #[.slice _ _ _, .int _ _])); exact rfl))
    all_goals first | (exfalso; omega) | exact ⟨_, sn_tuple (l := [_, _]) (sn_cons sn_none (sn_cons (sn_plain rfl) sn_nil)), rfl⟩
  · rw [if_neg h1] at hR
    repeat' (first
      | ((with_reducible apply g_op); first
        | ((with_reducible apply g_move); first
          | ((with_reducible apply w_pure (v := .int _ _)); exact rfl; exact rfl)
          | ((with_reducible apply w_pure (v := .bool _)); exact rfl; exact rfl)
          | ((with_reducible apply w_pure (v := .func _ _ _)); exact rfl; exact rfl))
        | ((with_reducible apply g_bin); first
          | ((with_reducible apply w_pure (v := .bool _)); exact rfl; exact rfl))
        | ((with_reducible apply g_pick); first
          | ((with_reducible apply w_pk0 (v := .bool _)); exact rfl; exact rfl; (first | assumption | exact decide_eq_true (by assumption) | exact decide_eq_false (by assumption) | exact decide_eq_true (by omega) | exact decide_eq_false (by omega) | exact beq_iff_eq.2 (by omega) | exact beq_eq_false_iff_ne.2 (by omega) | exact bne_iff_ne.2 (by omega) | exact bne_eq_false_iff_eq.2 (by omega))))
        | ((with_reducible apply g_assign); first
          | ((with_reducible apply w_pure (v := .int _ _)); exact rfl; exact rfl)
          | ((with_reducible apply w_pure (v := .slice _ _ _)); exact rfl; exact rfl)))
      | ((with_reducible apply g_gd); first
        | ((with_reducible apply w_gd_f); exact rfl; all_goals (intro hc; first | (exfalso; omega) | skip)))
      | with_reducible refine w_seq ?_
      | with_reducible refine w_nil ?_
      | with_reducible refine w_region ?_
      | with_reducible refine w_skip ?_
      | ((with_reducible apply w_ifd); exact rfl; all_goals (intro hc; first | (exfalso; omega) | skip)))
    all_goals first | (exfalso; omega) | skip
    refine w_rf (rcovers_run l f t hl) (fun _ => rfl) (sn_cons rv_sn (sn_cons (sn_plain rfl) (sn_cons (sn_plain rfl) sn_nil))) ?_
    rintro _ rfl
    cases hc : coversS l f t with
    | false =>
      rw [hc, if_neg (by simp)] at hR
      subst hR
      repeat' (first
        | ((with_reducible apply g_op); first
          | ((with_reducible apply g_move); first
            | ((with_reducible apply w_pure (v := .bool _)); exact rfl; exact rfl))
          | ((with_reducible apply g_assign); first
            | ((with_reducible apply w_pure (v := .int _ _)); exact rfl; exact rfl)
            | ((with_reducible apply w_pure (v := .bool _)); exact rfl; exact rfl)
            | ((with_reducible apply w_pure (v := .slice _ _ _)); exact rfl; exact rfl))
          | ((with_reducible apply w_pure (v := .bool _)); exact rfl; exact rfl))
        | with_reducible refine w_seq ?_
        | with_reducible refine w_nil ?_
        | with_reducible refine w_region ?_
        | ((with_reducible apply w_yes); exact rfl)
        | ((with_reducible apply w_ret (v := .tuple #[.slice _ _ _, .int _ _])); exact rfl))
      exact ⟨_, sn_tuple (l := [_, _]) (sn_cons sn_none (sn_cons (sn_plain rfl) sn_nil)), rfl⟩
    | true =>
      rw [hc, if_pos rfl] at hR
      subst hR
      have hcv := (covers_iff hl).1 hc
      have hf0 : 0 ≤ f := by obtain ⟨v, hv⟩ := hcv f (Int.le_refl _) (by omega); exact (has_in hl hv).1
      have ht4 : t ≤ 4096 := by obtain ⟨v, hv⟩ := hcv (t - 1) (by omega) (by omega); have := (has_in hl hv).2; omega
      obtain ⟨f', rfl⟩ : ∃ f' : Nat, f = (f' : Int) := ⟨f.toNat, by omega⟩
      repeat' (first
        | ((with_reducible apply g_op); first
          | ((with_reducible apply g_move); first
            | ((with_reducible apply w_pure (v := .bool _)); exact rfl; exact rfl)
            | ((with_reducible apply w_pure (v := .func _ _ _)); exact rfl; exact rfl))
          | ((with_reducible apply g_assign); first
            | ((with_reducible apply w_pure (v := .bool _)); exact rfl; exact rfl))
          | ((with_reducible apply w_pure (v := .bool _)); exact rfl; exact rfl))
        | with_reducible refine w_seq ?_
        | with_reducible refine w_nil ?_
        | with_reducible refine w_region ?_
        | with_reducible refine w_skip ?_
        | ((with_reducible apply w_no); exact rfl))
      refine w_rn (spread_run l hl (by omega) g n n) (fun _ => rfl) ?_
      rintro _ g1 n1 ⟨rfl, ⟨PS0, hP0, hg1⟩, hfr, hn1⟩
      repeat' (first
        | ((with_reducible apply g_op); first
          | ((with_reducible apply g_move); first
            | ((with_reducible apply w_pure (v := .int _ _)); exact rfl; exact rfl))
          | ((with_reducible apply g_assign); first
            | ((with_reducible apply w_pure (v := .int _ _)); exact rfl; exact rfl)
            | ((with_reducible apply w_pure (v := .slice _ _ _)); exact rfl; exact rfl)))
        | with_reducible refine w_seq ?_
        | with_reducible refine w_nil ?_
        | with_reducible refine w_region ?_
        | with_reducible refine w_block ?_)
      refine w_whileK [(12, 12), (33, 43)] (α := Nat × List PG) (fun b σ g' n' => σ 12 = .int .i64 (b.1 : Nat) ∧ g' n = some (.cells 60 (b.2.flatMap pgc)) ∧ f' ≤ b.1 ∧ (b.1 : Int) ≤ t ∧ Pgs b.2 (fun q => if f' ≤ q ∧ q < b.1 then (perm (pgAt l q).1 p, (pgAt l q).2) else pgAt l q) ∧ n < n') (fun b => t.toNat - b.1) ?_ (f', PS0) ⟨rfl, hg1, Nat.le_refl _, by dsimp only; omega, hP0.fn (fun q hq => by rw [if_neg (by dsimp only; omega)]), hn1⟩
      rintro ⟨i, PS⟩ σ g2 n2 ⟨k12, hg2, hi1, hi2, hP, hn2⟩ ih
      dsimp only at k12 hg2 hi1 hi2 hP
      refine w_keep (i := 12) k12 ?_
      by_cases hit : (i : Int) < t
      · have hpi := hP.at_ i (by omega)
        rw [if_neg (by omega)] at hpi
        have hset := hP.set i (perm (pgAt l i).1 p, (pgAt l i).2)
        repeat' (first
          | ((with_reducible apply g_op); first
            | ((with_reducible apply g_move); first
              | ((with_reducible apply w_pure (v := .int _ _)); exact rfl; exact rfl)
              | ((with_reducible apply w_pure (v := .slice _ _ _)); exact rfl; exact rfl))
            | ((with_reducible apply g_bin); first
              | ((with_reducible apply w_pure (v := .bool _)); exact rfl; exact rfl))
            | ((with_reducible apply g_fld); first
              | ((with_reducible apply w_fldp (o := 0)); exact rfl; exact rfl; exact rfl; exact (by decide))
              | ((with_reducible apply w_fldp (o := 2)); exact rfl; exact rfl; exact rfl; exact (by decide)))
            | ((with_reducible apply g_ix); first
              | ((with_reducible apply w_ixr (sz := 7)); exact rfl; exact rfl; exact rfl; exact rfl; omega; omega)))
          | with_reducible refine w_seq ?_
          | with_reducible refine w_nil ?_
          | with_reducible refine w_region ?_
          | with_reducible refine w_skip ?_
          | with_reducible refine w_block ?_
          | ((with_reducible apply w_ifd); exact rfl; all_goals (intro hc; first | (exfalso; omega) | skip)))
        refine w_store (us := [.int .i64 p]) (ws := (PS.set i (perm (pgAt l i).1 p, (pgAt l i).2)).flatMap pgc) rfl rfl hg2 (by omega) rfl rfl (by rw [show 0 + ((i : Int)).toNat * 7 + 0 + 2 = i * 7 + 2 by omega]; exact wr_flat (enc := pgc) (sz := 7) (c := 2) (us := [.int .i64 p]) (y := pgAt l i) (y' := (perm (pgAt l i).1 p, (pgAt l i).2)) pgc_len (show 3 ≤ 7 by decide) rfl hpi) ?_
        repeat' (first
          | ((with_reducible apply g_op); first
            | ((with_reducible apply g_move); first
              | ((with_reducible apply w_pure (v := .int _ _)); exact rfl; exact rfl))
            | ((with_reducible apply g_bin); first
              | ((with_reducible apply w_wrap); exact rfl; exact rfl; first | exact i64_in _ (by omega) | exact u64_in _ (by omega) | exact u8_in _ (by omega)))
            | ((with_reducible apply g_assign); first
              | ((with_reducible apply w_pure (v := .int _ _)); exact rfl; exact rfl)))
          | with_reducible refine w_nil ?_
          | with_reducible refine w_region ?_
          | with_reducible refine w_blk ?_)
        exact ih (i + 1, _) _ _ _ (by dsimp only; omega) (by repeat' (first | with_reducible exact Fr.mix | with_reducible exact Fr.rfl' | with_reducible refine Fr.put ?_ ?_ | with_reducible refine Fr.mix2 ?_ ?_ | with_reducible refine Fr.put0 ?_ | exact rfl)) ⟨by push_cast; rfl, upd_same, by dsimp only; omega, by dsimp only; omega, hset.fn (fun q hq => by
          by_cases e : q = i
          · subst e; rw [if_pos rfl, if_pos (by dsimp only; omega)]
          · rw [if_neg e]
            by_cases h : f' ≤ q ∧ q < i
            · rw [if_pos h, if_pos (by dsimp only; omega)]
            · rw [if_neg h, if_neg (by dsimp only; omega)]), hn2⟩
      · have hP2 : Pgs PS (fun q => if (f' : Int) ≤ (q : Int) ∧ (q : Int) < t then (perm (pgAt l q).1 p, (pgAt l q).2) else pgAt l q) := hP.fn (fun q hq => by
          by_cases h : f' ≤ q ∧ q < i
          · rw [if_pos h, if_pos (by omega)]
          · rw [if_neg h, if_neg (by omega)])
        have hok : ∀ pg ∈ PS, pg.2 = true → pg.1.f < pg.1.t := fun pg hm hb => by
          obtain ⟨q, hq⟩ := List.mem_iff_getElem?.1 hm
          have hq4 : q < 4096 := by have := (List.getElem?_eq_some_iff.1 hq).1; rw [hP.len] at this; exact this
          rw [hP2.at_ q hq4] at hq
          cases hq
          split at hb
          · rename_i hn; rw [if_pos hn]; obtain ⟨a, b, _⟩ := (pgAt_ok hl q).1 hb; show (pgAt l q).1.f < (pgAt l q).1.t; omega
          · rename_i hn; rw [if_neg hn]; obtain ⟨a, b, _⟩ := (pgAt_ok hl q).1 hb; omega
        repeat' (first
          | ((with_reducible apply g_op); first
            | ((with_reducible apply g_move); first
              | ((with_reducible apply w_pure (v := .int _ _)); exact rfl; exact rfl)
              | ((with_reducible apply w_pure (v := .slice _ _ _)); exact rfl; exact rfl))
            | ((with_reducible apply g_bin); first
              | ((with_reducible apply w_pure (v := .bool _)); exact rfl; exact rfl)))
          | with_reducible refine w_seq ?_
          | with_reducible refine w_nil ?_
          | with_reducible refine w_region ?_
          | ((with_reducible apply w_exit); exact rfl)
          | ((with_reducible apply w_ifd); exact rfl; all_goals (intro hc; first | (exfalso; omega) | skip)))
        refine w_rf (row_run' PS hP.len hok) (fun _ => rfl) (sn_cons (pg_sn hg2 hP.len (Nat.zero_le _)) sn_nil) ?_
        rintro _ rfl
        rw [prot_same hl (by omega) hP2]
        repeat' (first
          | ((with_reducible apply g_op); first
            | ((with_reducible apply g_assign); first
              | ((with_reducible apply w_pure (v := .int _ _)); exact rfl; exact rfl)
              | ((with_reducible apply w_pure (v := .func _ _ _)); exact rfl; exact rfl)))
          | with_reducible refine w_nil ?_
          | ((with_reducible apply w_ret (v := .tuple #[.func _ _ _, .int _ _])); exact rfl))
        exact ⟨_, sn_tuple (l := [_, _]) (sn_cons rv_sn (sn_cons (sn_plain rfl) sn_nil)), rfl⟩
end Go.Proofs.Ytnlgindlmlbfiaa.L

