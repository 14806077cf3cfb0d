/- The reference: Covers, Cut, Protect, Add: as the program's. -/
import Derived.Test.Ytnlgindlmlbfiaac15K
namespace Go.Proofs.Ytnlgindlmlbfiaa.L
open Go.L1 Go.IntWalk
set_option linter.unusedVariables false
set_option linter.unusedSimpArgs false
set_option maxHeartbeats 4000000
set_option maxRecDepth 20000
theorem pg_has {l : List Rg} (hl : Can l) {p : Int} {v} : Has l p v ↔ ∃ q : Nat, q < 4096 ∧ p = q ∧ (pgAt l q).2 = true ∧ tagOf (pgAt l q).1 = v := by
  constructor
  · rintro ⟨x, hx, hi, hv⟩
    have hp := hl.pos hx
    unfold In at hi
    have hh : Has l ((p.toNat : Nat) : Int) v := by rw [show ((p.toNat : Nat) : Int) = p by omega]; exact ⟨x, hx, hi, hv⟩
    obtain ⟨h1, h2⟩ := pgAt_ok hl p.toNat
    refine ⟨p.toNat, by omega, by omega, ?_, ?_⟩
    · cases hb : (pgAt l p.toNat).2 with
      | true => rfl
      | false => exact absurd hh (h2 hb v)
    · cases hb : (pgAt l p.toNat).2 with
      | true => exact hl.fn (h1 hb).2.2.2 hh
      | false => exact absurd hh (h2 hb v)
  · rintro ⟨q, h1, rfl, h3, rfl⟩
    exact ((pgAt_ok hl q).1 h3).2.2.2
theorem lenR {l : List Rg} (hl : Can l) : l.length ≤ 4096 := by
  have key : ∀ (l : List Rg) (a : Int), Can l → 0 ≤ a → a ≤ 4096 → (∀ x ∈ l, a ≤ x.f) → (l.length : Int) ≤ 4096 - a := by
    intro l
    induction l with
    | nil => intro a _ h0 h1 _; simp; omega
    | cons x l ih =>
      intro a hl h0 h1 hx
      have hp := hl.pos (List.mem_cons_self ..)
      have := ih x.t hl.tail (by omega) hp.2.2 (fun y hy => (hl.ahead y hy).1)
      have := hx x (List.mem_cons_self ..)
      simp only [List.length_cons]
      push_cast
      omega
  have := key l 0 hl (by omega) (by omega) (fun x hx => (hl.pos hx).1)
  omega
theorem cut_same {l : List Rg} (hl : Can l) {f t : Int} {PS : List PG} (h : Pgs PS (fun q => if f ≤ (q : Int) ∧ (q : Int) < t then ((pgAt l q).1, false) else pgAt l q)) : rowS PS = cutGo f t l [] := by
  obtain ⟨r1, r2⟩ := row_can h (fun q hq hb => by
    split at hb
    · cases hb
    · rename_i hn; rw [if_neg hn]; obtain ⟨a, b, c, _⟩ := (pgAt_ok hl q).1 hb; exact ⟨a, b, c⟩)
  obtain ⟨c1, c2⟩ := cut_can (f := f) (t := t) hl Can.nil (fun a ha => by cases ha)
  refine Can.ext r1 c1 fun p v => ?_
  rw [r2, c2]
  constructor
  · rintro ⟨q, h1, h2, h3, h4⟩
    split at h3
    · cases h3
    · rename_i hn
      rw [if_neg hn] at h4
      exact .inr ⟨(pg_has hl).2 ⟨q, h1, h2, h3, h4⟩, by rw [h2]; exact hn⟩
  · rintro (h | ⟨h, hn⟩)
    · exact absurd h Has.nil
    · obtain ⟨q, h1, h2, h3, h4⟩ := (pg_has hl).1 h
      rw [h2] at hn
      exact ⟨q, h1, h2, by rw [if_neg hn]; exact h3, by rw [if_neg hn]; exact h4⟩
theorem rcut_run (l : List Rg) (f t : Int) (hl : Can l) : Rf Try.prog T 30 [rv tg l, .int .i64 f, .int .i64 t] (fun v => v = rv #[] (cutGo f t l [])) := by
  refine c_froz Try.func30 rfl rfl rfl rfl rfl rfl ?_
  intro g n
  have hll := lenR hl
  repeat' (first
    | ((with_reducible apply g_op); first
      | ((with_reducible apply g_move); first
        | ((with_reducible apply w_pure (v := .func _ _ _)); exact rfl; exact rfl))
      | ((with_reducible apply g_assign); first
        | ((with_reducible apply w_pure (v := .slice _ _ _)); exact rfl; exact rfl)))
    | with_reducible refine w_seq ?_
    | with_reducible refine w_nil ?_
    | with_reducible refine w_region ?_)
  refine w_rn (spread_run l hl (by omega) g n n) (fun _ => rfl) ?_
  rintro _ g1 n1 ⟨rfl, ⟨PS0, hP0, hg1⟩, hfr, hn1⟩
  repeat' (first
    | ((with_reducible apply g_op); first
      | ((with_reducible apply g_assign); first
        | ((with_reducible apply w_pure (v := .int _ _)); exact rfl; exact rfl)
        | ((with_reducible apply w_pure (v := .slice _ _ _)); exact rfl; exact rfl)))
    | with_reducible refine w_seq ?_
    | with_reducible refine w_nil ?_
    | with_reducible refine w_region ?_
    | with_reducible refine w_block ?_)
  refine w_cntK [(8, 8), (11, 26)] 4096 (fun i (PS : List PG) σ g' n' => σ 8 = .int .i64 (i : Nat) ∧ g' n = some (.cells 60 (PS.flatMap pgc)) ∧ Pgs PS (fun q => if (f ≤ (q : Int) ∧ (q : Int) < t) ∧ q < i then ((pgAt l q).1, false) else pgAt l q) ∧ n < n') ?_ ?_ PS0 ⟨rfl, hg1, hP0.fn (fun q hq => by rw [if_neg (by omega)]), hn1⟩
  · rintro i PS σ g2 n2 hi ⟨k8, hg2, hP, hn2⟩ ih
    refine w_keep (i := 8) k8 ?_
    by_cases hin : f ≤ (i : Int) ∧ (i : Int) < t
    · have hpi := hP.at_ i hi
      rw [if_neg (by omega)] at hpi
      have hset := hP.set i ((pgAt l i).1, false)
      repeat' (first
        | ((with_reducible apply g_op); first
          | ((with_reducible apply g_move); first
            | ((with_reducible apply w_pure (v := .int _ _)); exact rfl; exact rfl)
            | ((with_reducible apply w_pure (v := .bool _)); exact rfl; exact rfl)
            | ((with_reducible apply w_pure (v := .slice _ _ _)); exact rfl; exact rfl))
          | ((with_reducible apply g_bin); first
            | ((with_reducible apply w_pure (v := .bool _)); exact rfl; exact rfl))
          | ((with_reducible apply g_fld); first
            | ((with_reducible apply w_fldp (o := 6)); exact rfl; exact rfl; exact rfl; exact (by decide)))
          | ((with_reducible apply g_pick); first
            | ((with_reducible apply w_pk1 (v := .bool _)); exact rfl; exact rfl; (first | assumption | exact decide_eq_true (by assumption) | exact decide_eq_false (by assumption) | exact decide_eq_true (by omega) | exact decide_eq_false (by omega) | exact beq_iff_eq.2 (by omega) | exact beq_eq_false_iff_ne.2 (by omega) | exact bne_iff_ne.2 (by omega) | exact bne_eq_false_iff_eq.2 (by omega))))
          | ((with_reducible apply g_ix); first
            | ((with_reducible apply w_ixr (sz := 7)); exact rfl; exact rfl; exact rfl; exact rfl; omega; omega)))
        | ((with_reducible apply g_gd); first
          | ((with_reducible apply w_gd_t); exact rfl; all_goals (intro hc; first | (exfalso; omega) | skip)))
        | with_reducible refine w_seq ?_
        | with_reducible refine w_nil ?_
        | with_reducible refine w_region ?_
        | with_reducible refine w_skip ?_
        | with_reducible refine w_block ?_
        | ((with_reducible apply w_ifd); exact rfl; all_goals (intro hc; first | (exfalso; omega) | skip)))
      refine w_store (us := [.bool false]) (ws := (PS.set i ((pgAt l i).1, false)).flatMap pgc) rfl rfl hg2 (by omega) rfl rfl (by rw [show 0 + ((i : Int)).toNat * 7 + 6 = i * 7 + 6 by omega]; exact wr_flat (enc := pgc) (sz := 7) (c := 6) (us := [.bool false]) (y := pgAt l i) (y' := ((pgAt l i).1, false)) pgc_len (show 7 ≤ 7 by decide) rfl hpi) ?_
      repeat' (first
        | ((with_reducible apply g_op); first
          | ((with_reducible apply g_move); first
            | ((with_reducible apply w_pure (v := .int _ _)); exact rfl; exact rfl))
          | ((with_reducible apply g_bin); first
            | ((with_reducible apply w_wrap); exact rfl; exact rfl; first | exact i64_in _ (by omega) | exact u64_in _ (by omega) | exact u8_in _ (by omega)))
          | ((with_reducible apply g_assign); first
            | ((with_reducible apply w_pure (v := .int _ _)); exact rfl; exact rfl)))
        | with_reducible refine w_nil ?_
        | with_reducible refine w_region ?_
        | with_reducible refine w_blk ?_)
      exact ih _ _ _ _ (by repeat' (first | with_reducible exact Fr.mix | with_reducible exact Fr.rfl' | with_reducible refine Fr.put ?_ ?_ | with_reducible refine Fr.mix2 ?_ ?_ | with_reducible refine Fr.put0 ?_ | exact rfl)) ⟨by push_cast; rfl, upd_same, hset.fn (fun q hq => by
        by_cases e : q = i
        · subst e; rw [if_pos rfl, if_pos ⟨hin, by omega⟩]
        · rw [if_neg e]
          by_cases h : (f ≤ (q : Int) ∧ (q : Int) < t) ∧ q < i
          · rw [if_pos h, if_pos ⟨h.1, by omega⟩]
          · rw [if_neg h, if_neg (by omega)]), hn2⟩
    · repeat' (first
        | ((with_reducible apply g_op); first
          | ((with_reducible apply g_move); first
            | ((with_reducible apply w_pure (v := .int _ _)); exact rfl; exact rfl)
            | ((with_reducible apply w_pure (v := .bool _)); exact rfl; exact rfl))
          | ((with_reducible apply g_bin); first
            | ((with_reducible apply w_wrap); exact rfl; exact rfl; first | exact i64_in _ (by omega) | exact u64_in _ (by omega) | exact u8_in _ (by omega))
            | ((with_reducible apply w_pure (v := .bool _)); exact rfl; exact rfl))
          | ((with_reducible apply g_pick); first
            | ((with_reducible apply w_pk1 (v := .bool _)); exact rfl; exact rfl; (first | assumption | exact decide_eq_true (by assumption) | exact decide_eq_false (by assumption) | exact decide_eq_true (by omega) | exact decide_eq_false (by omega) | exact beq_iff_eq.2 (by omega) | exact beq_eq_false_iff_ne.2 (by omega) | exact bne_iff_ne.2 (by omega) | exact bne_eq_false_iff_eq.2 (by omega)))
            | ((with_reducible apply w_pk0 (v := .bool _)); exact rfl; exact rfl; (first | assumption | exact decide_eq_true (by assumption) | exact decide_eq_false (by assumption) | exact decide_eq_true (by omega) | exact decide_eq_false (by omega) | exact beq_iff_eq.2 (by omega) | exact beq_eq_false_iff_ne.2 (by omega) | exact bne_iff_ne.2 (by omega) | exact bne_eq_false_iff_eq.2 (by omega))))
          | ((with_reducible apply g_assign); first
            | ((with_reducible apply w_pure (v := .int _ _)); exact rfl; exact rfl)))
        | ((with_reducible apply g_gd); first
          | ((with_reducible apply w_gd_t); exact rfl; all_goals (intro hc; first | (exfalso; omega) | skip)))
        | with_reducible refine w_seq ?_
        | with_reducible refine w_nil ?_
        | with_reducible refine w_region ?_
        | with_reducible refine w_skip ?_
        | with_reducible refine w_block ?_
        | with_reducible refine w_blk ?_
        | ((with_reducible apply w_no); exact rfl)
        | ((with_reducible apply w_ifd); exact rfl; all_goals (intro hc; first | (exfalso; omega) | skip)))
      all_goals first | (exfalso; omega) | skip
      all_goals exact ih PS _ _ _ (by repeat' (first | with_reducible exact Fr.mix | with_reducible exact Fr.rfl' | with_reducible refine Fr.put ?_ ?_ | with_reducible refine Fr.mix2 ?_ ?_ | with_reducible refine Fr.put0 ?_ | exact rfl)) ⟨by push_cast; rfl, hg2, hP.fn (fun q hq => by
        by_cases e : q = i
        · subst e; rw [if_neg (by omega), if_neg (by omega)]
        · by_cases h : (f ≤ (q : Int) ∧ (q : Int) < t) ∧ q < i
          · rw [if_pos h, if_pos ⟨h.1, by omega⟩]
          · rw [if_neg h, if_neg (by omega)]), hn2⟩
  · rintro PS σ g2 n2 ⟨k8, hg2, hP, hn2⟩
    refine w_keep (i := 8) k8 ?_
    have hP2 : Pgs PS (fun q => if f ≤ (q : Int) ∧ (q : Int) < t then ((pgAt l q).1, false) else pgAt l q) := hP.fn (fun q hq => by
      by_cases h : f ≤ (q : Int) ∧ (q : Int) < t
      · rw [if_pos h, if_pos ⟨h, hq⟩]
      · rw [if_neg h, if_neg (by omega)])
    have hok : ∀ pg ∈ PS, pg.2 = true → pg.1.f < pg.1.t := fun pg hm hb => by
      obtain ⟨q, hq⟩ := List.mem_iff_getElem?.1 hm
      have hq4 : q < 4096 := by have := (List.getElem?_eq_some_iff.1 hq).1; rw [hP.len] at this; exact this
      rw [hP2.at_ q hq4] at hq
      cases hq
      split at hb
      · cases hb
      · rename_i hn; rw [if_neg hn]; obtain ⟨a, b, _⟩ := (pgAt_ok hl q).1 hb; omega
    repeat' (first
      | ((with_reducible apply g_op); first
        | ((with_reducible apply g_move); first
          | ((with_reducible apply w_pure (v := .int _ _)); exact rfl; exact rfl)
          | ((with_reducible apply w_pure (v := .slice _ _ _)); exact rfl; exact rfl))
        | ((with_reducible apply g_bin); first
          | ((with_reducible apply w_pure (v := .bool _)); exact rfl; exact rfl)))
      | with_reducible refine w_seq ?_
      | with_reducible refine w_nil ?_
      | with_reducible refine w_region ?_
      | ((with_reducible apply w_exit); exact rfl)
      | ((with_reducible apply w_no); exact rfl))
    refine w_rf (row_run' PS hP.len hok) (fun _ => rfl) (sn_cons (pg_sn hg2 hP.len (Nat.zero_le _)) sn_nil) ?_
    rintro _ rfl
    rw [cut_same hl hP2]
    repeat' (first
      | ((with_reducible apply g_op); first
        | ((with_reducible apply g_assign); first
          | ((with_reducible apply w_pure (v := .func _ _ _)); exact rfl; exact rfl)))
      | with_reducible refine w_nil ?_
      | ((with_reducible apply w_ret (v := .func _ _ _)); exact rfl))
    exact ⟨_, rv_sn, rfl⟩
end Go.Proofs.Ytnlgindlmlbfiaa.L

