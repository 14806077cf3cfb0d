/- The reference: Add: as the program's; a change. -/
import Derived.Test.Ytnlgindlmlbfiaac15N
namespace Go.Proofs.Ytnlgindlmlbfiaa.L
open Go.L1 Go.IntWalk
set_option linter.unusedVariables false
set_option linter.unusedSimpArgs false
set_option maxHeartbeats 4000000
set_option maxRecDepth 20000
theorem add_same {l : List Rg} (hl : Can l) {r : Rg} (hr : may r = true) (hno : ∀ p, In r p → ∀ v, ¬ Has l p v) {PS : List PG} (h : Pgs PS (fun q => if r.f ≤ (q : Int) ∧ (q : Int) < r.t then pgAt [r] q else pgAt l q)) : addS l r = (rowS PS, 0) := by
  have h1 := Can.one hr
  have hm := (may_iff r).1 hr
  have hone : ∀ q : Nat, (r.f ≤ (q : Int) ∧ (q : Int) < r.t) → (pgAt [r] q).2 = true ∧ tagOf (pgAt [r] q).1 = tagOf r := fun q hq => by
    have hb := (at_has h1 q).2 ⟨tagOf r, has_one.2 ⟨hq, rfl⟩⟩
    exact ⟨hb, h1.fn ((pgAt_ok h1 q).1 hb).2.2.2 (has_one.2 ⟨hq, rfl⟩)⟩
  obtain ⟨r1, r2⟩ := row_can h (fun q hq hb => by
    split at hb
    · rename_i hn
      rw [if_pos hn]
      obtain ⟨a, b, c, _⟩ := (pgAt_ok h1 q).1 hb; exact ⟨a, b, c⟩
    · rename_i hn; rw [if_neg hn]; obtain ⟨a, b, c, _⟩ := (pgAt_ok hl q).1 hb; exact ⟨a, b, c⟩)
  rcases add_can (r := r) hl with ⟨h2, _⟩ | ⟨_, ⟨p, hp, v, hv⟩, _⟩ | ⟨_, _, h4, h5, h6⟩
  · rw [hr] at h2; cases h2
  · exact absurd hv (hno p hp v)
  · have e : (addS l r).1 = rowS PS := by
      refine Can.ext h5 r1 fun q v => ?_
      rw [h6, r2]
      constructor
      · rintro (h | ⟨h, rfl⟩)
        · obtain ⟨q', g1, rfl, g3, g4⟩ := (pg_has hl).1 h
          have hn : ¬ (r.f ≤ (q' : Int) ∧ (q' : Int) < r.t) := fun hi => hno q' hi v h
          exact ⟨q', g1, rfl, by rw [if_neg hn]; exact g3, by rw [if_neg hn]; exact g4⟩
        · unfold In at h
          refine ⟨q.toNat, by omega, by omega, ?_, ?_⟩
          · rw [if_pos (by omega)]; exact (hone q.toNat (by omega)).1
          · rw [if_pos (by omega)]; exact (hone q.toNat (by omega)).2
      · rintro ⟨q', g1, rfl, g3, g4⟩
        split at g3
        · rename_i hn
          rw [if_pos hn] at g4
          exact .inr ⟨hn, by rw [← g4]; exact (hone q' hn).2.symm⟩
        · rename_i hn
          rw [if_neg hn] at g4
          exact .inl ((pg_has hl).2 ⟨q', g1, rfl, g3, g4⟩)
    rw [← e, ← h4]
def pgv (y : PG) : Value := .agg #[.int .i64 y.1.f, .int .i64 y.1.t, .int .i64 y.1.p, .int .i64 y.1.k, .int .i64 y.1.l, .int .i64 y.1.g, .bool y.2]
theorem part_pg (y : PG) : L1.part Try.prog 60 (pgc y) 0 = some (pgv y) := rfl
theorem radd_run (l : List Rg) (r : Rg) (hl : Can l) : Rf Try.prog T 32 [rv tg l, r.v] (fun v => v = .tuple #[rv #[] (addS l r).1, .int .i64 (addS l r).2]) := by
  refine c_froz Try.func32 rfl rfl rfl rfl rfl rfl ?_
  intro g n
  have hll := lenR hl
  obtain ⟨R, hR⟩ : ∃ R, R = addS l r := ⟨_, rfl⟩
  rw [← hR]
  obtain ⟨rf, rt, rp, rk, rl, rg⟩ := r
  repeat' (first
    | ((with_reducible apply g_op); first
      | ((with_reducible apply g_load); first
        | ((with_reducible apply w_load (v := .agg #[_, _, _, _, _, _])); exact rfl; (first | assumption | (simp (disch := omega) only [upd_same, upd_ne]; first | done | assumption | exact rfl) | exact rfl); exact rfl))
      | ((with_reducible apply g_assign); first
        | ((with_reducible apply w_pure (v := .int _ _)); exact rfl; exact rfl)
        | ((with_reducible apply w_pure (v := .slice _ _ _)); exact rfl; exact rfl))
      | ((with_reducible apply g_box); first
        | ((with_reducible apply w_box (vs := [_, _, _, _, _, _])); exact rfl; exact rfl)))
    | with_reducible refine w_seq ?_
    | with_reducible refine w_nil ?_
    | with_reducible refine w_region ?_)
  refine w_rq (rmay_run ⟨rf, rt, rp, rk, rl, rg⟩ _ _ _) (fun _ => rfl) ?_
  rintro _ rfl
  cases hm : may ⟨rf, rt, rp, rk, rl, rg⟩ with
  | false =>
    unfold addS at hR
    rw [hm, if_neg (by simp)] at hR
    subst hR
    repeat' (first
      | ((with_reducible apply g_op); first
        | ((with_reducible apply g_move); first
          | ((with_reducible apply w_pure (v := .bool _)); exact rfl; exact rfl))
        | ((with_reducible apply g_assign); first
          | ((with_reducible apply w_pure (v := .int _ _)); exact rfl; exact rfl)
          | ((with_reducible apply w_pure (v := .bool _)); exact rfl; exact rfl)
          | ((with_reducible apply w_pure (v := .slice _ _ _)); exact rfl; exact rfl))
        | ((with_reducible apply w_pure (v := .bool _)); exact rfl; exact rfl))
      | with_reducible refine w_seq ?_
      | with_reducible refine w_nil ?_
      | with_reducible refine w_region ?_
      | ((with_reducible apply w_yes); exact rfl)
      | ((with_reducible apply w_ret (v := .tuple #[.slice _ _ _, .int _ _])); exact rfl))
    exact ⟨_, sn_tuple (l := [_, _]) (sn_cons sn_none (sn_cons (sn_plain rfl) sn_nil)), rfl⟩
  | true =>
    have hmi := (may_iff _).1 hm
    simp only at hmi
    obtain ⟨f', rfl⟩ : ∃ f' : Nat, rf = (f' : Int) := ⟨rf.toNat, by omega⟩
    repeat' (first
      | ((with_reducible apply g_op); first
        | ((with_reducible apply g_move); first
          | ((with_reducible apply w_pure (v := .bool _)); exact rfl; exact rfl)
          | ((with_reducible apply w_pure (v := .func _ _ _)); exact rfl; exact rfl))
        | ((with_reducible apply g_assign); first
          | ((with_reducible apply w_pure (v := .bool _)); exact rfl; exact rfl))
        | ((with_reducible apply w_pure (v := .bool _)); exact rfl; exact rfl))
      | with_reducible refine w_seq ?_
      | with_reducible refine w_nil ?_
      | with_reducible refine w_region ?_
      | with_reducible refine w_skip ?_
      | ((with_reducible apply w_no); exact rfl))
    refine w_rn (spread_run l hl (by omega) _ _ n) (fun _ => rfl) ?_
    rintro _ g1 n1 ⟨rfl, ⟨PS0, hP0, hg1⟩, hfr, hn1⟩
    have hb1 : g1 n = some (.cells 23 [.int .i64 (f' : Int), .int .i64 rt, .int .i64 rp, .int .i64 rk, .int .i64 rl, .int .i64 rg]) := by rw [hfr n (by omega)]; exact upd_same
    repeat' (first
      | ((with_reducible apply g_op); first
        | ((with_reducible apply g_load); first
          | ((with_reducible apply w_load (v := .int _ _)); exact rfl; (first | assumption | (simp (disch := omega) only [upd_same, upd_ne]; first | done | assumption | exact rfl) | exact rfl); exact rfl))
        | ((with_reducible apply g_fld); first
          | ((with_reducible apply w_fldp (o := 0)); exact rfl; exact rfl; exact rfl; exact (by decide)))
        | ((with_reducible apply g_assign); first
          | ((with_reducible apply w_pure (v := .int _ _)); exact rfl; exact rfl)
          | ((with_reducible apply w_pure (v := .slice _ _ _)); exact rfl; exact rfl)))
      | with_reducible refine w_seq ?_
      | with_reducible refine w_nil ?_
      | with_reducible refine w_region ?_
      | with_reducible refine w_block ?_)
    refine w_whileK [(4, 5), (8, 8), (19, 29)] (α := Nat) (fun p σ g' n' => σ 8 = .int .i64 (p : Nat) ∧ g' = g1 ∧ n' = n1 ∧ f' ≤ p ∧ (p : Int) ≤ rt ∧ (∀ q, f' ≤ q → q < p → (pgAt l q).2 = false)) (fun p => rt.toNat - p) ?_ f' ⟨rfl, rfl, rfl, Nat.le_refl _, by omega, fun q a b => by omega⟩
    rintro p σ g2 n2 ⟨k8, rfl, rfl, hp1, hp2, hall⟩ ih
    refine w_keep (i := 8) k8 ?_
    by_cases hpt : (p : Int) < rt
    · have hpp := hP0.at_ p (by omega)
      cases hb : (pgAt l p).2 with
      | true =>
        have hA : R = ([], 13) := by
          rw [hR]
          obtain ⟨v, hv⟩ := (at_has hl p).1 hb
          rcases add_can (r := ⟨f', rt, rp, rk, rl, rg⟩) hl with ⟨h2, _⟩ | ⟨_, _, h3⟩ | ⟨_, h3, _⟩
          · rw [hm] at h2; cases h2
          · exact h3
          · exact absurd hv (h3 p ⟨by simp only; omega, hpt⟩ v)
        rw [hA]
        repeat' (first
          | ((with_reducible apply g_op); first
            | ((with_reducible apply g_load); first
              | ((with_reducible apply w_load (v := .int _ _)); exact rfl; (first | assumption | (simp (disch := omega) only [upd_same, upd_ne]; first | done | assumption | exact rfl) | exact rfl); exact rfl))
            | ((with_reducible apply g_move); first
              | ((with_reducible apply w_pure (v := .int _ _)); exact rfl; exact rfl)
              | ((with_reducible apply w_pure (v := .slice _ _ _)); exact rfl; exact rfl))
            | ((with_reducible apply g_bin); first
              | ((with_reducible apply w_pure (v := .bool _)); exact rfl; exact rfl))
            | ((with_reducible apply g_fld); first
              | ((with_reducible apply w_fldp (o := 1)); exact rfl; exact rfl; exact rfl; exact (by decide))
              | ((with_reducible apply w_fldp (o := 6)); exact rfl; exact rfl; exact rfl; exact (by decide)))
            | ((with_reducible apply g_ix); first
              | ((with_reducible apply w_ixr (sz := 7)); exact rfl; exact rfl; exact rfl; exact rfl; omega; omega)))
          | with_reducible refine w_seq ?_
          | with_reducible refine w_nil ?_
          | with_reducible refine w_region ?_
          | with_reducible refine w_skip ?_
          | with_reducible refine w_block ?_
          | ((with_reducible apply w_ifd); exact rfl; all_goals (intro hc; first | (exfalso; omega) | skip)))
        refine w_load (v := .bool true) rfl hg1 (by rw [show 0 + ((p : Int)).toNat * 7 + 6 = p * 7 + 6 by omega]; exact part_flat pgc_len hpp (by rw [part_one (by kernel_rfl)]; show some (Value.bool (pgAt l p).2) = _; rw [hb])) ?_
        repeat' (first
          | ((with_reducible apply g_op); first
            | ((with_reducible apply g_assign); first
              | ((with_reducible apply w_pure (v := .int _ _)); exact rfl; exact rfl)
              | ((with_reducible apply w_pure (v := .slice _ _ _)); exact rfl; exact rfl)))
          | with_reducible refine w_seq ?_
          | with_reducible refine w_nil ?_
          | with_reducible refine w_region ?_
          | ((with_reducible apply w_yes); exact rfl)
          | ((with_reducible apply w_ret (v := .tuple #[.slice _ _ _, .int _ _])); exact rfl))
        exact ⟨_, sn_tuple (l := [_, _]) (sn_cons sn_none (sn_cons (sn_plain rfl) sn_nil)), rfl⟩
      | false =>
        repeat' (first
          | ((with_reducible apply g_op); first
            | ((with_reducible apply g_load); first
              | ((with_reducible apply w_load (v := .int _ _)); exact rfl; (first | assumption | (simp (disch := omega) only [upd_same, upd_ne]; first | done | assumption | exact rfl) | exact rfl); exact rfl))
            | ((with_reducible apply g_move); first
              | ((with_reducible apply w_pure (v := .int _ _)); exact rfl; exact rfl)
              | ((with_reducible apply w_pure (v := .slice _ _ _)); exact rfl; exact rfl))
            | ((with_reducible apply g_bin); first
              | ((with_reducible apply w_pure (v := .bool _)); exact rfl; exact rfl))
            | ((with_reducible apply g_fld); first
              | ((with_reducible apply w_fldp (o := 1)); exact rfl; exact rfl; exact rfl; exact (by decide))
              | ((with_reducible apply w_fldp (o := 6)); exact rfl; exact rfl; exact rfl; exact (by decide)))
            | ((with_reducible apply g_ix); first
              | ((with_reducible apply w_ixr (sz := 7)); exact rfl; exact rfl; exact rfl; exact rfl; omega; omega)))
          | with_reducible refine w_seq ?_
          | with_reducible refine w_nil ?_
          | with_reducible refine w_region ?_
          | with_reducible refine w_skip ?_
          | with_reducible refine w_block ?_
          | ((with_reducible apply w_ifd); exact rfl; all_goals (intro hc; first | (exfalso; omega) | skip)))
        refine w_load (v := .bool false) rfl hg1 (by rw [show 0 + ((p : Int)).toNat * 7 + 6 = p * 7 + 6 by omega]; exact part_flat pgc_len hpp (by rw [part_one (by kernel_rfl)]; show some (Value.bool (pgAt l p).2) = _; rw [hb])) ?_
        repeat' (first
          | ((with_reducible apply g_op); first
            | ((with_reducible apply g_move); first
              | ((with_reducible apply w_pure (v := .int _ _)); exact rfl; exact rfl))
            | ((with_reducible apply g_bin); first
              | ((with_reducible apply w_wrap); exact rfl; exact rfl; first | exact i64_in _ (by omega) | exact u64_in _ (by omega) | exact u8_in _ (by omega)))
            | ((with_reducible apply g_assign); first
              | ((with_reducible apply w_pure (v := .int _ _)); exact rfl; exact rfl)))
          | with_reducible refine w_nil ?_
          | with_reducible refine w_region ?_
          | with_reducible refine w_skip ?_
          | with_reducible refine w_blk ?_
          | ((with_reducible apply w_no); exact rfl))
        exact ih (p + 1) _ _ _ (by omega) (by repeat' (first | with_reducible exact Fr.mix | with_reducible exact Fr.rfl' | with_reducible refine Fr.put ?_ ?_ | with_reducible refine Fr.mix2 ?_ ?_ | with_reducible refine Fr.put0 ?_ | exact rfl)) ⟨by push_cast; rfl, rfl, rfl, by omega, by omega, fun q a b => by
          by_cases e : q = p
          · subst e; exact hb
          · exact hall q a (by omega)⟩
    · have hno : ∀ q, In ⟨f', rt, rp, rk, rl, rg⟩ q → ∀ v, ¬ Has l q v := fun q hq v hv => by
        unfold In at hq
        simp only at hq
        have := (at_has hl q.toNat).2 ⟨v, by rwa [show ((q.toNat : Nat) : Int) = q by omega]⟩
        rw [hall q.toNat (by omega) (by omega)] at this
        cases this
      repeat' (first
        | ((with_reducible apply g_op); first
          | ((with_reducible apply g_load); first
            | ((with_reducible apply w_load (v := .int _ _)); exact rfl; (first | assumption | (simp (disch := omega) only [upd_same, upd_ne]; first | done | assumption | exact rfl) | exact rfl); exact rfl)
            | ((with_reducible apply w_load (v := .agg #[_, _, _, _, _, _])); exact rfl; (first | assumption | (simp (disch := omega) only [upd_same, upd_ne]; first | done | assumption | exact rfl) | exact rfl); exact rfl))
          | ((with_reducible apply g_move); first
            | ((with_reducible apply w_pure (v := .int _ _)); exact rfl; exact rfl))
          | ((with_reducible apply g_bin); first
            | ((with_reducible apply w_pure (v := .bool _)); exact rfl; exact rfl))
          | ((with_reducible apply g_fld); first
            | ((with_reducible apply w_fldp (o := 1)); exact rfl; exact rfl; exact rfl; exact (by decide)))
          | ((with_reducible apply w_bsl (ls := [_, _, _, _, _, _])); exact rfl; exact rfl; exact rfl; exact ⟨by decide, rfl⟩; exact rfl))
        | with_reducible refine w_seq ?_
        | with_reducible refine w_nil ?_
        | with_reducible refine w_region ?_
        | ((with_reducible apply w_exit); exact rfl)
        | ((with_reducible apply w_ifd); exact rfl; all_goals (intro hc; first | (exfalso; omega) | skip)))
      refine w_rn (spread1_run ⟨f', rt, rp, rk, rl, rg⟩ hm _ n2 (n2 + 1) n (by omega) upd_same) (fun _ => rfl) ?_
      rintro _ g3 n3 ⟨rfl, ⟨PS1, hP1, hg3⟩, hfr3, hn3⟩
      have hb3 : g3 n = some (.cells 23 [.int .i64 (f' : Int), .int .i64 rt, .int .i64 rp, .int .i64 rk, .int .i64 rl, .int .i64 rg]) := by rw [hfr3 n (by omega), upd_ne (by omega)]; exact hb1
      have hp3 : g3 (n + 1) = some (.cells 60 (PS0.flatMap pgc)) := by rw [hfr3 (n + 1) (by omega), upd_ne (by omega)]; exact hg1
      repeat' (first
        | ((with_reducible apply g_op); first
          | ((with_reducible apply g_load); first
            | ((with_reducible apply w_load (v := .int _ _)); exact rfl; (first | assumption | (simp (disch := omega) only [upd_same, upd_ne]; first | done | assumption | exact rfl) | exact rfl); exact rfl))
          | ((with_reducible apply g_fld); first
            | ((with_reducible apply w_fldp (o := 0)); exact rfl; exact rfl; exact rfl; exact (by decide)))
          | ((with_reducible apply g_assign); first
            | ((with_reducible apply w_pure (v := .int _ _)); exact rfl; exact rfl)
            | ((with_reducible apply w_pure (v := .slice _ _ _)); exact rfl; exact rfl)))
        | with_reducible refine w_seq ?_
        | with_reducible refine w_nil ?_
        | with_reducible refine w_region ?_
        | with_reducible refine w_block ?_)
      refine w_whileK [(10, 10), (35, 47)] (α := Nat × List PG) (fun b σ g' n' => σ 10 = .int .i64 (b.1 : Nat) ∧ g' (n + 1) = some (.cells 60 (b.2.flatMap pgc)) ∧ g' n = some (.cells 23 [.int .i64 (f' : Int), .int .i64 rt, .int .i64 rp, .int .i64 rk, .int .i64 rl, .int .i64 rg]) ∧ g' (n2 + 1) = some (.cells 60 (PS1.flatMap pgc)) ∧ n' = n3 ∧ f' ≤ b.1 ∧ (b.1 : Int) ≤ rt ∧ Pgs b.2 (fun q => if f' ≤ q ∧ q < b.1 then pgAt [⟨f', rt, rp, rk, rl, rg⟩] q else pgAt l q)) (fun b => rt.toNat - b.1) ?_ (f', PS0) ⟨rfl, hp3, hb3, hg3, rfl, Nat.le_refl _, by dsimp only; omega, hP0.fn (fun q hq => by rw [if_neg (by dsimp only; omega)])⟩
      rintro ⟨i, PS⟩ σ4 g4 n4 ⟨k10, hg4, hb4, hm4, rfl, hi1, hi2, hP⟩ ih4
      dsimp only at k10 hg4 hi1 hi2 hP
      refine w_keep (i := 10) k10 ?_
      by_cases hit : (i : Int) < rt
      · have hpi := hP.at_ i (by omega)
        have hqi := hP1.at_ i (by omega)
        have hset := hP.set i (pgAt [⟨f', rt, rp, rk, rl, rg⟩] i)
        repeat' (first
          | ((with_reducible apply g_op); first
            | ((with_reducible apply g_load); first
              | ((with_reducible apply w_load (v := .int _ _)); exact rfl; (first | assumption | (simp (disch := omega) only [upd_same, upd_ne]; first | done | assumption | exact rfl) | exact rfl); exact rfl))
            | ((with_reducible apply g_move); first
              | ((with_reducible apply w_pure (v := .int _ _)); exact rfl; exact rfl)
              | ((with_reducible apply w_pure (v := .slice _ _ _)); exact rfl; exact rfl))
            | ((with_reducible apply g_bin); first
              | ((with_reducible apply w_pure (v := .bool _)); exact rfl; exact rfl))
            | ((with_reducible apply g_fld); first
              | ((with_reducible apply w_fldp (o := 1)); exact rfl; exact rfl; exact rfl; exact (by decide)))
            | ((with_reducible apply g_ix); first
              | ((with_reducible apply w_ixr (sz := 7)); exact rfl; exact rfl; exact rfl; exact rfl; omega; omega)))
          | with_reducible refine w_seq ?_
          | with_reducible refine w_nil ?_
          | with_reducible refine w_region ?_
          | with_reducible refine w_skip ?_
          | with_reducible refine w_block ?_
          | ((with_reducible apply w_ifd); exact rfl; all_goals (intro hc; first | (exfalso; omega) | skip)))
        refine w_load (v := pgv (pgAt [⟨f', rt, rp, rk, rl, rg⟩] i)) rfl hm4 (by rw [show 0 + ((i : Int)).toNat * 7 = i * 7 + 0 by omega]; exact part_flat pgc_len hqi (part_pg _)) ?_
        repeat' (first
          | ((with_reducible apply g_op); first
            | ((with_reducible apply g_ix); first
              | ((with_reducible apply w_ixr (sz := 7)); exact rfl; exact rfl; exact rfl; exact rfl; omega; omega))))
        refine w_store (us := pgc (pgAt [⟨f', rt, rp, rk, rl, rg⟩] i)) (ws := (PS.set i (pgAt [⟨f', rt, rp, rk, rl, rg⟩] i)).flatMap pgc) rfl rfl hg4 (by omega) rfl rfl (by rw [show 0 + ((i : Int)).toNat * 7 = i * 7 + 0 by omega]; exact wr_flat (enc := pgc) (sz := 7) (c := 0) (us := pgc (pgAt [⟨f', rt, rp, rk, rl, rg⟩] i)) (y' := pgAt [⟨f', rt, rp, rk, rl, rg⟩] i) pgc_len (show 0 + 7 ≤ 7 by decide) rfl hpi) ?_
        repeat' (first
          | ((with_reducible apply g_op); first
            | ((with_reducible apply g_move); first
              | ((with_reducible apply w_pure (v := .int _ _)); exact rfl; exact rfl))
            | ((with_reducible apply g_bin); first
              | ((with_reducible apply w_wrap); exact rfl; exact rfl; first | exact i64_in _ (by omega) | exact u64_in _ (by omega) | exact u8_in _ (by omega)))
            | ((with_reducible apply g_assign); first
              | ((with_reducible apply w_pure (v := .int _ _)); exact rfl; exact rfl)))
          | with_reducible refine w_nil ?_
          | with_reducible refine w_region ?_
          | with_reducible refine w_blk ?_)
        exact ih4 (i + 1, _) _ _ _ (by dsimp only; omega) (by repeat' (first | with_reducible exact Fr.mix | with_reducible exact Fr.rfl' | with_reducible refine Fr.put ?_ ?_ | with_reducible refine Fr.mix2 ?_ ?_ | with_reducible refine Fr.put0 ?_ | exact rfl)) ⟨by push_cast; rfl, upd_same, by rw [upd_ne (by omega)]; exact hb4, by rw [upd_ne (by omega)]; exact hm4, rfl, by dsimp only; omega, by dsimp only; omega, hset.fn (fun q hq => by
          by_cases e : q = i
          · subst e; rw [if_pos rfl, if_pos (by dsimp only; omega)]
          · rw [if_neg e]
            by_cases h : f' ≤ q ∧ q < i
            · rw [if_pos h, if_pos (by dsimp only; omega)]
            · rw [if_neg h, if_neg (by dsimp only; omega)])⟩
      · have hP2 : Pgs PS (fun q => if (f' : Int) ≤ (q : Int) ∧ (q : Int) < rt then pgAt [⟨f', rt, rp, rk, rl, rg⟩] q else pgAt l q) := hP.fn (fun q hq => by
          by_cases h : f' ≤ q ∧ q < i
          · rw [if_pos h, if_pos (by omega)]
          · rw [if_neg h, if_neg (by omega)])
        have hok : ∀ pg ∈ PS, pg.2 = true → pg.1.f < pg.1.t := fun pg hmm hb => by
          obtain ⟨q, hq⟩ := List.mem_iff_getElem?.1 hmm
          have hq4 : q < 4096 := by have := (List.getElem?_eq_some_iff.1 hq).1; rw [hP.len] at this; exact this
          rw [hP2.at_ q hq4] at hq
          cases hq
          split at hb
          · rename_i hn; rw [if_pos hn]; obtain ⟨a, b, _⟩ := (pgAt_ok (Can.one hm) q).1 hb; omega
          · rename_i hn; rw [if_neg hn]; obtain ⟨a, b, _⟩ := (pgAt_ok hl q).1 hb; omega
        have hR2 := hR.trans (add_same hl hm hno hP2)
        subst hR2
        repeat' (first
          | ((with_reducible apply g_op); first
            | ((with_reducible apply g_load); first
              | ((with_reducible apply w_load (v := .int _ _)); exact rfl; (first | assumption | (simp (disch := omega) only [upd_same, upd_ne]; first | done | assumption | exact rfl) | exact rfl); exact rfl))
            | ((with_reducible apply g_move); first
              | ((with_reducible apply w_pure (v := .int _ _)); exact rfl; exact rfl)
              | ((with_reducible apply w_pure (v := .slice _ _ _)); exact rfl; exact rfl))
            | ((with_reducible apply g_bin); first
              | ((with_reducible apply w_pure (v := .bool _)); exact rfl; exact rfl))
            | ((with_reducible apply g_fld); first
              | ((with_reducible apply w_fldp (o := 1)); exact rfl; exact rfl; exact rfl; exact (by decide))))
          | with_reducible refine w_seq ?_
          | with_reducible refine w_nil ?_
          | with_reducible refine w_region ?_
          | ((with_reducible apply w_exit); exact rfl)
          | ((with_reducible apply w_ifd); exact rfl; all_goals (intro hc; first | (exfalso; omega) | skip)))
        refine w_rf (row_run' PS hP.len hok) (fun _ => rfl) (sn_cons (pg_sn hg4 hP.len (Nat.zero_le _)) sn_nil) ?_
        rintro _ rfl
        repeat' (first
          | ((with_reducible apply g_op); first
            | ((with_reducible apply g_assign); first
              | ((with_reducible apply w_pure (v := .int _ _)); exact rfl; exact rfl)
              | ((with_reducible apply w_pure (v := .func _ _ _)); exact rfl; exact rfl)))
          | with_reducible refine w_nil ?_
          | ((with_reducible apply w_ret (v := .tuple #[.func _ _ _, .int _ _])); exact rfl))
        exact ⟨_, sn_tuple (l := [_, _]) (sn_cons rv_sn (sn_cons (sn_plain rfl) sn_nil)), rfl⟩
end Go.Proofs.Ytnlgindlmlbfiaa.L

