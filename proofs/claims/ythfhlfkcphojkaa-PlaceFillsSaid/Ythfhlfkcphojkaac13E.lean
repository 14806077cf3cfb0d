/- Place: the document's All; Same; the law's example. -/
import Derived.Test.Ythfhlfkcphojkaac13D
namespace Go.Proofs.Ythfhlfkcphojkaa.L
open Go.L1 Go.IntWalk
set_option linter.unusedVariables false
set_option linter.unusedSimpArgs false
set_option maxHeartbeats 4000000
set_option maxRecDepth 20000
theorem rall_run (l : List (Int × Int)) (low high : Int) (hl : l.length ≤ 1000) : Rf Try.prog T 10 [wv tg l, .int .i64 low, .int .i64 high] (fun v => v = .tuple #[iv #[] (allS l low high).1, .int .i64 (allS l low high).2]) := by
  refine c_froz Try.func10 rfl rfl rfl rfl rfl rfl ?_
  intro g n
  repeat' (first
    | ((with_reducible apply g_op); first
      | ((with_reducible apply g_move); first
        | ((with_reducible apply w_pure (v := .int _ _)); exact rfl; exact rfl))
      | ((with_reducible apply g_assign); first
        | ((with_reducible apply w_pure (v := .int _ _)); exact rfl; exact rfl)
        | ((with_reducible apply w_pure (v := .slice _ _ _)); exact rfl; exact rfl)))
    | with_reducible refine w_seq ?_
    | with_reducible refine w_nil ?_
    | with_reducible refine w_region ?_)
  refine w_rq (rroom_run _ _ _ _ _) (fun _ => rfl) ?_
  rintro v rfl
  cases hrm : roomS low high with
  | false =>
    repeat' (first
      | ((with_reducible apply g_op); first
        | ((with_reducible apply g_move); first
          | ((with_reducible apply w_pure (v := .bool _)); exact rfl; exact rfl))
        | ((with_reducible apply g_assign); first
          | ((with_reducible apply w_pure (v := .int _ _)); exact rfl; exact rfl)
          | ((with_reducible apply w_pure (v := .bool _)); exact rfl; exact rfl)
          | ((with_reducible apply w_pure (v := .slice _ _ _)); exact rfl; exact rfl))
        | ((with_reducible apply w_pure (v := .bool _)); exact rfl; exact rfl))
      | with_reducible refine w_seq ?_
      | with_reducible refine w_nil ?_
      | with_reducible refine w_region ?_
      | ((with_reducible apply w_yes); exact rfl)
      | ((with_reducible apply w_ret (v := .tuple #[.slice _ _ _, .int _ _])); exact rfl))
    exact fr_none (by unfold allS; rw [if_pos hrm])
  | true =>
    obtain ⟨m1, m2, m3, m4, m5⟩ := roomS_iff.1 hrm
    repeat' (first
      | ((with_reducible apply g_op); first
        | ((with_reducible apply g_move); first
          | ((with_reducible apply w_pure (v := .bool _)); exact rfl; exact rfl))
        | ((with_reducible apply g_assign); first
          | ((with_reducible apply w_pure (v := .int _ _)); exact rfl; exact rfl)
          | ((with_reducible apply w_pure (v := .bool _)); exact rfl; exact rfl))
        | ((with_reducible apply w_pure (v := .bool _)); exact rfl; exact rfl))
      | with_reducible refine w_seq ?_
      | with_reducible refine w_nil ?_
      | with_reducible refine w_region ?_
      | with_reducible refine w_skip ?_
      | with_reducible refine w_block ?_
      | ((with_reducible apply w_no); exact rfl))
    refine w_cntK [(6, 7), (9, 9), (21, 56)] l.length (fun i (_ : Unit) σ g' n' => σ 9 = .int .i64 (i : Nat) ∧ n ≤ n' ∧ (l.take i).any badB = false) ?_ ?_ () ⟨rfl, Nat.le_refl _, rfl⟩
    · rintro i _ σ g2 n2 hi ⟨k22, hn2, hb⟩ ih
      obtain ⟨⟨w1, w2⟩, hw⟩ : ∃ w, l[i]? = some w := ⟨_, List.getElem?_eq_getElem hi⟩
      refine w_keep (i := 9) k22 ?_
      repeat' (first
        | ((with_reducible apply g_op); first
          | ((with_reducible apply g_load); first
            | ((with_reducible apply w_fl (v := .int _ _)); exact rfl; exact (fun _ => rfl); assumption; exact rfl))
          | ((with_reducible apply g_move); first
            | ((with_reducible apply w_pure (v := .int _ _)); exact rfl; exact rfl)
            | ((with_reducible apply w_pure (v := .bool _)); exact rfl; exact rfl)
            | ((with_reducible apply w_pure (v := .func _ _ _)); exact rfl; exact rfl))
          | ((with_reducible apply g_bin); first
            | ((with_reducible apply w_wrap); exact rfl; exact rfl; first | exact i64_in _ (by omega) | exact u64_in _ (by omega) | exact u8_in _ (by omega))
            | ((with_reducible apply w_pure (v := .bool _)); exact rfl; exact rfl))
          | ((with_reducible apply g_fld); first
            | ((with_reducible apply w_ffld (o := 0)); exact rfl; exact rfl; exact rfl; exact (by decide))
            | ((with_reducible apply w_ffld (o := 1)); exact rfl; exact rfl; exact rfl; exact (by decide)))
          | ((with_reducible apply g_pick); first
            | ((with_reducible apply w_pk1 (v := .bool _)); exact rfl; exact rfl; (first | assumption | exact decide_eq_true (by assumption) | exact decide_eq_false (by assumption) | exact decide_eq_true (by omega) | exact decide_eq_false (by omega) | exact beq_iff_eq.2 (by omega) | exact beq_eq_false_iff_ne.2 (by omega) | exact bne_iff_ne.2 (by omega) | exact bne_eq_false_iff_eq.2 (by omega)))
            | ((with_reducible apply w_pk0 (v := .bool _)); exact rfl; exact rfl; (first | assumption | exact decide_eq_true (by assumption) | exact decide_eq_false (by assumption) | exact decide_eq_true (by omega) | exact decide_eq_false (by omega) | exact beq_iff_eq.2 (by omega) | exact beq_eq_false_iff_ne.2 (by omega) | exact bne_iff_ne.2 (by omega) | exact bne_eq_false_iff_eq.2 (by omega))))
          | ((with_reducible apply g_assign); first
            | ((with_reducible apply w_pure (v := .int _ _)); exact rfl; exact rfl)
            | ((with_reducible apply w_pure (v := .slice _ _ _)); exact rfl; exact rfl))
          | ((with_reducible apply g_call); first
            | ((with_reducible apply w_call (v := .int _ _)); exact rfl))
          | ((with_reducible apply g_ix); first
            | ((with_reducible apply w_fx (sz := 2)); exact rfl; exact rfl; exact rfl; exact rfl; exact rfl; exact (fun _ => rfl); assumption; exact rfl))
          | ((with_reducible apply w_pure (v := .bool _)); exact rfl; exact rfl))
        | ((with_reducible apply g_gd); first
          | ((with_reducible apply w_pass); exact rfl)
          | ((with_reducible apply w_gd_f); exact rfl; all_goals (intro hc; first | (exfalso; omega) | skip)))
        | with_reducible refine w_seq ?_
        | with_reducible refine w_nil ?_
        | with_reducible refine w_region ?_
        | with_reducible refine w_skip ?_
        | with_reducible refine w_block ?_
        | with_reducible refine w_blk ?_
        | ((with_reducible apply w_yes); exact rfl)
        | ((with_reducible apply w_ifd); exact rfl; all_goals (intro hc; first | (exfalso; omega) | skip))
        | ((with_reducible apply w_ret (v := .tuple #[.slice _ _ _, .int _ _])); exact rfl))
      all_goals first
        | exact fr_none (by unfold allS; rw [if_neg (by simp [hrm]), if_pos (List.any_eq_true.2 ⟨_, List.mem_of_getElem? hw, decide_eq_true (by dsimp only; omega)⟩)])
        | exact ih () _ _ _ (by repeat' (first | with_reducible exact Fr.mix | with_reducible exact Fr.rfl' | with_reducible refine Fr.put ?_ ?_ | with_reducible refine Fr.mix2 ?_ ?_ | with_reducible refine Fr.put0 ?_ | exact rfl)) ⟨rfl, by omega, by rw [List.take_add_one, hw, List.any_append, hb]; simp [badB]; omega⟩
    · rintro _ σ g2 n2 ⟨k22, hn2, hb⟩
      rw [List.take_length] at hb
      have hbad := hb
      have hgood : ∀ w ∈ l, 1 ≤ w.1 ∧ w.1 ≤ 1099511627776 ∧ 0 ≤ w.2 ∧ w.2 ≤ 1099511627776 := fun w hw => by
        have := List.any_eq_false.1 hb w hw
        simp [badB] at this
        omega
      clear hb
      refine w_keep (i := 9) k22 ?_
      repeat' (first
        | ((with_reducible apply g_op); first
          | ((with_reducible apply g_move); first
            | ((with_reducible apply w_pure (v := .int _ _)); exact rfl; exact rfl)
            | ((with_reducible apply w_pure (v := .func _ _ _)); exact rfl; exact rfl))
          | ((with_reducible apply g_bin); first
            | ((with_reducible apply w_pure (v := .bool _)); exact rfl; exact rfl))
          | ((with_reducible apply g_assign); first
            | ((with_reducible apply w_pure (v := .int _ _)); exact rfl; exact rfl)
            | ((with_reducible apply w_pure (v := .slice _ _ _)); exact rfl; exact rfl))
          | ((with_reducible apply g_call); first
            | ((with_reducible apply w_call (v := .int _ _)); exact rfl)))
        | with_reducible refine w_seq ?_
        | with_reducible refine w_nil ?_
        | with_reducible refine w_region ?_
        | with_reducible refine w_block ?_
        | ((with_reducible apply w_exit); exact rfl)
        | ((with_reducible apply w_ifd); exact rfl; all_goals (intro hc; first | (exfalso; omega) | skip)))
      refine w_cntK [(6, 7), (10, 15), (57, 110)] l.length (fun i (s : List Int × Option Nat) σ g' n' => σ 11 = .int .i64 (i : Nat) ∧ σ 10 = ov s.2 s.1.length ∧ Own g' n n' 3 iC s.2 s.1 ∧ n2 ≤ n' ∧ n ≤ n' ∧ allGo l low high l [] = allGo l low high (l.drop i) s.1 ∧ s.1.length = i ∧ Ok l s.1) ?_ ?_ ([], none) ⟨rfl, rfl, Own.nil, Nat.le_refl _, hn2, rfl, rfl, by omega, by simp, by simp⟩
      · rintro i ⟨at_, o⟩ σ g3 n3 hi ⟨k47, k10, ho, hn3, hn4, hgo, hlen, hok⟩ ih
        dsimp only at k10 ho hgo hlen hok
        obtain ⟨w, hw⟩ : ∃ w, l[i]? = some w := ⟨_, List.getElem?_eq_getElem hi⟩
        have hwg := hgood w (List.mem_of_getElem? hw)
        rw [allGo_step hw] at hgo
        have hr1 := rnd_le w.1
        refine w_keep (i := 11) k47 (w_keep (i := 10) k10 ?_)
        repeat' (first
          | ((with_reducible apply g_op); first
            | ((with_reducible apply g_load); first
              | ((with_reducible apply w_fl (v := .int _ _)); exact rfl; exact (fun _ => rfl); assumption; exact rfl))
            | ((with_reducible apply g_move); first
              | ((with_reducible apply w_pure (v := .int _ _)); exact rfl; exact rfl)
              | ((with_reducible apply w_pure (v := .func _ _ _)); exact rfl; exact rfl)
              | ((with_reducible apply w_pure (v := ov _ _)); exact rfl; exact rfl))
            | ((with_reducible apply g_bin); first
              | ((with_reducible apply w_pure (v := .bool _)); exact rfl; exact rfl))
            | ((with_reducible apply g_fld); first
              | ((with_reducible apply w_ffld (o := 0)); exact rfl; exact rfl; exact rfl; exact (by decide))
              | ((with_reducible apply w_ffld (o := 1)); exact rfl; exact rfl; exact rfl; exact (by decide)))
            | ((with_reducible apply g_assign); first
              | ((with_reducible apply w_pure (v := .int _ _)); exact rfl; exact rfl))
            | ((with_reducible apply g_call); first
              | ((with_reducible apply w_call (v := .int _ _)); exact rfl))
            | ((with_reducible apply g_ix); first
              | ((with_reducible apply w_fx (sz := 2)); exact rfl; exact rfl; exact rfl; exact rfl; exact rfl; exact (fun _ => rfl); assumption; exact rfl)))
          | with_reducible refine w_seq ?_
          | with_reducible refine w_nil ?_
          | with_reducible refine w_region ?_
          | with_reducible refine w_skip ?_
          | with_reducible refine w_block ?_
          | ((with_reducible apply w_ifd); exact rfl; all_goals (intro hc; first | (exfalso; omega) | skip)))
        refine w_rq (rround_run _ _ _ _) (fun _ => rfl) ?_
        rintro v rfl
        repeat' (first
          | fail)
        refine w_rf (rfits_run l at_ low high w.2 (rnd w.1) hok (by omega) (by omega) (by omega) (by omega) (by omega) (by omega) (by omega) (by omega)) (fun _ => rfl) (sn_cons wv_sn (sn_cons (ho.fz (by omega) rfl (by decide) (fun _ => rfl) (sn_plains (iplains _))) (sn_cons (sn_plain rfl) (sn_cons (sn_plain rfl) (sn_cons (sn_plain rfl) (sn_cons (sn_plain rfl) sn_nil)))))) ?_
        rintro _ rfl
        by_cases h0 : w.2 = 0
        · repeat' (first
            | ((with_reducible apply g_op); first
              | ((with_reducible apply g_load); first
                | ((with_reducible apply w_fl (v := .int _ _)); exact rfl; exact (fun _ => rfl); assumption; exact rfl))
              | ((with_reducible apply g_move); first
                | ((with_reducible apply w_pure (v := .int _ _)); exact rfl; exact rfl)
                | ((with_reducible apply w_pure (v := .bool _)); exact rfl; exact rfl)
                | ((with_reducible apply w_pure (v := .func _ _ _)); exact rfl; exact rfl)
                | ((with_reducible apply w_pure (v := ov _ _)); exact rfl; exact rfl))
              | ((with_reducible apply g_bin); first
                | ((with_reducible apply w_pure (v := .bool _)); exact rfl; exact rfl))
              | ((with_reducible apply g_fld); first
                | ((with_reducible apply w_ffld (o := 0)); exact rfl; exact rfl; exact rfl; exact (by decide)))
              | ((with_reducible apply g_pick); first
                | ((with_reducible apply w_pk1 (v := .bool _)); exact rfl; exact rfl; (first | assumption | exact decide_eq_true (by assumption) | exact decide_eq_false (by assumption) | exact decide_eq_true (by omega) | exact decide_eq_false (by omega) | exact beq_iff_eq.2 (by omega) | exact beq_eq_false_iff_ne.2 (by omega) | exact bne_iff_ne.2 (by omega) | exact bne_eq_false_iff_eq.2 (by omega))))
              | ((with_reducible apply g_assign); first
                | ((with_reducible apply w_pure (v := .bool _)); exact rfl; exact rfl))
              | ((with_reducible apply g_ix); first
                | ((with_reducible apply w_fx (sz := 2)); exact rfl; exact rfl; exact rfl; exact rfl; exact rfl; exact (fun _ => rfl); assumption; exact rfl))
              | ((with_reducible apply w_pure (v := .bool _)); exact rfl; exact rfl))
            | ((with_reducible apply g_gd); first
              | ((with_reducible apply w_pass); exact rfl)
              | ((with_reducible apply w_gd_f); exact rfl; all_goals (intro hc; first | (exfalso; omega) | skip)))
            | with_reducible refine w_seq ?_
            | with_reducible refine w_nil ?_
            | with_reducible refine w_region ?_
            | ((with_reducible apply w_yes); exact rfl))
          refine w_rf (rfree_run l at_ low high w.1 hok hrm (by omega)) (fun _ => rfl) (sn_cons wv_sn (sn_cons (ho.fz (by omega) rfl (by decide) (fun _ => rfl) (sn_plains (iplains _))) (sn_cons (sn_plain rfl) (sn_cons (sn_plain rfl) (sn_cons (sn_plain rfl) sn_nil))))) ?_
          rintro _ rfl
          have hpl := placeS_free (l := l) (at_ := at_) (low := low) (high := high) (w := w) (.inl h0)
          have hfo := freeS_ok (l := l) (at_ := at_) (low := low) (high := high) (size := w.1)
          generalize freeS l at_ low high w.1 = A at *
          obtain ⟨p, fb⟩ := A
          dsimp only at hfo hpl
          cases fb with
          | false =>
            repeat' (first
              | ((with_reducible apply g_op); first
                | ((with_reducible apply g_move); first
                  | ((with_reducible apply w_pure (v := .bool _)); exact rfl; exact rfl)
                  | ((with_reducible apply w_pure (v := .tuple _)); exact rfl; exact rfl))
                | ((with_reducible apply g_assign); first
                  | ((with_reducible apply w_pure (v := .int _ _)); exact rfl; exact rfl)
                  | ((with_reducible apply w_pure (v := .bool _)); exact rfl; exact rfl)
                  | ((with_reducible apply w_pure (v := .slice _ _ _)); exact rfl; exact rfl))
                | ((with_reducible apply w_pure (v := .int _ _)); exact rfl; exact rfl)
                | ((with_reducible apply w_pure (v := .bool _)); exact rfl; exact rfl))
              | with_reducible refine w_seq ?_
              | with_reducible refine w_nil ?_
              | with_reducible refine w_region ?_
              | ((with_reducible apply w_yes); exact rfl)
              | ((with_reducible apply w_ret (v := .tuple #[.slice _ _ _, .int _ _])); exact rfl))
            exact fr_none (by unfold allS; rw [if_neg (by simp [hrm]), if_neg (by simp [hbad]), hgo, hpl]; rfl)
          | true =>
            obtain ⟨q1, q2⟩ := hfo rfl
            obtain ⟨q3, q4, q5⟩ := fits_in q2
            repeat' (first
              | ((with_reducible apply g_op); first
                | ((with_reducible apply g_move); first
                  | ((with_reducible apply w_pure (v := .int _ _)); exact rfl; exact rfl)
                  | ((with_reducible apply w_pure (v := .bool _)); exact rfl; exact rfl)
                  | ((with_reducible apply w_pure (v := .tuple _)); exact rfl; exact rfl)
                  | ((with_reducible apply w_pure (v := ov _ _)); exact rfl; exact rfl))
                | ((with_reducible apply g_assign); first
                  | ((with_reducible apply w_pure (v := .int _ _)); exact rfl; exact rfl)
                  | ((with_reducible apply w_pure (v := .bool _)); exact rfl; exact rfl))
                | ((with_reducible apply w_bsl (ls := [_])); exact rfl; exact rfl; exact rfl; exact ⟨by decide, rfl⟩; exact rfl)
                | ((with_reducible apply w_pure (v := .int _ _)); exact rfl; exact rfl)
                | ((with_reducible apply w_pure (v := .bool _)); exact rfl; exact rfl))
              | with_reducible refine w_seq ?_
              | with_reducible refine w_nil ?_
              | with_reducible refine w_region ?_
              | with_reducible refine w_skip ?_
              | ((with_reducible apply w_no); exact rfl))
            refine w_own1 (enc := iC) (y := p) (by_ := 8) (sz := 1) (lo := n) (o := o) (xs := at_) (ho.later (by omega) (fun j h1 h2 => by simp (disch := omega) only [upd_ne])) rfl rfl rfl rfl rfl rfl (fun _ => rfl) upd_same rfl rfl rfl (by have := hok.2.1; omega) (by omega) ?_
            intro g4 hg3 hg4 ho3
            repeat' (first
              | ((with_reducible apply g_op); first
                | ((with_reducible apply g_move); first
                  | ((with_reducible apply w_pure (v := .int _ _)); exact rfl; exact rfl))
                | ((with_reducible apply g_bin); first
                  | ((with_reducible apply w_wrap); exact rfl; exact rfl; first | exact i64_in _ (by omega) | exact u64_in _ (by omega) | exact u8_in _ (by omega)))
                | ((with_reducible apply g_assign); first
                  | ((with_reducible apply w_pure (v := .int _ _)); exact rfl; exact rfl)
                  | ((with_reducible apply w_pure (v := .slice _ _ _)); exact rfl; exact rfl)))
              | with_reducible refine w_nil ?_
              | with_reducible refine w_region ?_
              | with_reducible refine w_blk ?_)
            exact ih (at_ ++ [p], some _) _ _ _ (by repeat' (first | with_reducible exact Fr.mix | with_reducible exact Fr.rfl' | with_reducible refine Fr.put ?_ ?_ | with_reducible refine Fr.mix2 ?_ ?_ | with_reducible refine Fr.put0 ?_ | exact rfl)) ⟨rfl, rfl, ho3, by omega, by omega, by rw [hgo, hpl]; rfl, by rw [List.length_append, hlen]; rfl, hok.add (by have := hok.1; omega) (by omega)⟩
        · by_cases h1 : w.2 % 64 = 0
          · cases hfb : fitsS l at_ low high w.2 (rnd w.1) with
            | false =>
              repeat' (first
                | ((with_reducible apply g_op); first
                  | ((with_reducible apply g_load); first
                    | ((with_reducible apply w_fl (v := .int _ _)); exact rfl; exact (fun _ => rfl); assumption; exact rfl))
                  | ((with_reducible apply g_move); first
                    | ((with_reducible apply w_pure (v := .int _ _)); exact rfl; exact rfl)
                    | ((with_reducible apply w_pure (v := .bool _)); exact rfl; exact rfl)
                    | ((with_reducible apply w_pure (v := .func _ _ _)); exact rfl; exact rfl)
                    | ((with_reducible apply w_pure (v := ov _ _)); exact rfl; exact rfl))
                  | ((with_reducible apply g_bin); first
                    | ((with_reducible apply w_mod); exact rfl; exact rfl; exact rfl; exact rfl; exact rfl; omega; omega)
                    | ((with_reducible apply w_pure (v := .bool _)); exact rfl; exact rfl))
                  | ((with_reducible apply g_fld); first
                    | ((with_reducible apply w_ffld (o := 0)); exact rfl; exact rfl; exact rfl; exact (by decide)))
                  | ((with_reducible apply g_pick); first
                    | ((with_reducible apply w_pk0 (v := .bool _)); exact rfl; exact rfl; (first | assumption | exact decide_eq_true (by assumption) | exact decide_eq_false (by assumption) | exact decide_eq_true (by omega) | exact decide_eq_false (by omega) | exact beq_iff_eq.2 (by omega) | exact beq_eq_false_iff_ne.2 (by omega) | exact bne_iff_ne.2 (by omega) | exact bne_eq_false_iff_eq.2 (by omega))))
                  | ((with_reducible apply g_assign); first
                    | ((with_reducible apply w_pure (v := .bool _)); exact rfl; exact rfl))
                  | ((with_reducible apply g_ix); first
                    | ((with_reducible apply w_fx (sz := 2)); exact rfl; exact rfl; exact rfl; exact rfl; exact rfl; exact (fun _ => rfl); assumption; exact rfl))
                  | ((with_reducible apply w_pure (v := .bool _)); exact rfl; exact rfl))
                | ((with_reducible apply g_gd); first
                  | ((with_reducible apply w_gd_f); exact rfl; all_goals (intro hc; first | (exfalso; omega) | skip))
                  | ((with_reducible apply w_gn_f); exact rfl; all_goals (intro hc; first | (exfalso; omega) | skip)))
                | with_reducible refine w_seq ?_
                | with_reducible refine w_nil ?_
                | with_reducible refine w_region ?_
                | ((with_reducible apply w_yes); exact rfl))
              refine w_rf (rfree_run l at_ low high w.1 hok hrm (by omega)) (fun _ => rfl) (sn_cons wv_sn (sn_cons (ho.fz (by omega) rfl (by decide) (fun _ => rfl) (sn_plains (iplains _))) (sn_cons (sn_plain rfl) (sn_cons (sn_plain rfl) (sn_cons (sn_plain rfl) sn_nil))))) ?_
              rintro _ rfl
              have hpl := placeS_free (l := l) (at_ := at_) (low := low) (high := high) (w := w) (.inr (.inr hfb))
              have hfo := freeS_ok (l := l) (at_ := at_) (low := low) (high := high) (size := w.1)
              generalize freeS l at_ low high w.1 = A at *
              obtain ⟨p, fb⟩ := A
              dsimp only at hfo hpl
              cases fb with
              | false =>
                repeat' (first
                  | ((with_reducible apply g_op); first
                    | ((with_reducible apply g_move); first
                      | ((with_reducible apply w_pure (v := .bool _)); exact rfl; exact rfl)
                      | ((with_reducible apply w_pure (v := .tuple _)); exact rfl; exact rfl))
                    | ((with_reducible apply g_assign); first
                      | ((with_reducible apply w_pure (v := .int _ _)); exact rfl; exact rfl)
                      | ((with_reducible apply w_pure (v := .bool _)); exact rfl; exact rfl)
                      | ((with_reducible apply w_pure (v := .slice _ _ _)); exact rfl; exact rfl))
                    | ((with_reducible apply w_pure (v := .int _ _)); exact rfl; exact rfl)
                    | ((with_reducible apply w_pure (v := .bool _)); exact rfl; exact rfl))
                  | with_reducible refine w_seq ?_
                  | with_reducible refine w_nil ?_
                  | with_reducible refine w_region ?_
                  | ((with_reducible apply w_yes); exact rfl)
                  | ((with_reducible apply w_ret (v := .tuple #[.slice _ _ _, .int _ _])); exact rfl))
                exact fr_none (by unfold allS; rw [if_neg (by simp [hrm]), if_neg (by simp [hbad]), hgo, hpl]; rfl)
              | true =>
                obtain ⟨q1, q2⟩ := hfo rfl
                obtain ⟨q3, q4, q5⟩ := fits_in q2
                repeat' (first
                  | ((with_reducible apply g_op); first
                    | ((with_reducible apply g_move); first
                      | ((with_reducible apply w_pure (v := .int _ _)); exact rfl; exact rfl)
                      | ((with_reducible apply w_pure (v := .bool _)); exact rfl; exact rfl)
                      | ((with_reducible apply w_pure (v := .tuple _)); exact rfl; exact rfl)
                      | ((with_reducible apply w_pure (v := ov _ _)); exact rfl; exact rfl))
                    | ((with_reducible apply g_assign); first
                      | ((with_reducible apply w_pure (v := .int _ _)); exact rfl; exact rfl)
                      | ((with_reducible apply w_pure (v := .bool _)); exact rfl; exact rfl))
                    | ((with_reducible apply w_bsl (ls := [_])); exact rfl; exact rfl; exact rfl; exact ⟨by decide, rfl⟩; exact rfl)
                    | ((with_reducible apply w_pure (v := .int _ _)); exact rfl; exact rfl)
                    | ((with_reducible apply w_pure (v := .bool _)); exact rfl; exact rfl))
                  | with_reducible refine w_seq ?_
                  | with_reducible refine w_nil ?_
                  | with_reducible refine w_region ?_
                  | with_reducible refine w_skip ?_
                  | ((with_reducible apply w_no); exact rfl))
                refine w_own1 (enc := iC) (y := p) (by_ := 8) (sz := 1) (lo := n) (o := o) (xs := at_) (ho.later (by omega) (fun j h1 h2 => by simp (disch := omega) only [upd_ne])) rfl rfl rfl rfl rfl rfl (fun _ => rfl) upd_same rfl rfl rfl (by have := hok.2.1; omega) (by omega) ?_
                intro g4 hg3 hg4 ho3
                repeat' (first
                  | ((with_reducible apply g_op); first
                    | ((with_reducible apply g_move); first
                      | ((with_reducible apply w_pure (v := .int _ _)); exact rfl; exact rfl))
                    | ((with_reducible apply g_bin); first
                      | ((with_reducible apply w_wrap); exact rfl; exact rfl; first | exact i64_in _ (by omega) | exact u64_in _ (by omega) | exact u8_in _ (by omega)))
                    | ((with_reducible apply g_assign); first
                      | ((with_reducible apply w_pure (v := .int _ _)); exact rfl; exact rfl)
                      | ((with_reducible apply w_pure (v := .slice _ _ _)); exact rfl; exact rfl)))
                  | with_reducible refine w_nil ?_
                  | with_reducible refine w_region ?_
                  | with_reducible refine w_blk ?_)
                exact ih (at_ ++ [p], some _) _ _ _ (by repeat' (first | with_reducible exact Fr.mix | with_reducible exact Fr.rfl' | with_reducible refine Fr.put ?_ ?_ | with_reducible refine Fr.mix2 ?_ ?_ | with_reducible refine Fr.put0 ?_ | exact rfl)) ⟨rfl, rfl, ho3, by omega, by omega, by rw [hgo, hpl]; rfl, by rw [List.length_append, hlen]; rfl, hok.add (by have := hok.1; omega) (by omega)⟩
            | true =>
              obtain ⟨q3, q4, q5⟩ := fits_in hfb
              have hpl := placeS_slot h0 h1 hfb
              repeat' (first
                | ((with_reducible apply g_op); first
                  | ((with_reducible apply g_move); first
                    | ((with_reducible apply w_pure (v := .int _ _)); exact rfl; exact rfl)
                    | ((with_reducible apply w_pure (v := .bool _)); exact rfl; exact rfl)
                    | ((with_reducible apply w_pure (v := ov _ _)); exact rfl; exact rfl))
                  | ((with_reducible apply g_bin); first
                    | ((with_reducible apply w_mod); exact rfl; exact rfl; exact rfl; exact rfl; exact rfl; omega; omega)
                    | ((with_reducible apply w_pure (v := .bool _)); exact rfl; exact rfl))
                  | ((with_reducible apply g_pick); first
                    | ((with_reducible apply w_pk0 (v := .bool _)); exact rfl; exact rfl; (first | assumption | exact decide_eq_true (by assumption) | exact decide_eq_false (by assumption) | exact decide_eq_true (by omega) | exact decide_eq_false (by omega) | exact beq_iff_eq.2 (by omega) | exact beq_eq_false_iff_ne.2 (by omega) | exact bne_iff_ne.2 (by omega) | exact bne_eq_false_iff_eq.2 (by omega))))
                  | ((with_reducible apply g_assign); first
                    | ((with_reducible apply w_pure (v := .bool _)); exact rfl; exact rfl))
                  | ((with_reducible apply w_bsl (ls := [_])); exact rfl; exact rfl; exact rfl; exact ⟨by decide, rfl⟩; exact rfl)
                  | ((with_reducible apply w_pure (v := .bool _)); exact rfl; exact rfl))
                | ((with_reducible apply g_gd); first
                  | ((with_reducible apply w_gd_f); exact rfl; all_goals (intro hc; first | (exfalso; omega) | skip))
                  | ((with_reducible apply w_gn_f); exact rfl; all_goals (intro hc; first | (exfalso; omega) | skip)))
                | with_reducible refine w_seq ?_
                | with_reducible refine w_nil ?_
                | with_reducible refine w_region ?_
                | with_reducible refine w_skip ?_
                | ((with_reducible apply w_no); exact rfl))
              refine w_own1 (enc := iC) (y := w.2) (by_ := 8) (sz := 1) (lo := n) (o := o) (xs := at_) (ho.later (by omega) (fun j h1 h2 => by simp (disch := omega) only [upd_ne])) rfl rfl rfl rfl rfl rfl (fun _ => rfl) upd_same rfl rfl rfl (by have := hok.2.1; omega) (by omega) ?_
              intro g4 hg3 hg4 ho3
              repeat' (first
                | ((with_reducible apply g_op); first
                  | ((with_reducible apply g_move); first
                    | ((with_reducible apply w_pure (v := .int _ _)); exact rfl; exact rfl))
                  | ((with_reducible apply g_bin); first
                    | ((with_reducible apply w_wrap); exact rfl; exact rfl; first | exact i64_in _ (by omega) | exact u64_in _ (by omega) | exact u8_in _ (by omega)))
                  | ((with_reducible apply g_assign); first
                    | ((with_reducible apply w_pure (v := .int _ _)); exact rfl; exact rfl)
                    | ((with_reducible apply w_pure (v := .slice _ _ _)); exact rfl; exact rfl)))
                | with_reducible refine w_nil ?_
                | with_reducible refine w_region ?_
                | with_reducible refine w_blk ?_)
              exact ih (at_ ++ [w.2], some _) _ _ _ (by repeat' (first | with_reducible exact Fr.mix | with_reducible exact Fr.rfl' | with_reducible refine Fr.put ?_ ?_ | with_reducible refine Fr.mix2 ?_ ?_ | with_reducible refine Fr.put0 ?_ | exact rfl)) ⟨rfl, rfl, ho3, by omega, by omega, by rw [hgo, hpl]; rfl, by rw [List.length_append, hlen]; rfl, hok.add (by have := hok.1; omega) (by omega)⟩
          · repeat' (first
              | ((with_reducible apply g_op); first
                | ((with_reducible apply g_load); first
                  | ((with_reducible apply w_fl (v := .int _ _)); exact rfl; exact (fun _ => rfl); assumption; exact rfl))
                | ((with_reducible apply g_move); first
                  | ((with_reducible apply w_pure (v := .int _ _)); exact rfl; exact rfl)
                  | ((with_reducible apply w_pure (v := .bool _)); exact rfl; exact rfl)
                  | ((with_reducible apply w_pure (v := .func _ _ _)); exact rfl; exact rfl)
                  | ((with_reducible apply w_pure (v := ov _ _)); exact rfl; exact rfl))
                | ((with_reducible apply g_bin); first
                  | ((with_reducible apply w_mod); exact rfl; exact rfl; exact rfl; exact rfl; exact rfl; omega; omega)
                  | ((with_reducible apply w_pure (v := .bool _)); exact rfl; exact rfl))
                | ((with_reducible apply g_fld); first
                  | ((with_reducible apply w_ffld (o := 0)); exact rfl; exact rfl; exact rfl; exact (by decide)))
                | ((with_reducible apply g_pick); first
                  | ((with_reducible apply w_pk1 (v := .bool _)); exact rfl; exact rfl; (first | assumption | exact decide_eq_true (by assumption) | exact decide_eq_false (by assumption) | exact decide_eq_true (by omega) | exact decide_eq_false (by omega) | exact beq_iff_eq.2 (by omega) | exact beq_eq_false_iff_ne.2 (by omega) | exact bne_iff_ne.2 (by omega) | exact bne_eq_false_iff_eq.2 (by omega)))
                  | ((with_reducible apply w_pk0 (v := .bool _)); exact rfl; exact rfl; (first | assumption | exact decide_eq_true (by assumption) | exact decide_eq_false (by assumption) | exact decide_eq_true (by omega) | exact decide_eq_false (by omega) | exact beq_iff_eq.2 (by omega) | exact beq_eq_false_iff_ne.2 (by omega) | exact bne_iff_ne.2 (by omega) | exact bne_eq_false_iff_eq.2 (by omega))))
                | ((with_reducible apply g_assign); first
                  | ((with_reducible apply w_pure (v := .bool _)); exact rfl; exact rfl))
                | ((with_reducible apply g_ix); first
                  | ((with_reducible apply w_fx (sz := 2)); exact rfl; exact rfl; exact rfl; exact rfl; exact rfl; exact (fun _ => rfl); assumption; exact rfl)))
              | ((with_reducible apply g_gd); first
                | ((with_reducible apply w_gd_f); exact rfl; all_goals (intro hc; first | (exfalso; omega) | skip))
                | ((with_reducible apply w_gn_f); exact rfl; all_goals (intro hc; first | (exfalso; omega) | skip)))
              | with_reducible refine w_seq ?_
              | with_reducible refine w_nil ?_
              | with_reducible refine w_region ?_
              | ((with_reducible apply w_yes); exact rfl))
            refine w_rf (rfree_run l at_ low high w.1 hok hrm (by omega)) (fun _ => rfl) (sn_cons wv_sn (sn_cons (ho.fz (by omega) rfl (by decide) (fun _ => rfl) (sn_plains (iplains _))) (sn_cons (sn_plain rfl) (sn_cons (sn_plain rfl) (sn_cons (sn_plain rfl) sn_nil))))) ?_
            rintro _ rfl
            have hpl := placeS_free (l := l) (at_ := at_) (low := low) (high := high) (w := w) (.inr (.inl h1))
            have hfo := freeS_ok (l := l) (at_ := at_) (low := low) (high := high) (size := w.1)
            generalize freeS l at_ low high w.1 = A at *
            obtain ⟨p, fb⟩ := A
            dsimp only at hfo hpl
            cases fb with
            | false =>
              repeat' (first
                | ((with_reducible apply g_op); first
                  | ((with_reducible apply g_move); first
                    | ((with_reducible apply w_pure (v := .bool _)); exact rfl; exact rfl)
                    | ((with_reducible apply w_pure (v := .tuple _)); exact rfl; exact rfl))
                  | ((with_reducible apply g_assign); first
                    | ((with_reducible apply w_pure (v := .int _ _)); exact rfl; exact rfl)
                    | ((with_reducible apply w_pure (v := .bool _)); exact rfl; exact rfl)
                    | ((with_reducible apply w_pure (v := .slice _ _ _)); exact rfl; exact rfl))
                  | ((with_reducible apply w_pure (v := .int _ _)); exact rfl; exact rfl)
                  | ((with_reducible apply w_pure (v := .bool _)); exact rfl; exact rfl))
                | with_reducible refine w_seq ?_
                | with_reducible refine w_nil ?_
                | with_reducible refine w_region ?_
                | ((with_reducible apply w_yes); exact rfl)
                | ((with_reducible apply w_ret (v := .tuple #[.slice _ _ _, .int _ _])); exact rfl))
              exact fr_none (by unfold allS; rw [if_neg (by simp [hrm]), if_neg (by simp [hbad]), hgo, hpl]; rfl)
            | true =>
              obtain ⟨q1, q2⟩ := hfo rfl
              obtain ⟨q3, q4, q5⟩ := fits_in q2
              repeat' (first
                | ((with_reducible apply g_op); first
                  | ((with_reducible apply g_move); first
                    | ((with_reducible apply w_pure (v := .int _ _)); exact rfl; exact rfl)
                    | ((with_reducible apply w_pure (v := .bool _)); exact rfl; exact rfl)
                    | ((with_reducible apply w_pure (v := .tuple _)); exact rfl; exact rfl)
                    | ((with_reducible apply w_pure (v := ov _ _)); exact rfl; exact rfl))
                  | ((with_reducible apply g_assign); first
                    | ((with_reducible apply w_pure (v := .int _ _)); exact rfl; exact rfl)
                    | ((with_reducible apply w_pure (v := .bool _)); exact rfl; exact rfl))
                  | ((with_reducible apply w_bsl (ls := [_])); exact rfl; exact rfl; exact rfl; exact ⟨by decide, rfl⟩; exact rfl)
                  | ((with_reducible apply w_pure (v := .int _ _)); exact rfl; exact rfl)
                  | ((with_reducible apply w_pure (v := .bool _)); exact rfl; exact rfl))
                | with_reducible refine w_seq ?_
                | with_reducible refine w_nil ?_
                | with_reducible refine w_region ?_
                | with_reducible refine w_skip ?_
                | ((with_reducible apply w_no); exact rfl))
              refine w_own1 (enc := iC) (y := p) (by_ := 8) (sz := 1) (lo := n) (o := o) (xs := at_) (ho.later (by omega) (fun j h1 h2 => by simp (disch := omega) only [upd_ne])) rfl rfl rfl rfl rfl rfl (fun _ => rfl) upd_same rfl rfl rfl (by have := hok.2.1; omega) (by omega) ?_
              intro g4 hg3 hg4 ho3
              repeat' (first
                | ((with_reducible apply g_op); first
                  | ((with_reducible apply g_move); first
                    | ((with_reducible apply w_pure (v := .int _ _)); exact rfl; exact rfl))
                  | ((with_reducible apply g_bin); first
                    | ((with_reducible apply w_wrap); exact rfl; exact rfl; first | exact i64_in _ (by omega) | exact u64_in _ (by omega) | exact u8_in _ (by omega)))
                  | ((with_reducible apply g_assign); first
                    | ((with_reducible apply w_pure (v := .int _ _)); exact rfl; exact rfl)
                    | ((with_reducible apply w_pure (v := .slice _ _ _)); exact rfl; exact rfl)))
                | with_reducible refine w_nil ?_
                | with_reducible refine w_region ?_
                | with_reducible refine w_blk ?_)
              exact ih (at_ ++ [p], some _) _ _ _ (by repeat' (first | with_reducible exact Fr.mix | with_reducible exact Fr.rfl' | with_reducible refine Fr.put ?_ ?_ | with_reducible refine Fr.mix2 ?_ ?_ | with_reducible refine Fr.put0 ?_ | exact rfl)) ⟨rfl, rfl, ho3, by omega, by omega, by rw [hgo, hpl]; rfl, by rw [List.length_append, hlen]; rfl, hok.add (by have := hok.1; omega) (by omega)⟩
      · rintro ⟨at_, o⟩ σ g3 n3 ⟨k47, k10, ho, hn3, hn4, hgo, hlen, hok⟩
        dsimp only at k10 ho hgo hlen hok
        rw [List.drop_length] at hgo
        refine w_keep (i := 11) k47 (w_keep (i := 10) k10 ?_)
        repeat' (first
          | ((with_reducible apply g_op); first
            | ((with_reducible apply g_move); first
              | ((with_reducible apply w_pure (v := .int _ _)); exact rfl; exact rfl)
              | ((with_reducible apply w_pure (v := .func _ _ _)); exact rfl; exact rfl)
              | ((with_reducible apply w_pure (v := ov _ _)); exact rfl; exact rfl))
            | ((with_reducible apply g_bin); first
              | ((with_reducible apply w_pure (v := .bool _)); exact rfl; exact rfl))
            | ((with_reducible apply g_assign); first
              | ((with_reducible apply w_pure (v := .int _ _)); exact rfl; exact rfl)
              | ((with_reducible apply w_pure (v := ov _ _)); exact rfl; exact rfl))
            | ((with_reducible apply g_call); first
              | ((with_reducible apply w_call (v := .int _ _)); exact rfl)))
          | with_reducible refine w_seq ?_
          | with_reducible refine w_nil ?_
          | with_reducible refine w_region ?_
          | ((with_reducible apply w_exit); exact rfl)
          | ((with_reducible apply w_ifd); exact rfl; all_goals (intro hc; first | (exfalso; omega) | skip)))
        refine w_ret (v := .tuple #[ov o at_.length, .int .i64 0]) rfl ?_
        refine ⟨_, sn_tuple (sn_cons (ho.fz (Nat.le_refl _) rfl (by decide) (fun _ => rfl) (sn_plains (iplains _))) (sn_cons (sn_plain rfl) sn_nil)), ?_⟩
        have e : allS l low high = (at_, 0) := by unfold allS; rw [if_neg (by simp [hrm]), if_neg (by simp [hbad]), hgo]; rfl
        rw [e]
theorem same_run (l k : List Int) (hl : l.length ≤ 1000000) (hk : k.length ≤ 1000000) : Rf Try.prog T 11 [iv tg l, iv tg k] (fun v => ∃ b : Bool, v = .bool b ∧ (b = true ↔ l = k)) := by
  refine c_froz Try.func11 rfl rfl rfl rfl rfl rfl ?_
  intro g n
  by_cases hlen : l.length = k.length
  · repeat' (first
      | ((with_reducible apply g_op); first
        | ((with_reducible apply g_move); first
          | ((with_reducible apply w_pure (v := .func _ _ _)); exact rfl; exact rfl))
        | ((with_reducible apply g_bin); first
          | ((with_reducible apply w_pure (v := .bool _)); exact rfl; exact rfl))
        | ((with_reducible apply g_assign); first
          | ((with_reducible apply w_pure (v := .int _ _)); exact rfl; exact rfl)
          | ((with_reducible apply w_pure (v := .bool _)); exact rfl; exact rfl))
        | ((with_reducible apply g_call); first
          | ((with_reducible apply w_call (v := .int _ _)); exact rfl)))
      | with_reducible refine w_seq ?_
      | with_reducible refine w_nil ?_
      | with_reducible refine w_region ?_
      | with_reducible refine w_skip ?_
      | with_reducible refine w_block ?_
      | ((with_reducible apply w_ifn); exact rfl; all_goals (intro hc; first | (exfalso; omega) | skip)))
    refine w_cntK [(4, 5), (11, 25)] l.length (fun i (_ : Unit) σ g' n' => σ 5 = .int .i64 (i : Nat) ∧ l.take i = k.take i) ?_ ?_ () ⟨rfl, rfl⟩
    · rintro i _ σ g2 n2 hlt ⟨k5, hpre⟩ ih
      refine w_keep (i := 5) k5 ?_
      obtain ⟨x, hx⟩ : ∃ x, l[i]? = some x := ⟨_, List.getElem?_eq_getElem hlt⟩
      obtain ⟨y, hy⟩ : ∃ y, k[i]? = some y := ⟨_, List.getElem?_eq_getElem (by omega)⟩
      by_cases hxy : x = y
      · subst hxy
        repeat' (first
          | ((with_reducible apply g_op); first
            | ((with_reducible apply g_load); first
              | ((with_reducible apply w_fl (v := .int _ _)); exact rfl; exact (fun _ => rfl); assumption; exact rfl))
            | ((with_reducible apply g_move); first
              | ((with_reducible apply w_pure (v := .int _ _)); exact rfl; exact rfl)
              | ((with_reducible apply w_pure (v := .func _ _ _)); exact rfl; exact rfl))
            | ((with_reducible apply g_bin); first
              | ((with_reducible apply w_wrap); exact rfl; exact rfl; first | exact i64_in _ (by omega) | exact u64_in _ (by omega) | exact u8_in _ (by omega))
              | ((with_reducible apply w_pure (v := .bool _)); exact rfl; exact rfl))
            | ((with_reducible apply g_assign); first
              | ((with_reducible apply w_pure (v := .int _ _)); exact rfl; exact rfl))
            | ((with_reducible apply g_call); first
              | ((with_reducible apply w_call (v := .int _ _)); exact rfl))
            | ((with_reducible apply g_ix); first
              | ((with_reducible apply w_fx (sz := 1)); exact rfl; exact rfl; exact rfl; exact rfl; exact rfl; exact (fun _ => rfl); assumption; exact rfl)))
          | with_reducible refine w_seq ?_
          | with_reducible refine w_nil ?_
          | with_reducible refine w_region ?_
          | with_reducible refine w_skip ?_
          | with_reducible refine w_block ?_
          | with_reducible refine w_blk ?_
          | ((with_reducible apply w_draw); kernel_rfl; kernel_rfl)
          | ((with_reducible apply w_ifd); exact rfl; all_goals (intro hc; first | (exfalso; omega) | skip))
          | ((with_reducible apply w_ifn); exact rfl; all_goals (intro hc; first | (exfalso; omega) | skip)))
        all_goals first | exact absurd rfl (by assumption) | skip
        refine ih () _ _ _ (by repeat' (first | with_reducible exact Fr.mix | with_reducible exact Fr.rfl' | with_reducible refine Fr.put ?_ ?_ | with_reducible refine Fr.mix2 ?_ ?_ | with_reducible refine Fr.put0 ?_ | exact rfl)) ⟨rfl, ?_⟩
        rw [List.take_add_one, List.take_add_one, hpre, hx, hy]
      · repeat' (first
          | ((with_reducible apply g_op); first
            | ((with_reducible apply g_load); first
              | ((with_reducible apply w_fl (v := .int _ _)); exact rfl; exact (fun _ => rfl); assumption; exact rfl))
            | ((with_reducible apply g_move); first
              | ((with_reducible apply w_pure (v := .int _ _)); exact rfl; exact rfl)
              | ((with_reducible apply w_pure (v := .func _ _ _)); exact rfl; exact rfl))
            | ((with_reducible apply g_bin); first
              | ((with_reducible apply w_pure (v := .bool _)); exact rfl; exact rfl))
            | ((with_reducible apply g_assign); first
              | ((with_reducible apply w_pure (v := .bool _)); exact rfl; exact rfl))
            | ((with_reducible apply g_call); first
              | ((with_reducible apply w_call (v := .int _ _)); exact rfl))
            | ((with_reducible apply g_ix); first
              | ((with_reducible apply w_fx (sz := 1)); exact rfl; exact rfl; exact rfl; exact rfl; exact rfl; exact (fun _ => rfl); assumption; exact rfl)))
          | with_reducible refine w_seq ?_
          | with_reducible refine w_nil ?_
          | with_reducible refine w_region ?_
          | with_reducible refine w_skip ?_
          | with_reducible refine w_block ?_
          | ((with_reducible apply w_draw); kernel_rfl; kernel_rfl)
          | ((with_reducible apply w_ifd); exact rfl; all_goals (intro hc; first | (exfalso; omega) | skip))
          | ((with_reducible apply w_ifn); exact rfl; all_goals (intro hc; first | (exfalso; omega) | skip))
          | ((with_reducible apply w_ret (v := .bool _)); exact rfl))
        all_goals first | exact absurd (by assumption) hxy | skip
        refine fr_plain rfl ⟨false, rfl, ?_⟩
        simp
        intro e
        subst e
        rw [hx] at hy
        cases hy
        exact hxy rfl
    · rintro _ σ g2 n2 ⟨k5, hpre⟩
      refine w_keep (i := 5) k5 ?_
      repeat' (first
        | ((with_reducible apply g_op); first
          | ((with_reducible apply g_move); first
            | ((with_reducible apply w_pure (v := .int _ _)); exact rfl; exact rfl)
            | ((with_reducible apply w_pure (v := .func _ _ _)); exact rfl; exact rfl))
          | ((with_reducible apply g_bin); first
            | ((with_reducible apply w_pure (v := .bool _)); exact rfl; exact rfl))
          | ((with_reducible apply g_assign); first
            | ((with_reducible apply w_pure (v := .bool _)); exact rfl; exact rfl))
          | ((with_reducible apply g_call); first
            | ((with_reducible apply w_call (v := .int _ _)); exact rfl)))
        | with_reducible refine w_seq ?_
        | with_reducible refine w_nil ?_
        | with_reducible refine w_region ?_
        | ((with_reducible apply w_exit); exact rfl)
        | ((with_reducible apply w_ifd); exact rfl; all_goals (intro hc; first | (exfalso; omega) | skip))
        | ((with_reducible apply w_ret (v := .bool _)); exact rfl))
      refine fr_plain rfl ⟨true, rfl, ?_⟩
      rw [List.take_length, List.take_of_length_le (by omega)] at hpre
      simpa using hpre
  · repeat' (first
      | ((with_reducible apply g_op); first
        | ((with_reducible apply g_move); first
          | ((with_reducible apply w_pure (v := .func _ _ _)); exact rfl; exact rfl))
        | ((with_reducible apply g_bin); first
          | ((with_reducible apply w_pure (v := .bool _)); exact rfl; exact rfl))
        | ((with_reducible apply g_assign); first
          | ((with_reducible apply w_pure (v := .bool _)); exact rfl; exact rfl))
        | ((with_reducible apply g_call); first
          | ((with_reducible apply w_call (v := .int _ _)); exact rfl)))
      | with_reducible refine w_seq ?_
      | with_reducible refine w_nil ?_
      | with_reducible refine w_region ?_
      | ((with_reducible apply w_ifn); exact rfl; all_goals (intro hc; first | (exfalso; omega) | skip))
      | ((with_reducible apply w_ret (v := .bool _)); exact rfl))
    exact fr_plain rfl ⟨false, rfl, by simp; intro e; exact hlen (by rw [e])⟩
theorem awake_run : Rf Try.prog T 7 [] (fun v => v = .bool true) := by
  refine c_froz Try.func7 rfl rfl rfl rfl rfl rfl ?_
  intro g n
  repeat' (first
    | ((with_reducible apply g_op); first
      | ((with_reducible apply g_assign); first
        | ((with_reducible apply w_pure (v := .bool _)); exact rfl; exact rfl))
      | ((with_reducible apply g_build); first
        | ((with_reducible apply w_pure (v := .agg #[.int _ _, .int _ _])); exact rfl; exact rfl))
      | ((with_reducible apply w_bsl (ls := [_, _, _, _, _, _])); exact rfl; exact rfl; exact rfl; exact ⟨by decide, rfl⟩; exact rfl))
    | with_reducible refine w_seq ?_
    | with_reducible refine w_nil ?_
    | with_reducible refine w_region ?_)
  refine w_rf (all_run [(100, 128), (64, 128), (64, 0)] 0 4096 (by decide)) (fun _ => rfl) (sn_cons (sn_row (sz := 2) upd_same (Nat.zero_le _) (by kernel_rfl) (by decide) rfl (sn_plains rfl)) (sn_cons (sn_plain rfl) (sn_cons (sn_plain rfl) sn_nil))) ?_
  rintro _ rfl
  have e : allS [(100, 128), (64, 128), (64, 0)] 0 4096 = ([128, 0, 64], 0) := by decide +kernel
  rw [e]
  repeat' (first
    | ((with_reducible apply g_op); first
      | ((with_reducible apply g_move); first
        | ((with_reducible apply w_pure (v := .tuple _)); exact rfl; exact rfl)
        | ((with_reducible apply w_pure (v := .func _ _ _)); exact rfl; exact rfl))
      | ((with_reducible apply g_assign); first
        | ((with_reducible apply w_pure (v := .int _ _)); exact rfl; exact rfl)
        | ((with_reducible apply w_pure (v := .func _ _ _)); exact rfl; exact rfl))
      | ((with_reducible apply w_bsl (ls := [_, _, _])); exact rfl; exact rfl; exact rfl; exact ⟨by decide, rfl⟩; exact rfl)
      | ((with_reducible apply w_pure (v := .int _ _)); exact rfl; exact rfl)
      | ((with_reducible apply w_pure (v := .func _ _ _)); exact rfl; exact rfl))
    | with_reducible refine w_seq ?_
    | with_reducible refine w_nil ?_
    | with_reducible refine w_region ?_)
  refine w_rf (same_run [128, 0, 64] [128, 0, 64] (by decide) (by decide)) (fun _ => rfl) (sn_cons iv_sn (sn_cons (sn_row (sz := 1) upd_same (Nat.zero_le _) (by kernel_rfl) (by decide) rfl (sn_plains rfl)) sn_nil)) ?_
  rintro _ ⟨b, rfl, hb⟩
  obtain rfl : b = true := hb.2 rfl
  repeat' (first
    | ((with_reducible apply g_op); first
      | ((with_reducible apply g_move); first
        | ((with_reducible apply w_pure (v := .int _ _)); exact rfl; exact rfl)
        | ((with_reducible apply w_pure (v := .bool _)); exact rfl; exact rfl))
      | ((with_reducible apply g_bin); first
        | ((with_reducible apply w_pure (v := .bool _)); exact rfl; exact rfl))
      | ((with_reducible apply g_pick); first
        | ((with_reducible apply w_pk1 (v := .bool _)); exact rfl; exact rfl; (first | assumption | exact decide_eq_true (by assumption) | exact decide_eq_false (by assumption) | exact decide_eq_true (by omega) | exact decide_eq_false (by omega) | exact beq_iff_eq.2 (by omega) | exact beq_eq_false_iff_ne.2 (by omega) | exact bne_iff_ne.2 (by omega) | exact bne_eq_false_iff_eq.2 (by omega))))
      | ((with_reducible apply g_assign); first
        | ((with_reducible apply w_pure (v := .bool _)); exact rfl; exact rfl)))
    | ((with_reducible apply g_gd); first
      | ((with_reducible apply w_want); exact rfl))
    | with_reducible refine w_seq ?_
    | with_reducible refine w_nil ?_
    | with_reducible refine w_region ?_
    | ((with_reducible apply w_ret (v := .bool _)); exact rfl))
  exact fr_plain rfl rfl
theorem few_run (l : List (Int × Int)) (g n m) : Rn Try.prog T 8 [wv tg l] g n m (fun v g' n' => v = wv tg (l.take 12) ∧ g' = g ∧ n' = n) := by
  refine c_open Try.func8 rfl rfl rfl rfl rfl rfl ?_
  repeat' (first
    | ((with_reducible apply g_op); first
      | ((with_reducible apply g_move); first
        | ((with_reducible apply w_pure (v := .func _ _ _)); exact rfl; exact rfl))
      | ((with_reducible apply g_bin); first
        | ((with_reducible apply w_pure (v := .bool _)); exact rfl; exact rfl))
      | ((with_reducible apply g_assign); first
        | ((with_reducible apply w_pure (v := .slice _ _ _)); exact rfl; exact rfl)
        | ((with_reducible apply w_pure (v := .func _ _ _)); exact rfl; exact rfl))
      | ((with_reducible apply g_call); first
        | ((with_reducible apply w_call (v := .int _ _)); exact rfl)))
    | with_reducible refine w_seq ?_
    | with_reducible refine w_nil ?_
    | with_reducible refine w_region ?_
    | with_reducible refine w_skip ?_
    | ((with_reducible apply w_ifd); exact rfl; all_goals (intro hc; first | (exfalso; omega) | skip))
    | ((with_reducible apply w_ret (v := .func _ _ _)); exact rfl))
  · refine w_fsl (enc := wC) (ls := l) (sz := 2) (p := 0) (q := 12) rfl rfl rfl rfl rfl rfl (fun h => by cases h) (fun _ => rfl) rfl (by omega) ?_
    repeat' (first
      | ((with_reducible apply g_op); first
        | ((with_reducible apply g_assign); first
          | ((with_reducible apply w_pure (v := .func _ _ _)); exact rfl; exact rfl)))
      | with_reducible refine w_nil ?_
      | ((with_reducible apply w_ret (v := .func _ _ _)); exact rfl))
    refine ⟨?_, rfl, rfl⟩
    have e : (l.take 12).length = 12 := by rw [List.length_take]; omega
    show fz tg 12 _ = fz tg (l.take 12).length _
    rw [e]
    rfl
  · refine ⟨?_, rfl, rfl⟩
    rw [List.take_of_length_le (by omega)]
end Go.Proofs.Ythfhlfkcphojkaa.L

