/- Place: Free, the program's (a range over a function) and the document's. -/
import Derived.Test.Ythfhlfkcphojkaac13A
namespace Go.Proofs.Ythfhlfkcphojkaa.L
open Go.L1 Go.IntWalk
set_option linter.unusedVariables false
set_option linter.unusedSimpArgs false
set_option maxHeartbeats 4000000
set_option maxRecDepth 20000
def cands (l : List (Int × Int)) (at_ : List Int) (low : Int) : List Int := low :: (at_.zip l).map fun x => x.1 + rnd x.2.1
def stepS (l : List (Int × Int)) (at_ : List Int) (low high n : Int) (s : Int × Bool) (p : Int) : Int × Bool := if p % 64 = 0 ∧ (s.2 = false ∨ p < s.1) ∧ fitsS l at_ low high p n = true then (p, true) else s
def freeS (l : List (Int × Int)) (at_ : List Int) (low high size : Int) : Int × Bool := (cands l at_ low).foldl (stepS l at_ low high (rnd size)) (0, false)
theorem cands_get {l : List (Int × Int)} {at_ : List Int} {low : Int} {i : Nat} {w : Int × Int} {q : Int} (hw : l[i]? = some w) (hq : at_[i]? = some q) : (cands l at_ low)[i + 1]? = some (q + rnd w.1) := by
  have hz : (at_.zip l)[i]? = some (q, w) := by rw [List.getElem?_zip_eq_some]; exact ⟨hq, hw⟩
  simp [cands, hz]
theorem foldl_take {α β : Type} {f : β → α → β} {l : List α} {i : Nat} {x : α} {b : β} (h : l[i]? = some x) : (l.take (i + 1)).foldl f b = f ((l.take i).foldl f b) x := by
  rw [List.take_add_one, h]; simp
theorem cands_len (l : List (Int × Int)) (at_ : List Int) (low : Int) : (cands l at_ low).length = min at_.length l.length + 1 := by simp [cands]
theorem roomS_iff {a b : Int} : roomS a b = true ↔ 0 ≤ a ∧ b ≤ 1099511627776 ∧ a ≤ b ∧ a % 64 = 0 ∧ b % 64 = 0 := by unfold roomS; exact decide_eq_true_iff
theorem rfree_run (l : List (Int × Int)) (at_ : List Int) (low high size : Int) (hok : Ok l at_) (hrm : roomS low high = true) (hs : 1 ≤ size) :
    Rf Try.prog T 19 [wv tg l, iv tg at_, .int .i64 low, .int .i64 high, .int .i64 size] (fun v => v = .tuple #[.int .i64 (freeS l at_ low high size).1, .bool (freeS l at_ low high size).2]) := by
  have hok' := hok
  obtain ⟨hl, hat, hr⟩ := hok
  obtain ⟨m1, m2, m3, m4, m5⟩ := roomS_iff.1 hrm
  refine c_froz Try.func19 rfl rfl rfl rfl rfl rfl ?_
  intro g n
  repeat' (first
    | ((with_reducible apply g_op); first
      | ((with_reducible apply g_move); first
        | ((with_reducible apply w_pure (v := .int _ _)); exact rfl; exact rfl))
      | ((with_reducible apply g_assign); first
        | ((with_reducible apply w_pure (v := .int _ _)); exact rfl; exact rfl)
        | ((with_reducible apply w_pure (v := .bool _)); exact rfl; exact rfl)))
    | with_reducible refine w_seq ?_
    | with_reducible refine w_nil ?_
    | with_reducible refine w_region ?_)
  refine w_rq (rroom_run _ _ _ _ _) (fun _ => rfl) ?_
  rintro v rfl
  rw [hrm]
  repeat' (first
    | ((with_reducible apply g_op); first
      | ((with_reducible apply g_move); first
        | ((with_reducible apply w_pure (v := .int _ _)); exact rfl; exact rfl)
        | ((with_reducible apply w_pure (v := .bool _)); exact rfl; exact rfl))
      | ((with_reducible apply g_bin); first
        | ((with_reducible apply w_pure (v := .bool _)); exact rfl; exact rfl))
      | ((with_reducible apply g_assign); first
        | ((with_reducible apply w_pure (v := .bool _)); exact rfl; exact rfl))
      | ((with_reducible apply w_pure (v := .bool _)); exact rfl; exact rfl))
    | ((with_reducible apply g_gd); first
      | ((with_reducible apply w_want); exact rfl))
    | with_reducible refine w_seq ?_
    | with_reducible refine w_nil ?_
    | with_reducible refine w_region ?_
    | with_reducible refine w_skip ?_
    | ((with_reducible apply w_ifd); exact rfl; all_goals (intro hc; first | (exfalso; omega) | skip)))
  refine w_rq (rround_run _ _ _ _) (fun _ => rfl) ?_
  rintro v rfl
  have hrs := rnd_le size
  repeat' (first
    | ((with_reducible apply g_op); first
      | ((with_reducible apply g_assign); first
        | ((with_reducible apply w_pure (v := .int _ _)); exact rfl; exact rfl)
        | ((with_reducible apply w_pure (v := .bool _)); exact rfl; exact rfl)))
    | with_reducible refine w_seq ?_
    | with_reducible refine w_nil ?_
    | with_reducible refine w_region ?_
    | with_reducible refine w_block ?_)
  refine w_cntK [(14, 18), (30, 78)] (min at_.length l.length + 1) (fun i (s : Int × Bool) σ g' n' => σ 16 = .int .i64 ((i : Nat) - 1) ∧ σ 14 = .bool s.2 ∧ σ 15 = .int .i64 s.1 ∧ s = ((cands l at_ low).take i).foldl (stepS l at_ low high (rnd size)) (0, false) ∧ g' = g ∧ n' = n) ?_ ?_ (0, false) ⟨rfl, rfl, rfl, rfl, rfl, rfl⟩
  · rintro i ⟨s1, s2⟩ σ _ _ hi ⟨k16, k14, k15, hsd, rfl, rfl⟩ ih
    dsimp only at k14 k15
    have hc : ∃ c, (cands l at_ low)[i]? = some c := ⟨_, List.getElem?_eq_getElem (by rw [cands_len]; exact hi)⟩
    obtain ⟨c, hc⟩ := hc
    have hst := foldl_take (f := stepS l at_ low high (rnd size)) (b := (0, false)) hc
    rw [← hsd] at hst
    cases i with
    | zero =>
      obtain rfl : low = c := by simpa [cands] using hc
      refine w_keep (i := 16) k16 (w_keep (i := 14) k14 (w_keep (i := 15) k15 ?_))
      repeat' (first
        | ((with_reducible apply g_op); first
          | ((with_reducible apply g_move); first
            | ((with_reducible apply w_pure (v := .int _ _)); exact rfl; exact rfl)
            | ((with_reducible apply w_pure (v := .bool _)); exact rfl; exact rfl)
            | ((with_reducible apply w_pure (v := .func _ _ _)); exact rfl; exact rfl))
          | ((with_reducible apply g_bin); first
            | ((with_reducible apply w_pure (v := .bool _)); exact rfl; exact rfl))
          | ((with_reducible apply g_pick); first
            | ((with_reducible apply w_pk1 (v := .bool _)); exact rfl; exact rfl; (first | assumption | exact decide_eq_true (by assumption) | exact decide_eq_false (by assumption) | exact decide_eq_true (by omega) | exact decide_eq_false (by omega) | exact beq_iff_eq.2 (by omega) | exact beq_eq_false_iff_ne.2 (by omega) | exact bne_iff_ne.2 (by omega) | exact bne_eq_false_iff_eq.2 (by omega))))
          | ((with_reducible apply g_assign); first
            | ((with_reducible apply w_pure (v := .int _ _)); exact rfl; exact rfl))
          | ((with_reducible apply g_call); first
            | ((with_reducible apply w_call (v := .int _ _)); exact rfl)))
        | ((with_reducible apply g_gd); first
          | ((with_reducible apply w_want); exact rfl))
        | with_reducible refine w_seq ?_
        | with_reducible refine w_nil ?_
        | with_reducible refine w_region ?_
        | with_reducible refine w_skip ?_
        | with_reducible refine w_block ?_
        | ((with_reducible apply w_yes); exact rfl)
        | ((with_reducible apply w_no); exact rfl))
      refine w_rf (rfits_run l at_ low high low (rnd size) hok' (by omega) (by omega) (by omega) (by omega) (by omega) (by omega) (by omega) (by omega)) (fun _ => rfl) (sn_cons wv_sn (sn_cons iv_sn (sn_cons (sn_plain rfl) (sn_cons (sn_plain rfl) (sn_cons (sn_plain rfl) (sn_cons (sn_plain rfl) sn_nil)))))) ?_
      rintro v rfl
      have hfs : stepS l at_ low high (rnd size) (s1, s2) (low) = if (low) % 64 = 0 ∧ (s2 = false ∨ (low) < s1) ∧ fitsS l at_ low high (low) (rnd size) = true then (low, true) else (s1, s2) := rfl
      rw [hfs] at hst
      clear hfs
      generalize fitsS l at_ low high (low) (rnd size) = F at *
      cases F <;> cases s2 <;> (
        repeat' (first
          | ((with_reducible apply g_op); first
            | ((with_reducible apply g_move); first
              | ((with_reducible apply w_pure (v := .int _ _)); exact rfl; exact rfl)
              | ((with_reducible apply w_pure (v := .bool _)); exact rfl; exact rfl))
            | ((with_reducible apply g_bin); first
              | ((with_reducible apply w_mod); exact rfl; exact rfl; exact rfl; exact rfl; exact rfl; omega; omega)
              | ((with_reducible apply w_wrap); exact rfl; exact rfl; first | exact i64_in _ (by omega) | exact u64_in _ (by omega) | exact u8_in _ (by omega))
              | ((with_reducible apply w_pure (v := .bool _)); exact rfl; exact rfl))
            | ((with_reducible apply g_pick); first
              | ((with_reducible apply w_pk1 (v := .bool _)); exact rfl; exact rfl; (first | assumption | exact decide_eq_true (by assumption) | exact decide_eq_false (by assumption) | exact decide_eq_true (by omega) | exact decide_eq_false (by omega) | exact beq_iff_eq.2 (by omega) | exact beq_eq_false_iff_ne.2 (by omega) | exact bne_iff_ne.2 (by omega) | exact bne_eq_false_iff_eq.2 (by omega))))
            | ((with_reducible apply g_assign); first
              | ((with_reducible apply w_pure (v := .int _ _)); exact rfl; exact rfl)
              | ((with_reducible apply w_pure (v := .bool _)); exact rfl; exact rfl))
            | ((with_reducible apply w_pure (v := .bool _)); exact rfl; exact rfl))
          | ((with_reducible apply g_gd); first
            | ((with_reducible apply w_want); exact rfl)
            | ((with_reducible apply w_pass); exact rfl)
            | ((with_reducible apply w_psn); exact rfl)
            | ((with_reducible apply w_gd_t); exact rfl; all_goals (intro hc; first | (exfalso; omega) | skip)))
          | with_reducible refine w_seq ?_
          | with_reducible refine w_nil ?_
          | with_reducible refine w_region ?_
          | with_reducible refine w_skip ?_
          | with_reducible refine w_blk ?_
          | ((with_reducible apply w_yes); exact rfl)
          | ((with_reducible apply w_no); exact rfl)
          | ((with_reducible apply w_ifd); exact rfl; all_goals (intro hc; first | (exfalso; omega) | skip)))
        all_goals first
          | (rw [if_pos (by first | exact ⟨by omega, .inl rfl, rfl⟩ | exact ⟨by omega, .inr (by omega), rfl⟩)] at hst; exact ih _ _ _ _ (by repeat' (first | with_reducible exact Fr.mix | with_reducible exact Fr.rfl' | with_reducible refine Fr.put ?_ ?_ | with_reducible refine Fr.mix2 ?_ ?_ | with_reducible refine Fr.put0 ?_ | exact rfl)) ⟨by exact ieq (by omega), rfl, rfl, hst.symm, rfl, rfl⟩)
          | (rw [if_neg (by first | (rintro ⟨_, _, h⟩; cases h; done) | (rintro ⟨h, _, _⟩; omega) | (rintro ⟨_, h, _⟩; rcases h with h | h <;> first | (cases h; done) | omega))] at hst; exact ih _ _ _ _ (by repeat' (first | with_reducible exact Fr.mix | with_reducible exact Fr.rfl' | with_reducible refine Fr.put ?_ ?_ | with_reducible refine Fr.mix2 ?_ ?_ | with_reducible refine Fr.put0 ?_ | exact rfl)) ⟨by exact ieq (by omega), rfl, rfl, hst.symm, rfl, rfl⟩))
    | succ i =>
      obtain ⟨w, hw⟩ : ∃ w, l[i]? = some w := ⟨_, List.getElem?_eq_getElem (by omega)⟩
      obtain ⟨q, hq⟩ : ∃ q, at_[i]? = some q := ⟨_, List.getElem?_eq_getElem (by omega)⟩
      have hcc := cands_get (low := low) hw hq
      rw [hc] at hcc
      cases hcc
      have hqr := hr q (List.mem_of_getElem? hq)
      have hr1 := rnd_le w.1
      replace k16 : σ 16 = .int .i64 (i : Nat) := by rw [k16]; exact ieq (by omega)
      refine w_keep (i := 16) k16 (w_keep (i := 14) k14 (w_keep (i := 15) k15 ?_))
      repeat' (first
        | ((with_reducible apply g_op); first
          | ((with_reducible apply g_load); first
            | ((with_reducible apply w_fl (v := .int _ _)); exact rfl; exact (fun _ => rfl); assumption; exact rfl))
          | ((with_reducible apply g_move); first
            | ((with_reducible apply w_pure (v := .int _ _)); exact rfl; exact rfl)
            | ((with_reducible apply w_pure (v := .bool _)); exact rfl; exact rfl)
            | ((with_reducible apply w_pure (v := .func _ _ _)); exact rfl; exact rfl))
          | ((with_reducible apply g_bin); first
            | ((with_reducible apply w_pure (v := .bool _)); exact rfl; exact rfl))
          | ((with_reducible apply g_fld); first
            | ((with_reducible apply w_ffld (o := 0)); exact rfl; exact rfl; exact rfl; exact (by decide)))
          | ((with_reducible apply g_pick); first
            | ((with_reducible apply w_pk1 (v := .bool _)); exact rfl; exact rfl; (first | assumption | exact decide_eq_true (by assumption) | exact decide_eq_false (by assumption) | exact decide_eq_true (by omega) | exact decide_eq_false (by omega) | exact beq_iff_eq.2 (by omega) | exact beq_eq_false_iff_ne.2 (by omega) | exact bne_iff_ne.2 (by omega) | exact bne_eq_false_iff_eq.2 (by omega))))
          | ((with_reducible apply g_assign); first
            | ((with_reducible apply w_pure (v := .int _ _)); exact rfl; exact rfl))
          | ((with_reducible apply g_call); first
            | ((with_reducible apply w_call (v := .int _ _)); exact rfl))
          | ((with_reducible apply g_ix); first
            | ((with_reducible apply w_fx (sz := 1)); exact rfl; exact rfl; exact rfl; exact rfl; exact rfl; exact (fun _ => rfl); assumption; exact rfl)
            | ((with_reducible apply w_fx (sz := 2)); exact rfl; exact rfl; exact rfl; exact rfl; exact rfl; exact (fun _ => rfl); assumption; exact rfl)))
        | ((with_reducible apply g_gd); first
          | ((with_reducible apply w_gd_t); exact rfl; all_goals (intro hc; first | (exfalso; omega) | skip)))
        | with_reducible refine w_seq ?_
        | with_reducible refine w_nil ?_
        | with_reducible refine w_region ?_
        | with_reducible refine w_skip ?_
        | with_reducible refine w_block ?_
        | ((with_reducible apply w_draw); kernel_rfl; kernel_rfl)
        | ((with_reducible apply w_yes); exact rfl)
        | ((with_reducible apply w_ifd); exact rfl; all_goals (intro hc; first | (exfalso; omega) | skip)))
      refine w_rq (rround_run _ _ _ _) (fun _ => rfl) ?_
      rintro v rfl
      repeat' (first
        | ((with_reducible apply g_op); first
          | ((with_reducible apply g_move); first
            | ((with_reducible apply w_pure (v := .int _ _)); exact rfl; exact rfl)
            | ((with_reducible apply w_pure (v := .func _ _ _)); exact rfl; exact rfl))
          | ((with_reducible apply g_bin); first
            | ((with_reducible apply w_wrap); exact rfl; exact rfl; first | exact i64_in _ (by omega) | exact u64_in _ (by omega) | exact u8_in _ (by omega)))
          | ((with_reducible apply g_assign); first
            | ((with_reducible apply w_pure (v := .int _ _)); exact rfl; exact rfl)))
        | with_reducible refine w_seq ?_
        | with_reducible refine w_nil ?_
        | with_reducible refine w_region ?_)
      refine w_rf (rfits_run l at_ low high (q + rnd w.1) (rnd size) hok' (by omega) (by omega) (by omega) (by omega) (by omega) (by omega) (by omega) (by omega)) (fun _ => rfl) (sn_cons wv_sn (sn_cons iv_sn (sn_cons (sn_plain rfl) (sn_cons (sn_plain rfl) (sn_cons (sn_plain rfl) (sn_cons (sn_plain rfl) sn_nil)))))) ?_
      rintro v rfl
      have hfs : stepS l at_ low high (rnd size) (s1, s2) (q + rnd w.1) = if (q + rnd w.1) % 64 = 0 ∧ (s2 = false ∨ (q + rnd w.1) < s1) ∧ fitsS l at_ low high (q + rnd w.1) (rnd size) = true then (q + rnd w.1, true) else (s1, s2) := rfl
      rw [hfs] at hst
      clear hfs
      generalize fitsS l at_ low high (q + rnd w.1) (rnd size) = F at *
      cases F <;> cases s2 <;> (
        repeat' (first
          | ((with_reducible apply g_op); first
            | ((with_reducible apply g_move); first
              | ((with_reducible apply w_pure (v := .int _ _)); exact rfl; exact rfl)
              | ((with_reducible apply w_pure (v := .bool _)); exact rfl; exact rfl))
            | ((with_reducible apply g_bin); first
              | ((with_reducible apply w_mod); exact rfl; exact rfl; exact rfl; exact rfl; exact rfl; omega; omega)
              | ((with_reducible apply w_wrap); exact rfl; exact rfl; first | exact i64_in _ (by omega) | exact u64_in _ (by omega) | exact u8_in _ (by omega))
              | ((with_reducible apply w_pure (v := .bool _)); exact rfl; exact rfl))
            | ((with_reducible apply g_pick); first
              | ((with_reducible apply w_pk1 (v := .bool _)); exact rfl; exact rfl; (first | assumption | exact decide_eq_true (by assumption) | exact decide_eq_false (by assumption) | exact decide_eq_true (by omega) | exact decide_eq_false (by omega) | exact beq_iff_eq.2 (by omega) | exact beq_eq_false_iff_ne.2 (by omega) | exact bne_iff_ne.2 (by omega) | exact bne_eq_false_iff_eq.2 (by omega)))
              | ((with_reducible apply w_pk0 (v := .bool _)); exact rfl; exact rfl; (first | assumption | exact decide_eq_true (by assumption) | exact decide_eq_false (by assumption) | exact decide_eq_true (by omega) | exact decide_eq_false (by omega) | exact beq_iff_eq.2 (by omega) | exact beq_eq_false_iff_ne.2 (by omega) | exact bne_iff_ne.2 (by omega) | exact bne_eq_false_iff_eq.2 (by omega))))
            | ((with_reducible apply g_assign); first
              | ((with_reducible apply w_pure (v := .int _ _)); exact rfl; exact rfl)
              | ((with_reducible apply w_pure (v := .bool _)); exact rfl; exact rfl))
            | ((with_reducible apply w_pure (v := .bool _)); exact rfl; exact rfl))
          | ((with_reducible apply g_gd); first
            | ((with_reducible apply w_want); exact rfl)
            | ((with_reducible apply w_pass); exact rfl)
            | ((with_reducible apply w_psn); exact rfl)
            | ((with_reducible apply w_gd_t); exact rfl; all_goals (intro hc; first | (exfalso; omega) | skip)))
          | with_reducible refine w_seq ?_
          | with_reducible refine w_nil ?_
          | with_reducible refine w_region ?_
          | with_reducible refine w_skip ?_
          | with_reducible refine w_blk ?_
          | ((with_reducible apply w_yes); exact rfl)
          | ((with_reducible apply w_no); exact rfl)
          | ((with_reducible apply w_ifd); exact rfl; all_goals (intro hc; first | (exfalso; omega) | skip)))
        all_goals first
          | (rw [if_pos (by first | exact ⟨by omega, .inl rfl, rfl⟩ | exact ⟨by omega, .inr (by omega), rfl⟩)] at hst; exact ih _ _ _ _ (by repeat' (first | with_reducible exact Fr.mix | with_reducible exact Fr.rfl' | with_reducible refine Fr.put ?_ ?_ | with_reducible refine Fr.mix2 ?_ ?_ | with_reducible refine Fr.put0 ?_ | exact rfl)) ⟨by exact ieq (by omega), rfl, rfl, hst.symm, rfl, rfl⟩)
          | (rw [if_neg (by first | (rintro ⟨_, _, h⟩; cases h; done) | (rintro ⟨h, _, _⟩; omega) | (rintro ⟨_, h, _⟩; rcases h with h | h <;> first | (cases h; done) | omega))] at hst; exact ih _ _ _ _ (by repeat' (first | with_reducible exact Fr.mix | with_reducible exact Fr.rfl' | with_reducible refine Fr.put ?_ ?_ | with_reducible refine Fr.mix2 ?_ ?_ | with_reducible refine Fr.put0 ?_ | exact rfl)) ⟨by exact ieq (by omega), rfl, rfl, hst.symm, rfl, rfl⟩))
  · rintro ⟨s1, s2⟩ σ _ _ ⟨k16, k14, k15, hsd, rfl, rfl⟩
    rw [List.take_of_length_le (by rw [cands_len]; exact Nat.le_refl _)] at hsd
    have k16' : σ 16 = .int .i64 ((min at_.length l.length : Nat) : Int) := by rw [k16]; exact ieq (by omega)
    refine w_keep (i := 14) k14 (w_keep (i := 15) k15 ?_)
    refine w_keep (i := 16) k16' ?_
    repeat' (first
      | ((with_reducible apply g_op); first
        | ((with_reducible apply g_move); first
          | ((with_reducible apply w_pure (v := .int _ _)); exact rfl; exact rfl)
          | ((with_reducible apply w_pure (v := .bool _)); exact rfl; exact rfl)
          | ((with_reducible apply w_pure (v := .func _ _ _)); exact rfl; exact rfl))
        | ((with_reducible apply g_bin); first
          | ((with_reducible apply w_pure (v := .bool _)); exact rfl; exact rfl))
        | ((with_reducible apply g_pick); first
          | ((with_reducible apply w_pk1 (v := .bool _)); exact rfl; exact rfl; (first | assumption | exact decide_eq_true (by assumption) | exact decide_eq_false (by assumption) | exact decide_eq_true (by omega) | exact decide_eq_false (by omega) | exact beq_iff_eq.2 (by omega) | exact beq_eq_false_iff_ne.2 (by omega) | exact bne_iff_ne.2 (by omega) | exact bne_eq_false_iff_eq.2 (by omega)))
          | ((with_reducible apply w_pk0 (v := .bool _)); exact rfl; exact rfl; (first | assumption | exact decide_eq_true (by assumption) | exact decide_eq_false (by assumption) | exact decide_eq_true (by omega) | exact decide_eq_false (by omega) | exact beq_iff_eq.2 (by omega) | exact beq_eq_false_iff_ne.2 (by omega) | exact bne_iff_ne.2 (by omega) | exact bne_eq_false_iff_eq.2 (by omega))))
        | ((with_reducible apply g_assign); first
          | ((with_reducible apply w_pure (v := .int _ _)); exact rfl; exact rfl)
          | ((with_reducible apply w_pure (v := .bool _)); exact rfl; exact rfl))
        | ((with_reducible apply g_call); first
          | ((with_reducible apply w_call (v := .int _ _)); exact rfl)))
      | ((with_reducible apply g_gd); first
        | ((with_reducible apply w_gd_t); exact rfl; all_goals (intro hc; first | (exfalso; omega) | skip)))
      | with_reducible refine w_seq ?_
      | with_reducible refine w_nil ?_
      | with_reducible refine w_region ?_
      | ((with_reducible apply w_exit); exact rfl)
      | ((with_reducible apply w_no); exact rfl)
      | ((with_reducible apply w_ifd); exact rfl; all_goals (intro hc; first | (exfalso; omega) | skip))
      | ((with_reducible apply w_ret (v := .tuple #[.int _ _, .bool _])); exact rfl))
    all_goals exact fr_plain rfl (by unfold freeS; rw [← hsd])
end Go.Proofs.Ythfhlfkcphojkaa.L

