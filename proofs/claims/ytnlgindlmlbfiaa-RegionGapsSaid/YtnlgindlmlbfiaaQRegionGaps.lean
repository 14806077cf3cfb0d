/- RegionGaps: walked, and its plain law. -/
import Derived.Test.Ytnlgindlmlbfiaac15S
namespace Go.Proofs.Ytnlgindlmlbfiaa.L.RegionGaps
open Go.L1 Go.IntWalk Go.Proofs.Ytnlgindlmlbfiaa.L
set_option linter.unusedVariables false
set_option linter.unusedSimpArgs false
set_option maxHeartbeats 4000000
set_option maxRecDepth 20000
def tab : Tb := L.T
theorem tabok : ∀ C : Cx, C.P = Try.prog → TbOk C tab := L.tabok
theorem free_step {l : List Rg} (hl : Can l) (p j : Int) : 0 ≤ j → (Free l (j + 1) p ↔ Free l j p ∧ (findS (p + j) l).2 = false) := by
  intro hj
  constructor
  · intro h
    refine ⟨fun q q1 q2 v => h q q1 (by omega) v, ?_⟩
    cases hb : (findS (p + j) l).2 with
    | false => rfl
    | true => exact absurd (find_has hl hb).1 (h _ (by omega) (by omega) _)
  · rintro ⟨h1, h2⟩ q q1 q2 v
    by_cases hq : q < p + j
    · exact h1 q q1 hq v
    · obtain rfl : q = p + j := by omega
      exact (find_not h2).2 v
theorem walk (X : List Sop) (a b c : Int) (g : Nat → Option Ob) (n : Nat) : Rn Try.prog T 7 [sov tg X, .agg #[.int .i64 a, .int .i64 b, .int .i64 c]] g n n (fun v _ _ => v = .bool true) := by
  refine c_open Try.func7 rfl rfl rfl rfl rfl rfl ?_
  repeat' (first
    | ((with_reducible apply g_op); first
      | ((with_reducible apply g_assign); first
        | ((with_reducible apply w_pure (v := .bool _)); exact rfl; exact rfl))
      | ((with_reducible apply g_box); first
        | ((with_reducible apply w_box (vs := [_, _, _])); exact rfl; exact rfl)))
    | with_reducible refine w_seq ?_
    | with_reducible refine w_nil ?_
    | with_reducible refine w_region ?_)
  refine w_rf awake_run (fun _ => rfl) sn_nil ?_
  rintro _ rfl
  repeat' (first
    | ((with_reducible apply g_op); first
      | ((with_reducible apply g_assign); first
        | ((with_reducible apply w_pure (v := .int _ _)); exact rfl; exact rfl)
        | ((with_reducible apply w_pure (v := .bool _)); exact rfl; exact rfl)
        | ((with_reducible apply w_pure (v := .slice _ _ _)); exact rfl; exact rfl)))
    | with_reducible refine w_seq ?_
    | with_reducible refine w_nil ?_
    | with_reducible refine w_region ?_)
  obtain ⟨G0, hG0⟩ : ∃ G0, G0 = upd g n (some (.cells 46 [.int .i64 a, .int .i64 b, .int .i64 c])) := ⟨_, rfl⟩
  rw [← hG0]
  have hb0 : G0 n = some (.cells 46 [.int .i64 a, .int .i64 b, .int .i64 c]) := by rw [hG0]; exact upd_same
  refine w_meetK [(6, 9), (21, 43)] (fun σ' g' n' => ∃ l, LV (σ' 6) l ∧ Can l ∧ g' = G0 ∧ n' = n + 1) ?_ ?_
  · intro K Q hK
    repeat' (first
      | with_reducible refine w_block ?_)
    refine w_cntK [(6, 9), (21, 43)] (min X.length 10) (fun i (l : List Rg) σ g' n' => LV (σ 6) l ∧ σ 7 = .int .i64 (i : Nat) ∧ Can l ∧ g' = G0 ∧ n' = n + 1) ?_ ?_ [] ⟨.inr ⟨rfl, rfl⟩, rfl, Can.nil, rfl, rfl⟩
    · rintro i l σ _ _ hi ⟨hv, k7, hl, rfl, rfl⟩ ih
      obtain ⟨o, hx⟩ : ∃ o, X[i]? = some o := ⟨_, List.getElem?_eq_getElem (by omega)⟩
      obtain ⟨V, k6⟩ : ∃ V, σ 6 = V := ⟨_, rfl⟩
      rw [k6] at hv
      refine w_keep (i := 6) k6 (w_keep (i := 7) k7 ?_)
      repeat' (first
        | ((with_reducible apply g_op); first
          | ((with_reducible apply g_move); first
            | ((with_reducible apply w_pure (v := .int _ _)); exact rfl; exact rfl)
            | ((with_reducible apply w_pure (v := .bool _)); exact rfl; exact rfl)
            | ((with_reducible apply w_pure (v := .func _ _ _)); exact rfl; exact rfl))
          | ((with_reducible apply g_bin); first
            | ((with_reducible apply w_pure (v := .bool _)); exact rfl; exact rfl))
          | ((with_reducible apply g_pick); first
            | ((with_reducible apply w_pk1 (v := .bool _)); exact rfl; exact rfl; (first | assumption | exact decide_eq_true (by assumption) | exact decide_eq_false (by assumption) | exact decide_eq_true (by omega) | exact decide_eq_false (by omega) | exact beq_iff_eq.2 (by omega) | exact beq_eq_false_iff_ne.2 (by omega) | exact bne_iff_ne.2 (by omega) | exact bne_eq_false_iff_eq.2 (by omega))))
          | ((with_reducible apply g_call); first
            | ((with_reducible apply w_call (v := .int _ _)); exact rfl))
          | ((with_reducible apply g_ix); first
            | ((with_reducible apply w_fx (sz := 11)); exact rfl; exact rfl; exact rfl; exact rfl; exact rfl; exact (fun _ => rfl); assumption; exact rfl)))
        | ((with_reducible apply g_gd); first
          | ((with_reducible apply w_gd_t); exact rfl; all_goals (intro hc; first | (exfalso; omega) | skip)))
        | with_reducible refine w_seq ?_
        | with_reducible refine w_nil ?_
        | with_reducible refine w_region ?_
        | with_reducible refine w_skip ?_
        | with_reducible refine w_block ?_
        | ((with_reducible apply w_ifd); exact rfl; all_goals (intro hc; first | (exfalso; omega) | skip)))
      refine w_fl (enc := Sop.c) (ls := X) (y := o) (i := i) (sz := 11) (c := 0) (v := o.v) rfl (fun _ => rfl) hx (part_sop o) ?_
      repeat' (first
        | fail)
      refine w_rq (small_run o _ _ _) (fun _ => rfl) ?_
      rintro _ rfl
      repeat' (first
        | fail)
      refine w_rf (of_run l (smallS o) hl) (fun _ => rfl) (sn_cons (sop_sn _) (sn_cons (lv_sn hv) sn_nil)) ?_
      rintro _ rfl
      have hc := opS_can hl (smallS o)
      generalize opS l (smallS o) = A at *
      obtain ⟨A1, A2⟩ := A
      dsimp only at hc
      by_cases he : A2 = 0
      · subst he
        repeat' (first
          | ((with_reducible apply g_op); first
            | ((with_reducible apply g_move); first
              | ((with_reducible apply w_pure (v := .int _ _)); exact rfl; exact rfl)
              | ((with_reducible apply w_pure (v := .tuple _)); exact rfl; exact rfl)
              | ((with_reducible apply w_pure (v := .func _ _ _)); exact rfl; exact rfl))
            | ((with_reducible apply g_bin); first
              | ((with_reducible apply w_wrap); exact rfl; exact rfl; first | exact i64_in _ (by omega) | exact u64_in _ (by omega) | exact u8_in _ (by omega))
              | ((with_reducible apply w_pure (v := .bool _)); exact rfl; exact rfl))
            | ((with_reducible apply g_assign); first
              | ((with_reducible apply w_pure (v := .int _ _)); exact rfl; exact rfl)
              | ((with_reducible apply w_pure (v := .func _ _ _)); exact rfl; exact rfl))
            | ((with_reducible apply w_pure (v := .int _ _)); exact rfl; exact rfl)
            | ((with_reducible apply w_pure (v := .func _ _ _)); exact rfl; exact rfl))
          | with_reducible refine w_seq ?_
          | with_reducible refine w_nil ?_
          | with_reducible refine w_region ?_
          | with_reducible refine w_blk ?_
          | ((with_reducible apply w_yes); exact rfl))
        exact ih A1 _ _ _ (by repeat' (first | with_reducible exact Fr.mix | with_reducible exact Fr.rfl' | with_reducible refine Fr.put ?_ ?_ | with_reducible refine Fr.mix2 ?_ ?_ | with_reducible refine Fr.put0 ?_ | exact rfl)) ⟨.inl rfl, by push_cast; rfl, hc rfl, rfl, rfl⟩
      · repeat' (first
          | ((with_reducible apply g_op); first
            | ((with_reducible apply g_move); first
              | ((with_reducible apply w_pure (v := .int _ _)); exact rfl; exact rfl)
              | ((with_reducible apply w_pure (v := .tuple _)); exact rfl; exact rfl))
            | ((with_reducible apply g_bin); first
              | ((with_reducible apply w_wrap); exact rfl; exact rfl; first | exact i64_in _ (by omega) | exact u64_in _ (by omega) | exact u8_in _ (by omega))
              | ((with_reducible apply w_pure (v := .bool _)); exact rfl; exact rfl))
            | ((with_reducible apply g_assign); first
              | ((with_reducible apply w_pure (v := .int _ _)); exact rfl; exact rfl)
              | ((with_reducible apply w_pure (v := .func _ _ _)); exact rfl; exact rfl))
            | ((with_reducible apply w_pure (v := .int _ _)); exact rfl; exact rfl)
            | ((with_reducible apply w_pure (v := .func _ _ _)); exact rfl; exact rfl))
          | with_reducible refine w_seq ?_
          | with_reducible refine w_nil ?_
          | with_reducible refine w_region ?_
          | with_reducible refine w_skip ?_
          | with_reducible refine w_blk ?_
          | ((with_reducible apply w_ifd); exact rfl; all_goals (intro hc; first | (exfalso; omega) | skip)))
        all_goals first | exact absurd (by assumption) he | exact ih _ _ _ _ (by repeat' (first | with_reducible exact Fr.mix | with_reducible exact Fr.rfl' | with_reducible refine Fr.put ?_ ?_ | with_reducible refine Fr.mix2 ?_ ?_ | with_reducible refine Fr.put0 ?_ | exact rfl)) ⟨hv, by push_cast; rfl, hl, rfl, rfl⟩
    · rintro l σ _ _ ⟨hv, k7, hl, rfl, rfl⟩
      obtain ⟨V, k6⟩ : ∃ V, σ 6 = V := ⟨_, rfl⟩
      rw [k6] at hv
      refine w_keep (i := 6) k6 (w_keep (i := 7) k7 ?_)
      repeat' (first
        | ((with_reducible apply g_op); first
          | ((with_reducible apply g_move); first
            | ((with_reducible apply w_pure (v := .int _ _)); exact rfl; exact rfl)
            | ((with_reducible apply w_pure (v := .bool _)); exact rfl; exact rfl)
            | ((with_reducible apply w_pure (v := .func _ _ _)); exact rfl; exact rfl))
          | ((with_reducible apply g_bin); first
            | ((with_reducible apply w_pure (v := .bool _)); exact rfl; exact rfl))
          | ((with_reducible apply g_pick); first
            | ((with_reducible apply w_pk1 (v := .bool _)); exact rfl; exact rfl; (first | assumption | exact decide_eq_true (by assumption) | exact decide_eq_false (by assumption) | exact decide_eq_true (by omega) | exact decide_eq_false (by omega) | exact beq_iff_eq.2 (by omega) | exact beq_eq_false_iff_ne.2 (by omega) | exact bne_iff_ne.2 (by omega) | exact bne_eq_false_iff_eq.2 (by omega)))
            | ((with_reducible apply w_pk0 (v := .bool _)); exact rfl; exact rfl; (first | assumption | exact decide_eq_true (by assumption) | exact decide_eq_false (by assumption) | exact decide_eq_true (by omega) | exact decide_eq_false (by omega) | exact beq_iff_eq.2 (by omega) | exact beq_eq_false_iff_ne.2 (by omega) | exact bne_iff_ne.2 (by omega) | exact bne_eq_false_iff_eq.2 (by omega))))
          | ((with_reducible apply g_call); first
            | ((with_reducible apply w_call (v := .int _ _)); exact rfl)))
        | ((with_reducible apply g_gd); first
          | ((with_reducible apply w_gd_t); exact rfl; all_goals (intro hc; first | (exfalso; omega) | skip)))
        | with_reducible refine w_seq ?_
        | with_reducible refine w_nil ?_
        | with_reducible refine w_region ?_
        | ((with_reducible apply w_exit); exact rfl)
        | ((with_reducible apply w_no); exact rfl)
        | ((with_reducible apply w_ifd); exact rfl; all_goals (intro hc; first | (exfalso; omega) | skip)))
      all_goals exact hK _ _ _ (by repeat' (first | with_reducible exact Fr.mix | with_reducible exact Fr.rfl' | with_reducible refine Fr.put ?_ ?_ | with_reducible refine Fr.mix2 ?_ ?_ | with_reducible refine Fr.put0 ?_ | exact rfl)) ⟨l, hv, hl, rfl, rfl⟩
  · rintro σ _ _ ⟨l, hv, hl, rfl, rfl⟩
    obtain ⟨V, k6⟩ : ∃ V, σ 6 = V := ⟨_, rfl⟩
    rw [k6] at hv
    have hll := lenR hl
    obtain ⟨lo, hlo⟩ : ∃ f, f = a % 64 := ⟨_, rfl⟩
    obtain ⟨hi, hhi⟩ : ∃ t, t = b % 128 := ⟨_, rfl⟩
    obtain ⟨nn, hnn⟩ : ∃ t, t = 1 + c % 16 := ⟨_, rfl⟩
    refine w_keep (i := 6) k6 ?_
    repeat' (first
      | ((with_reducible apply g_op); first
        | ((with_reducible apply g_load); first
          | ((with_reducible apply w_load (v := .int _ _)); exact rfl; (first | assumption | (simp (disch := omega) only [upd_same, upd_ne]; first | done | assumption | exact rfl) | exact rfl); exact rfl))
        | ((with_reducible apply g_bin); first
          | ((with_reducible apply w_and (j := 4) (c1 := 16)); exact rfl; exact rfl; exact rfl; exact rfl; exact rfl; exact (by decide); exact (by decide); exact (by decide))
          | ((with_reducible apply w_and (j := 6) (c1 := 64)); exact rfl; exact rfl; exact rfl; exact rfl; exact rfl; exact (by decide); exact (by decide); exact (by decide))
          | ((with_reducible apply w_and (j := 7) (c1 := 128)); exact rfl; exact rfl; exact rfl; exact rfl; exact rfl; exact (by decide); exact (by decide); exact (by decide))
          | ((with_reducible apply w_wrap); exact rfl; exact rfl; first | exact i64_in _ (by omega) | exact u64_in _ (by omega) | exact u8_in _ (by omega)))
        | ((with_reducible apply g_assign); first
          | ((with_reducible apply w_pure (v := .int _ _)); exact rfl; exact rfl))
        | ((with_reducible apply w_pure (v := .pointer _)); exact rfl; exact rfl))
      | with_reducible refine w_seq ?_
      | with_reducible refine w_nil ?_
      | with_reducible refine w_region ?_)
    refine w_pure (v := V) rfl rfl ?_
    repeat' (first
      | ((with_reducible apply g_op); first
        | ((with_reducible apply g_move); first
          | ((with_reducible apply w_pure (v := .int _ _)); exact rfl; exact rfl))))
    rw [← hlo, ← hhi, ← hnn]
    refine w_rf (gap_run l lo hi nn hl) (fun _ => rfl) (sn_cons (lv_sn hv) (sn_cons (sn_plain rfl) (sn_cons (sn_plain rfl) (sn_cons (sn_plain rfl) sn_nil)))) ?_
    rintro _ rfl
    obtain ⟨s1, s2⟩ := gap_says hl (f := lo) (t := hi) (n := nn) (by omega)
    generalize gapS l lo hi nn = A at *
    obtain ⟨at_, is⟩ := A
    dsimp only at s1 s2
    have hlo1 : 0 ≤ lo ∧ lo < 64 := by omega
    have hhi1 : 0 ≤ hi ∧ hi < 128 := by omega
    have hnn1 : 1 ≤ nn ∧ nn ≤ 16 := by omega
    rw [show max lo 0 = lo by omega, show min hi 4096 = hi by omega] at s1 s2
    clear hlo hhi hnn hb0 hG0
    repeat' (first
      | ((with_reducible apply g_op); first
        | ((with_reducible apply g_move); first
          | ((with_reducible apply w_pure (v := .int _ _)); exact rfl; exact rfl)
          | ((with_reducible apply w_pure (v := .tuple _)); exact rfl; exact rfl))
        | ((with_reducible apply g_assign); first
          | ((with_reducible apply w_pure (v := .int _ _)); exact rfl; exact rfl)
          | ((with_reducible apply w_pure (v := .bool _)); exact rfl; exact rfl))
        | ((with_reducible apply w_pure (v := .int _ _)); exact rfl; exact rfl)
        | ((with_reducible apply w_pure (v := .bool _)); exact rfl; exact rfl))
      | with_reducible refine w_seq ?_
      | with_reducible refine w_nil ?_
      | with_reducible refine w_region ?_
      | with_reducible refine w_block ?_)
    refine w_whileK [(4, 4), (15, 19), (63, 105)] (fun (p : Int) σ _ n' => n < n' ∧ σ 15 = .int .i64 p ∧ lo ≤ p ∧ p ≤ 200) (fun p => (200 - p).toNat) ?_ lo ⟨by omega, rfl, by omega, by omega⟩
    rintro p σ2 g2 n2 ⟨hnn2, k15, hp1, hp2⟩ ih
    refine w_keep (i := 15) k15 ?_
    cases is with
    | true =>
      obtain ⟨a1, a2, a3, a4⟩ := s1 rfl
      clear s1 s2
      repeat' (first
        | ((with_reducible apply g_op); first
          | ((with_reducible apply g_move); first
            | ((with_reducible apply w_pure (v := .int _ _)); exact rfl; exact rfl)
            | ((with_reducible apply w_pure (v := .bool _)); exact rfl; exact rfl))
          | ((with_reducible apply g_bin); first
            | ((with_reducible apply w_wrap); exact rfl; exact rfl; first | exact i64_in _ (by omega) | exact u64_in _ (by omega) | exact u8_in _ (by omega))
            | ((with_reducible apply w_pure (v := .bool _)); exact rfl; exact rfl))
          | ((with_reducible apply g_pick); first
            | ((with_reducible apply w_pk1 (v := .bool _)); exact rfl; exact rfl; (first | assumption | exact decide_eq_true (by assumption) | exact decide_eq_false (by assumption) | exact decide_eq_true (by omega) | exact decide_eq_false (by omega) | exact beq_iff_eq.2 (by omega) | exact beq_eq_false_iff_ne.2 (by omega) | exact bne_iff_ne.2 (by omega) | exact bne_eq_false_iff_eq.2 (by omega)))
            | ((with_reducible apply w_pk0 (v := .bool _)); exact rfl; exact rfl; (first | assumption | exact decide_eq_true (by assumption) | exact decide_eq_false (by assumption) | exact decide_eq_true (by omega) | exact decide_eq_false (by omega) | exact beq_iff_eq.2 (by omega) | exact beq_eq_false_iff_ne.2 (by omega) | exact bne_iff_ne.2 (by omega) | exact bne_eq_false_iff_eq.2 (by omega))))
          | ((with_reducible apply g_assign); first
            | ((with_reducible apply w_pure (v := .int _ _)); exact rfl; exact rfl)
            | ((with_reducible apply w_pure (v := .bool _)); exact rfl; exact rfl))
          | ((with_reducible apply w_pure (v := .bool _)); exact rfl; exact rfl))
        | ((with_reducible apply g_gd); first
          | ((with_reducible apply w_want); exact rfl)
          | ((with_reducible apply w_pass); exact rfl)
          | ((with_reducible apply w_psn); exact rfl)
          | ((with_reducible apply w_gd_t); exact rfl; all_goals (intro hc; first | (exfalso; omega) | skip)))
        | with_reducible refine w_seq ?_
        | with_reducible refine w_nil ?_
        | with_reducible refine w_region ?_
        | with_reducible refine w_skip ?_
        | with_reducible refine w_block ?_
        | ((with_reducible apply w_exit); exact rfl)
        | ((with_reducible apply w_no); exact rfl)
        | ((with_reducible apply w_ifd); exact rfl; all_goals (intro hc; first | (exfalso; omega) | skip))
        | ((with_reducible apply w_ret (v := .bool _)); exact rfl))
      all_goals first
        | rfl
        | exact congrArg Value.bool (decide_eq_true a2)
        | skip
      refine w_cntK [(16, 19), (80, 97)] nn.toNat (fun j (bb : Bool) σ _ n' => n < n' ∧ σ 17 = .int .i64 (p + j) ∧ σ 16 = .bool bb ∧ (bb = true ↔ Free l j p)) ?_ ?_ true ⟨hnn2, congrArg (Value.int .i64) (show p = p + ((0 : Nat) : Int) by omega), rfl, by simp only [true_iff]; intro q q1 q2; omega⟩
      · rintro j bb σ3 g3 n3 hj ⟨hn3, k17, k16, hbb⟩ ih2
        refine w_keep (i := 17) k17 (w_keep (i := 16) k16 ?_)
        repeat' (first
          | ((with_reducible apply g_op); first
            | ((with_reducible apply g_move); first
              | ((with_reducible apply w_pure (v := .int _ _)); exact rfl; exact rfl))
            | ((with_reducible apply g_bin); first
              | ((with_reducible apply w_wrap); exact rfl; exact rfl; first | exact i64_in _ (by omega) | exact u64_in _ (by omega) | exact u8_in _ (by omega))
              | ((with_reducible apply w_pure (v := .bool _)); exact rfl; exact rfl)))
          | with_reducible refine w_seq ?_
          | with_reducible refine w_nil ?_
          | with_reducible refine w_region ?_
          | with_reducible refine w_skip ?_
          | with_reducible refine w_block ?_
          | ((with_reducible apply w_ifd); exact rfl; all_goals (intro hc; first | (exfalso; omega) | skip)))
        refine w_pure (v := V) rfl rfl ?_
        repeat' (first
          | ((with_reducible apply g_op); first
            | ((with_reducible apply g_move); first
              | ((with_reducible apply w_pure (v := .int _ _)); exact rfl; exact rfl))))
        refine w_rf (find_run l (p + j) (by omega)) (fun _ => rfl) (sn_cons (lv_sn hv) (sn_cons (sn_plain rfl) sn_nil)) ?_
        rintro _ rfl
        have hfs := free_step hl p j (by omega)
        generalize findS (p + j) l = A at *
        obtain ⟨⟨xf, xt, xp, xk, xl, xg⟩, xb⟩ := A
        dsimp only at hfs
        cases bb <;> cases xb <;> (
          repeat' (first
            | ((with_reducible apply g_op); first
              | ((with_reducible apply g_move); first
                | ((with_reducible apply w_pure (v := .int _ _)); exact rfl; exact rfl)
                | ((with_reducible apply w_pure (v := .bool _)); exact rfl; exact rfl)
                | ((with_reducible apply w_pure (v := .tuple _)); exact rfl; exact rfl))
              | ((with_reducible apply g_bin); first
                | ((with_reducible apply w_wrap); exact rfl; exact rfl; first | exact i64_in _ (by omega) | exact u64_in _ (by omega) | exact u8_in _ (by omega)))
              | ((with_reducible apply g_assign); first
                | ((with_reducible apply w_pure (v := .int _ _)); exact rfl; exact rfl)
                | ((with_reducible apply w_pure (v := .bool _)); exact rfl; exact rfl))
              | ((with_reducible apply g_store); first
                | ((with_reducible apply w_store (us := [_, _, _, _, _, _]) (ws := [_, _, _, _, _, _])); exact rfl; exact rfl; (first | assumption | (simp (disch := omega) only [upd_same, upd_ne]; first | done | assumption | exact rfl) | exact rfl); omega; exact rfl; exact rfl; exact rfl))
              | ((with_reducible apply w_alloc (ls := [_, _, _, _, _, _])); exact rfl; exact rfl)
              | ((with_reducible apply w_pure (v := .bool _)); exact rfl; exact rfl)
              | ((with_reducible apply w_pure (v := .agg _)); exact rfl; exact rfl))
            | ((with_reducible apply g_gd); first
              | ((with_reducible apply w_want); exact rfl)
              | ((with_reducible apply w_pass); exact rfl))
            | with_reducible refine w_nil ?_
            | with_reducible refine w_region ?_
            | with_reducible refine w_blk ?_)
          exact ih2 _ _ _ _ (by repeat' (first | with_reducible exact Fr.mix | with_reducible exact Fr.rfl' | with_reducible refine Fr.put ?_ ?_ | with_reducible refine Fr.mix2 ?_ ?_ | with_reducible refine Fr.put0 ?_ | exact rfl)) ⟨by omega, by exact congrArg (Value.int .i64) (show p + (j : Int) + 1 = p + ((j + 1 : Nat) : Int) by omega), rfl, by rw [show ((j + 1 : Nat) : Int) = (j : Int) + 1 by omega, hfs, ← hbb]; simp⟩)
      · rintro bb σ3 g3 n3 ⟨hn3, k17, k16, hbb⟩
        rw [Int.toNat_of_nonneg (by omega)] at hbb
        refine w_keep (i := 17) k17 (w_keep (i := 16) k16 ?_)
        repeat' (first
          | ((with_reducible apply g_op); first
            | ((with_reducible apply g_move); first
              | ((with_reducible apply w_pure (v := .int _ _)); exact rfl; exact rfl)
              | ((with_reducible apply w_pure (v := .bool _)); exact rfl; exact rfl))
            | ((with_reducible apply g_bin); first
              | ((with_reducible apply w_wrap); exact rfl; exact rfl; first | exact i64_in _ (by omega) | exact u64_in _ (by omega) | exact u8_in _ (by omega))
              | ((with_reducible apply w_pure (v := .bool _)); exact rfl; exact rfl))
            | ((with_reducible apply w_pure (v := .bool _)); exact rfl; exact rfl))
          | ((with_reducible apply g_gd); first
            | ((with_reducible apply w_want); exact rfl))
          | with_reducible refine w_seq ?_
          | with_reducible refine w_nil ?_
          | with_reducible refine w_region ?_
          | ((with_reducible apply w_exit); exact rfl)
          | ((with_reducible apply w_ifd); exact rfl; all_goals (intro hc; first | (exfalso; omega) | skip)))
        refine w_keep (i := 105) (v := .bool false) (congrArg Value.bool (show (bb != (p == at_)) = false by rw [show bb = (p == at_) from by (by_cases e : p = at_; { subst e; simp [hbb.2 a3] }; { have hn := a4 p hp1 (by omega); cases bb; { simp [e] }; { exact absurd (hbb.1 rfl) hn } })]; exact bne_self_eq_false _)) ?_
        repeat' (first
          | ((with_reducible apply g_op); first
            | ((with_reducible apply g_move); first
              | ((with_reducible apply w_pure (v := .int _ _)); exact rfl; exact rfl))
            | ((with_reducible apply g_bin); first
              | ((with_reducible apply w_wrap); exact rfl; exact rfl; first | exact i64_in _ (by omega) | exact u64_in _ (by omega) | exact u8_in _ (by omega)))
            | ((with_reducible apply g_assign); first
              | ((with_reducible apply w_pure (v := .int _ _)); exact rfl; exact rfl)))
          | with_reducible refine w_nil ?_
          | with_reducible refine w_region ?_
          | with_reducible refine w_skip ?_
          | with_reducible refine w_blk ?_
          | ((with_reducible apply w_no); exact rfl))
        exact ih (p + 1) _ _ _ (by omega) (by repeat' (first | with_reducible exact Fr.mix | with_reducible exact Fr.rfl' | with_reducible refine Fr.put ?_ ?_ | with_reducible refine Fr.mix2 ?_ ?_ | with_reducible refine Fr.put0 ?_ | exact rfl)) ⟨by omega, rfl, by omega, by omega⟩
    | false =>
      obtain ⟨a1, a2⟩ := s2 rfl
      clear s1 s2
      repeat' (first
        | ((with_reducible apply g_op); first
          | ((with_reducible apply g_move); first
            | ((with_reducible apply w_pure (v := .int _ _)); exact rfl; exact rfl)
            | ((with_reducible apply w_pure (v := .bool _)); exact rfl; exact rfl))
          | ((with_reducible apply g_bin); first
            | ((with_reducible apply w_wrap); exact rfl; exact rfl; first | exact i64_in _ (by omega) | exact u64_in _ (by omega) | exact u8_in _ (by omega))
            | ((with_reducible apply w_pure (v := .bool _)); exact rfl; exact rfl))
          | ((with_reducible apply g_pick); first
            | ((with_reducible apply w_pk1 (v := .bool _)); exact rfl; exact rfl; (first | assumption | exact decide_eq_true (by assumption) | exact decide_eq_false (by assumption) | exact decide_eq_true (by omega) | exact decide_eq_false (by omega) | exact beq_iff_eq.2 (by omega) | exact beq_eq_false_iff_ne.2 (by omega) | exact bne_iff_ne.2 (by omega) | exact bne_eq_false_iff_eq.2 (by omega)))
            | ((with_reducible apply w_pk0 (v := .bool _)); exact rfl; exact rfl; (first | assumption | exact decide_eq_true (by assumption) | exact decide_eq_false (by assumption) | exact decide_eq_true (by omega) | exact decide_eq_false (by omega) | exact beq_iff_eq.2 (by omega) | exact beq_eq_false_iff_ne.2 (by omega) | exact bne_iff_ne.2 (by omega) | exact bne_eq_false_iff_eq.2 (by omega))))
          | ((with_reducible apply g_assign); first
            | ((with_reducible apply w_pure (v := .int _ _)); exact rfl; exact rfl)
            | ((with_reducible apply w_pure (v := .bool _)); exact rfl; exact rfl))
          | ((with_reducible apply w_pure (v := .bool _)); exact rfl; exact rfl))
        | ((with_reducible apply g_gd); first
          | ((with_reducible apply w_want); exact rfl)
          | ((with_reducible apply w_pass); exact rfl)
          | ((with_reducible apply w_psn); exact rfl)
          | ((with_reducible apply w_gd_t); exact rfl; all_goals (intro hc; first | (exfalso; omega) | skip)))
        | with_reducible refine w_seq ?_
        | with_reducible refine w_nil ?_
        | with_reducible refine w_region ?_
        | with_reducible refine w_skip ?_
        | with_reducible refine w_block ?_
        | ((with_reducible apply w_exit); exact rfl)
        | ((with_reducible apply w_yes); exact rfl)
        | ((with_reducible apply w_no); exact rfl)
        | ((with_reducible apply w_ret (v := .bool _)); exact rfl))
      all_goals first
        | rfl
        | skip
      refine w_cntK [(16, 19), (80, 97)] nn.toNat (fun j (bb : Bool) σ _ n' => n < n' ∧ σ 17 = .int .i64 (p + j) ∧ σ 16 = .bool bb ∧ (bb = true ↔ Free l j p)) ?_ ?_ true ⟨hnn2, congrArg (Value.int .i64) (show p = p + ((0 : Nat) : Int) by omega), rfl, by simp only [true_iff]; intro q q1 q2; omega⟩
      · rintro j bb σ3 g3 n3 hj ⟨hn3, k17, k16, hbb⟩ ih2
        refine w_keep (i := 17) k17 (w_keep (i := 16) k16 ?_)
        repeat' (first
          | ((with_reducible apply g_op); first
            | ((with_reducible apply g_move); first
              | ((with_reducible apply w_pure (v := .int _ _)); exact rfl; exact rfl))
            | ((with_reducible apply g_bin); first
              | ((with_reducible apply w_wrap); exact rfl; exact rfl; first | exact i64_in _ (by omega) | exact u64_in _ (by omega) | exact u8_in _ (by omega))
              | ((with_reducible apply w_pure (v := .bool _)); exact rfl; exact rfl)))
          | with_reducible refine w_seq ?_
          | with_reducible refine w_nil ?_
          | with_reducible refine w_region ?_
          | with_reducible refine w_skip ?_
          | with_reducible refine w_block ?_
          | ((with_reducible apply w_ifd); exact rfl; all_goals (intro hc; first | (exfalso; omega) | skip)))
        refine w_pure (v := V) rfl rfl ?_
        repeat' (first
          | ((with_reducible apply g_op); first
            | ((with_reducible apply g_move); first
              | ((with_reducible apply w_pure (v := .int _ _)); exact rfl; exact rfl))))
        refine w_rf (find_run l (p + j) (by omega)) (fun _ => rfl) (sn_cons (lv_sn hv) (sn_cons (sn_plain rfl) sn_nil)) ?_
        rintro _ rfl
        have hfs := free_step hl p j (by omega)
        generalize findS (p + j) l = A at *
        obtain ⟨⟨xf, xt, xp, xk, xl, xg⟩, xb⟩ := A
        dsimp only at hfs
        cases bb <;> cases xb <;> (
          repeat' (first
            | ((with_reducible apply g_op); first
              | ((with_reducible apply g_move); first
                | ((with_reducible apply w_pure (v := .int _ _)); exact rfl; exact rfl)
                | ((with_reducible apply w_pure (v := .bool _)); exact rfl; exact rfl)
                | ((with_reducible apply w_pure (v := .tuple _)); exact rfl; exact rfl))
              | ((with_reducible apply g_bin); first
                | ((with_reducible apply w_wrap); exact rfl; exact rfl; first | exact i64_in _ (by omega) | exact u64_in _ (by omega) | exact u8_in _ (by omega)))
              | ((with_reducible apply g_assign); first
                | ((with_reducible apply w_pure (v := .int _ _)); exact rfl; exact rfl)
                | ((with_reducible apply w_pure (v := .bool _)); exact rfl; exact rfl))
              | ((with_reducible apply g_store); first
                | ((with_reducible apply w_store (us := [_, _, _, _, _, _]) (ws := [_, _, _, _, _, _])); exact rfl; exact rfl; (first | assumption | (simp (disch := omega) only [upd_same, upd_ne]; first | done | assumption | exact rfl) | exact rfl); omega; exact rfl; exact rfl; exact rfl))
              | ((with_reducible apply w_alloc (ls := [_, _, _, _, _, _])); exact rfl; exact rfl)
              | ((with_reducible apply w_pure (v := .bool _)); exact rfl; exact rfl)
              | ((with_reducible apply w_pure (v := .agg _)); exact rfl; exact rfl))
            | ((with_reducible apply g_gd); first
              | ((with_reducible apply w_want); exact rfl)
              | ((with_reducible apply w_pass); exact rfl))
            | with_reducible refine w_nil ?_
            | with_reducible refine w_region ?_
            | with_reducible refine w_blk ?_)
          exact ih2 _ _ _ _ (by repeat' (first | with_reducible exact Fr.mix | with_reducible exact Fr.rfl' | with_reducible refine Fr.put ?_ ?_ | with_reducible refine Fr.mix2 ?_ ?_ | with_reducible refine Fr.put0 ?_ | exact rfl)) ⟨by omega, by exact congrArg (Value.int .i64) (show p + (j : Int) + 1 = p + ((j + 1 : Nat) : Int) by omega), rfl, by rw [show ((j + 1 : Nat) : Int) = (j : Int) + 1 by omega, hfs, ← hbb]; simp⟩)
      · rintro bb σ3 g3 n3 ⟨hn3, k17, k16, hbb⟩
        rw [Int.toNat_of_nonneg (by omega)] at hbb
        refine w_keep (i := 17) k17 (w_keep (i := 16) k16 ?_)
        repeat' (first
          | ((with_reducible apply g_op); first
            | ((with_reducible apply g_move); first
              | ((with_reducible apply w_pure (v := .int _ _)); exact rfl; exact rfl)
              | ((with_reducible apply w_pure (v := .bool _)); exact rfl; exact rfl))
            | ((with_reducible apply g_bin); first
              | ((with_reducible apply w_wrap); exact rfl; exact rfl; first | exact i64_in _ (by omega) | exact u64_in _ (by omega) | exact u8_in _ (by omega))
              | ((with_reducible apply w_pure (v := .bool _)); exact rfl; exact rfl))
            | ((with_reducible apply w_pure (v := .bool _)); exact rfl; exact rfl))
          | ((with_reducible apply g_gd); first
            | ((with_reducible apply w_pass); exact rfl))
          | with_reducible refine w_seq ?_
          | with_reducible refine w_nil ?_
          | with_reducible refine w_region ?_
          | ((with_reducible apply w_exit); exact rfl)
          | ((with_reducible apply w_ifd); exact rfl; all_goals (intro hc; first | (exfalso; omega) | skip)))
        refine w_keep (i := 105) (v := .bool false) (congrArg Value.bool (show (bb != false) = false by rw [show bb = false from by (cases bb; { rfl }; { exact absurd (hbb.1 rfl) (a2 p hp1 (by omega)) })]; exact bne_self_eq_false _)) ?_
        repeat' (first
          | ((with_reducible apply g_op); first
            | ((with_reducible apply g_move); first
              | ((with_reducible apply w_pure (v := .int _ _)); exact rfl; exact rfl))
            | ((with_reducible apply g_bin); first
              | ((with_reducible apply w_wrap); exact rfl; exact rfl; first | exact i64_in _ (by omega) | exact u64_in _ (by omega) | exact u8_in _ (by omega)))
            | ((with_reducible apply g_assign); first
              | ((with_reducible apply w_pure (v := .int _ _)); exact rfl; exact rfl)))
          | with_reducible refine w_nil ?_
          | with_reducible refine w_region ?_
          | with_reducible refine w_skip ?_
          | with_reducible refine w_blk ?_
          | ((with_reducible apply w_no); exact rfl))
        exact ih (p + 1) _ _ _ (by omega) (by repeat' (first | with_reducible exact Fr.mix | with_reducible exact Fr.rfl' | with_reducible refine Fr.put ?_ ?_ | with_reducible refine Fr.mix2 ?_ ?_ | with_reducible refine Fr.put0 ?_ | exact rfl)) ⟨by omega, rfl, by omega, by omega⟩
theorem proved (x0 : List XO) (x1 : Int × Int × Int) {p q : Prop} (w0 : p) (w1 : q) : Rn Try.prog tab 7 [fz tg x0.length (x0.flatMap (kPair (kInt .i64) (kPair (kInt .i64) (kPair (kInt .i64) (kPair (kInt .i64) (kPair kBool (kPair (kInt .i64) (kPair (kInt .i64) (kPair (kInt .i64) (kPair (kInt .i64) (kPair (kInt .i64) (kInt .i64))))))))))).enc), .agg ((kPair (kInt .i64) (kPair (kInt .i64) (kInt .i64))).enc x1).toArray] (fun _ => none) 0 0 (fun v _ _ => v = .bool true) := by
  obtain ⟨b0, b1, b2⟩ := x1
  have h := walk (x0.map toSop) b0 b1 b2 (fun _ => none) 0
  have e : sov tg (x0.map toSop) = fz tg x0.length (x0.flatMap (kPair (kInt .i64) (kPair (kInt .i64) (kPair (kInt .i64) (kPair (kInt .i64) (kPair kBool (kPair (kInt .i64) (kPair (kInt .i64) (kPair (kInt .i64) (kPair (kInt .i64) (kPair (kInt .i64) (kInt .i64))))))))))).enc) := by
    unfold sov
    rw [List.length_map, List.flatMap_map]
    rfl
  rw [e] at h
  exact h
end Go.Proofs.Ytnlgindlmlbfiaa.L.RegionGaps

