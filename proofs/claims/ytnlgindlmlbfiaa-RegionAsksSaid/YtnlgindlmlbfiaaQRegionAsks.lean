/- RegionAsks: walked, and its plain law. -/
import Derived.Test.Ytnlgindlmlbfiaac15T
namespace Go.Proofs.Ytnlgindlmlbfiaa.L.RegionAsks
open Go.L1 Go.IntWalk Go.Proofs.Ytnlgindlmlbfiaa.L
set_option linter.unusedVariables false
set_option linter.unusedSimpArgs false
set_option maxHeartbeats 4000000
set_option maxRecDepth 20000
def tab : Tb := L.T
theorem tabok : ∀ C : Cx, C.P = Try.prog → TbOk C tab := L.tabok
section
variable {P : Program} {T : Tb} {fn : Func} {k : List It} {σ : Env} {g : Nat → Option Ob} {n m : Nat} {Q : Value → (Nat → Option Ob) → Nat → Prop} {b : Bool} {all : Array Oper} {l : List Oper} {d : Option Tmp} {ty : TypeId} {pos : String} {af : Array Edge}
theorem w_binv {op : BinOp} {t ty2 : TypeId} {x y : Operand} {vx vy v : Value} (hx : ev σ x = vx) (hy : ev σ y = vy) (h1 : nilConst P t x = false) (h2 : nilConst P t y = false) (hb : bin P op t x y vx vy = some v) (h : Go P T fn (.ops b all l :: k) (put d v σ) g n m Q) : Go P T fn (.ops b all (⟨d, .binOp op t x y ty2, ty, pos, af, none⟩ :: l) :: k) σ g n m Q :=
  w_pure rfl (by simp only [op0, h1, h2, hx, hy, Bool.false_eq_true, if_false]; exact hb) h
end
theorem walk (X : List Sop) (a b c d : Int) (g : Nat → Option Ob) (n : Nat) : Rn Try.prog T 8 [sov tg X, .agg #[.int .i64 a, .int .i64 b, .int .i64 c, .int .i64 d]] g n n (fun v _ _ => v = .bool true) := by
  refine c_open Try.func8 rfl rfl rfl rfl rfl rfl ?_
  repeat' (first
    | ((with_reducible apply g_op); first
      | ((with_reducible apply g_assign); first
        | ((with_reducible apply w_pure (v := .bool _)); exact rfl; exact rfl))
      | ((with_reducible apply g_box); first
        | ((with_reducible apply w_box (vs := [_, _, _, _])); exact rfl; exact rfl)))
    | with_reducible refine w_seq ?_
    | with_reducible refine w_nil ?_
    | with_reducible refine w_region ?_)
  refine w_rf awake_run (fun _ => rfl) sn_nil ?_
  rintro _ rfl
  repeat' (first
    | ((with_reducible apply g_op); first
      | ((with_reducible apply g_assign); first
        | ((with_reducible apply w_pure (v := .int _ _)); exact rfl; exact rfl)
        | ((with_reducible apply w_pure (v := .bool _)); exact rfl; exact rfl)
        | ((with_reducible apply w_pure (v := .slice _ _ _)); exact rfl; exact rfl)))
    | with_reducible refine w_seq ?_
    | with_reducible refine w_nil ?_
    | with_reducible refine w_region ?_)
  obtain ⟨G0, hG0⟩ : ∃ G0, G0 = upd g n (some (.cells 35 [.int .i64 a, .int .i64 b, .int .i64 c, .int .i64 d])) := ⟨_, rfl⟩
  rw [← hG0]
  have hb0 : G0 n = some (.cells 35 [.int .i64 a, .int .i64 b, .int .i64 c, .int .i64 d]) := by rw [hG0]; exact upd_same
  refine w_meetK [(6, 9), (26, 48)] (fun σ' g' n' => ∃ l, LV (σ' 6) l ∧ Can l ∧ g' = G0 ∧ n' = n + 1) ?_ ?_
  · intro K Q hK
    repeat' (first
      | with_reducible refine w_block ?_)
    refine w_cntK [(6, 9), (26, 48)] (min X.length 15) (fun i (l : List Rg) σ g' n' => LV (σ 6) l ∧ σ 7 = .int .i64 (i : Nat) ∧ Can l ∧ g' = G0 ∧ n' = n + 1) ?_ ?_ [] ⟨.inr ⟨rfl, rfl⟩, rfl, Can.nil, rfl, rfl⟩
    · rintro i l σ _ _ hi ⟨hv, k7, hl, rfl, rfl⟩ ih
      obtain ⟨o, hx⟩ : ∃ o, X[i]? = some o := ⟨_, List.getElem?_eq_getElem (by omega)⟩
      obtain ⟨V, k6⟩ : ∃ V, σ 6 = V := ⟨_, rfl⟩
      rw [k6] at hv
      refine w_keep (i := 6) k6 (w_keep (i := 7) k7 ?_)
      repeat' (first
        | ((with_reducible apply g_op); first
          | ((with_reducible apply g_move); first
            | ((with_reducible apply w_pure (v := .int _ _)); exact rfl; exact rfl)
            | ((with_reducible apply w_pure (v := .bool _)); exact rfl; exact rfl)
            | ((with_reducible apply w_pure (v := .func _ _ _)); exact rfl; exact rfl))
          | ((with_reducible apply g_bin); first
            | ((with_reducible apply w_pure (v := .bool _)); exact rfl; exact rfl))
          | ((with_reducible apply g_pick); first
            | ((with_reducible apply w_pk1 (v := .bool _)); exact rfl; exact rfl; (first | assumption | exact decide_eq_true (by assumption) | exact decide_eq_false (by assumption) | exact decide_eq_true (by omega) | exact decide_eq_false (by omega) | exact beq_iff_eq.2 (by omega) | exact beq_eq_false_iff_ne.2 (by omega) | exact bne_iff_ne.2 (by omega) | exact bne_eq_false_iff_eq.2 (by omega))))
          | ((with_reducible apply g_call); first
            | ((with_reducible apply w_call (v := .int _ _)); exact rfl))
          | ((with_reducible apply g_ix); first
            | ((with_reducible apply w_fx (sz := 11)); exact rfl; exact rfl; exact rfl; exact rfl; exact rfl; exact (fun _ => rfl); assumption; exact rfl)))
        | ((with_reducible apply g_gd); first
          | ((with_reducible apply w_gd_t); exact rfl; all_goals (intro hc; first | (exfalso; omega) | skip)))
        | with_reducible refine w_seq ?_
        | with_reducible refine w_nil ?_
        | with_reducible refine w_region ?_
        | with_reducible refine w_skip ?_
        | with_reducible refine w_block ?_
        | ((with_reducible apply w_ifd); exact rfl; all_goals (intro hc; first | (exfalso; omega) | skip)))
      refine w_fl (enc := Sop.c) (ls := X) (y := o) (i := i) (sz := 11) (c := 0) (v := o.v) rfl (fun _ => rfl) hx (part_sop o) ?_
      repeat' (first
        | fail)
      refine w_rq (small_run o _ _ _) (fun _ => rfl) ?_
      rintro _ rfl
      repeat' (first
        | fail)
      refine w_rf (of_run l (smallS o) hl) (fun _ => rfl) (sn_cons (sop_sn _) (sn_cons (lv_sn hv) sn_nil)) ?_
      rintro _ rfl
      have hc := opS_can hl (smallS o)
      generalize opS l (smallS o) = A at *
      obtain ⟨A1, A2⟩ := A
      dsimp only at hc
      by_cases he : A2 = 0
      · subst he
        repeat' (first
          | ((with_reducible apply g_op); first
            | ((with_reducible apply g_move); first
              | ((with_reducible apply w_pure (v := .int _ _)); exact rfl; exact rfl)
              | ((with_reducible apply w_pure (v := .tuple _)); exact rfl; exact rfl)
              | ((with_reducible apply w_pure (v := .func _ _ _)); exact rfl; exact rfl))
            | ((with_reducible apply g_bin); first
              | ((with_reducible apply w_wrap); exact rfl; exact rfl; first | exact i64_in _ (by omega) | exact u64_in _ (by omega) | exact u8_in _ (by omega))
              | ((with_reducible apply w_pure (v := .bool _)); exact rfl; exact rfl))
            | ((with_reducible apply g_assign); first
              | ((with_reducible apply w_pure (v := .int _ _)); exact rfl; exact rfl)
              | ((with_reducible apply w_pure (v := .func _ _ _)); exact rfl; exact rfl))
            | ((with_reducible apply w_pure (v := .int _ _)); exact rfl; exact rfl)
            | ((with_reducible apply w_pure (v := .func _ _ _)); exact rfl; exact rfl))
          | with_reducible refine w_seq ?_
          | with_reducible refine w_nil ?_
          | with_reducible refine w_region ?_
          | with_reducible refine w_blk ?_
          | ((with_reducible apply w_yes); exact rfl))
        exact ih A1 _ _ _ (by repeat' (first | with_reducible exact Fr.mix | with_reducible exact Fr.rfl' | with_reducible refine Fr.put ?_ ?_ | with_reducible refine Fr.mix2 ?_ ?_ | with_reducible refine Fr.put0 ?_ | exact rfl)) ⟨.inl rfl, by push_cast; rfl, hc rfl, rfl, rfl⟩
      · repeat' (first
          | ((with_reducible apply g_op); first
            | ((with_reducible apply g_move); first
              | ((with_reducible apply w_pure (v := .int _ _)); exact rfl; exact rfl)
              | ((with_reducible apply w_pure (v := .tuple _)); exact rfl; exact rfl))
            | ((with_reducible apply g_bin); first
              | ((with_reducible apply w_wrap); exact rfl; exact rfl; first | exact i64_in _ (by omega) | exact u64_in _ (by omega) | exact u8_in _ (by omega))
              | ((with_reducible apply w_pure (v := .bool _)); exact rfl; exact rfl))
            | ((with_reducible apply g_assign); first
              | ((with_reducible apply w_pure (v := .int _ _)); exact rfl; exact rfl)
              | ((with_reducible apply w_pure (v := .func _ _ _)); exact rfl; exact rfl))
            | ((with_reducible apply w_pure (v := .int _ _)); exact rfl; exact rfl)
            | ((with_reducible apply w_pure (v := .func _ _ _)); exact rfl; exact rfl))
          | with_reducible refine w_seq ?_
          | with_reducible refine w_nil ?_
          | with_reducible refine w_region ?_
          | with_reducible refine w_skip ?_
          | with_reducible refine w_blk ?_
          | ((with_reducible apply w_ifd); exact rfl; all_goals (intro hc; first | (exfalso; omega) | skip)))
        all_goals first | exact absurd (by assumption) he | exact ih _ _ _ _ (by repeat' (first | with_reducible exact Fr.mix | with_reducible exact Fr.rfl' | with_reducible refine Fr.put ?_ ?_ | with_reducible refine Fr.mix2 ?_ ?_ | with_reducible refine Fr.put0 ?_ | exact rfl)) ⟨hv, by push_cast; rfl, hl, rfl, rfl⟩
    · rintro l σ _ _ ⟨hv, k7, hl, rfl, rfl⟩
      obtain ⟨V, k6⟩ : ∃ V, σ 6 = V := ⟨_, rfl⟩
      rw [k6] at hv
      refine w_keep (i := 6) k6 (w_keep (i := 7) k7 ?_)
      repeat' (first
        | ((with_reducible apply g_op); first
          | ((with_reducible apply g_move); first
            | ((with_reducible apply w_pure (v := .int _ _)); exact rfl; exact rfl)
            | ((with_reducible apply w_pure (v := .bool _)); exact rfl; exact rfl)
            | ((with_reducible apply w_pure (v := .func _ _ _)); exact rfl; exact rfl))
          | ((with_reducible apply g_bin); first
            | ((with_reducible apply w_pure (v := .bool _)); exact rfl; exact rfl))
          | ((with_reducible apply g_pick); first
            | ((with_reducible apply w_pk1 (v := .bool _)); exact rfl; exact rfl; (first | assumption | exact decide_eq_true (by assumption) | exact decide_eq_false (by assumption) | exact decide_eq_true (by omega) | exact decide_eq_false (by omega) | exact beq_iff_eq.2 (by omega) | exact beq_eq_false_iff_ne.2 (by omega) | exact bne_iff_ne.2 (by omega) | exact bne_eq_false_iff_eq.2 (by omega)))
            | ((with_reducible apply w_pk0 (v := .bool _)); exact rfl; exact rfl; (first | assumption | exact decide_eq_true (by assumption) | exact decide_eq_false (by assumption) | exact decide_eq_true (by omega) | exact decide_eq_false (by omega) | exact beq_iff_eq.2 (by omega) | exact beq_eq_false_iff_ne.2 (by omega) | exact bne_iff_ne.2 (by omega) | exact bne_eq_false_iff_eq.2 (by omega))))
          | ((with_reducible apply g_call); first
            | ((with_reducible apply w_call (v := .int _ _)); exact rfl)))
        | ((with_reducible apply g_gd); first
          | ((with_reducible apply w_gd_t); exact rfl; all_goals (intro hc; first | (exfalso; omega) | skip)))
        | with_reducible refine w_seq ?_
        | with_reducible refine w_nil ?_
        | with_reducible refine w_region ?_
        | ((with_reducible apply w_exit); exact rfl)
        | ((with_reducible apply w_no); exact rfl)
        | ((with_reducible apply w_ifd); exact rfl; all_goals (intro hc; first | (exfalso; omega) | skip)))
      all_goals exact hK _ _ _ (by repeat' (first | with_reducible exact Fr.mix | with_reducible exact Fr.rfl' | with_reducible refine Fr.put ?_ ?_ | with_reducible refine Fr.mix2 ?_ ?_ | with_reducible refine Fr.put0 ?_ | exact rfl)) ⟨l, hv, hl, rfl, rfl⟩
  · rintro σ g2 n2 ⟨l, hv, hl, rfl, rfl⟩
    obtain ⟨V, k6⟩ : ∃ V, σ 6 = V := ⟨_, rfl⟩
    rw [k6] at hv
    have hll := lenR hl
    obtain ⟨hf, hbox⟩ : True ∧ g2 n = some (.cells 35 [.int .i64 a, .int .i64 b, .int .i64 c, .int .i64 d]) := ⟨trivial, hb0⟩
    clear hG0
    refine w_keep (i := 6) k6 ?_
    repeat' (first
      | with_reducible refine w_seq ?_
      | with_reducible refine w_region ?_)
    refine w_pure (v := V) rfl rfl ?_
    repeat' (first
      | ((with_reducible apply g_op); first
        | ((with_reducible apply g_load); first
          | ((with_reducible apply w_load (v := .int _ _)); exact rfl; (first | assumption | (simp (disch := omega) only [upd_same, upd_ne]; first | done | assumption | exact rfl) | exact rfl); exact rfl))
        | ((with_reducible apply w_pure (v := .pointer _)); exact rfl; exact rfl)))
    refine w_rf (find_run l a (by omega)) (fun _ => rfl) (sn_cons (lv_sn hv) (sn_cons (sn_plain rfl) sn_nil)) ?_
    rintro _ rfl
    rcases hfs : findS a l with ⟨⟨xf, xt, xp, xk, xl, xg⟩, xb⟩
    repeat' (first
      | ((with_reducible apply g_op); first
        | ((with_reducible apply g_move); first
          | ((with_reducible apply w_pure (v := .tuple _)); exact rfl; exact rfl))
        | ((with_reducible apply g_assign); first
          | ((with_reducible apply w_pure (v := .bool _)); exact rfl; exact rfl))
        | ((with_reducible apply g_store); first
          | ((with_reducible apply w_store (us := [_, _, _, _, _, _]) (ws := [_, _, _, _, _, _])); exact rfl; exact rfl; (first | assumption | (simp (disch := omega) only [upd_same, upd_ne]; first | done | assumption | exact rfl) | exact rfl); omega; exact rfl; exact rfl; exact rfl))
        | ((with_reducible apply w_alloc (ls := [_, _, _, _, _, _])); exact rfl; exact rfl)
        | ((with_reducible apply w_pure (v := .bool _)); exact rfl; exact rfl)
        | ((with_reducible apply w_pure (v := .agg _)); exact rfl; exact rfl))
      | with_reducible refine w_seq ?_
      | with_reducible refine w_nil ?_
      | with_reducible refine w_region ?_)
    refine w_pure (v := V) rfl rfl ?_
    repeat' (first
      | ((with_reducible apply g_op); first
        | ((with_reducible apply g_load); first
          | ((with_reducible apply w_load (v := .int _ _)); exact rfl; (first | assumption | (simp (disch := omega) only [upd_same, upd_ne]; first | done | assumption | exact rfl) | exact rfl); exact rfl))
        | ((with_reducible apply w_pure (v := .pointer _)); exact rfl; exact rfl)))
    refine w_rf (rfind_run l a (by omega)) (fun _ => rfl) (sn_cons (lv_sn hv) (sn_cons (sn_plain rfl) sn_nil)) ?_
    rintro _ rfl
    rw [hfs]
    repeat' (first
      | ((with_reducible apply g_op); first
        | ((with_reducible apply g_move); first
          | ((with_reducible apply w_pure (v := .tuple _)); exact rfl; exact rfl))
        | ((with_reducible apply g_assign); first
          | ((with_reducible apply w_pure (v := .bool _)); exact rfl; exact rfl))
        | ((with_reducible apply g_store); first
          | ((with_reducible apply w_store (us := [_, _, _, _, _, _]) (ws := [_, _, _, _, _, _])); exact rfl; exact rfl; (first | assumption | (simp (disch := omega) only [upd_same, upd_ne]; first | done | assumption | exact rfl) | exact rfl); omega; exact rfl; exact rfl; exact rfl))
        | ((with_reducible apply w_alloc (ls := [_, _, _, _, _, _])); exact rfl; exact rfl)
        | ((with_reducible apply w_pure (v := .bool _)); exact rfl; exact rfl)
        | ((with_reducible apply w_pure (v := .agg _)); exact rfl; exact rfl))
      | with_reducible refine w_seq ?_
      | with_reducible refine w_nil ?_
      | with_reducible refine w_region ?_)
    refine w_pure (v := V) rfl rfl ?_
    repeat' (first
      | ((with_reducible apply g_op); first
        | ((with_reducible apply g_load); first
          | ((with_reducible apply w_load (v := .int _ _)); exact rfl; (first | assumption | (simp (disch := omega) only [upd_same, upd_ne]; first | done | assumption | exact rfl) | exact rfl); exact rfl))
        | ((with_reducible apply w_pure (v := .pointer _)); exact rfl; exact rfl)))
    refine w_rf (gap_run l b c d hl) (fun _ => rfl) (sn_cons (lv_sn hv) (sn_cons (sn_plain rfl) (sn_cons (sn_plain rfl) (sn_cons (sn_plain rfl) sn_nil)))) ?_
    rintro _ rfl
    repeat' (first
      | ((with_reducible apply g_op); first
        | ((with_reducible apply g_move); first
          | ((with_reducible apply w_pure (v := .tuple _)); exact rfl; exact rfl))
        | ((with_reducible apply g_assign); first
          | ((with_reducible apply w_pure (v := .int _ _)); exact rfl; exact rfl)
          | ((with_reducible apply w_pure (v := .bool _)); exact rfl; exact rfl))
        | ((with_reducible apply w_pure (v := .int _ _)); exact rfl; exact rfl)
        | ((with_reducible apply w_pure (v := .bool _)); exact rfl; exact rfl))
      | with_reducible refine w_seq ?_
      | with_reducible refine w_nil ?_
      | with_reducible refine w_region ?_)
    refine w_pure (v := V) rfl rfl ?_
    repeat' (first
      | ((with_reducible apply g_op); first
        | ((with_reducible apply g_load); first
          | ((with_reducible apply w_load (v := .int _ _)); exact rfl; (first | assumption | (simp (disch := omega) only [upd_same, upd_ne]; first | done | assumption | exact rfl) | exact rfl); exact rfl))
        | ((with_reducible apply w_pure (v := .pointer _)); exact rfl; exact rfl)))
    refine w_rf (rgap_run l b c d hl) (fun _ => rfl) (sn_cons (lv_sn hv) (sn_cons (sn_plain rfl) (sn_cons (sn_plain rfl) (sn_cons (sn_plain rfl) sn_nil)))) ?_
    rintro _ rfl
    generalize gapS l b c d = B at *
    obtain ⟨ga, gb⟩ := B
    repeat' (first
      | ((with_reducible apply g_op); first
        | ((with_reducible apply g_load); first
          | ((with_reducible apply w_load (v := .int _ _)); exact rfl; (first | assumption | (simp (disch := omega) only [upd_same, upd_ne]; first | done | assumption | exact rfl) | exact rfl); exact rfl)
          | ((with_reducible apply w_load (v := .agg #[_, _, _, _, _, _])); exact rfl; (first | assumption | (simp (disch := omega) only [upd_same, upd_ne]; first | done | assumption | exact rfl) | exact rfl); exact rfl))
        | ((with_reducible apply g_move); first
          | ((with_reducible apply w_pure (v := .tuple _)); exact rfl; exact rfl))
        | ((with_reducible apply g_assign); first
          | ((with_reducible apply w_pure (v := .int _ _)); exact rfl; exact rfl)
          | ((with_reducible apply w_pure (v := .bool _)); exact rfl; exact rfl))
        | ((with_reducible apply w_pure (v := .int _ _)); exact rfl; exact rfl)
        | ((with_reducible apply w_pure (v := .bool _)); exact rfl; exact rfl)
        | ((with_reducible apply w_pure (v := .pointer _)); exact rfl; exact rfl))
      | with_reducible refine w_seq ?_
      | with_reducible refine w_nil ?_
      | with_reducible refine w_region ?_)
    refine w_rq (key_run ⟨xf, xt, xp, xk, xl, xg⟩ a _ _ _) (fun _ => rfl) ?_
    rintro _ rfl
    repeat' (first
      | ((with_reducible apply g_op); first
        | ((with_reducible apply g_load); first
          | ((with_reducible apply w_load (v := .int _ _)); exact rfl; (first | assumption | (simp (disch := omega) only [upd_same, upd_ne]; first | done | assumption | exact rfl) | exact rfl); exact rfl)
          | ((with_reducible apply w_load (v := .agg #[_, _, _, _, _, _])); exact rfl; (first | assumption | (simp (disch := omega) only [upd_same, upd_ne]; first | done | assumption | exact rfl) | exact rfl); exact rfl))
        | ((with_reducible apply g_move); first
          | ((with_reducible apply w_pure (v := .tuple _)); exact rfl; exact rfl))
        | ((with_reducible apply g_assign); first
          | ((with_reducible apply w_pure (v := .bool _)); exact rfl; exact rfl))
        | ((with_reducible apply g_store); first
          | ((with_reducible apply w_store (us := [_, _]) (ws := [_, _])); exact rfl; exact rfl; (first | assumption | (simp (disch := omega) only [upd_same, upd_ne]; first | done | assumption | exact rfl) | exact rfl); omega; exact rfl; exact rfl; exact rfl))
        | ((with_reducible apply w_alloc (ls := [_, _])); exact rfl; exact rfl)
        | ((with_reducible apply w_pure (v := .bool _)); exact rfl; exact rfl)
        | ((with_reducible apply w_pure (v := .pointer _)); exact rfl; exact rfl)
        | ((with_reducible apply w_pure (v := .agg _)); exact rfl; exact rfl))
      | with_reducible refine w_seq ?_
      | with_reducible refine w_nil ?_
      | with_reducible refine w_region ?_)
    refine w_rq (rkey_run ⟨xf, xt, xp, xk, xl, xg⟩ a _ _ _) (fun _ => rfl) ?_
    rintro _ rfl
    generalize keyS ⟨xf, xt, xp, xk, xl, xg⟩ a = KX
    obtain ⟨⟨kx1, kx2⟩, kxb⟩ := KX
    repeat' (first
      | ((with_reducible apply g_op); first
        | ((with_reducible apply g_move); first
          | ((with_reducible apply w_pure (v := .tuple _)); exact rfl; exact rfl))
        | ((with_reducible apply g_assign); first
          | ((with_reducible apply w_pure (v := .int _ _)); exact rfl; exact rfl)
          | ((with_reducible apply w_pure (v := .bool _)); exact rfl; exact rfl))
        | ((with_reducible apply g_store); first
          | ((with_reducible apply w_store (us := [_, _]) (ws := [_, _])); exact rfl; exact rfl; (first | assumption | (simp (disch := omega) only [upd_same, upd_ne]; first | done | assumption | exact rfl) | exact rfl); omega; exact rfl; exact rfl; exact rfl))
        | ((with_reducible apply w_alloc (ls := [_, _])); exact rfl; exact rfl)
        | ((with_reducible apply w_pure (v := .bool _)); exact rfl; exact rfl)
        | ((with_reducible apply w_pure (v := .agg _)); exact rfl; exact rfl))
      | with_reducible refine w_seq ?_
      | with_reducible refine w_nil ?_
      | with_reducible refine w_region ?_)
    refine w_pure (v := V) rfl rfl ?_
    repeat' (first
      | fail)
    refine w_rn (spreadLV_run hv hl (by omega) _ _ _) (fun _ => rfl) ?_
    rintro v3 g3 n3 ⟨hv3, ⟨PS, hP, hg3⟩, hfr, hn3⟩
    have j0 := (hfr n (by omega)).trans (show _ = some (.cells 35 [.int .i64 a, .int .i64 b, .int .i64 c, .int .i64 d]) by simp (disch := omega) only [upd_ne]; exact hbox)
    have j1 := (hfr (n + 1) (by omega)).trans (show _ = some (.cells 23 [.int .i64 xf, .int .i64 xt, .int .i64 xp, .int .i64 xk, .int .i64 xl, .int .i64 xg]) by simp (disch := omega) only [upd_ne, upd_same])
    have j2 := (hfr (n + 1 + 1) (by omega)).trans (show _ = some (.cells 23 [.int .i64 xf, .int .i64 xt, .int .i64 xp, .int .i64 xk, .int .i64 xl, .int .i64 xg]) by simp (disch := omega) only [upd_ne, upd_same])
    have j3 := (hfr (n + 1 + 1 + 1) (by omega)).trans (show _ = some (.cells 50 [.int .i64 kx1, .int .i64 kx2]) by simp (disch := omega) only [upd_ne, upd_same])
    have j4 := (hfr (n + 1 + 1 + 1 + 1) (by omega)).trans (show _ = some (.cells 50 [.int .i64 kx1, .int .i64 kx2]) by simp (disch := omega) only [upd_ne, upd_same])
    obtain ⟨ra, rfl, hrow⟩ : ∃ ra, v3 = .slice ra 4096 4096 ∧ Row g3 ra 60 (PS.flatMap pgc) := ⟨_, hv3, .inr ⟨_, 0, _, rfl, hg3, by rw [Nat.zero_add]; exact Nat.le_refl _, by rw [List.drop_zero, List.take_length]⟩⟩
    clear hfr hv3 hg3 hbox hb0
    have hpl := hP.len
    repeat' (first
      | ((with_reducible apply g_op); first
        | ((with_reducible apply g_assign); first
          | ((with_reducible apply w_pure (v := .int _ _)); exact rfl; exact rfl)
          | ((with_reducible apply w_pure (v := .slice _ _ _)); exact rfl; exact rfl)))
      | with_reducible refine w_seq ?_
      | with_reducible refine w_nil ?_
      | with_reducible refine w_region ?_
      | with_reducible refine w_block ?_)
    refine w_cntK [(22, 22), (24, 24), (101, 113)] 4096 (fun q (_ : Unit) σ g' n' => σ 24 = .int .i64 (q : Nat) ∧ σ 22 = .int .i64 (cntS l q) ∧ g' = g3 ∧ n' = n3) ?_ ?_ () ⟨rfl, rfl, rfl, rfl⟩
    · rintro q _ σ g3 n3 hq ⟨k24, k22, rfl, rfl⟩ ih
      have hpq := hP.at_ q hq
      have hcn : cntS l (q + 1) = cntS l q + (if (pgAt l q).2 = true then 1 else 0) := by
        have e : (pgAt l q).2 = (findS (q : Int) l).2 := by
          unfold pgAt
          cases hb : (findS (q : Int) l).2 with
          | true => rfl
          | false => rfl
        rw [e]; rfl
      have hcl := cnt_le l q
      rcases hpg : pgAt l q with ⟨⟨pf, pt, pp, pk, pl, pg⟩, pb⟩
      rw [hpg] at hpq hcn
      refine w_keep (i := 24) k24 (w_keep (i := 22) k22 ?_)
      cases pb with
      | false =>
        repeat' (first
          | ((with_reducible apply g_op); first
            | ((with_reducible apply g_load); first
              | ((with_reducible apply w_ld (v := .bool _)); exact rfl; assumption; exact (fun _ => rfl); assumption; exact (by decide); exact rfl))
            | ((with_reducible apply g_move); first
              | ((with_reducible apply w_pure (v := .int _ _)); exact rfl; exact rfl)
              | ((with_reducible apply w_pure (v := .slice _ _ _)); exact rfl; exact rfl))
            | ((with_reducible apply g_bin); first
              | ((with_reducible apply w_wrap); exact rfl; exact rfl; first | exact i64_in _ (by omega) | exact u64_in _ (by omega) | exact u8_in _ (by omega))
              | ((with_reducible apply w_pure (v := .bool _)); exact rfl; exact rfl))
            | ((with_reducible apply g_fld); first
              | ((with_reducible apply w_fld); exact rfl; exact rfl; exact rfl; exact (by decide); assumption; exact (fun _ => rfl); exact (by decide); assumption))
            | ((with_reducible apply g_assign); first
              | ((with_reducible apply w_pure (v := .int _ _)); exact rfl; exact rfl))
            | ((with_reducible apply g_call); first
              | ((with_reducible apply w_call (v := .int _ _)); exact rfl))
            | ((with_reducible apply g_ix); first
              | ((with_reducible apply w_ix (sz := 7)); exact rfl; exact rfl; exact rfl; exact rfl; exact (by decide); exact rfl; assumption; exact (fun _ => rfl); assumption; omega)))
          | with_reducible refine w_seq ?_
          | with_reducible refine w_nil ?_
          | with_reducible refine w_region ?_
          | with_reducible refine w_skip ?_
          | with_reducible refine w_block ?_
          | with_reducible refine w_blk ?_
          | ((with_reducible apply w_no); exact rfl)
          | ((with_reducible apply w_ifd); exact rfl; all_goals (intro hc; first | (exfalso; omega) | skip)))
        exact ih () _ _ _ (by repeat' (first | with_reducible exact Fr.mix | with_reducible exact Fr.rfl' | with_reducible refine Fr.put ?_ ?_ | with_reducible refine Fr.mix2 ?_ ?_ | with_reducible refine Fr.put0 ?_ | exact rfl)) ⟨rfl, by rw [hcn]; exact congrArg (Value.int .i64) (by simp), rfl, rfl⟩
      | true =>
        repeat' (first
          | ((with_reducible apply g_op); first
            | ((with_reducible apply g_load); first
              | ((with_reducible apply w_ld (v := .bool _)); exact rfl; assumption; exact (fun _ => rfl); assumption; exact (by decide); exact rfl))
            | ((with_reducible apply g_move); first
              | ((with_reducible apply w_pure (v := .int _ _)); exact rfl; exact rfl)
              | ((with_reducible apply w_pure (v := .slice _ _ _)); exact rfl; exact rfl))
            | ((with_reducible apply g_bin); first
              | ((with_reducible apply w_wrap); exact rfl; exact rfl; first | exact i64_in _ (by omega) | exact u64_in _ (by omega) | exact u8_in _ (by omega))
              | ((with_reducible apply w_pure (v := .bool _)); exact rfl; exact rfl))
            | ((with_reducible apply g_fld); first
              | ((with_reducible apply w_fld); exact rfl; exact rfl; exact rfl; exact (by decide); assumption; exact (fun _ => rfl); exact (by decide); assumption))
            | ((with_reducible apply g_assign); first
              | ((with_reducible apply w_pure (v := .int _ _)); exact rfl; exact rfl))
            | ((with_reducible apply g_call); first
              | ((with_reducible apply w_call (v := .int _ _)); exact rfl))
            | ((with_reducible apply g_ix); first
              | ((with_reducible apply w_ix (sz := 7)); exact rfl; exact rfl; exact rfl; exact rfl; exact (by decide); exact rfl; assumption; exact (fun _ => rfl); assumption; omega)))
          | with_reducible refine w_seq ?_
          | with_reducible refine w_nil ?_
          | with_reducible refine w_region ?_
          | with_reducible refine w_skip ?_
          | with_reducible refine w_block ?_
          | with_reducible refine w_blk ?_
          | ((with_reducible apply w_yes); exact rfl)
          | ((with_reducible apply w_ifd); exact rfl; all_goals (intro hc; first | (exfalso; omega) | skip)))
        exact ih () _ _ _ (by repeat' (first | with_reducible exact Fr.mix | with_reducible exact Fr.rfl' | with_reducible refine Fr.put ?_ ?_ | with_reducible refine Fr.mix2 ?_ ?_ | with_reducible refine Fr.put0 ?_ | exact rfl)) ⟨rfl, by rw [hcn]; rfl, rfl, rfl⟩
    · rintro _ σ g3 n3 ⟨k24, k22, rfl, rfl⟩
      rw [cnt_all hl] at k22
      refine w_keep (i := 24) k24 (w_keep (i := 22) k22 ?_)
      repeat' (first
        | ((with_reducible apply g_op); first
          | ((with_reducible apply g_load); first
            | ((with_reducible apply w_load (v := .agg #[_, _, _, _, _, _])); exact rfl; (first | assumption | (simp (disch := omega) only [upd_same, upd_ne]; first | done | assumption | exact rfl) | exact rfl); exact rfl))
          | ((with_reducible apply g_move); first
            | ((with_reducible apply w_pure (v := .int _ _)); exact rfl; exact rfl)
            | ((with_reducible apply w_pure (v := .bool _)); exact rfl; exact rfl)
            | ((with_reducible apply w_pure (v := .slice _ _ _)); exact rfl; exact rfl))
          | ((with_reducible apply g_bin); first
            | ((with_reducible apply w_pure (v := .bool _)); exact rfl; exact rfl))
          | ((with_reducible apply g_call); first
            | ((with_reducible apply w_call (v := .int _ _)); exact rfl)))
        | ((with_reducible apply g_gd); first
          | ((with_reducible apply w_want); exact rfl))
        | with_reducible refine w_seq ?_
        | with_reducible refine w_nil ?_
        | with_reducible refine w_region ?_
        | ((with_reducible apply w_draw); kernel_rfl; kernel_rfl)
        | ((with_reducible apply w_exit); exact rfl)
        | ((with_reducible apply w_no); exact rfl))
      refine w_binv (v := .bool true) rfl rfl rfl rfl (rg_eq _ _ xf xt xp xk xl xg) ?_
      repeat' (first
        | ((with_reducible apply g_op); first
          | ((with_reducible apply g_move); first
            | ((with_reducible apply w_pure (v := .bool _)); exact rfl; exact rfl))
          | ((with_reducible apply g_bin); first
            | ((with_reducible apply w_pure (v := .bool _)); exact rfl; exact rfl))
          | ((with_reducible apply w_pure (v := .bool _)); exact rfl; exact rfl))
        | ((with_reducible apply g_gd); first
          | ((with_reducible apply w_want); exact rfl)))
      refine w_keep (i := 125) (v := .bool true) (congrArg Value.bool (beq_self_eq_true xb)) ?_
      repeat' (first
        | ((with_reducible apply g_op); first
          | ((with_reducible apply g_move); first
            | ((with_reducible apply w_pure (v := .int _ _)); exact rfl; exact rfl)
            | ((with_reducible apply w_pure (v := .bool _)); exact rfl; exact rfl))
          | ((with_reducible apply g_bin); first
            | ((with_reducible apply w_pure (v := .bool _)); exact rfl; exact rfl))
          | ((with_reducible apply w_pure (v := .bool _)); exact rfl; exact rfl))
        | ((with_reducible apply g_gd); first
          | ((with_reducible apply w_want); exact rfl)))
      refine w_keep (i := 130) (v := .bool true) (congrArg Value.bool (beq_self_eq_true ga)) ?_
      repeat' (first
        | ((with_reducible apply g_op); first
          | ((with_reducible apply g_move); first
            | ((with_reducible apply w_pure (v := .bool _)); exact rfl; exact rfl))
          | ((with_reducible apply g_bin); first
            | ((with_reducible apply w_pure (v := .bool _)); exact rfl; exact rfl))
          | ((with_reducible apply w_pure (v := .bool _)); exact rfl; exact rfl))
        | ((with_reducible apply g_gd); first
          | ((with_reducible apply w_want); exact rfl)))
      refine w_keep (i := 135) (v := .bool true) (congrArg Value.bool (beq_self_eq_true gb)) ?_
      repeat' (first
        | ((with_reducible apply g_op); first
          | ((with_reducible apply g_load); first
            | ((with_reducible apply w_load (v := .agg #[_, _])); exact rfl; (first | assumption | (simp (disch := omega) only [upd_same, upd_ne]; first | done | assumption | exact rfl) | exact rfl); exact rfl)))
        | ((with_reducible apply g_gd); first
          | ((with_reducible apply w_want); exact rfl)))
      refine w_binv (v := .bool true) rfl rfl rfl rfl (key_eq _ _ kx1 kx2) ?_
      repeat' (first
        | ((with_reducible apply g_op); first
          | ((with_reducible apply g_move); first
            | ((with_reducible apply w_pure (v := .bool _)); exact rfl; exact rfl))
          | ((with_reducible apply g_bin); first
            | ((with_reducible apply w_pure (v := .bool _)); exact rfl; exact rfl))
          | ((with_reducible apply w_pure (v := .bool _)); exact rfl; exact rfl))
        | ((with_reducible apply g_gd); first
          | ((with_reducible apply w_want); exact rfl)))
      refine w_keep (i := 145) (v := .bool true) (congrArg Value.bool (beq_self_eq_true kxb)) ?_
      repeat' (first
        | ((with_reducible apply g_gd); first
          | ((with_reducible apply w_want); exact rfl)))
      refine w_pure (v := V) rfl rfl ?_
      repeat' (first
        | ((with_reducible apply g_op); first
          | ((with_reducible apply g_load); first
            | ((with_reducible apply w_load (v := .int _ _)); exact rfl; (first | assumption | (simp (disch := omega) only [upd_same, upd_ne]; first | done | assumption | exact rfl) | exact rfl); exact rfl))
          | ((with_reducible apply w_pure (v := .pointer _)); exact rfl; exact rfl))
        | ((with_reducible apply g_gd); first
          | ((with_reducible apply w_want); exact rfl)))
      refine w_rf (covers_run l b c (by omega)) (fun _ => rfl) (sn_cons (lv_sn hv) (sn_cons (sn_plain rfl) (sn_cons (sn_plain rfl) sn_nil))) ?_
      rintro _ rfl
      repeat' (first
        | ((with_reducible apply g_gd); first
          | ((with_reducible apply w_want); exact rfl)))
      refine w_pure (v := V) rfl rfl ?_
      repeat' (first
        | ((with_reducible apply g_op); first
          | ((with_reducible apply g_load); first
            | ((with_reducible apply w_load (v := .int _ _)); exact rfl; (first | assumption | (simp (disch := omega) only [upd_same, upd_ne]; first | done | assumption | exact rfl) | exact rfl); exact rfl))
          | ((with_reducible apply w_pure (v := .pointer _)); exact rfl; exact rfl))
        | ((with_reducible apply g_gd); first
          | ((with_reducible apply w_want); exact rfl)))
      refine w_rf (rcovers_run l b c hl) (fun _ => rfl) (sn_cons (lv_sn hv) (sn_cons (sn_plain rfl) (sn_cons (sn_plain rfl) sn_nil))) ?_
      rintro _ rfl
      generalize coversS l b c = cv
      repeat' (first
        | ((with_reducible apply g_op); first
          | ((with_reducible apply g_move); first
            | ((with_reducible apply w_pure (v := .bool _)); exact rfl; exact rfl))
          | ((with_reducible apply g_bin); first
            | ((with_reducible apply w_pure (v := .bool _)); exact rfl; exact rfl))
          | ((with_reducible apply w_pure (v := .bool _)); exact rfl; exact rfl))
        | ((with_reducible apply g_gd); first
          | ((with_reducible apply w_want); exact rfl)))
      refine w_keep (i := 160) (v := .bool true) (congrArg Value.bool (beq_self_eq_true cv)) ?_
      repeat' (first
        | ((with_reducible apply g_gd); first
          | ((with_reducible apply w_want); exact rfl)))
      refine w_pure (v := V) rfl rfl ?_
      repeat' (first
        | ((with_reducible apply g_gd); first
          | ((with_reducible apply w_want); exact rfl)))
      refine w_rf (pages_run l (by omega)) (fun _ => rfl) (sn_cons (lv_sn hv) sn_nil) ?_
      rintro _ rfl
      rw [pages_sum hl]
      repeat' (first
        | ((with_reducible apply g_op); first
          | ((with_reducible apply g_move); first
            | ((with_reducible apply w_pure (v := .int _ _)); exact rfl; exact rfl))
          | ((with_reducible apply g_bin); first
            | ((with_reducible apply w_pure (v := .bool _)); exact rfl; exact rfl))
          | ((with_reducible apply g_assign); first
            | ((with_reducible apply w_pure (v := .bool _)); exact rfl; exact rfl))
          | ((with_reducible apply w_pure (v := .bool _)); exact rfl; exact rfl))
        | ((with_reducible apply g_gd); first
          | ((with_reducible apply w_want); exact rfl))
        | with_reducible refine w_nil ?_
        | ((with_reducible apply w_ret (v := .bool _)); exact rfl))
      exact congrArg Value.bool (beq_self_eq_true (sumP l))
theorem proved (x0 : List XO) (x1 : Int × Int × Int × Int) {p q : Prop} (w0 : p) (w1 : q) : Rn Try.prog tab 8 [fz tg x0.length (x0.flatMap (kPair (kInt .i64) (kPair (kInt .i64) (kPair (kInt .i64) (kPair (kInt .i64) (kPair kBool (kPair (kInt .i64) (kPair (kInt .i64) (kPair (kInt .i64) (kPair (kInt .i64) (kPair (kInt .i64) (kInt .i64))))))))))).enc), .agg ((kPair (kInt .i64) (kPair (kInt .i64) (kPair (kInt .i64) (kInt .i64)))).enc x1).toArray] (fun _ => none) 0 0 (fun v _ _ => v = .bool true) := by
  obtain ⟨b0, b1, b2, b3⟩ := x1
  have h := walk (x0.map toSop) b0 b1 b2 b3 (fun _ => none) 0
  have e : sov tg (x0.map toSop) = fz tg x0.length (x0.flatMap (kPair (kInt .i64) (kPair (kInt .i64) (kPair (kInt .i64) (kPair (kInt .i64) (kPair kBool (kPair (kInt .i64) (kPair (kInt .i64) (kPair (kInt .i64) (kPair (kInt .i64) (kPair (kInt .i64) (kInt .i64))))))))))).enc) := by
    unfold sov
    rw [List.length_map, List.flatMap_map]
    rfl
  rw [e] at h
  exact h
end Go.Proofs.Ytnlgindlmlbfiaa.L.RegionAsks

