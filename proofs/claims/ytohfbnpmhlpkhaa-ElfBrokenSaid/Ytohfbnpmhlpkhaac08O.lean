/- Segments compared; rows of them; Same of the program and of the reference. -/
import Derived.Test.Ytohfbnpmhlpkhaac08M
namespace Go.L1
set_option linter.unusedSimpArgs false
set_option linter.unusedVariables false
theorem pureRun_bind {α β : Type} (P : Program) (s : Sem α) (f : α → Sem β) : pureRun P (s.bind f) = (pureRun P s).bind fun a => pureRun P (f a) := by
  induction s with
  | pure a => rfl
  | program k ih => simp only [Sem.bind, pureRun]; exact ih _
  | mark x k ih => simp only [Sem.bind, pureRun]; exact ih
  | _ => simp [Sem.bind, pureRun]
theorem pr_bind {α β : Type} (P : Program) (s : Sem α) (f : α → Sem β) : pureRun P (s >>= f) = (pureRun P s).bind fun a => pureRun P (f a) := pureRun_bind P s f
theorem pr_pure {α : Type} (P : Program) (a : α) : pureRun P (pure a : Sem α) = some a := rfl
theorem pr_prog (P : Program) : pureRun P Go.program = some P := rfl
theorem pr_under {P : Program} {t : TypeId} {d : TypeDesc} (h : P.underlying t = some d) : pureRun P (Go.underlying t) = some d := by
  unfold Go.underlying
  rw [pr_bind, pr_prog]
  simp only [Option.bind_some, h, pr_pure]
theorem pr_int {P : Program} (d : Nat) {t : TypeId} {k : IntKind} (a b : Int) (h : P.underlying t = some (.int k)) : pureRun P (Op.equalIn (d + 1) t (.int k a) (.int k b)) = some (a == b) := by
  unfold Op.equalIn
  rw [pr_bind, pr_under h]
  simp only [Option.bind_some, if_true, pr_pure]
end Go.L1
namespace Go.Proofs.Ytohfbnpmhlpkhaa.L
open Go.L1 Go.IntWalk Oct
set_option linter.unusedVariables false
set_option linter.unusedSimpArgs false
set_option maxHeartbeats 4000000
set_option maxRecDepth 20000
def Sg.same (a b : Sg) : Bool := a.ty == b.ty && a.fl == b.fl && a.off == b.off && a.ad == b.ad && a.sz == b.sz && a.me == b.me && a.al == b.al
theorem Sg.same_iff {a b : Sg} : a.same b = true ↔ a = b := by
  obtain ⟨a0, a1, a2, a3, a4, a5, a6⟩ := a
  obtain ⟨b0, b1, b2, b3, b4, b5, b6⟩ := b
  simp [Sg.same, and_assoc]
theorem seq43 (a b : Sg) : pureRun Try.prog (Op.equalIn Op.maxDepth 43 a.v b.v) = some (a.same b) := by
  show pureRun Try.prog (Op.equalIn (9998 + 1 + 1) 43 a.v b.v) = _
  unfold Op.equalIn
  rw [pr_bind, pr_under Try.underlying43]
  have hs : Try.prog.stoodInHeld 43 = false := by kernel_rfl
  have q0 : ∀ v0 v1 v2 v3 v4 v5 v6 : Value, pureRun Try.prog (Go.part 3 #[v0, v1, v2, v3, v4, v5, v6] 0) = some v0 := fun _ _ _ _ _ _ _ => rfl
  have q1 : ∀ v0 v1 v2 v3 v4 v5 v6 : Value, pureRun Try.prog (Go.part 3 #[v0, v1, v2, v3, v4, v5, v6] 1) = some v1 := fun _ _ _ _ _ _ _ => rfl
  have q2 : ∀ v0 v1 v2 v3 v4 v5 v6 : Value, pureRun Try.prog (Go.part 3 #[v0, v1, v2, v3, v4, v5, v6] 2) = some v2 := fun _ _ _ _ _ _ _ => rfl
  have q3 : ∀ v0 v1 v2 v3 v4 v5 v6 : Value, pureRun Try.prog (Go.part 3 #[v0, v1, v2, v3, v4, v5, v6] 3) = some v3 := fun _ _ _ _ _ _ _ => rfl
  have q4 : ∀ v0 v1 v2 v3 v4 v5 v6 : Value, pureRun Try.prog (Go.part 3 #[v0, v1, v2, v3, v4, v5, v6] 4) = some v4 := fun _ _ _ _ _ _ _ => rfl
  have q5 : ∀ v0 v1 v2 v3 v4 v5 v6 : Value, pureRun Try.prog (Go.part 3 #[v0, v1, v2, v3, v4, v5, v6] 5) = some v5 := fun _ _ _ _ _ _ _ => rfl
  have q6 : ∀ v0 v1 v2 v3 v4 v5 v6 : Value, pureRun Try.prog (Go.part 3 #[v0, v1, v2, v3, v4, v5, v6] 6) = some v6 := fun _ _ _ _ _ _ _ => rfl
  have qi : ∀ x y : Int, pureRun Try.prog (Op.equalIn 9999 3 (.int .i64 x) (.int .i64 y)) = some (x == y) := fun x y => pr_int 9998 x y Try.underlying3
  simp only [Sg.v, Sg.same]
  by_cases h0 : a.ty = b.ty
  · by_cases h1 : a.fl = b.fl
    · by_cases h2 : a.off = b.off
      · by_cases h3 : a.ad = b.ad
        · by_cases h4 : a.sz = b.sz
          · by_cases h5 : a.me = b.me
            · by_cases h6 : a.al = b.al
              · simp [pr_bind, pr_prog, pr_pure, hs, q0, q1, q2, q3, q4, q5, q6, qi, h0, h1, h2, h3, h4, h5, h6]
              · simp [pr_bind, pr_prog, pr_pure, hs, q0, q1, q2, q3, q4, q5, q6, qi, h0, h1, h2, h3, h4, h5, h6]
            · simp [pr_bind, pr_prog, pr_pure, hs, q0, q1, q2, q3, q4, q5, q6, qi, h0, h1, h2, h3, h4, h5]
          · simp [pr_bind, pr_prog, pr_pure, hs, q0, q1, q2, q3, q4, q5, q6, qi, h0, h1, h2, h3, h4]
        · simp [pr_bind, pr_prog, pr_pure, hs, q0, q1, q2, q3, q4, q5, q6, qi, h0, h1, h2, h3]
      · simp [pr_bind, pr_prog, pr_pure, hs, q0, q1, q2, q3, q4, q5, q6, qi, h0, h1, h2]
    · simp [pr_bind, pr_prog, pr_pure, hs, q0, q1, q2, q3, q4, q5, q6, qi, h0, h1]
  · simp [pr_bind, pr_prog, pr_pure, hs, q0, q1, q2, q3, q4, q5, q6, qi, h0]
theorem eql43 (a b : Sg) (ox oy : Operand) : bin Try.prog .eql 43 ox oy a.v b.v = some (.bool (a.same b)) := by
  simp only [bin, Sg.v]
  rw [if_pos (by rfl)]
  have hg : pureRun Try.prog (eqGuard .eql 43 ox oy a.v b.v) = some () := by
    have : Try.prog.eqGuardType Try.prog.depth 43 = false := by kernel_rfl
    simp [eqGuard, Sg.v, pr_bind, pr_prog, pr_pure, this]
  have hb : pureRun Try.prog (binOp .eql 43 a.v b.v) = some (.bool (a.same b)) := by
    have : binOp .eql 43 a.v b.v = (do let r ← Op.equal 43 a.v b.v; pure (.bool r)) := by simp [binOp, Sg.v]
    rw [this, pr_bind, show Op.equal 43 a.v b.v = Op.equalIn Op.maxDepth 43 a.v b.v from rfl, seq43]
    rfl
  have := pr_bind Try.prog (eqGuard .eql 43 ox oy a.v b.v) (fun _ => binOp .eql 43 a.v b.v)
  rw [hg, Option.bind_some, hb] at this
  simp only [Sg.v] at this
  rw [this]
theorem neq43 (a b : Sg) (ox oy : Operand) : bin Try.prog .neq 43 ox oy a.v b.v = some (.bool (!(a.same b))) := by
  simp only [bin, Sg.v]
  rw [if_pos (by rfl)]
  have hg : pureRun Try.prog (eqGuard .neq 43 ox oy a.v b.v) = some () := by
    have : Try.prog.eqGuardType Try.prog.depth 43 = false := by kernel_rfl
    simp [eqGuard, Sg.v, pr_bind, pr_prog, pr_pure, this]
  have hb : pureRun Try.prog (binOp .neq 43 a.v b.v) = some (.bool (!(a.same b))) := by
    have : binOp .neq 43 a.v b.v = (do let r ← Op.equal 43 a.v b.v; pure (.bool !r)) := by simp [binOp, Sg.v]
    rw [this, pr_bind, show Op.equal 43 a.v b.v = Op.equalIn Op.maxDepth 43 a.v b.v from rfl, seq43]
    rfl
  have := pr_bind Try.prog (eqGuard .neq 43 ox oy a.v b.v) (fun _ => binOp .neq 43 a.v b.v)
  rw [hg, Option.bind_some, hb] at this
  simp only [Sg.v] at this
  rw [this]
def sameL : List Sg → List Sg → Bool
  | [], [] => true
  | a :: l, b :: k => a.same b && sameL l k
  | _, _ => false
theorem sameL_iff : ∀ {l k : List Sg}, sameL l k = true ↔ l = k
  | [], [] => by simp [sameL]
  | [], _ :: _ => by simp [sameL]
  | _ :: _, [] => by simp [sameL]
  | a :: l, b :: k => by simp [sameL, Sg.same_iff, sameL_iff (l := l) (k := k)]
def sameI (x y : Im) : Bool := decide (x.k = y.k) && (decide (x.e = y.e) && sameL x.l y.l)
theorem sameI_iff {x y : Im} : sameI x y = true ↔ x = y := by
  obtain ⟨a, b, c⟩ := x
  obtain ⟨d, e, f⟩ := y
  simp [sameI, sameL_iff]
theorem sameL_len {l k : List Sg} (h : l.length ≠ k.length) : sameL l k = false := by
  cases hs : sameL l k with
  | false => rfl
  | true => rw [sameL_iff.1 hs] at h; exact absurd rfl h
theorem same1_run (a b : Sg) (g : Nat → Option Ob) (n m : Nat) : Rn Try.prog T 44 [a.v, b.v] g n m (fun v g' n' => v = .bool (a.same b) ∧ g' = g ∧ n' = n) := by
  refine c_quiet Try.func44 rfl rfl rfl rfl rfl ?_
  repeat' (first
    | ((with_reducible apply g_op); first
      | ((with_reducible apply g_load); first
        | ((with_reducible apply w_load (v := .agg #[_, _, _, _, _, _, _])); exact rfl; (first | assumption | (simp (disch := omega) only [upd_same, upd_ne]; first | done | assumption | exact rfl) | exact rfl); exact rfl))
      | ((with_reducible apply g_assign); first
        | ((with_reducible apply w_pure (v := .bool _)); exact rfl; exact rfl))
      | ((with_reducible apply g_box); first
        | ((with_reducible apply w_box (vs := [_, _, _, _, _, _, _])); exact rfl; exact rfl)))
    | with_reducible refine w_seq ?_
    | with_reducible refine w_nil ?_
    | with_reducible refine w_region ?_)
  refine w_pure (v := .bool (a.same b)) rfl (eql43 a b _ _) ?_
  repeat' (first
    | ((with_reducible apply g_op); first
      | ((with_reducible apply g_assign); first
        | ((with_reducible apply w_pure (v := .bool _)); exact rfl; exact rfl)))
    | with_reducible refine w_nil ?_
    | ((with_reducible apply w_ret (v := .bool _)); exact rfl))
  exact ⟨rfl, rfl⟩
theorem equal_run (l k : List Sg) (hl : l.length ≤ 5000) : Rf Try.prog T 43 [rv tg l, rv tg k, .func (.func 44) #[] #[]] (fun v => v = .bool (sameL l k)) := by
  refine c_froz Try.func43 rfl rfl rfl rfl rfl rfl ?_
  intro g n
  by_cases hlen : l.length = k.length
  · obtain ⟨R, hR⟩ : ∃ R, sameL l k = R := ⟨_, rfl⟩
    rw [hR]
    repeat' (first
      | ((with_reducible apply g_op); first
        | ((with_reducible apply g_move); first
          | ((with_reducible apply w_pure (v := .int _ _)); exact rfl; exact rfl)
          | ((with_reducible apply w_pure (v := .func _ _ _)); exact rfl; exact rfl))
        | ((with_reducible apply g_bin); first
          | ((with_reducible apply w_pure (v := .bool _)); exact rfl; exact rfl))
        | ((with_reducible apply g_assign); first
          | ((with_reducible apply w_pure (v := .bool _)); exact rfl; exact rfl))
        | ((with_reducible apply g_call); first
          | ((with_reducible apply w_call (v := .int _ _)); exact rfl)))
      | with_reducible refine w_seq ?_
      | with_reducible refine w_nil ?_
      | with_reducible refine w_region ?_
      | with_reducible refine w_skip ?_
      | with_reducible refine w_block ?_
      | ((with_reducible apply w_ifn); exact rfl; all_goals (intro hc; first | (exfalso; omega) | skip)))
    refine w_rngK [(6, 9), (17, 31)] l (fun i rest (_ : Unit) σ g' n' => σ 17 = .int .i64 (i : Nat) ∧ sameL rest (k.drop i) = R ∧ n ≤ n') ?_ ?_ () ⟨rfl, hR, Nat.le_refl _⟩
    · rintro i x rest _ σ g2 n2 hx hlt ⟨k17, hgo, hn⟩ ih
      refine w_keep (i := 17) k17 ?_
      obtain ⟨y, hy⟩ : ∃ y, k[i]? = some y := ⟨_, List.getElem?_eq_getElem (by omega)⟩
      have hd : k.drop i = y :: k.drop (i + 1) := by
        rw [List.drop_eq_getElem_cons (by omega)]; congr 1
        rw [List.getElem?_eq_getElem (by omega)] at hy; exact Option.some.inj hy
      rw [hd] at hgo
      simp only [sameL] at hgo
      repeat' (first
        | ((with_reducible apply g_op); first
          | ((with_reducible apply g_load); first
            | ((with_reducible apply w_fl (v := .agg #[_, _, _, _, _, _, _])); exact rfl; exact (fun _ => rfl); assumption; exact rfl)
            | ((with_reducible apply w_load (v := .agg #[_, _, _, _, _, _, _])); exact rfl; (first | assumption | (simp (disch := omega) only [upd_same, upd_ne]; first | done | assumption | exact rfl) | exact rfl); exact rfl))
          | ((with_reducible apply g_move); first
            | ((with_reducible apply w_pure (v := .int _ _)); exact rfl; exact rfl)
            | ((with_reducible apply w_pure (v := .func _ _ _)); exact rfl; exact rfl))
          | ((with_reducible apply g_bin); first
            | ((with_reducible apply w_pure (v := .bool _)); exact rfl; exact rfl))
          | ((with_reducible apply g_assign); first
            | ((with_reducible apply w_pure (v := .int _ _)); exact rfl; exact rfl))
          | ((with_reducible apply g_store); first
            | ((with_reducible apply w_store (us := [_, _, _, _, _, _, _]) (ws := [_, _, _, _, _, _, _])); exact rfl; exact rfl; (first | assumption | (simp (disch := omega) only [upd_same, upd_ne]; first | done | assumption | exact rfl) | exact rfl); omega; exact rfl; exact rfl; exact rfl))
          | ((with_reducible apply g_ix); first
            | ((with_reducible apply w_fx (sz := 7)); exact rfl; exact rfl; exact rfl; exact rfl; exact rfl; exact (fun _ => rfl); assumption; exact rfl))
          | ((with_reducible apply w_alloc (ls := [_, _, _, _, _, _, _])); exact rfl; exact rfl))
        | with_reducible refine w_seq ?_
        | with_reducible refine w_nil ?_
        | with_reducible refine w_region ?_
        | with_reducible refine w_skip ?_
        | with_reducible refine w_block ?_
        | ((with_reducible apply w_ifd); exact rfl; all_goals (intro hc; first | (exfalso; omega) | skip)))
      refine w_rq (same1_run x y _ _ _) (fun _ => rfl) ?_
      rintro _ rfl
      cases hxy : x.same y with
      | false =>
        rw [hxy, Bool.false_and] at hgo
        subst hgo
        repeat' (first
          | ((with_reducible apply g_op); first
            | ((with_reducible apply g_assign); first
              | ((with_reducible apply w_pure (v := .bool _)); exact rfl; exact rfl))
            | ((with_reducible apply w_pure (v := .bool _)); exact rfl; exact rfl))
          | with_reducible refine w_seq ?_
          | with_reducible refine w_nil ?_
          | with_reducible refine w_region ?_
          | ((with_reducible apply w_yes); exact rfl)
          | ((with_reducible apply w_ret (v := .bool _)); exact rfl))
        exact fr_plain rfl rfl
      | true =>
        rw [hxy, Bool.true_and] at hgo
        repeat' (first
          | ((with_reducible apply g_op); first
            | ((with_reducible apply g_move); first
              | ((with_reducible apply w_pure (v := .int _ _)); exact rfl; exact rfl))
            | ((with_reducible apply g_bin); first
              | ((with_reducible apply w_wrap); exact rfl; exact rfl; first | exact i64_in _ (by omega) | exact u64_in _ (by omega) | exact u8_in _ (by omega)))
            | ((with_reducible apply w_pure (v := .bool _)); exact rfl; exact rfl))
          | with_reducible refine w_nil ?_
          | with_reducible refine w_region ?_
          | with_reducible refine w_skip ?_
          | with_reducible refine w_blk ?_
          | ((with_reducible apply w_no); exact rfl))
        exact ih () _ _ _ (by repeat' (first | with_reducible exact Fr.mix | with_reducible exact Fr.rfl' | with_reducible refine Fr.put ?_ ?_ | with_reducible refine Fr.mix2 ?_ ?_ | with_reducible refine Fr.put0 ?_ | exact rfl)) ⟨by push_cast; rfl, hgo, by omega⟩
    · rintro _ σ g2 n2 ⟨k17, hgo, hn⟩
      refine w_keep (i := 17) k17 ?_
      repeat' (first
        | ((with_reducible apply g_op); first
          | ((with_reducible apply g_bin); first
            | ((with_reducible apply w_pure (v := .bool _)); exact rfl; exact rfl))
          | ((with_reducible apply g_assign); first
            | ((with_reducible apply w_pure (v := .bool _)); exact rfl; exact rfl)))
        | with_reducible refine w_seq ?_
        | with_reducible refine w_nil ?_
        | with_reducible refine w_region ?_
        | ((with_reducible apply w_exit); exact rfl)
        | ((with_reducible apply w_ifd); exact rfl; all_goals (intro hc; first | (exfalso; omega) | skip))
        | ((with_reducible apply w_ret (v := .bool _)); exact rfl))
      refine fr_plain rfl (congrArg Value.bool ?_)
      rw [← hgo, List.drop_eq_nil_of_le (by omega)]
      rfl
  · rw [sameL_len hlen]
    repeat' (first
      | ((with_reducible apply g_op); first
        | ((with_reducible apply g_move); first
          | ((with_reducible apply w_pure (v := .func _ _ _)); exact rfl; exact rfl))
        | ((with_reducible apply g_bin); first
          | ((with_reducible apply w_pure (v := .bool _)); exact rfl; exact rfl))
        | ((with_reducible apply g_assign); first
          | ((with_reducible apply w_pure (v := .bool _)); exact rfl; exact rfl))
        | ((with_reducible apply g_call); first
          | ((with_reducible apply w_call (v := .int _ _)); exact rfl)))
      | with_reducible refine w_seq ?_
      | with_reducible refine w_nil ?_
      | with_reducible refine w_region ?_
      | ((with_reducible apply w_ifn); exact rfl; all_goals (intro hc; first | (exfalso; omega) | skip))
      | ((with_reducible apply w_ret (v := .bool _)); exact rfl))
    exact fr_plain rfl rfl
theorem same_run (x y : Im) (hl : x.l.length ≤ 5000) : Rf Try.prog T 24 [x.v tg, y.v tg] (fun v => v = .bool (sameI x y)) := by
  refine c_froz Try.func24 rfl rfl rfl rfl rfl rfl ?_
  intro g n
  obtain ⟨a, b, c⟩ := x
  obtain ⟨d, e, f⟩ := y
  unfold sameI
  dsimp only at hl ⊢
  by_cases h1 : a = d
  · by_cases h2 : b = e
    · rw [decide_eq_true h1, decide_eq_true h2]
      repeat' (first
        | ((with_reducible apply g_op); first
          | ((with_reducible apply g_load); first
            | ((with_reducible apply w_load (v := .int _ _)); exact rfl; (first | assumption | (simp (disch := omega) only [upd_same, upd_ne]; first | done | assumption | exact rfl) | exact rfl); exact rfl)
            | ((with_reducible apply w_load (v := .func _ _ _)); exact rfl; (first | assumption | (simp (disch := omega) only [upd_same, upd_ne]; first | done | assumption | exact rfl) | exact rfl); exact rfl))
          | ((with_reducible apply g_move); first
            | ((with_reducible apply w_pure (v := .bool _)); exact rfl; exact rfl))
          | ((with_reducible apply g_bin); first
            | ((with_reducible apply w_pure (v := .bool _)); exact rfl; exact rfl))
          | ((with_reducible apply g_fld); first
            | ((with_reducible apply w_fldp (o := 0)); exact rfl; exact rfl; exact rfl; exact (by decide))
            | ((with_reducible apply w_fldp (o := 1)); exact rfl; exact rfl; exact rfl; exact (by decide))
            | ((with_reducible apply w_fldp (o := 2)); exact rfl; exact rfl; exact rfl; exact (by decide)))
          | ((with_reducible apply g_pick); first
            | ((with_reducible apply w_pk1 (v := .bool _)); exact rfl; exact rfl; (first | assumption | exact decide_eq_true (by assumption) | exact decide_eq_false (by assumption) | exact decide_eq_true (by omega) | exact decide_eq_false (by omega) | exact beq_iff_eq.2 (by omega) | exact beq_eq_false_iff_ne.2 (by omega) | exact bne_iff_ne.2 (by omega) | exact bne_eq_false_iff_eq.2 (by omega))))
          | ((with_reducible apply g_assign); first
            | ((with_reducible apply w_pure (v := .bool _)); exact rfl; exact rfl))
          | ((with_reducible apply g_box); first
            | ((with_reducible apply w_box (vs := [_, _, _])); exact rfl; exact rfl)))
        | ((with_reducible apply g_gd); first
          | ((with_reducible apply w_gd_t); exact rfl; all_goals (intro hc; first | (exfalso; omega) | skip)))
        | with_reducible refine w_seq ?_
        | with_reducible refine w_nil ?_
        | with_reducible refine w_region ?_)
      all_goals first | (exfalso; omega) | skip
      refine w_rf (equal_run c f hl) (fun _ => rfl) (sn_cons rv_sn (sn_cons rv_sn (sn_cons (sn_func (by simp)) sn_nil))) ?_
      rintro _ rfl
      repeat' (first
        | ((with_reducible apply g_op); first
          | ((with_reducible apply g_pick); first
            | ((with_reducible apply w_pk1 (v := .bool _)); exact rfl; exact rfl; (first | assumption | exact decide_eq_true (by assumption) | exact decide_eq_false (by assumption) | exact decide_eq_true (by omega) | exact decide_eq_false (by omega) | exact beq_iff_eq.2 (by omega) | exact beq_eq_false_iff_ne.2 (by omega) | exact bne_iff_ne.2 (by omega) | exact bne_eq_false_iff_eq.2 (by omega))))
          | ((with_reducible apply g_assign); first
            | ((with_reducible apply w_pure (v := .bool _)); exact rfl; exact rfl)))
        | with_reducible refine w_nil ?_
        | ((with_reducible apply w_ret (v := .bool _)); exact rfl))
      exact fr_plain rfl rfl
    · rw [decide_eq_true h1, decide_eq_false h2]
      repeat' (first
        | ((with_reducible apply g_op); first
          | ((with_reducible apply g_load); first
            | ((with_reducible apply w_load (v := .int _ _)); exact rfl; (first | assumption | (simp (disch := omega) only [upd_same, upd_ne]; first | done | assumption | exact rfl) | exact rfl); exact rfl))
          | ((with_reducible apply g_move); first
            | ((with_reducible apply w_pure (v := .bool _)); exact rfl; exact rfl))
          | ((with_reducible apply g_bin); first
            | ((with_reducible apply w_pure (v := .bool _)); exact rfl; exact rfl))
          | ((with_reducible apply g_fld); first
            | ((with_reducible apply w_fldp (o := 0)); exact rfl; exact rfl; exact rfl; exact (by decide))
            | ((with_reducible apply w_fldp (o := 1)); exact rfl; exact rfl; exact rfl; exact (by decide)))
          | ((with_reducible apply g_pick); first
            | ((with_reducible apply w_pk1 (v := .bool _)); exact rfl; exact rfl; (first | assumption | exact decide_eq_true (by assumption) | exact decide_eq_false (by assumption) | exact decide_eq_true (by omega) | exact decide_eq_false (by omega) | exact beq_iff_eq.2 (by omega) | exact beq_eq_false_iff_ne.2 (by omega) | exact bne_iff_ne.2 (by omega) | exact bne_eq_false_iff_eq.2 (by omega)))
            | ((with_reducible apply w_pk0 (v := .bool _)); exact rfl; exact rfl; (first | assumption | exact decide_eq_true (by assumption) | exact decide_eq_false (by assumption) | exact decide_eq_true (by omega) | exact decide_eq_false (by omega) | exact beq_iff_eq.2 (by omega) | exact beq_eq_false_iff_ne.2 (by omega) | exact bne_iff_ne.2 (by omega) | exact bne_eq_false_iff_eq.2 (by omega))))
          | ((with_reducible apply g_assign); first
            | ((with_reducible apply w_pure (v := .bool _)); exact rfl; exact rfl))
          | ((with_reducible apply g_box); first
            | ((with_reducible apply w_box (vs := [_, _, _])); exact rfl; exact rfl)))
        | ((with_reducible apply g_gd); first
          | ((with_reducible apply w_gd_t); exact rfl; all_goals (intro hc; first | (exfalso; omega) | skip)))
        | with_reducible refine w_seq ?_
        | with_reducible refine w_nil ?_
        | with_reducible refine w_region ?_
        | ((with_reducible apply w_ret (v := .bool _)); exact rfl))
      all_goals first | (exfalso; omega) | exact fr_plain rfl rfl
  · rw [decide_eq_false h1]
    repeat' (first
      | ((with_reducible apply g_op); first
        | ((with_reducible apply g_load); first
          | ((with_reducible apply w_load (v := .int _ _)); exact rfl; (first | assumption | (simp (disch := omega) only [upd_same, upd_ne]; first | done | assumption | exact rfl) | exact rfl); exact rfl))
        | ((with_reducible apply g_move); first
          | ((with_reducible apply w_pure (v := .bool _)); exact rfl; exact rfl))
        | ((with_reducible apply g_bin); first
          | ((with_reducible apply w_pure (v := .bool _)); exact rfl; exact rfl))
        | ((with_reducible apply g_fld); first
          | ((with_reducible apply w_fldp (o := 0)); exact rfl; exact rfl; exact rfl; exact (by decide)))
        | ((with_reducible apply g_pick); first
          | ((with_reducible apply w_pk0 (v := .bool _)); exact rfl; exact rfl; (first | assumption | exact decide_eq_true (by assumption) | exact decide_eq_false (by assumption) | exact decide_eq_true (by omega) | exact decide_eq_false (by omega) | exact beq_iff_eq.2 (by omega) | exact beq_eq_false_iff_ne.2 (by omega) | exact bne_iff_ne.2 (by omega) | exact bne_eq_false_iff_eq.2 (by omega))))
        | ((with_reducible apply g_assign); first
          | ((with_reducible apply w_pure (v := .bool _)); exact rfl; exact rfl))
        | ((with_reducible apply g_box); first
          | ((with_reducible apply w_box (vs := [_, _, _])); exact rfl; exact rfl))
        | ((with_reducible apply w_pure (v := .bool _)); exact rfl; exact rfl))
      | ((with_reducible apply g_gd); first
        | ((with_reducible apply w_pass); exact rfl)
        | ((with_reducible apply w_gd_t); exact rfl; all_goals (intro hc; first | (exfalso; omega) | skip)))
      | with_reducible refine w_seq ?_
      | with_reducible refine w_nil ?_
      | with_reducible refine w_region ?_
      | ((with_reducible apply w_ret (v := .bool _)); exact rfl))
    all_goals first | (exfalso; omega) | exact fr_plain rfl rfl
theorem rsame_run (x y : Im) (hl : x.l.length ≤ 5000) : Rf Try.prog T 16 [x.v tg, y.v tg] (fun v => v = .bool (sameI x y)) := by
  refine c_froz Try.func16 rfl rfl rfl rfl rfl rfl ?_
  intro g n
  obtain ⟨a, b, l⟩ := x
  obtain ⟨d, e, k⟩ := y
  unfold sameI
  dsimp only at hl ⊢
  by_cases hlen : l.length = k.length
  · obtain ⟨R, hR⟩ : ∃ R, sameL l k = R := ⟨_, rfl⟩
    rw [hR]
    repeat' (first
      | ((with_reducible apply g_op); first
        | ((with_reducible apply g_load); first
          | ((with_reducible apply w_load (v := .func _ _ _)); exact rfl; (first | assumption | (simp (disch := omega) only [upd_same, upd_ne]; first | done | assumption | exact rfl) | exact rfl); exact rfl))
        | ((with_reducible apply g_bin); first
          | ((with_reducible apply w_pure (v := .bool _)); exact rfl; exact rfl))
        | ((with_reducible apply g_fld); first
          | ((with_reducible apply w_fldp (o := 2)); exact rfl; exact rfl; exact rfl; exact (by decide)))
        | ((with_reducible apply g_assign); first
          | ((with_reducible apply w_pure (v := .int _ _)); exact rfl; exact rfl)
          | ((with_reducible apply w_pure (v := .bool _)); exact rfl; exact rfl))
        | ((with_reducible apply g_call); first
          | ((with_reducible apply w_call (v := .int _ _)); exact rfl))
        | ((with_reducible apply g_box); first
          | ((with_reducible apply w_box (vs := [_, _, _])); exact rfl; exact rfl)))
      | with_reducible refine w_seq ?_
      | with_reducible refine w_nil ?_
      | with_reducible refine w_region ?_
      | with_reducible refine w_skip ?_
      | with_reducible refine w_block ?_
      | ((with_reducible apply w_ifn); exact rfl; all_goals (intro hc; first | (exfalso; omega) | skip)))
    refine w_rngK [(4, 5), (13, 30)] l (fun i rest (_ : Unit) σ g' n' => σ 5 = .int .i64 (i : Nat) ∧ sameL rest (k.drop i) = R ∧ g' n = some (.cells 24 [.int .i64 a, .int .i64 b, rv tg l]) ∧ g' (n + 1) = some (.cells 24 [.int .i64 d, .int .i64 e, rv tg k])) ?_ ?_ () ⟨rfl, hR, by simp (disch := omega) only [upd_ne, upd_same], upd_same⟩
    · rintro i x rest _ σ g2 n2 hx hlt ⟨k5, hgo, hg0, hg1⟩ ih
      refine w_keep (i := 5) k5 ?_
      obtain ⟨y, hy⟩ : ∃ y, k[i]? = some y := ⟨_, List.getElem?_eq_getElem (by omega)⟩
      have hd : k.drop i = y :: k.drop (i + 1) := by
        rw [List.drop_eq_getElem_cons (by omega)]; congr 1
        rw [List.getElem?_eq_getElem (by omega)] at hy; exact Option.some.inj hy
      rw [hd] at hgo
      simp only [sameL] at hgo
      repeat' (first
        | ((with_reducible apply g_op); first
          | ((with_reducible apply g_load); first
            | ((with_reducible apply w_fl (v := .agg #[_, _, _, _, _, _, _])); exact rfl; exact (fun _ => rfl); assumption; exact rfl)
            | ((with_reducible apply w_load (v := .func _ _ _)); exact rfl; (first | assumption | (simp (disch := omega) only [upd_same, upd_ne]; first | done | assumption | exact rfl) | exact rfl); exact rfl))
          | ((with_reducible apply g_move); first
            | ((with_reducible apply w_pure (v := .int _ _)); exact rfl; exact rfl))
          | ((with_reducible apply g_bin); first
            | ((with_reducible apply w_pure (v := .bool _)); exact rfl; exact rfl))
          | ((with_reducible apply g_fld); first
            | ((with_reducible apply w_fldp (o := 2)); exact rfl; exact rfl; exact rfl; exact (by decide)))
          | ((with_reducible apply g_call); first
            | ((with_reducible apply w_call (v := .int _ _)); exact rfl))
          | ((with_reducible apply g_ix); first
            | ((with_reducible apply w_fx (sz := 7)); exact rfl; exact rfl; exact rfl; exact rfl; exact rfl; exact (fun _ => rfl); assumption; exact rfl)))
        | with_reducible refine w_seq ?_
        | with_reducible refine w_nil ?_
        | with_reducible refine w_region ?_
        | with_reducible refine w_skip ?_
        | with_reducible refine w_block ?_
        | ((with_reducible apply w_draw); kernel_rfl; kernel_rfl)
        | ((with_reducible apply w_ifd); exact rfl; all_goals (intro hc; first | (exfalso; omega) | skip)))
      refine w_pure (v := .bool (!(x.same y))) rfl (neq43 x y _ _) ?_
      cases hxy : x.same y with
      | false =>
        rw [hxy, Bool.false_and] at hgo
        subst hgo
        repeat' (first
          | ((with_reducible apply g_op); first
            | ((with_reducible apply g_assign); first
              | ((with_reducible apply w_pure (v := .bool _)); exact rfl; exact rfl)))
          | with_reducible refine w_seq ?_
          | with_reducible refine w_nil ?_
          | with_reducible refine w_region ?_
          | ((with_reducible apply w_yes); exact rfl)
          | ((with_reducible apply w_ret (v := .bool _)); exact rfl))
        refine fr_plain rfl ?_
        simp
      | true =>
        rw [hxy, Bool.true_and] at hgo
        repeat' (first
          | ((with_reducible apply g_op); first
            | ((with_reducible apply g_move); first
              | ((with_reducible apply w_pure (v := .int _ _)); exact rfl; exact rfl))
            | ((with_reducible apply g_bin); first
              | ((with_reducible apply w_wrap); exact rfl; exact rfl; first | exact i64_in _ (by omega) | exact u64_in _ (by omega) | exact u8_in _ (by omega)))
            | ((with_reducible apply g_assign); first
              | ((with_reducible apply w_pure (v := .int _ _)); exact rfl; exact rfl)))
          | with_reducible refine w_nil ?_
          | with_reducible refine w_region ?_
          | with_reducible refine w_skip ?_
          | with_reducible refine w_blk ?_
          | ((with_reducible apply w_no); exact rfl))
        exact ih () _ _ _ (by repeat' (first | with_reducible exact Fr.mix | with_reducible exact Fr.rfl' | with_reducible refine Fr.put ?_ ?_ | with_reducible refine Fr.mix2 ?_ ?_ | with_reducible refine Fr.put0 ?_ | exact rfl)) ⟨by push_cast; rfl, hgo, hg0, hg1⟩
    · rintro _ σ g2 n2 ⟨k5, hgo, hg0, hg1⟩
      refine w_keep (i := 5) k5 ?_
      rw [List.drop_eq_nil_of_le (by omega)] at hgo
      have hgo : true = R := hgo
      subst hgo
      by_cases h1 : a = d
      · by_cases h2 : b = e
        · rw [decide_eq_true h1, decide_eq_true h2]
          repeat' (first
            | ((with_reducible apply g_op); first
              | ((with_reducible apply g_load); first
                | ((with_reducible apply w_load (v := .int _ _)); exact rfl; (first | assumption | (simp (disch := omega) only [upd_same, upd_ne]; first | done | assumption | exact rfl) | exact rfl); exact rfl)
                | ((with_reducible apply w_load (v := .func _ _ _)); exact rfl; (first | assumption | (simp (disch := omega) only [upd_same, upd_ne]; first | done | assumption | exact rfl) | exact rfl); exact rfl))
              | ((with_reducible apply g_move); first
                | ((with_reducible apply w_pure (v := .int _ _)); exact rfl; exact rfl)
                | ((with_reducible apply w_pure (v := .bool _)); exact rfl; exact rfl))
              | ((with_reducible apply g_bin); first
                | ((with_reducible apply w_pure (v := .bool _)); exact rfl; exact rfl))
              | ((with_reducible apply g_fld); first
                | ((with_reducible apply w_fldp (o := 0)); exact rfl; exact rfl; exact rfl; exact (by decide))
                | ((with_reducible apply w_fldp (o := 1)); exact rfl; exact rfl; exact rfl; exact (by decide))
                | ((with_reducible apply w_fldp (o := 2)); exact rfl; exact rfl; exact rfl; exact (by decide)))
              | ((with_reducible apply g_pick); first
                | ((with_reducible apply w_pk1 (v := .bool _)); exact rfl; exact rfl; (first | assumption | exact decide_eq_true (by assumption) | exact decide_eq_false (by assumption) | exact decide_eq_true (by omega) | exact decide_eq_false (by omega) | exact beq_iff_eq.2 (by omega) | exact beq_eq_false_iff_ne.2 (by omega) | exact bne_iff_ne.2 (by omega) | exact bne_eq_false_iff_eq.2 (by omega))))
              | ((with_reducible apply g_assign); first
                | ((with_reducible apply w_pure (v := .bool _)); exact rfl; exact rfl))
              | ((with_reducible apply g_call); first
                | ((with_reducible apply w_call (v := .int _ _)); exact rfl)))
            | ((with_reducible apply g_gd); first
              | ((with_reducible apply w_gd_t); exact rfl; all_goals (intro hc; first | (exfalso; omega) | skip)))
            | with_reducible refine w_seq ?_
            | with_reducible refine w_nil ?_
            | with_reducible refine w_region ?_
            | ((with_reducible apply w_exit); exact rfl)
            | ((with_reducible apply w_ifd); exact rfl; all_goals (intro hc; first | (exfalso; omega) | skip))
            | ((with_reducible apply w_ret (v := .bool _)); exact rfl))
          all_goals first | (exfalso; omega) | exact fr_plain rfl (congrArg Value.bool (beq_iff_eq.2 h2)) | exact fr_plain rfl (congrArg Value.bool (decide_eq_true h2)) | exact fr_plain rfl rfl
        · rw [decide_eq_true h1, decide_eq_false h2]
          repeat' (first
            | ((with_reducible apply g_op); first
              | ((with_reducible apply g_load); first
                | ((with_reducible apply w_load (v := .int _ _)); exact rfl; (first | assumption | (simp (disch := omega) only [upd_same, upd_ne]; first | done | assumption | exact rfl) | exact rfl); exact rfl)
                | ((with_reducible apply w_load (v := .func _ _ _)); exact rfl; (first | assumption | (simp (disch := omega) only [upd_same, upd_ne]; first | done | assumption | exact rfl) | exact rfl); exact rfl))
              | ((with_reducible apply g_move); first
                | ((with_reducible apply w_pure (v := .int _ _)); exact rfl; exact rfl)
                | ((with_reducible apply w_pure (v := .bool _)); exact rfl; exact rfl))
              | ((with_reducible apply g_bin); first
                | ((with_reducible apply w_pure (v := .bool _)); exact rfl; exact rfl))
              | ((with_reducible apply g_fld); first
                | ((with_reducible apply w_fldp (o := 0)); exact rfl; exact rfl; exact rfl; exact (by decide))
                | ((with_reducible apply w_fldp (o := 1)); exact rfl; exact rfl; exact rfl; exact (by decide))
                | ((with_reducible apply w_fldp (o := 2)); exact rfl; exact rfl; exact rfl; exact (by decide)))
              | ((with_reducible apply g_pick); first
                | ((with_reducible apply w_pk1 (v := .bool _)); exact rfl; exact rfl; (first | assumption | exact decide_eq_true (by assumption) | exact decide_eq_false (by assumption) | exact decide_eq_true (by omega) | exact decide_eq_false (by omega) | exact beq_iff_eq.2 (by omega) | exact beq_eq_false_iff_ne.2 (by omega) | exact bne_iff_ne.2 (by omega) | exact bne_eq_false_iff_eq.2 (by omega))))
              | ((with_reducible apply g_assign); first
                | ((with_reducible apply w_pure (v := .bool _)); exact rfl; exact rfl))
              | ((with_reducible apply g_call); first
                | ((with_reducible apply w_call (v := .int _ _)); exact rfl)))
            | ((with_reducible apply g_gd); first
              | ((with_reducible apply w_gd_t); exact rfl; all_goals (intro hc; first | (exfalso; omega) | skip)))
            | with_reducible refine w_seq ?_
            | with_reducible refine w_nil ?_
            | with_reducible refine w_region ?_
            | ((with_reducible apply w_exit); exact rfl)
            | ((with_reducible apply w_ifd); exact rfl; all_goals (intro hc; first | (exfalso; omega) | skip))
            | ((with_reducible apply w_ret (v := .bool _)); exact rfl))
          all_goals first | (exfalso; omega) | exact fr_plain rfl (congrArg Value.bool (beq_eq_false_iff_ne.2 h2)) | exact fr_plain rfl rfl
      · rw [decide_eq_false h1]
        repeat' (first
          | ((with_reducible apply g_op); first
            | ((with_reducible apply g_load); first
              | ((with_reducible apply w_load (v := .int _ _)); exact rfl; (first | assumption | (simp (disch := omega) only [upd_same, upd_ne]; first | done | assumption | exact rfl) | exact rfl); exact rfl)
              | ((with_reducible apply w_load (v := .func _ _ _)); exact rfl; (first | assumption | (simp (disch := omega) only [upd_same, upd_ne]; first | done | assumption | exact rfl) | exact rfl); exact rfl))
            | ((with_reducible apply g_move); first
              | ((with_reducible apply w_pure (v := .int _ _)); exact rfl; exact rfl)
              | ((with_reducible apply w_pure (v := .bool _)); exact rfl; exact rfl))
            | ((with_reducible apply g_bin); first
              | ((with_reducible apply w_pure (v := .bool _)); exact rfl; exact rfl))
            | ((with_reducible apply g_fld); first
              | ((with_reducible apply w_fldp (o := 0)); exact rfl; exact rfl; exact rfl; exact (by decide))
              | ((with_reducible apply w_fldp (o := 2)); exact rfl; exact rfl; exact rfl; exact (by decide)))
            | ((with_reducible apply g_pick); first
              | ((with_reducible apply w_pk0 (v := .bool _)); exact rfl; exact rfl; (first | assumption | exact decide_eq_true (by assumption) | exact decide_eq_false (by assumption) | exact decide_eq_true (by omega) | exact decide_eq_false (by omega) | exact beq_iff_eq.2 (by omega) | exact beq_eq_false_iff_ne.2 (by omega) | exact bne_iff_ne.2 (by omega) | exact bne_eq_false_iff_eq.2 (by omega))))
            | ((with_reducible apply g_assign); first
              | ((with_reducible apply w_pure (v := .bool _)); exact rfl; exact rfl))
            | ((with_reducible apply g_call); first
              | ((with_reducible apply w_call (v := .int _ _)); exact rfl)))
          | ((with_reducible apply g_gd); first
            | ((with_reducible apply w_gd_t); exact rfl; all_goals (intro hc; first | (exfalso; omega) | skip)))
          | with_reducible refine w_seq ?_
          | with_reducible refine w_nil ?_
          | with_reducible refine w_region ?_
          | ((with_reducible apply w_exit); exact rfl)
          | ((with_reducible apply w_ifd); exact rfl; all_goals (intro hc; first | (exfalso; omega) | skip))
          | ((with_reducible apply w_ret (v := .bool _)); exact rfl))
        all_goals first | (exfalso; omega) | exact fr_plain rfl rfl
  · rw [sameL_len hlen]
    repeat' (first
      | ((with_reducible apply g_op); first
        | ((with_reducible apply g_load); first
          | ((with_reducible apply w_load (v := .func _ _ _)); exact rfl; (first | assumption | (simp (disch := omega) only [upd_same, upd_ne]; first | done | assumption | exact rfl) | exact rfl); exact rfl))
        | ((with_reducible apply g_bin); first
          | ((with_reducible apply w_pure (v := .bool _)); exact rfl; exact rfl))
        | ((with_reducible apply g_fld); first
          | ((with_reducible apply w_fldp (o := 2)); exact rfl; exact rfl; exact rfl; exact (by decide)))
        | ((with_reducible apply g_assign); first
          | ((with_reducible apply w_pure (v := .bool _)); exact rfl; exact rfl))
        | ((with_reducible apply g_call); first
          | ((with_reducible apply w_call (v := .int _ _)); exact rfl))
        | ((with_reducible apply g_box); first
          | ((with_reducible apply w_box (vs := [_, _, _])); exact rfl; exact rfl)))
      | with_reducible refine w_seq ?_
      | with_reducible refine w_nil ?_
      | with_reducible refine w_region ?_
      | ((with_reducible apply w_ifn); exact rfl; all_goals (intro hc; first | (exfalso; omega) | skip))
      | ((with_reducible apply w_ret (v := .bool _)); exact rfl))
    refine fr_plain rfl ?_
    simp
end Go.Proofs.Ytohfbnpmhlpkhaa.L

