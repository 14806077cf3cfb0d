/- Two regions compared; flyleafref15.Same. -/
import Derived.Test.Ytnlgindlmlbfiaac15F
namespace Go.L1
set_option linter.unusedSimpArgs false
set_option linter.unusedVariables false
theorem pureRun_bind {α β : Type} (P : Program) (s : Sem α) (f : α → Sem β) : pureRun P (s.bind f) = (pureRun P s).bind fun a => pureRun P (f a) := by
  induction s with
  | pure a => rfl
  | program k ih => simp only [Sem.bind, pureRun]; exact ih _
  | mark x k ih => simp only [Sem.bind, pureRun]; exact ih
  | _ => simp [Sem.bind, pureRun]
theorem pr_bind {α β : Type} (P : Program) (s : Sem α) (f : α → Sem β) : pureRun P (s >>= f) = (pureRun P s).bind fun a => pureRun P (f a) := pureRun_bind P s f
theorem pr_pure {α : Type} (P : Program) (a : α) : pureRun P (pure a : Sem α) = some a := rfl
theorem pr_prog (P : Program) : pureRun P Go.program = some P := rfl
theorem pr_under {P : Program} {t : TypeId} {d : TypeDesc} (h : P.underlying t = some d) : pureRun P (Go.underlying t) = some d := by
  unfold Go.underlying
  rw [pr_bind, pr_prog]
  simp only [Option.bind_some, h, pr_pure]
theorem pr_int {P : Program} (d : Nat) {t : TypeId} {k : IntKind} (a b : Int) (h : P.underlying t = some (.int k)) : pureRun P (Op.equalIn (d + 1) t (.int k a) (.int k b)) = some (a == b) := by
  unfold Op.equalIn
  rw [pr_bind, pr_under h]
  simp only [Option.bind_some, if_true, pr_pure]
end Go.L1
namespace Go.Proofs.Ytnlgindlmlbfiaa.L
open Go.L1 Go.IntWalk
set_option linter.unusedSimpArgs false
set_option linter.unusedVariables false
def Rg.same (a b : Rg) : Bool := a.f == b.f && a.t == b.t && a.p == b.p && a.k == b.k && a.l == b.l && a.g == b.g
theorem Rg.same_iff {a b : Rg} : a.same b = true ↔ a = b := by
  obtain ⟨a0, a1, a2, a3, a4, a5⟩ := a
  obtain ⟨b0, b1, b2, b3, b4, b5⟩ := b
  simp [Rg.same, and_assoc]
theorem neq23 (a b : Rg) : bin Try.prog .neq 23 (.tmp 20) (.tmp 24) a.v b.v = some (.bool (!(a.f == b.f && a.t == b.t && a.p == b.p && a.k == b.k && a.l == b.l && a.g == b.g))) := by
  simp only [bin, Rg.v]
  rw [if_pos (by rfl)]
  have hg : pureRun Try.prog (eqGuard .neq 23 (.tmp 20) (.tmp 24) a.v b.v) = some () := by
    have : Try.prog.eqGuardType Try.prog.depth 23 = false := by kernel_rfl
    simp [eqGuard, Rg.v, pr_bind, pr_prog, pr_pure, this]
  have he : pureRun Try.prog (Op.equalIn Op.maxDepth 23 a.v b.v) = some (a.f == b.f && a.t == b.t && a.p == b.p && a.k == b.k && a.l == b.l && a.g == b.g) := by
    show pureRun Try.prog (Op.equalIn (9998 + 1 + 1) 23 a.v b.v) = _
    unfold Op.equalIn
    rw [pr_bind, pr_under Try.underlying23]
    have hs : Try.prog.stoodInHeld 23 = false := by kernel_rfl
    have q0 : ∀ v0 v1 v2 v3 v4 v5 : Value, pureRun Try.prog (Go.part 3 #[v0, v1, v2, v3, v4, v5] 0) = some v0 := fun _ _ _ _ _ _ => rfl
    have q1 : ∀ v0 v1 v2 v3 v4 v5 : Value, pureRun Try.prog (Go.part 3 #[v0, v1, v2, v3, v4, v5] 1) = some v1 := fun _ _ _ _ _ _ => rfl
    have q2 : ∀ v0 v1 v2 v3 v4 v5 : Value, pureRun Try.prog (Go.part 3 #[v0, v1, v2, v3, v4, v5] 2) = some v2 := fun _ _ _ _ _ _ => rfl
    have q3 : ∀ v0 v1 v2 v3 v4 v5 : Value, pureRun Try.prog (Go.part 3 #[v0, v1, v2, v3, v4, v5] 3) = some v3 := fun _ _ _ _ _ _ => rfl
    have q4 : ∀ v0 v1 v2 v3 v4 v5 : Value, pureRun Try.prog (Go.part 3 #[v0, v1, v2, v3, v4, v5] 4) = some v4 := fun _ _ _ _ _ _ => rfl
    have q5 : ∀ v0 v1 v2 v3 v4 v5 : Value, pureRun Try.prog (Go.part 3 #[v0, v1, v2, v3, v4, v5] 5) = some v5 := fun _ _ _ _ _ _ => rfl
    have qi : ∀ x y : Int, pureRun Try.prog (Op.equalIn 9999 3 (.int .i64 x) (.int .i64 y)) = some (x == y) := fun x y => pr_int 9998 x y Try.underlying3
    simp only [Rg.v]
    by_cases h0 : a.f = b.f
    · by_cases h1 : a.t = b.t
      · by_cases h2 : a.p = b.p
        · by_cases h3 : a.k = b.k
          · by_cases h4 : a.l = b.l
            · by_cases h5 : a.g = b.g
              · simp [pr_bind, pr_prog, pr_pure, hs, q0, q1, q2, q3, q4, q5, qi, h0, h1, h2, h3, h4, h5]
              · simp [pr_bind, pr_prog, pr_pure, hs, q0, q1, q2, q3, q4, q5, qi, h0, h1, h2, h3, h4, h5]
            · simp [pr_bind, pr_prog, pr_pure, hs, q0, q1, q2, q3, q4, q5, qi, h0, h1, h2, h3, h4]
          · simp [pr_bind, pr_prog, pr_pure, hs, q0, q1, q2, q3, q4, q5, qi, h0, h1, h2, h3]
        · simp [pr_bind, pr_prog, pr_pure, hs, q0, q1, q2, q3, q4, q5, qi, h0, h1, h2]
      · simp [pr_bind, pr_prog, pr_pure, hs, q0, q1, q2, q3, q4, q5, qi, h0, h1]
    · simp [pr_bind, pr_prog, pr_pure, hs, q0, q1, q2, q3, q4, q5, qi, h0]
  have hb : pureRun Try.prog (binOp .neq 23 a.v b.v) = some (.bool (!(a.f == b.f && a.t == b.t && a.p == b.p && a.k == b.k && a.l == b.l && a.g == b.g))) := by
    have : binOp .neq 23 a.v b.v = (do let r ← Op.equal 23 a.v b.v; pure (.bool !r)) := by simp [binOp, Rg.v]
    rw [this, pr_bind, show Op.equal 23 a.v b.v = Op.equalIn Op.maxDepth 23 a.v b.v from rfl, he]
    rfl
  have := pr_bind Try.prog (eqGuard .neq 23 (.tmp 20) (.tmp 24) a.v b.v) (fun _ => binOp .neq 23 a.v b.v)
  rw [hg, Option.bind_some, hb] at this
  simp only [Rg.v] at this
  rw [this]
theorem same_run (l k : List Rg) (hl : l.length ≤ 5000) (hk : k.length ≤ 5000) : Rf Try.prog T 12 [rv tg l, rv tg k] (fun v => ∃ b : Bool, v = .bool b ∧ (b = true ↔ l = k)) := by
  refine c_froz Try.func12 rfl rfl rfl rfl rfl rfl ?_
  intro g n
  by_cases hlen : l.length = k.length
  · repeat' (first
      | ((with_reducible apply g_op); first
        | ((with_reducible apply g_move); first
          | ((with_reducible apply w_pure (v := .func _ _ _)); exact rfl; exact rfl))
        | ((with_reducible apply g_bin); first
          | ((with_reducible apply w_pure (v := .bool _)); exact rfl; exact rfl))
        | ((with_reducible apply g_assign); first
          | ((with_reducible apply w_pure (v := .int _ _)); exact rfl; exact rfl)
          | ((with_reducible apply w_pure (v := .bool _)); exact rfl; exact rfl))
        | ((with_reducible apply g_call); first
          | ((with_reducible apply w_call (v := .int _ _)); exact rfl)))
      | with_reducible refine w_seq ?_
      | with_reducible refine w_nil ?_
      | with_reducible refine w_region ?_
      | with_reducible refine w_skip ?_
      | with_reducible refine w_block ?_
      | ((with_reducible apply w_ifn); exact rfl; all_goals (intro hc; first | (exfalso; omega) | skip)))
    refine w_cnt l.length (fun i (_ : Unit) σ g' n' => σ 0 = rv tg l ∧ σ 1 = rv tg k ∧ σ 5 = .int .i64 (i : Nat) ∧ l.take i = k.take i) ?_ ?_ () ⟨rfl, rfl, rfl, rfl⟩
    · rintro i _ σ g2 n2 hlt ⟨k0, k1, k5, hpre⟩ ih
      refine w_keep (i := 0) k0 (w_keep (i := 1) k1 (w_keep (i := 5) k5 ?_))
      obtain ⟨x, hx⟩ : ∃ x, l[i]? = some x := ⟨_, List.getElem?_eq_getElem hlt⟩
      obtain ⟨y, hy⟩ : ∃ y, k[i]? = some y := ⟨_, List.getElem?_eq_getElem (by omega)⟩
      repeat' (first
        | ((with_reducible apply g_op); first
          | ((with_reducible apply g_load); first
            | ((with_reducible apply w_fl (v := .agg #[_, _, _, _, _, _])); exact rfl; exact (fun _ => rfl); assumption; exact rfl))
          | ((with_reducible apply g_move); first
            | ((with_reducible apply w_pure (v := .int _ _)); exact rfl; exact rfl)
            | ((with_reducible apply w_pure (v := .func _ _ _)); exact rfl; exact rfl))
          | ((with_reducible apply g_bin); first
            | ((with_reducible apply w_pure (v := .bool _)); exact rfl; exact rfl))
          | ((with_reducible apply g_call); first
            | ((with_reducible apply w_call (v := .int _ _)); exact rfl))
          | ((with_reducible apply g_ix); first
            | ((with_reducible apply w_fx (sz := 6)); exact rfl; exact rfl; exact rfl; exact rfl; exact rfl; exact (fun _ => rfl); assumption; exact rfl)))
        | with_reducible refine w_seq ?_
        | with_reducible refine w_nil ?_
        | with_reducible refine w_region ?_
        | with_reducible refine w_skip ?_
        | with_reducible refine w_block ?_
        | ((with_reducible apply w_draw); kernel_rfl; kernel_rfl)
        | ((with_reducible apply w_ifd); exact rfl; all_goals (intro hc; first | (exfalso; omega) | skip)))
      refine w_pure (v := .bool (!(x.same y))) rfl (neq23 x y) ?_
      cases hxy : x.same y with
      | false =>
        repeat' (first
          | ((with_reducible apply g_op); first
            | ((with_reducible apply g_assign); first
              | ((with_reducible apply w_pure (v := .bool _)); exact rfl; exact rfl)))
          | with_reducible refine w_seq ?_
          | with_reducible refine w_nil ?_
          | with_reducible refine w_region ?_
          | ((with_reducible apply w_yes); exact rfl)
          | ((with_reducible apply w_ret (v := .bool _)); exact rfl))
        refine fr_plain rfl ⟨false, rfl, ?_⟩
        simp
        intro e
        subst e
        rw [hx] at hy
        cases hy
        rw [Rg.same_iff.2 rfl] at hxy; cases hxy
      | true =>
        repeat' (first
          | ((with_reducible apply g_op); first
            | ((with_reducible apply g_move); first
              | ((with_reducible apply w_pure (v := .int _ _)); exact rfl; exact rfl))
            | ((with_reducible apply g_bin); first
              | ((with_reducible apply w_wrap); exact rfl; exact rfl; first | exact i64_in _ (by omega) | exact u64_in _ (by omega) | exact u8_in _ (by omega)))
            | ((with_reducible apply g_assign); first
              | ((with_reducible apply w_pure (v := .int _ _)); exact rfl; exact rfl)))
          | with_reducible refine w_nil ?_
          | with_reducible refine w_region ?_
          | with_reducible refine w_skip ?_
          | with_reducible refine w_blk ?_
          | ((with_reducible apply w_no); exact rfl))
        refine ih () _ _ _ ⟨rfl, rfl, rfl, ?_⟩
        rw [List.take_add_one, List.take_add_one, hpre, hx, hy, Rg.same_iff.1 hxy]
    · rintro _ σ g2 n2 ⟨k0, k1, k5, hpre⟩
      refine w_keep (i := 0) k0 (w_keep (i := 1) k1 (w_keep (i := 5) k5 ?_))
      repeat' (first
        | ((with_reducible apply g_op); first
          | ((with_reducible apply g_move); first
            | ((with_reducible apply w_pure (v := .int _ _)); exact rfl; exact rfl)
            | ((with_reducible apply w_pure (v := .func _ _ _)); exact rfl; exact rfl))
          | ((with_reducible apply g_bin); first
            | ((with_reducible apply w_pure (v := .bool _)); exact rfl; exact rfl))
          | ((with_reducible apply g_assign); first
            | ((with_reducible apply w_pure (v := .bool _)); exact rfl; exact rfl))
          | ((with_reducible apply g_call); first
            | ((with_reducible apply w_call (v := .int _ _)); exact rfl)))
        | with_reducible refine w_seq ?_
        | with_reducible refine w_nil ?_
        | with_reducible refine w_region ?_
        | ((with_reducible apply w_exit); exact rfl)
        | ((with_reducible apply w_ifd); exact rfl; all_goals (intro hc; first | (exfalso; omega) | skip))
        | ((with_reducible apply w_ret (v := .bool _)); exact rfl))
      refine fr_plain rfl ⟨true, rfl, ?_⟩
      rw [List.take_length, List.take_of_length_le (by omega)] at hpre
      simpa using hpre
  · repeat' (first
      | ((with_reducible apply g_op); first
        | ((with_reducible apply g_move); first
          | ((with_reducible apply w_pure (v := .func _ _ _)); exact rfl; exact rfl))
        | ((with_reducible apply g_bin); first
          | ((with_reducible apply w_pure (v := .bool _)); exact rfl; exact rfl))
        | ((with_reducible apply g_assign); first
          | ((with_reducible apply w_pure (v := .bool _)); exact rfl; exact rfl))
        | ((with_reducible apply g_call); first
          | ((with_reducible apply w_call (v := .int _ _)); exact rfl)))
      | with_reducible refine w_seq ?_
      | with_reducible refine w_nil ?_
      | with_reducible refine w_region ?_
      | ((with_reducible apply w_ifn); exact rfl; all_goals (intro hc; first | (exfalso; omega) | skip))
      | ((with_reducible apply w_ret (v := .bool _)); exact rfl))
    exact fr_plain rfl ⟨false, rfl, by simp; intro e; exact hlen (by rw [e])⟩
end Go.Proofs.Ytnlgindlmlbfiaa.L

