/- What an image of plain numbers is; elf.Span. -/
import Derived.Test.Ytohfbnpmhlpkhaac08V
namespace Go.Proofs.Ytohfbnpmhlpkhaa.L
open Go.L1 Go.IntWalk Oct
set_option linter.unusedVariables false
set_option linter.unusedSimpArgs false
set_option maxHeartbeats 4000000
set_option maxRecDepth 20000
/-- Segments that follow each other, from a page and a place on, up to a place. -/
def Ch : List Sg → Int → Int → Int → Prop
  | [], _, off, z => z = off
  | s :: r, pg, off, z => ∃ i p, (0 ≤ i ∧ i < 64 ∧ 1 ≤ p ∧ p ≤ 4) ∧ (s.ty = 1 ∧ 0 ≤ s.fl ∧ s.fl < 8 ∧ s.off = off + i ∧ s.ad = pg * 64 + i ∧ 1 ≤ s.me ∧ i + s.me ≤ p * 64 ∧ 0 ≤ s.sz ∧ s.sz ≤ s.me ∧ s.al = 64) ∧ Ch r (pg + p) (off + p * 64) z
theorem memQ_room (q : Q4) : q.2.1 % 64 + memQ q ≤ (1 + q.1 % 4) * 64 := by unfold memQ; split <;> omega
theorem img_ch : ∀ (L : List Q4) (pg off : Int), Ch (imgGo L pg off).1 pg off (imgGo L pg off).2
  | [], _, _ => rfl
  | q :: L, pg, off => by
    have h1 := memQ_in q
    have h2 := szQ_in q
    have h3 := memQ_room q
    exact ⟨q.2.1 % 64, 1 + q.1 % 4, by omega, ⟨rfl, by unfold segQ; dsimp only; omega, by unfold segQ; dsimp only; omega, rfl, rfl, h1.1, h3, h2.1, h2.2, rfl⟩, img_ch L _ _⟩
theorem img_len : ∀ (L : List Q4) (pg off : Int), (imgGo L pg off).1.length = L.length
  | [], _, _ => rfl
  | q :: L, pg, off => by rw [imgGo, List.length_cons, img_len L, List.length_cons]
theorem orS_in {f : Int} (h : 0 ≤ f ∧ f < 8) : 0 ≤ orS f ∧ orS f < 8 ∧ orS f % 2 = 1 := by unfold orS; split <;> omega
theorem imgS_ch (k e : Int) (l : List Q4) : Ch (imgS k e l).1.l 0 1024 (imgS k e l).2 ∧ (imgS k e l).1.l.length ≤ 4 := by
  have h1 := img_ch (l.take 4) 0 1024
  have h2 := img_len (l.take 4) 0 1024
  rw [List.length_take] at h2
  unfold imgS
  generalize imgGo (l.take 4) 0 1024 = S at h1 h2
  obtain ⟨L, z⟩ := S
  cases L with
  | nil => exact ⟨h1, by simp⟩
  | cons s r =>
    dsimp only at h1 h2 ⊢
    split
    · obtain ⟨i, p, h3, ⟨q1, q2, q3, q4, q5, q6, q7, q8, q9, q10⟩, h5⟩ := h1
      have := orS_in ⟨q2, q3⟩
      exact ⟨⟨i, p, h3, ⟨q1, this.1, this.2.1, q4, q5, q6, q7, q8, q9, q10⟩, h5⟩, by dsimp only; rw [List.length_cons] at *; omega⟩
    · exact ⟨h1, by dsimp only; omega⟩
def raOf (o : Option Nat) : Option Addr := match o with | none => none | some i => some ⟨i, 0, none⟩
theorem own_ov {α : Type} {e : TypeId} {enc : α → List Value} {g : Nat → Option Ob} {lo n : Nat} {o : Option Nat} {l : List α} (h : Own g lo n e enc o l) : ov o l.length = .slice (raOf o) l.length l.length := by
  cases o with
  | none => have : l = [] := h; subst this; rfl
  | some i => rfl
theorem own_row {α : Type} {e : TypeId} {enc : α → List Value} {g : Nat → Option Ob} {lo n : Nat} {o : Option Nat} {l : List α} (h : Own g lo n e enc o l) : Row g (raOf o) e (l.flatMap enc) := by
  cases o with
  | none => have : l = [] := h; subst this; exact .inl rfl
  | some i => exact .inr ⟨i, 0, _, rfl, h.2.2.2, by rw [Nat.zero_add]; exact Nat.le_refl _, by rw [List.drop_zero, List.take_length]⟩
def spanGo : List Sg → Int → Int
  | [], n => n
  | s :: r, n => spanGo r (if s.ty = 1 then lastS s * 64 else n)
theorem span_run (l : List Sg) (k e : Int) (hl : l.length ≤ 5000) (h : ∀ s ∈ l, s.ok) : Rf Try.prog T 22 [Im.v tg ⟨k, e, l⟩] (fun v => v = .int .i64 (spanGo l 0)) := by
  refine c_froz Try.func22 rfl rfl rfl rfl rfl rfl ?_
  intro g n
  obtain ⟨R, hR⟩ : ∃ R, spanGo l 0 = R := ⟨_, rfl⟩
  rw [hR]
  repeat' (first
    | ((with_reducible apply g_op); first
      | ((with_reducible apply g_load); first
        | ((with_reducible apply w_load (v := .func _ _ _)); exact rfl; (first | assumption | (simp (disch := omega) only [upd_same, upd_ne]; first | done | assumption | exact rfl) | exact rfl); exact rfl))
      | ((with_reducible apply g_move); first
        | ((with_reducible apply w_pure (v := .int _ _)); exact rfl; exact rfl))
      | ((with_reducible apply g_fld); first
        | ((with_reducible apply w_fldp (o := 2)); exact rfl; exact rfl; exact rfl; exact (by decide)))
      | ((with_reducible apply g_assign); first
        | ((with_reducible apply w_pure (v := .int _ _)); exact rfl; exact rfl))
      | ((with_reducible apply g_call); first
        | ((with_reducible apply w_call (v := .int _ _)); exact rfl))
      | ((with_reducible apply g_box); first
        | ((with_reducible apply w_box (vs := [_, _, _])); exact rfl; exact rfl)))
    | with_reducible refine w_seq ?_
    | with_reducible refine w_nil ?_
    | with_reducible refine w_region ?_
    | with_reducible refine w_block ?_)
  refine w_rngK [(3, 3), (5, 7), (11, 25)] l (fun i rest (b : Int) σ g' n' => σ 11 = .int .i64 (i : Nat) ∧ σ 3 = .int .i64 b ∧ n ≤ n' ∧ spanGo rest b = R) ?_ ?_ 0 ⟨rfl, rfl, by omega, hR⟩
  · rintro i s rest b σ g2 n2 hx hlt ⟨k11, k3, hn, hgo⟩ ih
    refine w_keep (i := 11) k11 (w_keep (i := 3) k3 ?_)
    have hok := h s (List.mem_of_getElem? hx)
    have hl1 : 0 ≤ lastS s ∧ lastS s ≤ 2000000000000 := by have := hok.2.2.2.1; have := hok.2.2.2.2.2.1; unfold lastS; omega
    simp only [spanGo] at hgo
    by_cases ht : s.ty = 1
    · rw [if_pos ht] at hgo
      repeat' (first
        | ((with_reducible apply g_op); first
          | ((with_reducible apply g_load); first
            | ((with_reducible apply w_fl (v := .agg #[_, _, _, _, _, _, _])); exact rfl; exact (fun _ => rfl); assumption; exact rfl)
            | ((with_reducible apply w_load (v := .int _ _)); exact rfl; (first | assumption | (simp (disch := omega) only [upd_same, upd_ne]; first | done | assumption | exact rfl) | exact rfl); exact rfl)
            | ((with_reducible apply w_load (v := .agg #[_, _, _, _, _, _, _])); exact rfl; (first | assumption | (simp (disch := omega) only [upd_same, upd_ne]; first | done | assumption | exact rfl) | exact rfl); exact rfl))
          | ((with_reducible apply g_bin); first
            | ((with_reducible apply w_pure (v := .bool _)); exact rfl; exact rfl))
          | ((with_reducible apply g_fld); first
            | ((with_reducible apply w_fldp (o := 0)); exact rfl; exact rfl; exact rfl; exact (by decide)))
          | ((with_reducible apply g_store); first
            | ((with_reducible apply w_store (us := [_, _, _, _, _, _, _]) (ws := [_, _, _, _, _, _, _])); exact rfl; exact rfl; (first | assumption | (simp (disch := omega) only [upd_same, upd_ne]; first | done | assumption | exact rfl) | exact rfl); omega; exact rfl; exact rfl; exact rfl))
          | ((with_reducible apply g_ix); first
            | ((with_reducible apply w_fx (sz := 7)); exact rfl; exact rfl; exact rfl; exact rfl; exact rfl; exact (fun _ => rfl); assumption; exact rfl))
          | ((with_reducible apply w_alloc (ls := [_, _, _, _, _, _, _])); exact rfl; exact rfl))
        | with_reducible refine w_seq ?_
        | with_reducible refine w_nil ?_
        | with_reducible refine w_region ?_
        | with_reducible refine w_skip ?_
        | with_reducible refine w_block ?_
        | ((with_reducible apply w_ifd); exact rfl; all_goals (intro hc; first | (exfalso; omega) | skip)))
      refine w_rq (pages_run s hok _ _ _) (fun _ => rfl) ?_
      rintro _ rfl
      repeat' (first
        | ((with_reducible apply g_op); first
          | ((with_reducible apply g_move); first
            | ((with_reducible apply w_pure (v := .int _ _)); exact rfl; exact rfl)
            | ((with_reducible apply w_pure (v := .tuple _)); exact rfl; exact rfl))
          | ((with_reducible apply g_bin); first
            | ((with_reducible apply w_wrap); exact rfl; exact rfl; first | exact i64_in _ (by omega) | exact u64_in _ (by omega) | exact u8_in _ (by omega)))
          | ((with_reducible apply g_assign); first
            | ((with_reducible apply w_pure (v := .int _ _)); exact rfl; exact rfl))
          | ((with_reducible apply w_pure (v := .int _ _)); exact rfl; exact rfl))
        | with_reducible refine w_nil ?_
        | with_reducible refine w_region ?_
        | with_reducible refine w_blk ?_)
      exact ih (lastS s * 64) _ _ _ (by repeat' (first | with_reducible exact Fr.mix | with_reducible exact Fr.rfl' | with_reducible refine Fr.put ?_ ?_ | with_reducible refine Fr.mix2 ?_ ?_ | with_reducible refine Fr.put0 ?_ | exact rfl)) ⟨by push_cast; rfl, rfl, by omega, hgo⟩
    · rw [if_neg ht] at hgo
      repeat' (first
        | ((with_reducible apply g_op); first
          | ((with_reducible apply g_load); first
            | ((with_reducible apply w_fl (v := .agg #[_, _, _, _, _, _, _])); exact rfl; exact (fun _ => rfl); assumption; exact rfl)
            | ((with_reducible apply w_load (v := .int _ _)); exact rfl; (first | assumption | (simp (disch := omega) only [upd_same, upd_ne]; first | done | assumption | exact rfl) | exact rfl); exact rfl))
          | ((with_reducible apply g_move); first
            | ((with_reducible apply w_pure (v := .int _ _)); exact rfl; exact rfl))
          | ((with_reducible apply g_bin); first
            | ((with_reducible apply w_wrap); exact rfl; exact rfl; first | exact i64_in _ (by omega) | exact u64_in _ (by omega) | exact u8_in _ (by omega))
            | ((with_reducible apply w_pure (v := .bool _)); exact rfl; exact rfl))
          | ((with_reducible apply g_fld); first
            | ((with_reducible apply w_fldp (o := 0)); exact rfl; exact rfl; exact rfl; exact (by decide)))
          | ((with_reducible apply g_store); first
            | ((with_reducible apply w_store (us := [_, _, _, _, _, _, _]) (ws := [_, _, _, _, _, _, _])); exact rfl; exact rfl; (first | assumption | (simp (disch := omega) only [upd_same, upd_ne]; first | done | assumption | exact rfl) | exact rfl); omega; exact rfl; exact rfl; exact rfl))
          | ((with_reducible apply g_ix); first
            | ((with_reducible apply w_fx (sz := 7)); exact rfl; exact rfl; exact rfl; exact rfl; exact rfl; exact (fun _ => rfl); assumption; exact rfl))
          | ((with_reducible apply w_alloc (ls := [_, _, _, _, _, _, _])); exact rfl; exact rfl))
        | with_reducible refine w_seq ?_
        | with_reducible refine w_nil ?_
        | with_reducible refine w_region ?_
        | with_reducible refine w_skip ?_
        | with_reducible refine w_block ?_
        | with_reducible refine w_blk ?_
        | ((with_reducible apply w_ifd); exact rfl; all_goals (intro hc; first | (exfalso; omega) | skip)))
      exact ih b _ _ _ (by repeat' (first | with_reducible exact Fr.mix | with_reducible exact Fr.rfl' | with_reducible refine Fr.put ?_ ?_ | with_reducible refine Fr.mix2 ?_ ?_ | with_reducible refine Fr.put0 ?_ | exact rfl)) ⟨by push_cast; rfl, rfl, by omega, hgo⟩
  · rintro b σ g2 n2 ⟨k11, k3, hn, hgo⟩
    refine w_keep (i := 11) k11 (w_keep (i := 3) k3 ?_)
    repeat' (first
      | ((with_reducible apply g_op); first
        | ((with_reducible apply g_move); first
          | ((with_reducible apply w_pure (v := .int _ _)); exact rfl; exact rfl))
        | ((with_reducible apply g_bin); first
          | ((with_reducible apply w_pure (v := .bool _)); exact rfl; exact rfl))
        | ((with_reducible apply g_assign); first
          | ((with_reducible apply w_pure (v := .int _ _)); exact rfl; exact rfl)))
      | with_reducible refine w_seq ?_
      | with_reducible refine w_nil ?_
      | with_reducible refine w_region ?_
      | ((with_reducible apply w_exit); exact rfl)
      | ((with_reducible apply w_ifd); exact rfl; all_goals (intro hc; first | (exfalso; omega) | skip))
      | ((with_reducible apply w_ret (v := .int _ _)); exact rfl))
    exact fr_plain rfl (congrArg (Value.int .i64) hgo)
end Go.Proofs.Ytohfbnpmhlpkhaa.L

