/- An image of plain numbers may be; what all its places come to. -/
import Derived.Test.Ytohfbnpmhlpkhaac08W
import Derived.Test.Ytohfbnpmhlpkhaac08Y
namespace Go.Proofs.Ytohfbnpmhlpkhaa.L
open Go.L1 Go.IntWalk Oct
set_option linter.unusedVariables false
set_option linter.unusedSimpArgs false
set_option maxHeartbeats 4000000
set_option maxRecDepth 20000
theorem ch_le : ∀ {l : List Sg} {pg off z : Int}, Ch l pg off z → off + 64 * l.length ≤ z
  | [], _, _, _, h => by have h : _ = _ := h; simp; omega
  | s :: r, pg, off, z, h => by
    obtain ⟨i, p, q1, q2, q3⟩ := h
    have := ch_le q3
    rw [List.length_cons]
    push_cast
    omega
theorem ch_top : ∀ {l : List Sg} {pg off z : Int}, Ch l pg off z → z ≤ off + 256 * l.length
  | [], _, _, _, h => by have h : _ = _ := h; simp; omega
  | s :: r, pg, off, z, h => by
    obtain ⟨i, p, q1, q2, q3⟩ := h
    have := ch_top q3
    rw [List.length_cons]
    push_cast
    omega
theorem chk_ch (a : List Sg) (z e : Int) : ∀ (l : List Sg) (pg off z0 lo dy en : Int) (et : Bool), Ch l pg off z0 → z0 ≤ z → 0 ≤ pg → pg + 4 * l.length ≤ 100 → 0 ≤ off → off % 64 = 0 → en ≤ pg → off + 256 * l.length ≤ 100000 → ∃ et', chk a z e l lo dy en et = some (lo + l.length, dy, et') ∧ (et = true → et' = true)
  | [], _, _, _, lo, dy, _, et, _, _, _, _, _, _, _, _ => ⟨et, by simp [chk], fun h => h⟩
  | s :: r, pg, off, z0, lo, dy, en, et, h, hz, hp, hp2, ho, ho2, hen, ho3 => by
    obtain ⟨i, p, q1, q2, q3⟩ := h
    have hle := ch_le q3
    have hlz : (0 : Int) ≤ r.length := by omega
    rw [List.length_cons] at hp2
    push_cast at hp2
    have hseg : segS s z = true := by
      unfold segS
      refine decide_eq_true ⟨by omega, .inr ⟨by omega, by omega, by omega, .inr ⟨by omega, by omega, ?_⟩⟩⟩
      rw [q2.2.2.2.2.1, q2.2.2.2.1]
      omega
    have f1 : firstS s ≥ en := by unfold firstS; omega
    have f2 : lastS s ≤ pg + p := by unfold lastS; omega
    rw [List.length_cons] at ho3
    push_cast at ho3
    obtain ⟨et', h1, h2⟩ := chk_ch a z e r (pg + p) (off + p * 64) z0 (lo + 1) dy (lastS s) (et || beginsS s e) q3 hz (by omega) (by omega) (by omega) (by omega) f2 (by omega)
    refine ⟨et', ?_, fun he => h2 (by rw [he]; rfl)⟩
    rw [chk, if_pos hseg, if_pos q2.1, if_pos f1, h1, List.length_cons]
    push_cast
    congr 2
    omega
theorem okS_img {k e z : Int} {s : Sg} {r : List Sg} (h : Ch (s :: r) 0 1024 z) (hl : (s :: r).length ≤ 4) (he : (k = 3 ∧ e = 0) ∨ (k = 2 ∧ s.fl % 2 = 1 ∧ s.ad ≤ e ∧ e < s.ad + s.me)) : okS ⟨k, e, s :: r⟩ z = true := by
  have hle := ch_le h
  obtain ⟨i, p, q1, q2, q3⟩ := id h
  have hseg : segS s z = true := by
    have hle3 := ch_le q3
    unfold segS
    refine decide_eq_true ⟨by omega, .inr ⟨by omega, by omega, by omega, .inr ⟨by omega, by omega, ?_⟩⟩⟩
    rw [q2.2.2.2.2.1, q2.2.2.2.1]
    omega
  have f1 : firstS s ≥ 0 := by unfold firstS; omega
  have f2 : lastS s ≤ 0 + p := by unfold lastS; omega
  have hbe : (decide (k = 3 ∧ e = 0) || beginsS s e) = true := by
    rcases he with he | he
    · rw [decide_eq_true he, Bool.true_or]
    · rw [show beginsS s e = true from decide_eq_true ⟨q2.1, he.2.1, he.2.2.1, he.2.2.2⟩, Bool.or_true]
  rw [List.length_cons] at hl
  obtain ⟨et', h1, h2⟩ := chk_ch (s :: r) z e r (0 + p) (1024 + p * 64) z (0 + 1) 0 (lastS s) (decide (k = 3 ∧ e = 0) || beginsS s e) q3 (Int.le_refl _) (by omega) (by omega) (by omega) (by omega) f2 (by omega)
  have h2 := h2 hbe
  subst h2
  unfold okS
  dsimp only
  rw [chk, if_pos hseg, if_pos q2.1, if_pos f1, h1]
  unfold endS
  rw [List.length_cons]
  rw [List.length_cons] at hle
  rw [Bool.and_eq_true, decide_eq_true_eq]
  refine ⟨⟨by omega, by omega, by push_cast at hle ⊢; omega, by omega, by omega⟩, ?_⟩
  show (decide ((0 : Int) + 1 + r.length ≠ 0) && (decide ((0 : Int) ≤ 1) && true)) = true
  rw [decide_eq_true (show (0 : Int) + 1 + r.length ≠ 0 by omega)]
  rfl
theorem imgS_ent (kind entry : Int) (L : List Q4) {k e : Int} {s : Sg} {r : List Sg} {z : Int} (h : imgS kind entry L = (⟨k, e, s :: r⟩, z)) : (k = 3 ∧ e = 0) ∨ (k = 2 ∧ s.fl % 2 = 1 ∧ s.ad ≤ e ∧ e < s.ad + s.me) := by
  unfold imgS at h
  cases hS : imgGo (L.take 4) 0 1024 with
  | mk l o =>
    rw [hS] at h
    cases l with
    | nil => cases h
    | cons a b =>
      dsimp only at h
      obtain ⟨q0, hq0⟩ := img_head hS
      have hsf : 0 ≤ a.fl ∧ a.fl < 8 := by rw [hq0]; unfold segQ; dsimp only; omega
      have hsm : 1 ≤ a.me ∧ a.me ≤ 256 := by rw [hq0]; exact memQ_in q0
      have hem1 := Int.emod_nonneg (entry.tmod a.me + a.me) (show a.me ≠ 0 by omega)
      have hem2 := Int.emod_lt_of_pos (entry.tmod a.me + a.me) (show 0 < a.me by omega)
      split at h
      · cases h
        exact .inr ⟨rfl, (orS_in hsf).2.2, by dsimp only; omega, by dsimp only; omega⟩
      · cases h
        exact .inl ⟨rfl, rfl⟩
theorem fine_img {k e z : Int} {s : Sg} {r : List Sg} (h : Ch (s :: r) 0 1024 z) (hl : (s :: r).length ≤ 4) (he : (k = 3 ∧ e = 0) ∨ (k = 2 ∧ s.fl % 2 = 1 ∧ s.ad ≤ e ∧ e < s.ad + s.me)) : Im.fine ⟨k, e, s :: r⟩ := by
  obtain ⟨i, p, q1, q2, q3⟩ := id h
  refine ⟨by dsimp only; omega, by dsimp only; omega, ⟨by simp, by dsimp only; omega⟩, ?_⟩
  have key : ∀ {l : List Sg} {pg off z : Int}, Ch l pg off z → 0 ≤ pg → pg + 4 * l.length ≤ 1000 → 0 ≤ off → off + 256 * l.length ≤ 100000 → ∀ s ∈ l, s.fine := by
    intro l
    induction l with
    | nil => intro _ _ _ _ _ _ _ _ s hs; cases hs
    | cons a l ih =>
      intro pg off z h h1 h2 h3 h4 s hs
      rw [List.length_cons] at h2 h4
      push_cast at h2 h4
      obtain ⟨i, p, q1, q2, q3⟩ := h
      rcases List.mem_cons.1 hs with rfl | hs
      · unfold Sg.fine; omega
      · exact ih q3 (by omega) (by omega) (by omega) (by omega) s hs
  show ∀ t ∈ s :: r, t.fine
  exact key h (by omega) (by omega) (by omega) (by omega)
theorem fine_rg {x : Im} (h : x.fine) : x.rg := ⟨by have := h.1; omega, by have := h.2.1; omega, fun s hs => by have := h.2.2.2 s hs; unfold Sg.fine at this; unfold Sg.rg; omega⟩
/-- All places of a row, added. -/
def totS : List Sg → Int → Int
  | [], n => n
  | s :: r, n => totS r (n + s.off)
theorem totS_pos : ∀ (l : List Sg) (n : Int), (∀ s ∈ l, 0 ≤ s.off) → n ≤ totS l n
  | [], n, _ => Int.le_refl n
  | s :: r, n, h => by
    have h1 := totS_pos r (n + s.off) (fun s hs => h s (List.mem_cons_of_mem _ hs))
    have h2 := h s (List.mem_cons_self ..)
    rw [totS]
    omega
theorem total_run (l : List Sg) (k e : Int) (hl : l.length ≤ 100) (h : ∀ s ∈ l, 0 ≤ s.off ∧ s.off ≤ 1099511627776) : Rf Try.prog T 25 [Im.v tg ⟨k, e, l⟩] (fun v => v = .int .i64 (totS l 0)) := by
  refine c_froz Try.func25 rfl rfl rfl rfl rfl rfl ?_
  intro g n
  obtain ⟨R, hR⟩ : ∃ R, totS l 0 = R := ⟨_, rfl⟩
  rw [hR]
  repeat' (first
    | ((with_reducible apply g_op); first
      | ((with_reducible apply g_assign); first
        | ((with_reducible apply w_pure (v := .int _ _)); exact rfl; exact rfl))
      | ((with_reducible apply g_box); first
        | ((with_reducible apply w_box (vs := [_, _, _])); exact rfl; exact rfl)))
    | with_reducible refine w_seq ?_
    | with_reducible refine w_nil ?_
    | with_reducible refine w_region ?_
    | with_reducible refine w_block ?_)
  refine w_rngK [(3, 19)] l (fun i rest (b : Int) σ g' n' => σ 4 = .int .i64 (i : Nat) ∧ σ 3 = .int .i64 b ∧ n ≤ n' ∧ g' n = some (.cells 24 [.int .i64 k, .int .i64 e, rv tg l]) ∧ (0 ≤ b ∧ b ≤ 1099511627776 * i) ∧ totS rest b = R) ?_ ?_ 0 ⟨rfl, rfl, by omega, upd_same, by simp, hR⟩
  · rintro i s rest b σ g2 n2 hx hlt ⟨k4, k3, hn, hg, hb, hgo⟩ ih
    refine w_keep (i := 4) k4 (w_keep (i := 3) k3 ?_)
    have hok := h s (List.mem_of_getElem? hx)
    repeat' (first
      | ((with_reducible apply g_op); first
        | ((with_reducible apply g_load); first
          | ((with_reducible apply w_fl (v := .int _ _)); exact rfl; exact (fun _ => rfl); assumption; exact rfl)
          | ((with_reducible apply w_load (v := .func _ _ _)); exact rfl; (first | assumption | (simp (disch := omega) only [upd_same, upd_ne]; first | done | assumption | exact rfl) | exact rfl); exact rfl))
        | ((with_reducible apply g_move); first
          | ((with_reducible apply w_pure (v := .int _ _)); exact rfl; exact rfl))
        | ((with_reducible apply g_bin); first
          | ((with_reducible apply w_wrap); exact rfl; exact rfl; first | exact i64_in _ (by omega) | exact u64_in _ (by omega) | exact u8_in _ (by omega))
          | ((with_reducible apply w_pure (v := .bool _)); exact rfl; exact rfl))
        | ((with_reducible apply g_fld); first
          | ((with_reducible apply w_fldp (o := 2)); exact rfl; exact rfl; exact rfl; exact (by decide))
          | ((with_reducible apply w_ffld (o := 2)); exact rfl; exact rfl; exact rfl; exact (by decide)))
        | ((with_reducible apply g_assign); first
          | ((with_reducible apply w_pure (v := .int _ _)); exact rfl; exact rfl))
        | ((with_reducible apply g_call); first
          | ((with_reducible apply w_call (v := .int _ _)); exact rfl))
        | ((with_reducible apply g_ix); first
          | ((with_reducible apply w_fx (sz := 7)); exact rfl; exact rfl; exact rfl; exact rfl; exact rfl; exact (fun _ => rfl); assumption; exact rfl)))
      | with_reducible refine w_seq ?_
      | with_reducible refine w_nil ?_
      | with_reducible refine w_region ?_
      | with_reducible refine w_skip ?_
      | with_reducible refine w_block ?_
      | with_reducible refine w_blk ?_
      | ((with_reducible apply w_ifd); exact rfl; all_goals (intro hc; first | (exfalso; omega) | skip)))
    exact ih (b + s.off) _ _ _ (by repeat' (first | with_reducible exact Fr.mix | with_reducible exact Fr.rfl' | with_reducible refine Fr.put ?_ ?_ | with_reducible refine Fr.mix2 ?_ ?_ | with_reducible refine Fr.put0 ?_ | exact rfl)) ⟨by push_cast; rfl, rfl, by omega, hg, by push_cast; omega, hgo⟩
  · rintro b σ g2 n2 ⟨k4, k3, hn, hg, hb, hgo⟩
    refine w_keep (i := 4) k4 (w_keep (i := 3) k3 ?_)
    repeat' (first
      | ((with_reducible apply g_op); first
        | ((with_reducible apply g_load); first
          | ((with_reducible apply w_load (v := .func _ _ _)); exact rfl; (first | assumption | (simp (disch := omega) only [upd_same, upd_ne]; first | done | assumption | exact rfl) | exact rfl); exact rfl))
        | ((with_reducible apply g_move); first
          | ((with_reducible apply w_pure (v := .int _ _)); exact rfl; exact rfl))
        | ((with_reducible apply g_bin); first
          | ((with_reducible apply w_pure (v := .bool _)); exact rfl; exact rfl))
        | ((with_reducible apply g_fld); first
          | ((with_reducible apply w_fldp (o := 2)); exact rfl; exact rfl; exact rfl; exact (by decide)))
        | ((with_reducible apply g_assign); first
          | ((with_reducible apply w_pure (v := .int _ _)); exact rfl; exact rfl))
        | ((with_reducible apply g_call); first
          | ((with_reducible apply w_call (v := .int _ _)); exact rfl)))
      | with_reducible refine w_seq ?_
      | with_reducible refine w_nil ?_
      | with_reducible refine w_region ?_
      | ((with_reducible apply w_exit); exact rfl)
      | ((with_reducible apply w_ifd); exact rfl; all_goals (intro hc; first | (exfalso; omega) | skip))
      | ((with_reducible apply w_ret (v := .int _ _)); exact rfl))
    exact fr_plain rfl (congrArg (Value.int .i64) hgo)
end Go.Proofs.Ytohfbnpmhlpkhaa.L

