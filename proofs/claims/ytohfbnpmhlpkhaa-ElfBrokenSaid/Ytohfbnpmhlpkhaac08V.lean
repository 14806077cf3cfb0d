/- A program by plain numbers: its image. -/
import Derived.Test.Ytohfbnpmhlpkhaac08Q
import Derived.Test.Ytohfbnpmhlpkhaac08R
namespace Go.Proofs.Ytohfbnpmhlpkhaa.L
open Go.L1 Go.IntWalk Oct
set_option linter.unusedVariables false
set_option linter.unusedSimpArgs false
set_option maxHeartbeats 4000000
set_option maxRecDepth 20000
abbrev Q4 := Int × Int × Int × Int
def Q4c (q : Q4) : List Value := [.int .i64 q.1, .int .i64 q.2.1, .int .i64 q.2.2.1, .int .i64 q.2.2.2]
def memQ (q : Q4) : Int := if (1 + q.1 % 4) * 64 - q.2.1 % 64 - q.2.2.1 % 32 < 1 then 1 else (1 + q.1 % 4) * 64 - q.2.1 % 64 - q.2.2.1 % 32
def shQ (q : Q4) : Int := q.2.2.2.fdiv (2 ^ min (Int.toNat 3) IntKind.i64.bits) % 16
def szQ (q : Q4) : Int := if memQ q - shQ q < 0 then 0 else memQ q - shQ q
def segQ (pg off : Int) (q : Q4) : Sg := ⟨1, q.2.2.2 % 8, off + q.2.1 % 64, pg * 64 + q.2.1 % 64, szQ q, memQ q, 64⟩
def imgGo : List Q4 → Int → Int → List Sg × Int
  | [], _, off => ([], off)
  | q :: r, pg, off => (segQ pg off q :: (imgGo r (pg + (1 + q.1 % 4)) (off + (1 + q.1 % 4) * 64)).1, (imgGo r (pg + (1 + q.1 % 4)) (off + (1 + q.1 % 4) * 64)).2)
def orS (f : Int) : Int := if f % 2 = 1 then f else f + 1
def imgS (kind entry : Int) (l : List Q4) : Im × Int :=
  match imgGo (l.take 4) 0 1024 with
  | ([], off) => (⟨3, 0, []⟩, off)
  | (s :: r, off) => if kind % 2 = 1 then (⟨2, s.ad + (entry.tmod s.me + s.me) % s.me, ⟨s.ty, orS s.fl, s.off, s.ad, s.sz, s.me, s.al⟩ :: r⟩, off) else (⟨3, 0, s :: r⟩, off)
theorem memQ_in (q : Q4) : 1 ≤ memQ q ∧ memQ q ≤ 256 := by unfold memQ; split <;> omega
theorem shQ_in (q : Q4) : 0 ≤ shQ q ∧ shQ q < 16 := by unfold shQ; omega
theorem szQ_in (q : Q4) : 0 ≤ szQ q ∧ szQ q ≤ memQ q := by unfold szQ; have := memQ_in q; have := shQ_in q; split <;> omega
theorem or1 (f : Int) (h : 0 ≤ f ∧ f < 8) : IntKind.i64.wrap ↑(BitVec.ofInt IntKind.i64.bits f ||| BitVec.ofInt IntKind.i64.bits 1).toNat = orS f := by
  have : f = 0 ∨ f = 1 ∨ f = 2 ∨ f = 3 ∨ f = 4 ∨ f = 5 ∨ f = 6 ∨ f = 7 := by omega
  rcases this with rfl | rfl | rfl | rfl | rfl | rfl | rfl | rfl <;> rfl
theorem img_head {L : List Q4} {pg off o2 : Int} {s : Sg} {r : List Sg} (h : imgGo L pg off = (s :: r, o2)) : ∃ q, s = segQ pg off q := by
  cases L with
  | nil => cases h
  | cons q L => refine ⟨q, ?_⟩; rw [imgGo] at h; cases h; rfl
theorem image_run (kind entry : Int) (l : List Q4) (g : Nat → Option Ob) (n m : Nat) : Rn Try.prog T 17 [.agg #[.int .i64 kind, .int .i64 entry, fz tg l.length (l.flatMap Q4c)]] g n m (fun v g' n' => ∃ o, v = .tuple #[.agg #[.int .i64 (imgS kind entry l).1.k, .int .i64 (imgS kind entry l).1.e, ov o (imgS kind entry l).1.l.length], .int .i64 (imgS kind entry l).2] ∧ Own g' n n' 43 Sg.c o (imgS kind entry l).1.l ∧ (∀ j, j < n → g' j = g j) ∧ n ≤ n') := by
  refine c_clean Try.func17 rfl rfl rfl rfl rfl rfl ?_
  obtain ⟨R, hR⟩ : ∃ R, imgS kind entry l = R := ⟨_, rfl⟩
  rw [hR]
  obtain ⟨S, hS⟩ : ∃ S, imgGo (l.take 4) 0 1024 = S := ⟨_, rfl⟩
  unfold imgS at hR
  rw [hS] at hR
  repeat' (first
    | ((with_reducible apply g_op); first
      | ((with_reducible apply g_assign); first
        | ((with_reducible apply w_pure (v := .int _ _)); exact rfl; exact rfl))
      | ((with_reducible apply g_box); first
        | ((with_reducible apply w_box (vs := [_, _, _])); exact rfl; exact rfl))
      | ((with_reducible apply g_store); first
        | ((with_reducible apply w_store (us := [_, _, _]) (ws := [_, _, _])); exact rfl; exact rfl; (first | assumption | (simp (disch := omega) only [upd_same, upd_ne]; first | done | assumption | exact rfl) | exact rfl); omega; exact rfl; exact rfl; exact rfl))
      | ((with_reducible apply g_build); first
        | ((with_reducible apply w_pure (v := .agg #[_, _, _])); exact rfl; exact rfl))
      | ((with_reducible apply w_alloc (ls := [_, _, _])); exact rfl; exact rfl))
    | with_reducible refine w_seq ?_
    | with_reducible refine w_nil ?_
    | with_reducible refine w_region ?_
    | with_reducible refine w_block ?_)
  refine w_rngK [(5, 12), (15, 80)] (l.take 4) (fun i rest (b : List Sg × Option Nat × Int × Int) σ g' n' => σ 7 = .int .i64 (i : Nat) ∧ σ 5 = .int .i64 b.2.2.1 ∧ σ 6 = .int .i64 b.2.2.2 ∧ g' n = some (.cells 39 [.int .i64 kind, .int .i64 entry, fz tg l.length (l.flatMap Q4c)]) ∧ g' (n + 1) = some (.cells 24 [.int .i64 0, .int .i64 0, .slice none 0 0]) ∧ g' (n + 2) = some (.cells 24 [.int .i64 3, .int .i64 0, ov b.2.1 b.1.length]) ∧ Own g' (n + 3) n' 43 Sg.c b.2.1 b.1 ∧ n + 3 ≤ n' ∧ b.1.length = i ∧ (0 ≤ b.2.2.1 ∧ b.2.2.1 ≤ 4 * i) ∧ (1024 ≤ b.2.2.2 ∧ b.2.2.2 ≤ 1024 + 256 * i) ∧ (b.1 ++ (imgGo rest b.2.2.1 b.2.2.2).1, (imgGo rest b.2.2.1 b.2.2.2).2) = S ∧ ∀ j, j < n → g' j = g j) ?_ ?_ ([], none, 0, 1024) ⟨rfl, rfl, rfl, by simp (disch := omega) only [upd_ne, upd_same], by simp (disch := omega) only [upd_ne, upd_same], by simp (disch := omega) only [upd_ne, upd_same]; rfl, Own.nil, by omega, rfl, by simp, by simp, hS, fun j hj => by simp (disch := omega) only [upd_ne]⟩
  · rintro i q rest ⟨done, o, pg, off⟩ σ g2 n2 hx hlt ⟨k7, k5, k6, hg0, hg1, hg2, ho, hn, hdl, hpg, hof, hgo, hfr⟩ ih
    dsimp only at k5 k6 hg2 ho hdl hpg hof hgo
    rw [List.length_take] at hlt
    have hx : l[i]? = some q := by rw [List.getElem?_take_of_lt (by omega)] at hx; exact hx
    refine w_keep (i := 7) k7 (w_keep (i := 5) k5 (w_keep (i := 6) k6 ?_))
    repeat' (first
      | ((with_reducible apply g_op); first
        | ((with_reducible apply g_load); first
          | ((with_reducible apply w_fl (v := .agg #[_, _, _, _])); exact rfl; exact (fun _ => rfl); assumption; exact rfl)
          | ((with_reducible apply w_load (v := .int _ _)); exact rfl; (first | assumption | (simp (disch := omega) only [upd_same, upd_ne]; first | done | assumption | exact rfl) | exact rfl); exact rfl)
          | ((with_reducible apply w_load (v := .func _ _ _)); exact rfl; (first | assumption | (simp (disch := omega) only [upd_same, upd_ne]; first | done | assumption | exact rfl) | exact rfl); exact rfl)
          | ((with_reducible apply w_load (v := ov _ _)); exact rfl; (first | assumption | (simp (disch := omega) only [upd_same, upd_ne]; first | done | assumption | exact rfl) | exact rfl); exact rfl))
        | ((with_reducible apply g_move); first
          | ((with_reducible apply w_pure (v := .int _ _)); exact rfl; exact rfl)
          | ((with_reducible apply w_pure (v := .bool _)); exact rfl; exact rfl))
        | ((with_reducible apply g_bin); first
          | ((with_reducible apply w_and (j := 2) (c1 := 4)); exact rfl; exact rfl; exact rfl; exact rfl; exact rfl; exact (by decide); exact (by decide); exact (by decide))
          | ((with_reducible apply w_and (j := 3) (c1 := 8)); exact rfl; exact rfl; exact rfl; exact rfl; exact rfl; exact (by decide); exact (by decide); exact (by decide))
          | ((with_reducible apply w_and (j := 4) (c1 := 16)); exact rfl; exact rfl; exact rfl; exact rfl; exact rfl; exact (by decide); exact (by decide); exact (by decide))
          | ((with_reducible apply w_and (j := 5) (c1 := 32)); exact rfl; exact rfl; exact rfl; exact rfl; exact rfl; exact (by decide); exact (by decide); exact (by decide))
          | ((with_reducible apply w_and (j := 6) (c1 := 64)); exact rfl; exact rfl; exact rfl; exact rfl; exact rfl; exact (by decide); exact (by decide); exact (by decide))
          | ((with_reducible apply w_wrap); exact rfl; exact rfl; first | exact i64_in _ (by omega) | exact u64_in _ (by omega) | exact u8_in _ (by omega))
          | ((with_reducible apply w_pure (v := .bool _)); exact rfl; exact rfl)
          | ((with_reducible apply w_pure (v := .int _ _)); exact rfl; exact rfl))
        | ((with_reducible apply g_fld); first
          | ((with_reducible apply w_fldp (o := 2)); exact rfl; exact rfl; exact rfl; exact (by decide)))
        | ((with_reducible apply g_pick); first
          | ((with_reducible apply w_pk1 (v := .bool _)); exact rfl; exact rfl; (first | assumption | exact decide_eq_true (by assumption) | exact decide_eq_false (by assumption) | exact decide_eq_true (by omega) | exact decide_eq_false (by omega) | exact beq_iff_eq.2 (by omega) | exact beq_eq_false_iff_ne.2 (by omega) | exact bne_iff_ne.2 (by omega) | exact bne_eq_false_iff_eq.2 (by omega))))
        | ((with_reducible apply g_assign); first
          | ((with_reducible apply w_pure (v := .int _ _)); exact rfl; exact rfl))
        | ((with_reducible apply g_call); first
          | ((with_reducible apply w_call (v := .int _ _)); exact rfl))
        | ((with_reducible apply g_store); first
          | ((with_reducible apply w_store (us := [_, _, _, _]) (ws := [_, _, _, _])); exact rfl; exact rfl; (first | assumption | (simp (disch := omega) only [upd_same, upd_ne]; first | done | assumption | exact rfl) | exact rfl); omega; exact rfl; exact rfl; exact rfl))
        | ((with_reducible apply g_build); first
          | ((with_reducible apply w_pure (v := .agg #[_, _, _, _, _, _, _])); exact rfl; exact rfl))
        | ((with_reducible apply g_ix); first
          | ((with_reducible apply w_fx (sz := 4)); exact rfl; exact rfl; exact rfl; exact rfl; exact rfl; exact (fun _ => rfl); assumption; exact rfl))
        | ((with_reducible apply w_alloc (ls := [_, _, _, _])); exact rfl; exact rfl)
        | ((with_reducible apply w_bsl (ls := [_, _, _, _, _, _, _])); exact rfl; exact rfl; exact rfl; exact ⟨by decide, rfl⟩; exact rfl)
        | ((with_reducible apply w_pure (v := .pointer _)); exact rfl; exact rfl))
      | ((with_reducible apply g_gd); first
        | ((with_reducible apply w_gd_t); exact rfl; all_goals (intro hc; first | (exfalso; omega) | skip)))
      | with_reducible refine w_seq ?_
      | with_reducible refine w_nil ?_
      | with_reducible refine w_region ?_
      | with_reducible refine w_skip ?_
      | with_reducible refine w_block ?_
      | ((with_reducible apply w_ifd); exact rfl; all_goals (intro hc; first | (exfalso; omega) | skip)))
    all_goals refine w_own1 (enc := Sg.c) (y := segQ pg off q) (by_ := 56) (sz := 7) (lo := n + 3) (o := o) (xs := done) (ho.later (by omega) (fun j h1 h2 => by simp (disch := omega) only [upd_ne])) rfl rfl rfl rfl rfl rfl (fun _ => rfl) upd_same rfl (by simp only [Sg.c, segQ, szQ, memQ, shQ]; (repeat' split) <;> first | rfl | (exfalso; omega)) rfl (by omega) (by omega) ?_
    all_goals intro g' h1 h2 h3
    all_goals have hb0 : g' n = some (.cells 39 [.int .i64 kind, .int .i64 entry, fz tg l.length (l.flatMap Q4c)]) := (by rw [h1 n (by omega) (by intro e; subst e; have := ho.2.1; omega)]; simp (disch := omega) only [upd_ne]; exact hg0)
    all_goals have hb1 : g' (n + 1) = some (.cells 24 [.int .i64 0, .int .i64 0, .slice none 0 0]) := (by rw [h1 (n + 1) (by omega) (by intro e; subst e; have := ho.2.1; omega)]; simp (disch := omega) only [upd_ne]; exact hg1)
    all_goals have hb2 : g' (n + 2) = some (.cells 24 [.int .i64 3, .int .i64 0, ov o done.length]) := (by rw [h1 (n + 2) (by omega) (by intro e; subst e; have := ho.2.1; omega)]; simp (disch := omega) only [upd_ne]; exact hg2)
    all_goals repeat' (first
                | ((with_reducible apply g_op); first
                  | ((with_reducible apply g_move); first
                    | ((with_reducible apply w_pure (v := .int _ _)); exact rfl; exact rfl))
                  | ((with_reducible apply g_bin); first
                    | ((with_reducible apply w_wrap); exact rfl; exact rfl; first | exact i64_in _ (by omega) | exact u64_in _ (by omega) | exact u8_in _ (by omega)))
                  | ((with_reducible apply g_fld); first
                    | ((with_reducible apply w_fldp (o := 2)); exact rfl; exact rfl; exact rfl; exact (by decide)))
                  | ((with_reducible apply g_assign); first
                    | ((with_reducible apply w_pure (v := .int _ _)); exact rfl; exact rfl))
                  | ((with_reducible apply g_store); first
                    | ((with_reducible apply w_store (us := [.slice _ _ _]) (ws := [_, _, _])); exact rfl; exact rfl; (first | assumption | (simp (disch := omega) only [upd_same, upd_ne]; first | done | assumption | exact rfl) | exact rfl); omega; exact rfl; exact rfl; exact rfl)))
                | with_reducible refine w_seq ?_
                | with_reducible refine w_nil ?_
                | with_reducible refine w_region ?_
                | with_reducible refine w_blk ?_)
    all_goals exact ih (done ++ [segQ pg off q], some (n2 + 1 + 1), pg + (1 + q.1 % 4), off + (1 + q.1 % 4) * 64) _ _ _ (by repeat' (first | with_reducible exact Fr.mix | with_reducible exact Fr.rfl' | with_reducible refine Fr.put ?_ ?_ | with_reducible refine Fr.mix2 ?_ ?_ | with_reducible refine Fr.put0 ?_ | exact rfl)) ⟨by push_cast; rfl, rfl, rfl, by simp (disch := omega) only [upd_ne]; exact hb0, by simp (disch := omega) only [upd_ne]; exact hb1, by simp (disch := omega) only [upd_ne, upd_same]; rfl, h3.later (by omega) (fun j h1 h2 => by simp (disch := omega) only [upd_ne]), by omega, by rw [List.length_append, hdl]; rfl, by dsimp only; push_cast; omega, by dsimp only; push_cast; omega, by dsimp only; rw [← hgo]; simp only [imgGo, List.append_assoc, List.singleton_append], fun j hj => by simp (disch := omega) only [upd_ne]; rw [h1 j (by omega) (by intro e; subst e; have := ho.2.1; omega)]; simp (disch := omega) only [upd_ne]; exact hfr j hj⟩
  · rintro ⟨done, o, pg, off⟩ σ g2 n2 ⟨k7, k5, k6, hg0, hg1, hg2, ho, hn, hdl, hpg, hof, hgo, hfr⟩
    dsimp only at k5 k6 hg2 ho hdl hpg hof hgo
    rw [show (l.take 4).length = min 4 l.length from List.length_take] at k7 hdl hpg hof
    simp only [imgGo, List.append_nil] at hgo
    subst hgo
    refine w_keep (i := 7) k7 (w_keep (i := 5) k5 (w_keep (i := 6) k6 ?_))
    cases o with
    | none =>
      have hd0 : done = [] := ho
      subst hd0
      dsimp only at hR
      subst hR
      simp only [ov] at hg2
      repeat' (first
        | ((with_reducible apply g_op); first
          | ((with_reducible apply g_load); first
            | ((with_reducible apply w_load (v := .slice _ _ _)); exact rfl; (first | assumption | (simp (disch := omega) only [upd_same, upd_ne]; first | done | assumption | exact rfl) | exact rfl); exact rfl)
            | ((with_reducible apply w_load (v := .func _ _ _)); exact rfl; (first | assumption | (simp (disch := omega) only [upd_same, upd_ne]; first | done | assumption | exact rfl) | exact rfl); exact rfl)
            | ((with_reducible apply w_load (v := .agg #[_, _, _])); exact rfl; (first | assumption | (simp (disch := omega) only [upd_same, upd_ne]; first | done | assumption | exact rfl) | exact rfl); exact rfl))
          | ((with_reducible apply g_move); first
            | ((with_reducible apply w_pure (v := .int _ _)); exact rfl; exact rfl)
            | ((with_reducible apply w_pure (v := .bool _)); exact rfl; exact rfl))
          | ((with_reducible apply g_bin); first
            | ((with_reducible apply w_pure (v := .bool _)); exact rfl; exact rfl))
          | ((with_reducible apply g_fld); first
            | ((with_reducible apply w_fldp (o := 2)); exact rfl; exact rfl; exact rfl; exact (by decide)))
          | ((with_reducible apply g_pick); first
            | ((with_reducible apply w_pk1 (v := .bool _)); exact rfl; exact rfl; (first | assumption | exact decide_eq_true (by assumption) | exact decide_eq_false (by assumption) | exact decide_eq_true (by omega) | exact decide_eq_false (by omega) | exact beq_iff_eq.2 (by omega) | exact beq_eq_false_iff_ne.2 (by omega) | exact bne_iff_ne.2 (by omega) | exact bne_eq_false_iff_eq.2 (by omega)))
            | ((with_reducible apply w_pk0 (v := .bool _)); exact rfl; exact rfl; (first | assumption | exact decide_eq_true (by assumption) | exact decide_eq_false (by assumption) | exact decide_eq_true (by omega) | exact decide_eq_false (by omega) | exact beq_iff_eq.2 (by omega) | exact beq_eq_false_iff_ne.2 (by omega) | exact bne_iff_ne.2 (by omega) | exact bne_eq_false_iff_eq.2 (by omega))))
          | ((with_reducible apply g_assign); first
            | ((with_reducible apply w_pure (v := .int _ _)); exact rfl; exact rfl))
          | ((with_reducible apply g_call); first
            | ((with_reducible apply w_call (v := .int _ _)); exact rfl))
          | ((with_reducible apply g_store); first
            | ((with_reducible apply w_store (us := [_, _, _]) (ws := [_, _, _])); exact rfl; exact rfl; (first | assumption | (simp (disch := omega) only [upd_same, upd_ne]; first | done | assumption | exact rfl) | exact rfl); omega; exact rfl; exact rfl; exact rfl)))
        | ((with_reducible apply g_gd); first
          | ((with_reducible apply w_pass); exact rfl)
          | ((with_reducible apply w_gd_t); exact rfl; all_goals (intro hc; first | (exfalso; omega) | skip)))
        | with_reducible refine w_seq ?_
        | with_reducible refine w_nil ?_
        | with_reducible refine w_region ?_
        | with_reducible refine w_skip ?_
        | ((with_reducible apply w_exit); exact rfl)
        | ((with_reducible apply w_no); exact rfl)
        | ((with_reducible apply w_ifd); exact rfl; all_goals (intro hc; first | (exfalso; omega) | skip))
        | ((with_reducible apply w_retct (v := .agg #[_, _, _]) (u := .int _ _)); exact rfl; exact rfl; (first | assumption | (simp (disch := omega) only [upd_same, upd_ne]; first | done | assumption | exact rfl) | exact rfl); exact rfl; exact rfl))
      all_goals split
      all_goals first | exact ⟨none, rfl, Own.nil, fun _ _ => rfl, Nat.le_refl _⟩ | exact ⟨none, rfl, Own.nil, fun j hj => by simp (disch := omega) only [upd_ne]; exact hfr j hj, by omega⟩
    | some o =>
      obtain ⟨s, r, rfl⟩ : ∃ s r, done = s :: r := by
        cases done with
        | nil => exact absurd rfl ho.1
        | cons s r => exact ⟨s, r, rfl⟩
      obtain ⟨ho1, ho2, ho3, hrow⟩ := id ho
      have hlen0 : ((s :: r).length : Int) > 0 := by simp
      simp only [ov] at hg2
      dsimp only at hR
      obtain ⟨q0, hq0⟩ := img_head hS
      have hsf : 0 ≤ s.fl ∧ s.fl < 8 := by rw [hq0]; unfold segQ; dsimp only; omega
      have hsm : 1 ≤ s.me ∧ s.me ≤ 256 := by rw [hq0]; exact memQ_in q0
      have hsa : 0 ≤ s.ad ∧ s.ad < 64 := by rw [hq0]; unfold segQ; dsimp only; omega
      have hta := tmod_in entry (c := s.me) (by omega)
      have hem1 := Int.emod_nonneg (entry.tmod s.me + s.me) (show s.me ≠ 0 by omega)
      have hem2 := Int.emod_lt_of_pos (entry.tmod s.me + s.me) (show 0 < s.me by omega)
      by_cases hk : kind % 2 = 1
      · rw [if_pos hk] at hR
        subst hR
        repeat' (first
          | ((with_reducible apply g_op); first
            | ((with_reducible apply g_load); first
              | ((with_reducible apply w_load (v := .int _ _)); exact rfl; (first | assumption | (simp (disch := omega) only [upd_same, upd_ne]; first | done | assumption | exact rfl) | exact rfl); exact rfl)
              | ((with_reducible apply w_load (v := .slice _ _ _)); exact rfl; (first | assumption | (simp (disch := omega) only [upd_same, upd_ne]; first | done | assumption | exact rfl) | exact rfl); exact rfl)
              | ((with_reducible apply w_load (v := .func _ _ _)); exact rfl; (first | assumption | (simp (disch := omega) only [upd_same, upd_ne]; first | done | assumption | exact rfl) | exact rfl); exact rfl)
              | ((with_reducible apply w_load (v := .agg #[_, _, _, _, _, _, _])); exact rfl; (first | assumption | (simp (disch := omega) only [upd_same, upd_ne]; first | done | assumption | exact rfl) | exact rfl); exact rfl))
            | ((with_reducible apply g_move); first
              | ((with_reducible apply w_pure (v := .int _ _)); exact rfl; exact rfl)
              | ((with_reducible apply w_pure (v := .bool _)); exact rfl; exact rfl))
            | ((with_reducible apply g_bin); first
              | ((with_reducible apply w_and (j := 1) (c1 := 2)); exact rfl; exact rfl; exact rfl; exact rfl; exact rfl; exact (by decide); exact (by decide); exact (by decide))
              | ((with_reducible apply w_pure (v := .bool _)); exact rfl; exact rfl)
              | ((with_reducible apply w_pure (v := .int _ _)); exact rfl; exact rfl))
            | ((with_reducible apply g_fld); first
              | ((with_reducible apply w_fldp (o := 0)); exact rfl; exact rfl; exact rfl; exact (by decide))
              | ((with_reducible apply w_fldp (o := 1)); exact rfl; exact rfl; exact rfl; exact (by decide))
              | ((with_reducible apply w_fldp (o := 2)); exact rfl; exact rfl; exact rfl; exact (by decide)))
            | ((with_reducible apply g_pick); first
              | ((with_reducible apply w_pk1 (v := .bool _)); exact rfl; exact rfl; (first | assumption | exact decide_eq_true (by assumption) | exact decide_eq_false (by assumption) | exact decide_eq_true (by omega) | exact decide_eq_false (by omega) | exact beq_iff_eq.2 (by omega) | exact beq_eq_false_iff_ne.2 (by omega) | exact bne_iff_ne.2 (by omega) | exact bne_eq_false_iff_eq.2 (by omega)))
              | ((with_reducible apply w_pk0 (v := .bool _)); exact rfl; exact rfl; (first | assumption | exact decide_eq_true (by assumption) | exact decide_eq_false (by assumption) | exact decide_eq_true (by omega) | exact decide_eq_false (by omega) | exact beq_iff_eq.2 (by omega) | exact beq_eq_false_iff_ne.2 (by omega) | exact bne_iff_ne.2 (by omega) | exact bne_eq_false_iff_eq.2 (by omega))))
            | ((with_reducible apply g_call); first
              | ((with_reducible apply w_call (v := .int _ _)); exact rfl))
            | ((with_reducible apply g_store); first
              | ((with_reducible apply w_store (us := [_, _, _, _, _, _, _]) (ws := [_, _, _, _, _, _, _])); exact rfl; exact rfl; (first | assumption | (simp (disch := omega) only [upd_same, upd_ne]; first | done | assumption | exact rfl) | exact rfl); omega; exact rfl; exact rfl; exact rfl))
            | ((with_reducible apply g_ix); first
              | ((with_reducible apply w_ixr (sz := 7)); exact rfl; exact rfl; exact rfl; exact rfl; omega; omega))
            | ((with_reducible apply w_alloc (ls := [_, _, _, _, _, _, _])); exact rfl; exact rfl))
          | ((with_reducible apply g_gd); first
            | ((with_reducible apply w_gd_t); exact rfl; all_goals (intro hc; first | (exfalso; omega) | skip)))
          | with_reducible refine w_seq ?_
          | with_reducible refine w_nil ?_
          | with_reducible refine w_region ?_
          | ((with_reducible apply w_exit); exact rfl)
          | ((with_reducible apply w_no); exact rfl)
          | ((with_reducible apply w_ifd); exact rfl; all_goals (intro hc; first | (exfalso; omega) | skip)))
        all_goals rw [or1 s.fl hsf, show 0 + Int.toNat 0 * 7 + 1 = 1 from rfl]
        all_goals refine w_st1 (i := o) (off := 1) (v := .int .i64 (orS s.fl)) rfl rfl rfl rfl (by simp (disch := omega) only [upd_ne]; exact hrow) (by omega) rfl (by simp [List.flatMap_cons, Sg.c]) ?_
        all_goals rw [show ((s :: r).flatMap Sg.c).set 1 (Value.int .i64 (orS s.fl)) = ((⟨s.ty, orS s.fl, s.off, s.ad, s.sz, s.me, s.al⟩ : Sg) :: r).flatMap Sg.c from rfl]
        all_goals repeat' (first
                    | ((with_reducible apply g_op); first
                      | ((with_reducible apply g_load); first
                        | ((with_reducible apply w_load (v := .int _ _)); exact rfl; (first | assumption | (simp (disch := omega) only [upd_same, upd_ne]; first | done | assumption | exact rfl) | exact rfl); exact rfl))
                      | ((with_reducible apply g_fld); first
                        | ((with_reducible apply w_fldp (o := 0)); exact rfl; exact rfl; exact rfl; exact (by decide))
                        | ((with_reducible apply w_fldp (o := 1)); exact rfl; exact rfl; exact rfl; exact (by decide))
                        | ((with_reducible apply w_fldp (o := 3)); exact rfl; exact rfl; exact rfl; exact (by decide))
                        | ((with_reducible apply w_fldp (o := 5)); exact rfl; exact rfl; exact rfl; exact (by decide)))
                      | ((with_reducible apply g_store); first
                        | ((with_reducible apply w_store (us := [.int _ _]) (ws := [_, _, _])); exact rfl; exact rfl; (first | assumption | (simp (disch := omega) only [upd_same, upd_ne]; first | done | assumption | exact rfl) | exact rfl); omega; exact rfl; exact rfl; exact rfl)))
                    | with_reducible refine w_seq ?_
                    | with_reducible refine w_nil ?_
                    | with_reducible refine w_region ?_
                    | ((with_reducible apply w_draw); kernel_rfl; kernel_rfl))
        all_goals refine w_tmod rfl rfl rfl rfl rfl (by omega) ?_
        all_goals repeat' (first
                    | ((with_reducible apply g_op); first
                      | ((with_reducible apply g_load); first
                        | ((with_reducible apply w_load (v := .int _ _)); exact rfl; (first | assumption | (simp (disch := omega) only [upd_same, upd_ne]; first | done | assumption | exact rfl) | exact rfl); exact rfl)
                        | ((with_reducible apply w_load (v := .agg #[_, _, _])); exact rfl; (first | assumption | (simp (disch := omega) only [upd_same, upd_ne]; first | done | assumption | exact rfl) | exact rfl); exact rfl))
                      | ((with_reducible apply g_move); first
                        | ((with_reducible apply w_pure (v := .int _ _)); exact rfl; exact rfl))
                      | ((with_reducible apply g_bin); first
                        | ((with_reducible apply w_mod); exact rfl; exact rfl; exact rfl; exact rfl; exact rfl; omega; omega)
                        | ((with_reducible apply w_wrap); exact rfl; exact rfl; first | exact i64_in _ (by omega) | exact u64_in _ (by omega) | exact u8_in _ (by omega)))
                      | ((with_reducible apply g_fld); first
                        | ((with_reducible apply w_fldp (o := 1)); exact rfl; exact rfl; exact rfl; exact (by decide))
                        | ((with_reducible apply w_fldp (o := 5)); exact rfl; exact rfl; exact rfl; exact (by decide)))
                      | ((with_reducible apply g_assign); first
                        | ((with_reducible apply w_pure (v := .int _ _)); exact rfl; exact rfl))
                      | ((with_reducible apply g_store); first
                        | ((with_reducible apply w_store (us := [.int _ _]) (ws := [_, _, _])); exact rfl; exact rfl; (first | assumption | (simp (disch := omega) only [upd_same, upd_ne]; first | done | assumption | exact rfl) | exact rfl); omega; exact rfl; exact rfl; exact rfl)
                        | ((with_reducible apply w_store (us := [_, _, _]) (ws := [_, _, _])); exact rfl; exact rfl; (first | assumption | (simp (disch := omega) only [upd_same, upd_ne]; first | done | assumption | exact rfl) | exact rfl); omega; exact rfl; exact rfl; exact rfl)))
                    | with_reducible refine w_seq ?_
                    | with_reducible refine w_nil ?_
                    | with_reducible refine w_region ?_
                    | ((with_reducible apply w_retct (v := .agg #[_, _, _]) (u := .int _ _)); exact rfl; exact rfl; (first | assumption | (simp (disch := omega) only [upd_same, upd_ne]; first | done | assumption | exact rfl) | exact rfl); exact rfl; exact rfl))
        all_goals split
        all_goals first | (rename_i hfl; exact absurd (show false = true from hfl) (by decide)) | exact ⟨some o, rfl, ⟨by simp, by omega, by omega, by simp (disch := omega) only [upd_ne, upd_same]⟩, fun j hj => by simp (disch := omega) only [upd_ne]; exact hfr j hj, by omega⟩
      · rw [if_neg hk] at hR
        subst hR
        repeat' (first
          | ((with_reducible apply g_op); first
            | ((with_reducible apply g_load); first
              | ((with_reducible apply w_load (v := .int _ _)); exact rfl; (first | assumption | (simp (disch := omega) only [upd_same, upd_ne]; first | done | assumption | exact rfl) | exact rfl); exact rfl)
              | ((with_reducible apply w_load (v := .slice _ _ _)); exact rfl; (first | assumption | (simp (disch := omega) only [upd_same, upd_ne]; first | done | assumption | exact rfl) | exact rfl); exact rfl)
              | ((with_reducible apply w_load (v := .func _ _ _)); exact rfl; (first | assumption | (simp (disch := omega) only [upd_same, upd_ne]; first | done | assumption | exact rfl) | exact rfl); exact rfl)
              | ((with_reducible apply w_load (v := .agg #[_, _, _])); exact rfl; (first | assumption | (simp (disch := omega) only [upd_same, upd_ne]; first | done | assumption | exact rfl) | exact rfl); exact rfl))
            | ((with_reducible apply g_move); first
              | ((with_reducible apply w_pure (v := .int _ _)); exact rfl; exact rfl)
              | ((with_reducible apply w_pure (v := .bool _)); exact rfl; exact rfl))
            | ((with_reducible apply g_bin); first
              | ((with_reducible apply w_and (j := 1) (c1 := 2)); exact rfl; exact rfl; exact rfl; exact rfl; exact rfl; exact (by decide); exact (by decide); exact (by decide))
              | ((with_reducible apply w_pure (v := .bool _)); exact rfl; exact rfl))
            | ((with_reducible apply g_fld); first
              | ((with_reducible apply w_fldp (o := 0)); exact rfl; exact rfl; exact rfl; exact (by decide))
              | ((with_reducible apply w_fldp (o := 2)); exact rfl; exact rfl; exact rfl; exact (by decide)))
            | ((with_reducible apply g_pick); first
              | ((with_reducible apply w_pk1 (v := .bool _)); exact rfl; exact rfl; (first | assumption | exact decide_eq_true (by assumption) | exact decide_eq_false (by assumption) | exact decide_eq_true (by omega) | exact decide_eq_false (by omega) | exact beq_iff_eq.2 (by omega) | exact beq_eq_false_iff_ne.2 (by omega) | exact bne_iff_ne.2 (by omega) | exact bne_eq_false_iff_eq.2 (by omega)))
              | ((with_reducible apply w_pk0 (v := .bool _)); exact rfl; exact rfl; (first | assumption | exact decide_eq_true (by assumption) | exact decide_eq_false (by assumption) | exact decide_eq_true (by omega) | exact decide_eq_false (by omega) | exact beq_iff_eq.2 (by omega) | exact beq_eq_false_iff_ne.2 (by omega) | exact bne_iff_ne.2 (by omega) | exact bne_eq_false_iff_eq.2 (by omega))))
            | ((with_reducible apply g_assign); first
              | ((with_reducible apply w_pure (v := .int _ _)); exact rfl; exact rfl))
            | ((with_reducible apply g_call); first
              | ((with_reducible apply w_call (v := .int _ _)); exact rfl))
            | ((with_reducible apply g_store); first
              | ((with_reducible apply w_store (us := [_, _, _]) (ws := [_, _, _])); exact rfl; exact rfl; (first | assumption | (simp (disch := omega) only [upd_same, upd_ne]; first | done | assumption | exact rfl) | exact rfl); omega; exact rfl; exact rfl; exact rfl)))
          | ((with_reducible apply g_gd); first
            | ((with_reducible apply w_gd_t); exact rfl; all_goals (intro hc; first | (exfalso; omega) | skip)))
          | with_reducible refine w_seq ?_
          | with_reducible refine w_nil ?_
          | with_reducible refine w_region ?_
          | with_reducible refine w_skip ?_
          | ((with_reducible apply w_exit); exact rfl)
          | ((with_reducible apply w_no); exact rfl)
          | ((with_reducible apply w_ifd); exact rfl; all_goals (intro hc; first | (exfalso; omega) | skip))
          | ((with_reducible apply w_retct (v := .agg #[_, _, _]) (u := .int _ _)); exact rfl; exact rfl; (first | assumption | (simp (disch := omega) only [upd_same, upd_ne]; first | done | assumption | exact rfl) | exact rfl); exact rfl; exact rfl))
        all_goals split
        all_goals first | (rename_i hfl; exact absurd (show false = true from hfl) (by decide)) | exact ⟨some o, rfl, ⟨ho1, by omega, ho3, by simp (disch := omega) only [upd_ne]; exact hrow⟩, fun j hj => by simp (disch := omega) only [upd_ne]; exact hfr j hj, by omega⟩
end Go.Proofs.Ytohfbnpmhlpkhaa.L

