/- ElfPages: walked, and its plain law. -/
import Derived.Test.Ytohfbnpmhlpkhaac08W
import Derived.Test.YtohfbnpmhlpkhaaL1U
namespace Go.Proofs.Ytohfbnpmhlpkhaa.L.ElfPages
open Go.L1 Go.IntWalk Go.Proofs.Ytohfbnpmhlpkhaa.L Oct
set_option linter.unusedVariables false
set_option linter.unusedSimpArgs false
set_option maxHeartbeats 4000000
set_option maxRecDepth 20000
def tab : Tb := L.T
theorem tabok : ∀ C : Cx, C.P = Try.prog → TbOk C tab := L.tabok
theorem ch_ok : ∀ {l : List Sg} {pg off z : Int}, Ch l pg off z → 0 ≤ pg → pg + 4 * l.length ≤ 1000 → 0 ≤ off → off + 256 * l.length ≤ 100000 → ∀ s ∈ l, s.ok
  | [], _, _, _, _, _, _, _, _ => fun s hs => by cases hs
  | a :: l, pg, off, z, h, h1, h2, h3, h4 => fun s hs => by
    rw [List.length_cons] at h2 h4
    obtain ⟨i, p, q1, q2, q3⟩ := h
    rcases List.mem_cons.1 hs with rfl | hs
    · unfold Sg.ok; push_cast at h2 h4; omega
    · exact ch_ok q3 (by omega) (by push_cast at h2; omega) (by omega) (by push_cast at h4; omega) s hs
theorem walk (kind entry : Int) (L : List Q4) (g : Nat → Option Ob) (n : Nat) : Rn Try.prog T 6 [.agg #[.int .i64 kind, .int .i64 entry, fz tg L.length (L.flatMap Q4c)]] g n n (fun v _ _ => v = .bool true) := by
  refine c_open Try.func6 rfl rfl rfl rfl rfl rfl ?_
  have hch := imgS_ch kind entry L
  have him := image_run kind entry L
  generalize imgS kind entry L = I at hch him
  obtain ⟨⟨k, e, l⟩, z⟩ := I
  dsimp only at hch him
  repeat' (first
    | ((with_reducible apply g_op); first
      | ((with_reducible apply g_assign); first
        | ((with_reducible apply w_pure (v := .bool _)); exact rfl; exact rfl))
      | ((with_reducible apply g_box); first
        | ((with_reducible apply w_box (vs := [_, _, _])); exact rfl; exact rfl)))
    | with_reducible refine w_seq ?_
    | with_reducible refine w_nil ?_
    | with_reducible refine w_region ?_)
  refine w_rf awake_run (fun _ => rfl) sn_nil ?_
  rintro _ rfl
  repeat' (first
    | ((with_reducible apply g_op); first
      | ((with_reducible apply g_load); first
        | ((with_reducible apply w_load (v := .agg #[_, _, _])); exact rfl; (first | assumption | (simp (disch := omega) only [upd_same, upd_ne]; first | done | assumption | exact rfl) | exact rfl); exact rfl))
      | ((with_reducible apply g_assign); first
        | ((with_reducible apply w_pure (v := .bool _)); exact rfl; exact rfl)))
    | with_reducible refine w_seq ?_
    | with_reducible refine w_nil ?_
    | with_reducible refine w_region ?_)
  refine w_rn (him _ _ _) (fun _ => rfl) ?_
  rintro _ g1 n1 ⟨o, rfl, ho, hfr, hn1⟩
  rw [own_ov ho]
  repeat' (first
    | ((with_reducible apply g_op); first
      | ((with_reducible apply g_move); first
        | ((with_reducible apply w_pure (v := .tuple _)); exact rfl; exact rfl))
      | ((with_reducible apply g_assign); first
        | ((with_reducible apply w_pure (v := .int _ _)); exact rfl; exact rfl))
      | ((with_reducible apply g_store); first
        | ((with_reducible apply w_store (us := [_, _, _]) (ws := [_, _, _])); exact rfl; exact rfl; (first | assumption | (simp (disch := omega) only [upd_same, upd_ne]; first | done | assumption | exact rfl) | exact rfl); omega; exact rfl; exact rfl; exact rfl))
      | ((with_reducible apply w_alloc (ls := [_, _, _])); exact rfl; exact rfl)
      | ((with_reducible apply w_pure (v := .int _ _)); exact rfl; exact rfl)
      | ((with_reducible apply w_pure (v := .agg _)); exact rfl; exact rfl))
    | with_reducible refine w_seq ?_
    | with_reducible refine w_nil ?_
    | with_reducible refine w_region ?_
    | with_reducible refine w_block ?_)
  have hall := ch_ok hch.1 (by omega) (by omega) (by omega) (by omega)
  obtain ⟨SP, hSP⟩ : ∃ SP, spanGo l 0 = SP := ⟨_, rfl⟩
  have hlen := hch.2
  refine w_rngK [(2, 2), (6, 10), (17, 73)] l (fun i rest (b : Int × Int × Int) σ g' n' => σ 7 = .int .i64 (i : Nat) ∧ σ 6 = .int .i64 b.1 ∧ g' n1 = some (.cells 24 [.int .i64 k, .int .i64 e, .slice (raOf o) l.length l.length]) ∧ Own g' (n + 1) n1 43 Sg.c o l ∧ n1 < n' ∧ Ch rest b.2.1 b.2.2 z ∧ (0 ≤ b.1 ∧ b.1 ≤ b.2.1 ∧ b.2.1 ≤ 4 * i) ∧ spanGo rest (b.1 * 64) = SP) ?_ ?_ (0, 0, 1024) ⟨rfl, rfl, upd_same, ho.later (Nat.le_refl _) (fun j h1 h2 => by simp (disch := omega) only [upd_ne]), by omega, hch.1, by simp, hSP⟩
  · rintro i s rest ⟨en, pg, off⟩ σ g2 n2 hx hlt ⟨k7, k6, hg, how, hn, hc, hb, hsp⟩ ih
    dsimp only at k6 hc hb hsp
    have hrow := own_row how
    have hok := hall s (List.mem_of_getElem? hx)
    obtain ⟨ii, p, q1, q2, q3⟩ := hc
    have f1 : firstS s = pg := by unfold firstS; omega
    have f2 : s.ad + s.me ≤ lastS s * 64 ∧ (lastS s - 1) * 64 < s.ad + s.me ∧ pg ≤ lastS s ∧ lastS s ≤ pg + p := by unfold lastS; omega
    refine w_keep (i := 7) k7 (w_keep (i := 6) k6 ?_)
    repeat' (first
      | ((with_reducible apply g_op); first
        | ((with_reducible apply g_load); first
          | ((with_reducible apply w_load (v := .slice _ _ _)); exact rfl; (first | assumption | (simp (disch := omega) only [upd_same, upd_ne]; first | done | assumption | exact rfl) | exact rfl); exact rfl))
        | ((with_reducible apply g_move); first
          | ((with_reducible apply w_pure (v := .int _ _)); exact rfl; exact rfl))
        | ((with_reducible apply g_bin); first
          | ((with_reducible apply w_pure (v := .bool _)); exact rfl; exact rfl))
        | ((with_reducible apply g_fld); first
          | ((with_reducible apply w_fldp (o := 2)); exact rfl; exact rfl; exact rfl; exact (by decide)))
        | ((with_reducible apply g_call); first
          | ((with_reducible apply w_call (v := .int _ _)); exact rfl))
        | ((with_reducible apply g_ix); first
          | ((with_reducible apply w_ix (sz := 7)); exact rfl; exact rfl; exact rfl; exact rfl; exact (by decide); exact rfl; assumption; exact (fun _ => rfl); assumption; omega)))
      | with_reducible refine w_seq ?_
      | with_reducible refine w_nil ?_
      | with_reducible refine w_region ?_
      | with_reducible refine w_skip ?_
      | with_reducible refine w_block ?_
      | ((with_reducible apply w_ifd); exact rfl; all_goals (intro hc; first | (exfalso; omega) | skip)))
    refine w_ld (enc := Sg.c) (v := .agg #[.int .i64 s.ty, .int .i64 s.fl, .int .i64 s.off, .int .i64 s.ad, .int .i64 s.sz, .int .i64 s.me, .int .i64 s.al]) rfl hrow (fun _ => rfl) hx (by decide) rfl ?_
    repeat' (first
      | ((with_reducible apply g_op); first
        | ((with_reducible apply g_load); first
          | ((with_reducible apply w_load (v := .agg #[_, _, _, _, _, _, _])); exact rfl; (first | assumption | (simp (disch := omega) only [upd_same, upd_ne]; first | done | assumption | exact rfl) | exact rfl); exact rfl))
        | ((with_reducible apply g_store); first
          | ((with_reducible apply w_store (us := [_, _, _, _, _, _, _]) (ws := [_, _, _, _, _, _, _])); exact rfl; exact rfl; (first | assumption | (simp (disch := omega) only [upd_same, upd_ne]; first | done | assumption | exact rfl) | exact rfl); omega; exact rfl; exact rfl; exact rfl))
        | ((with_reducible apply w_alloc (ls := [_, _, _, _, _, _, _])); exact rfl; exact rfl))
      | with_reducible refine w_seq ?_
      | with_reducible refine w_nil ?_
      | with_reducible refine w_region ?_)
    refine w_rq (pages_run s hok _ _ _) (fun _ => rfl) ?_
    rintro _ rfl
    repeat' (first
      | ((with_reducible apply g_op); first
        | ((with_reducible apply g_load); first
          | ((with_reducible apply w_load (v := .int _ _)); exact rfl; (first | assumption | (simp (disch := omega) only [upd_same, upd_ne]; first | done | assumption | exact rfl) | exact rfl); exact rfl))
        | ((with_reducible apply g_move); first
          | ((with_reducible apply w_pure (v := .int _ _)); exact rfl; exact rfl)
          | ((with_reducible apply w_pure (v := .bool _)); exact rfl; exact rfl)
          | ((with_reducible apply w_pure (v := .tuple _)); exact rfl; exact rfl))
        | ((with_reducible apply g_bin); first
          | ((with_reducible apply w_wrap); exact rfl; exact rfl; first | exact i64_in _ (by omega) | exact u64_in _ (by omega) | exact u8_in _ (by omega))
          | ((with_reducible apply w_pure (v := .bool _)); exact rfl; exact rfl))
        | ((with_reducible apply g_fld); first
          | ((with_reducible apply w_fldp (o := 3)); exact rfl; exact rfl; exact rfl; exact (by decide))
          | ((with_reducible apply w_fldp (o := 5)); exact rfl; exact rfl; exact rfl; exact (by decide)))
        | ((with_reducible apply g_pick); first
          | ((with_reducible apply w_pk0 (v := .bool _)); exact rfl; exact rfl; (first | assumption | exact decide_eq_true (by assumption) | exact decide_eq_false (by assumption) | exact decide_eq_true (by omega) | exact decide_eq_false (by omega) | exact beq_iff_eq.2 (by omega) | exact beq_eq_false_iff_ne.2 (by omega) | exact bne_iff_ne.2 (by omega) | exact bne_eq_false_iff_eq.2 (by omega))))
        | ((with_reducible apply g_assign); first
          | ((with_reducible apply w_pure (v := .int _ _)); exact rfl; exact rfl))
        | ((with_reducible apply w_pure (v := .int _ _)); exact rfl; exact rfl))
      | ((with_reducible apply g_gd); first
        | ((with_reducible apply w_gd_f); exact rfl; all_goals (intro hc; first | (exfalso; omega) | skip)))
      | with_reducible refine w_seq ?_
      | with_reducible refine w_nil ?_
      | with_reducible refine w_region ?_
      | with_reducible refine w_skip ?_
      | with_reducible refine w_blk ?_
      | ((with_reducible apply w_ifd); exact rfl; all_goals (intro hc; first | (exfalso; omega) | skip)))
    all_goals first | (exfalso; omega) | skip
    simp only [spanGo] at hsp
    rw [if_pos q2.1] at hsp
    exact ih (lastS s, pg + p, off + p * 64) _ _ _ (by repeat' (first | with_reducible exact Fr.mix | with_reducible exact Fr.rfl' | with_reducible refine Fr.put ?_ ?_ | with_reducible refine Fr.mix2 ?_ ?_ | with_reducible refine Fr.put0 ?_ | exact rfl)) ⟨by push_cast; rfl, rfl, by simp (disch := omega) only [upd_ne]; exact hg, how.later (Nat.le_refl _) (fun j h1 h2 => by simp (disch := omega) only [upd_ne]), by omega, q3, by dsimp only; push_cast; omega, hsp⟩
  · rintro ⟨en, pg, off⟩ σ g2 n2 ⟨k7, k6, hg, how, hn, hc, hb, hsp⟩
    dsimp only at k6 hc hb hsp
    refine w_keep (i := 7) k7 (w_keep (i := 6) k6 ?_)
    have hfz := how.fz (k := 6) (lo' := 0) (tg := tg) (P := Try.prog) (by omega) rfl (by decide) (fun _ => rfl) (sn_plains (Sg.plains _))
    rw [own_ov how] at hfz
    have hsp : en * 64 = SP := hsp
    repeat' (first
      | ((with_reducible apply g_op); first
        | ((with_reducible apply g_load); first
          | ((with_reducible apply w_load (v := .slice _ _ _)); exact rfl; (first | assumption | (simp (disch := omega) only [upd_same, upd_ne]; first | done | assumption | exact rfl) | exact rfl); exact rfl)
          | ((with_reducible apply w_load (v := .agg #[_, _, _])); exact rfl; (first | assumption | (simp (disch := omega) only [upd_same, upd_ne]; first | done | assumption | exact rfl) | exact rfl); exact rfl))
        | ((with_reducible apply g_move); first
          | ((with_reducible apply w_pure (v := .int _ _)); exact rfl; exact rfl)
          | ((with_reducible apply w_pure (v := .bool _)); exact rfl; exact rfl))
        | ((with_reducible apply g_bin); first
          | ((with_reducible apply w_pure (v := .bool _)); exact rfl; exact rfl))
        | ((with_reducible apply g_fld); first
          | ((with_reducible apply w_fldp (o := 2)); exact rfl; exact rfl; exact rfl; exact (by decide)))
        | ((with_reducible apply g_call); first
          | ((with_reducible apply w_call (v := .int _ _)); exact rfl)))
      | ((with_reducible apply g_gd); first
        | ((with_reducible apply w_want); exact rfl))
      | with_reducible refine w_seq ?_
      | with_reducible refine w_nil ?_
      | with_reducible refine w_region ?_
      | ((with_reducible apply w_exit); exact rfl)
      | ((with_reducible apply w_ifd); exact rfl; all_goals (intro hc; first | (exfalso; omega) | skip)))
    refine w_rf (span_run l k e (by omega) hall) (fun _ => rfl) (sn_cons (sn_agg (l := [_, _, _]) (sn_cons (sn_plain rfl) (sn_cons (sn_plain rfl) (sn_cons hfz sn_nil)))) sn_nil) ?_
    rintro _ rfl
    rw [hSP]
    repeat' (first
      | ((with_reducible apply g_op); first
        | ((with_reducible apply g_move); first
          | ((with_reducible apply w_pure (v := .int _ _)); exact rfl; exact rfl))
        | ((with_reducible apply g_bin); first
          | ((with_reducible apply w_wrap); exact rfl; exact rfl; first | exact i64_in _ (by omega) | exact u64_in _ (by omega) | exact u8_in _ (by omega))
          | ((with_reducible apply w_pure (v := .bool _)); exact rfl; exact rfl))
        | ((with_reducible apply g_assign); first
          | ((with_reducible apply w_pure (v := .bool _)); exact rfl; exact rfl))
        | ((with_reducible apply w_pure (v := .bool _)); exact rfl; exact rfl))
      | ((with_reducible apply g_gd); first
        | ((with_reducible apply w_want); exact rfl))
      | with_reducible refine w_nil ?_
      | ((with_reducible apply w_ret (v := .bool _)); exact rfl))
    all_goals first | exact congrArg Value.bool (beq_iff_eq.2 (by omega)) | exact congrArg Value.bool (decide_eq_true (by omega)) | rfl | (exfalso; omega)
abbrev P3 := Int × Int × List Q4
theorem proved (x0 : P3) {q : Prop} (w0 : q) : Rn Try.prog tab 6 [.agg ((kPair (kInt .i64) (kPair (kInt .i64) (kList (kPair (kInt .i64) (kPair (kInt .i64) (kPair (kInt .i64) (kInt .i64))))))).enc x0).toArray] (fun _ => none) 0 0 (fun v _ _ => v = .bool true) := walk x0.1 x0.2.1 x0.2.2 _ 0
end Go.Proofs.Ytohfbnpmhlpkhaa.L.ElfPages

