/- ElfAny: walked, and its plain law. -/
import Derived.Test.Ytohfbnpmhlpkhaac08Z
import Derived.Test.YtohfbnpmhlpkhaaL1U
namespace Go.Proofs.Ytohfbnpmhlpkhaa.L.ElfAny
open Go.L1 Go.IntWalk Go.Proofs.Ytohfbnpmhlpkhaa.L Oct
set_option linter.unusedVariables false
set_option linter.unusedSimpArgs false
set_option maxHeartbeats 4000000
set_option maxRecDepth 20000
def tab : Tb := L.T
theorem tabok : ∀ C : Cx, C.P = Try.prog → TbOk C tab := L.tabok
def bys (s : ByteArray) : List Int := s.data.toList.map fun c => (c.toNat : Int)
theorem bys_len (s : ByteArray) : (bys s).length = s.size := by unfold bys; rw [List.length_map, size_list]
theorem bys_at (s : ByteArray) (i : Nat) : (bys s).getD i 0 = bt s i := by
  unfold bys bt
  rw [List.getD_eq_getElem?_getD, List.getD_eq_getElem?_getD, List.getElem?_map]
  cases s.data.toList[i]? <;> rfl
theorem set_bt (s : ByteArray) (P : Nat) (c : Int) (hc : 0 ≤ c ∧ c ≤ 255) (i : Nat) (hi : i < s.size) (hne : i ≠ P) : bt (nums ((bys s).set P c)) i = bt s i := by
  have e : ((bys s).set P c).getD i 0 = bt s i := by
    rw [← bys_at, List.getD_eq_getElem?_getD, List.getD_eq_getElem?_getD, List.getElem?_set_ne (fun h => hne h.symm)]
  rw [nums_bt _ i (by rw [List.length_set, bys_len]; exact hi) (by rw [e]; exact bt_range s i), e]
theorem like_set {s h : ByteArray} (hl : likeS s h = true) (P : Nat) (c : Int) (hc : 0 ≤ c ∧ c ≤ 255) (hP : anyB P = true) : likeS (nums ((bys s).set P c)) h = true := by
  have hl := of_decide_eq_true hl
  refine decide_eq_true ⟨by rw [nums_size, List.length_set, bys_len]; exact hl.1, fun i hi => ?_⟩
  by_cases hne : i = P
  · subst hne; exact .inr hP
  · rw [set_bt s P c hc i (by omega) hne]; exact hl.2 i hi
theorem like_fill {h : ByteArray} {Z : Int} (hz : (h.size : Int) ≤ Z) : likeS (fillV h Z) h = true ∧ ((fillV h Z).size : Int) = Z := by
  unfold fillV
  by_cases hc : (h.size : Int) ≥ max Z 0
  · rw [if_pos hc]
    have e : (h.extract 0 (max Z 0).toNat).size = h.size := by rw [ByteArray.size_extract]; omega
    refine ⟨decide_eq_true ⟨by omega, fun i hi => .inl ?_⟩, by omega⟩
    rw [part_bt _ _ _ _ (by omega), Nat.zero_add]
  · rw [if_neg hc]
    have hs : (h ++ zeroB ((max Z 0).toNat - h.size)).size = h.size + ((max Z 0).toNat - h.size) := by rw [ByteArray.size_append, zeroB_size]
    exact ⟨like_app _ _, by omega⟩
theorem any_in (k P : Nat) (h : (k < 12 ∧ P = 40 + k) ∨ (12 ≤ k ∧ k < 18 ∧ P = 58 + k - 12) ∨ (18 ≤ k ∧ P = 64 + 56 * ((k - 18) / 8) + 24 + (k - 18) % 8)) : anyB P = true := by
  unfold anyB
  rcases h with ⟨h1, rfl⟩ | ⟨h1, h2, rfl⟩ | ⟨h1, rfl⟩
  · rw [if_pos (by omega)]; exact decide_eq_true (by omega)
  · rw [if_pos (by omega)]; exact decide_eq_true (by omega)
  · rw [if_neg (by omega)]; exact decide_eq_true (by omega)
theorem walk (kind entry : Int) (L : List Q4) (at_ c : Int) (hc : 0 ≤ c ∧ c ≤ 255) (g : Nat → Option Ob) (n : Nat) : Rn Try.prog T 9 [.agg #[.int .i64 kind, .int .i64 entry, fz tg L.length (L.flatMap Q4c)], .int .i64 at_, .int .u8 c] g n n (fun v _ _ => v = .bool true) := by
  refine c_open Try.func9 rfl rfl rfl rfl rfl rfl ?_
  have hch := imgS_ch kind entry L
  have him := image_run kind entry L
  have hent := fun k e s r z => @imgS_ent kind entry L k e s r z
  generalize imgS kind entry L = I at hch him hent
  obtain ⟨⟨k, e, l⟩, z⟩ := I
  dsimp only at hch him
  have hz1 := ch_le hch.1
  have hz2 := ch_top hch.1
  have hl4 := hch.2
  obtain ⟨Z, rfl⟩ : ∃ Z : Nat, z = (Z : Int) := ⟨z.toNat, by omega⟩
  repeat' (first
    | ((with_reducible apply g_op); first
      | ((with_reducible apply g_assign); first
        | ((with_reducible apply w_pure (v := .bool _)); exact rfl; exact rfl))
      | ((with_reducible apply g_box); first
        | ((with_reducible apply w_box (vs := [_, _, _])); exact rfl; exact rfl)))
    | with_reducible refine w_seq ?_
    | with_reducible refine w_nil ?_
    | with_reducible refine w_region ?_)
  refine w_rf awake_run (fun _ => rfl) sn_nil ?_
  rintro _ rfl
  repeat' (first
    | ((with_reducible apply g_op); first
      | ((with_reducible apply g_load); first
        | ((with_reducible apply w_load (v := .agg #[_, _, _])); exact rfl; (first | assumption | (simp (disch := omega) only [upd_same, upd_ne]; first | done | assumption | exact rfl) | exact rfl); exact rfl))
      | ((with_reducible apply g_assign); first
        | ((with_reducible apply w_pure (v := .bool _)); exact rfl; exact rfl)))
    | with_reducible refine w_seq ?_
    | with_reducible refine w_nil ?_
    | with_reducible refine w_region ?_)
  refine w_rn (him _ _ _) (fun _ => rfl) ?_
  rintro _ g1 n1 ⟨o, rfl, ho, hfr, hn1⟩
  rw [own_ov ho]
  cases l with
  | nil =>
    repeat' (first
      | ((with_reducible apply g_op); first
        | ((with_reducible apply g_load); first
          | ((with_reducible apply w_load (v := .slice _ _ _)); exact rfl; (first | assumption | (simp (disch := omega) only [upd_same, upd_ne]; first | done | assumption | exact rfl) | exact rfl); exact rfl))
        | ((with_reducible apply g_move); first
          | ((with_reducible apply w_pure (v := .int _ _)); exact rfl; exact rfl)
          | ((with_reducible apply w_pure (v := .bool _)); exact rfl; exact rfl)
          | ((with_reducible apply w_pure (v := .tuple _)); exact rfl; exact rfl))
        | ((with_reducible apply g_bin); first
          | ((with_reducible apply w_pure (v := .bool _)); exact rfl; exact rfl))
        | ((with_reducible apply g_fld); first
          | ((with_reducible apply w_fldp (o := 2)); exact rfl; exact rfl; exact rfl; exact (by decide)))
        | ((with_reducible apply g_assign); first
          | ((with_reducible apply w_pure (v := .int _ _)); exact rfl; exact rfl)
          | ((with_reducible apply w_pure (v := .bool _)); exact rfl; exact rfl))
        | ((with_reducible apply g_call); first
          | ((with_reducible apply w_call (v := .int _ _)); exact rfl))
        | ((with_reducible apply g_store); first
          | ((with_reducible apply w_store (us := [_, _, _]) (ws := [_, _, _])); exact rfl; exact rfl; (first | assumption | (simp (disch := omega) only [upd_same, upd_ne]; first | done | assumption | exact rfl) | exact rfl); omega; exact rfl; exact rfl; exact rfl))
        | ((with_reducible apply w_alloc (ls := [_, _, _])); exact rfl; exact rfl)
        | ((with_reducible apply w_pure (v := .int _ _)); exact rfl; exact rfl)
        | ((with_reducible apply w_pure (v := .agg _)); exact rfl; exact rfl))
      | with_reducible refine w_seq ?_
      | with_reducible refine w_nil ?_
      | with_reducible refine w_region ?_
      | ((with_reducible apply w_yes); exact rfl)
      | ((with_reducible apply w_ret (v := .bool _)); exact rfl))
    all_goals rfl
  | cons s r =>
    have hl0 : ((s :: r).length : Int) ≥ 1 := by rw [List.length_cons]; push_cast; omega
    have hen := hent k e s r Z rfl
    have hok := okS_img hch.1 hl4 hen
    have hfine := fine_img hch.1 hl4 hen
    have hrg := fine_rg hfine
    repeat' (first
      | ((with_reducible apply g_op); first
        | ((with_reducible apply g_load); first
          | ((with_reducible apply w_load (v := .slice _ _ _)); exact rfl; (first | assumption | (simp (disch := omega) only [upd_same, upd_ne]; first | done | assumption | exact rfl) | exact rfl); exact rfl)
          | ((with_reducible apply w_load (v := .agg #[_, _, _])); exact rfl; (first | assumption | (simp (disch := omega) only [upd_same, upd_ne]; first | done | assumption | exact rfl) | exact rfl); exact rfl))
        | ((with_reducible apply g_move); first
          | ((with_reducible apply w_pure (v := .int _ _)); exact rfl; exact rfl)
          | ((with_reducible apply w_pure (v := .tuple _)); exact rfl; exact rfl))
        | ((with_reducible apply g_bin); first
          | ((with_reducible apply w_pure (v := .bool _)); exact rfl; exact rfl))
        | ((with_reducible apply g_fld); first
          | ((with_reducible apply w_fldp (o := 2)); exact rfl; exact rfl; exact rfl; exact (by decide)))
        | ((with_reducible apply g_assign); first
          | ((with_reducible apply w_pure (v := .int _ _)); exact rfl; exact rfl))
        | ((with_reducible apply g_call); first
          | ((with_reducible apply w_call (v := .int _ _)); exact rfl))
        | ((with_reducible apply g_store); first
          | ((with_reducible apply w_store (us := [_, _, _]) (ws := [_, _, _])); exact rfl; exact rfl; (first | assumption | (simp (disch := omega) only [upd_same, upd_ne]; first | done | assumption | exact rfl) | exact rfl); omega; exact rfl; exact rfl; exact rfl))
        | ((with_reducible apply w_alloc (ls := [_, _, _])); exact rfl; exact rfl)
        | ((with_reducible apply w_pure (v := .int _ _)); exact rfl; exact rfl)
        | ((with_reducible apply w_pure (v := .agg _)); exact rfl; exact rfl))
      | with_reducible refine w_seq ?_
      | with_reducible refine w_nil ?_
      | with_reducible refine w_region ?_
      | with_reducible refine w_skip ?_
      | ((with_reducible apply w_no); exact rfl))
    have how : Own g1 (n + 1) n1 43 Sg.c o (s :: r) := ho
    refine w_rf (head_run ⟨k, e, s :: r⟩ hrg (by dsimp only; omega)) (fun _ => rfl) (sn_cons (sn_agg (l := [_, _, _]) (sn_cons (sn_plain rfl) (sn_cons (sn_plain rfl) (sn_cons (by rw [← own_ov how]; exact (how.later (Nat.le_refl _) (fun j h1 h2 => by first | rfl | simp (disch := omega) only [upd_ne])).fz (k := 6) (lo' := 0) (tg := tg) (P := Try.prog) (by omega) rfl (by decide) (fun _ => rfl) (sn_plains (Sg.plains _))) sn_nil)))) sn_nil) ?_
    rintro _ rfl
    have hHz := headS_size ⟨k, e, s :: r⟩
    dsimp only at hHz
    obtain ⟨H, hHe⟩ : ∃ H, H = headS ⟨k, e, s :: r⟩ := ⟨_, rfl⟩
    rw [← hHe] at hHz ⊢
    obtain ⟨G, hG⟩ : ∃ G, G = upd (upd g1 n1 (some (Ob.cells 24 [Value.int .i64 0, Value.int .i64 0, Value.slice none 0 0]))) n1 (some (Ob.cells 24 [Value.int .i64 k, Value.int .i64 e, Value.slice (raOf o) (s :: r).length (s :: r).length])) := ⟨_, rfl⟩
    rw [← hG]
    have hq : G n1 = some (Ob.cells 24 [Value.int .i64 k, Value.int .i64 e, Value.slice (raOf o) (s :: r).length (s :: r).length]) := by rw [hG]; exact upd_same
    have how : Own G (n + 1) n1 43 Sg.c o (s :: r) := by rw [hG]; exact ho.later (Nat.le_refl _) (fun j h1 h2 => by simp (disch := omega) only [upd_ne])
    clear hG
    repeat' (first
      | ((with_reducible apply g_op); first
        | ((with_reducible apply g_move); first
          | ((with_reducible apply w_pure (v := .int _ _)); exact rfl; exact rfl))))
    refine w_rq (rfill_run H Z (by omega) (by omega) _ _ _) (fun _ => rfl) ?_
    rintro _ rfl
    obtain ⟨hlk, hfz⟩ := like_fill (h := H) (Z := (Z : Int)) (by omega)
    generalize fillV H (Z : Int) = F at hlk hfz ⊢
    repeat' (first
      | fail)
    refine w_s2b rfl rfl rfl rfl rfl ?_
    have hll := bys_len F
    rw [show (F.data.toList.map fun c => Value.int .u8 c.toNat) = (bys F).map (Value.int .u8) by unfold bys; rw [List.map_map]; rfl]
    have hlk2 := fun P hP => like_set hlk P c hc hP
    have hta := tmod_in at_ (c := 18 + 8 * ((s :: r).length : Int)) (by omega)
    have hem1 := Int.emod_nonneg (at_.tmod (18 + 8 * ((s :: r).length : Int)) + 18 + 8 * ((s :: r).length : Int)) (show 18 + 8 * ((s :: r).length : Int) ≠ 0 by omega)
    have hem2 := Int.emod_lt_of_pos (at_.tmod (18 + 8 * ((s :: r).length : Int)) + 18 + 8 * ((s :: r).length : Int)) (show 0 < 18 + 8 * ((s :: r).length : Int) by omega)
    repeat' (first
      | ((with_reducible apply g_op); first
        | ((with_reducible apply g_move); first
          | ((with_reducible apply w_pure (v := .int _ _)); exact rfl; exact rfl)
          | ((with_reducible apply w_pure (v := .slice _ _ _)); exact rfl; exact rfl))
        | ((with_reducible apply g_bin); first
          | ((with_reducible apply w_mod); exact rfl; exact rfl; exact rfl; exact rfl; exact rfl; omega; omega)
          | ((with_reducible apply w_div); exact rfl; exact rfl; exact rfl; exact rfl; exact rfl; omega; omega; omega)
          | ((with_reducible apply w_wrap); exact rfl; exact rfl; first | exact i64_in _ (by omega) | exact u64_in _ (by omega) | exact u8_in _ (by omega))
          | ((with_reducible apply w_pure (v := .bool _)); exact rfl; exact rfl)
          | ((with_reducible apply w_pure (v := .int _ _)); exact rfl; exact rfl))
        | ((with_reducible apply g_assign); first
          | ((with_reducible apply w_pure (v := .int _ _)); exact rfl; exact rfl)
          | ((with_reducible apply w_pure (v := .slice _ _ _)); exact rfl; exact rfl))
        | ((with_reducible apply g_call); first
          | ((with_reducible apply w_call (v := .int _ _)); exact rfl))
        | ((with_reducible apply g_ix); first
          | ((with_reducible apply w_ixr (sz := 1)); exact rfl; exact rfl; exact rfl; exact rfl; omega; omega)))
      | with_reducible refine w_seq ?_
      | with_reducible refine w_nil ?_
      | with_reducible refine w_region ?_
      | with_reducible refine w_skip ?_
      | ((with_reducible apply w_ifd); exact rfl; all_goals (intro hc; first | (exfalso; omega) | skip)))
    all_goals refine w_st1 (i := n1 + 1) (v := .int .u8 c) rfl rfl rfl rfl upd_same (by omega) rfl (by rw [List.length_map, hll]; omega) ?_
    all_goals rw [← List.map_set]
    all_goals repeat' (first
                | ((with_reducible apply g_op); first
                  | ((with_reducible apply g_move); first
                    | ((with_reducible apply w_pure (v := .slice _ _ _)); exact rfl; exact rfl)))
                | with_reducible refine w_seq ?_
                | with_reducible refine w_nil ?_
                | with_reducible refine w_region ?_)
    all_goals refine w_b2s (ns := (bys F).set _ c) rfl rfl rfl rfl upd_same (rd_all (by rw [List.length_map, List.length_set, hll])) ?_
    all_goals first | (obtain ⟨S, hS1, hS2, hSe⟩ : ∃ S : ByteArray, likeS S H = true ∧ S.size = Z ∧ nums ((bys F).set (0 + (40 + ((at_.tmod (18 + 8 * ((s :: r).length : Int)) + 18 + 8 * ((s :: r).length : Int)) % (18 + 8 * ((s :: r).length : Int)))).toNat * 1) c) = S := ⟨_, hlk2 _ (any_in (((at_.tmod (18 + 8 * ((s :: r).length : Int)) + 18 + 8 * ((s :: r).length : Int)) % (18 + 8 * ((s :: r).length : Int)))).toNat _ (by omega)), by rw [nums_size, List.length_set, hll]; omega, rfl⟩; rw [hSe]) | (obtain ⟨S, hS1, hS2, hSe⟩ : ∃ S : ByteArray, likeS S H = true ∧ S.size = Z ∧ nums ((bys F).set (0 + (58 + ((at_.tmod (18 + 8 * ((s :: r).length : Int)) + 18 + 8 * ((s :: r).length : Int)) % (18 + 8 * ((s :: r).length : Int))) - 12).toNat * 1) c) = S := ⟨_, hlk2 _ (any_in (((at_.tmod (18 + 8 * ((s :: r).length : Int)) + 18 + 8 * ((s :: r).length : Int)) % (18 + 8 * ((s :: r).length : Int)))).toNat _ (by omega)), by rw [nums_size, List.length_set, hll]; omega, rfl⟩; rw [hSe]) | (obtain ⟨S, hS1, hS2, hSe⟩ : ∃ S : ByteArray, likeS S H = true ∧ S.size = Z ∧ nums ((bys F).set (0 + (64 + 56 * ((((at_.tmod (18 + 8 * ((s :: r).length : Int)) + 18 + 8 * ((s :: r).length : Int)) % (18 + 8 * ((s :: r).length : Int))) - 18) / 8) + 24 + (((at_.tmod (18 + 8 * ((s :: r).length : Int)) + 18 + 8 * ((s :: r).length : Int)) % (18 + 8 * ((s :: r).length : Int))) - 18) % 8).toNat * 1) c) = S := ⟨_, hlk2 _ (any_in (((at_.tmod (18 + 8 * ((s :: r).length : Int)) + 18 + 8 * ((s :: r).length : Int)) % (18 + 8 * ((s :: r).length : Int)))).toNat _ (by omega)), by rw [nums_size, List.length_set, hll]; omega, rfl⟩; rw [hSe])
    all_goals repeat' (first
                | fail)
    all_goals refine w_rf (parse_run S (by omega)) (fun _ => rfl) (sn_plains rfl) ?_
    all_goals rintro _ rfl
    all_goals rw [parse_back hfine (by rw [← hHe]; exact hS1), hS2, if_pos hok]
    all_goals dsimp only
    all_goals simp only [Im.v]
    all_goals repeat' (first
                | ((with_reducible apply g_op); first
                  | ((with_reducible apply g_load); first
                    | ((with_reducible apply w_load (v := .agg #[_, _, _])); exact rfl; (first | assumption | (simp (disch := omega) only [upd_same, upd_ne]; first | done | assumption | exact rfl) | exact rfl); exact rfl))
                  | ((with_reducible apply g_move); first
                    | ((with_reducible apply w_pure (v := .int _ _)); exact rfl; exact rfl)
                    | ((with_reducible apply w_pure (v := .bool _)); exact rfl; exact rfl)
                    | ((with_reducible apply w_pure (v := .tuple _)); exact rfl; exact rfl))
                  | ((with_reducible apply g_bin); first
                    | ((with_reducible apply w_pure (v := .bool _)); exact rfl; exact rfl))
                  | ((with_reducible apply g_assign); first
                    | ((with_reducible apply w_pure (v := .int _ _)); exact rfl; exact rfl))
                  | ((with_reducible apply g_store); first
                    | ((with_reducible apply w_store (us := [_, _, _]) (ws := [_, _, _])); exact rfl; exact rfl; (first | assumption | (simp (disch := omega) only [upd_same, upd_ne]; first | done | assumption | exact rfl) | exact rfl); omega; exact rfl; exact rfl; exact rfl))
                  | ((with_reducible apply w_alloc (ls := [_, _, _])); exact rfl; exact rfl)
                  | ((with_reducible apply w_pure (v := .int _ _)); exact rfl; exact rfl)
                  | ((with_reducible apply w_pure (v := .bool _)); exact rfl; exact rfl)
                  | ((with_reducible apply w_pure (v := .agg _)); exact rfl; exact rfl))
                | ((with_reducible apply g_gd); first
                  | ((with_reducible apply w_want); exact rfl))
                | with_reducible refine w_seq ?_
                | with_reducible refine w_nil ?_
                | with_reducible refine w_region ?_)
    all_goals refine w_rf (same_run ⟨k, e, s :: r⟩ ⟨k, e, s :: r⟩ (by dsimp only; omega)) (fun _ => rfl) (sn_cons (sn_agg (l := [_, _, _]) (sn_cons (sn_plain rfl) (sn_cons (sn_plain rfl) (sn_cons (by rw [← own_ov how]; exact (how.later (Nat.le_refl _) (fun j h1 h2 => by first | rfl | simp (disch := omega) only [upd_ne])).fz (k := 6) (lo' := 0) (tg := tg) (P := Try.prog) (by omega) rfl (by decide) (fun _ => rfl) (sn_plains (Sg.plains _))) sn_nil)))) (sn_cons (im_sn (x := ⟨k, e, s :: r⟩)) sn_nil)) ?_
    all_goals rintro _ rfl
    all_goals rw [sameI_iff.2 rfl]
    all_goals repeat' (first
                | ((with_reducible apply g_op); first
                  | ((with_reducible apply g_pick); first
                    | ((with_reducible apply w_pk1 (v := .bool _)); exact rfl; exact rfl; (first | assumption | exact decide_eq_true (by assumption) | exact decide_eq_false (by assumption) | exact decide_eq_true (by omega) | exact decide_eq_false (by omega) | exact beq_iff_eq.2 (by omega) | exact beq_eq_false_iff_ne.2 (by omega) | exact bne_iff_ne.2 (by omega) | exact bne_eq_false_iff_eq.2 (by omega))))
                  | ((with_reducible apply g_assign); first
                    | ((with_reducible apply w_pure (v := .bool _)); exact rfl; exact rfl)))
                | with_reducible refine w_nil ?_
                | ((with_reducible apply w_ret (v := .bool _)); exact rfl))
    all_goals rfl
theorem wfI_u8 {n : Int} (h : wfI .u8 n) : 0 ≤ n ∧ n ≤ 255 := by
  unfold wfI at h
  simp only [Lit.wf, IntKind.min, IntKind.max, IntKind.signed, IntKind.bits, Bool.and_eq_true, decide_eq_true_eq, if_true, Bool.false_eq_true, if_false] at h
  omega
abbrev P3 := Int × Int × List Q4
theorem proved (x0 : P3) (x1 x2 : Int) {p q : Prop} (w0 : p) (w1 : q) (w2 : wfI .u8 x2) : Rn Try.prog tab 9 [.agg ((kPair (kInt .i64) (kPair (kInt .i64) (kList (kPair (kInt .i64) (kPair (kInt .i64) (kPair (kInt .i64) (kInt .i64))))))).enc x0).toArray, .int .i64 x1, .int .u8 x2] (fun _ => none) 0 0 (fun v _ _ => v = .bool true) := walk x0.1 x0.2.1 x0.2.2 x1 x2 (wfI_u8 w2) _ 0
end Go.Proofs.Ytohfbnpmhlpkhaa.L.ElfAny

