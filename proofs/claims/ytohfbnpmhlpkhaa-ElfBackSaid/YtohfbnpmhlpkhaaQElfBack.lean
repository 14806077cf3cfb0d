/- ElfBack: walked, and its plain law. -/
import Derived.Test.Ytohfbnpmhlpkhaac08Z
import Derived.Test.YtohfbnpmhlpkhaaL1U
namespace Go.Proofs.Ytohfbnpmhlpkhaa.L.ElfBack
open Go.L1 Go.IntWalk Go.Proofs.Ytohfbnpmhlpkhaa.L Oct
set_option linter.unusedVariables false
set_option linter.unusedSimpArgs false
set_option maxHeartbeats 4000000
set_option maxRecDepth 20000
def tab : Tb := L.T
theorem tabok : ∀ C : Cx, C.P = Try.prog → TbOk C tab := L.tabok
theorem like_ext (h t : ByteArray) {Z : Nat} (h1 : h.size ≤ Z) (h2 : Z ≤ (h ++ t).size) : likeS ((h ++ t).extract 0 Z) h = true := by
  refine decide_eq_true ⟨by rw [ByteArray.size_extract]; omega, fun i hi => .inl ?_⟩
  rw [part_bt _ _ _ _ (by omega), Nat.zero_add]
  exact bt_app_l h t i hi
theorem like_ext2 {s h : ByteArray} (hl : likeS s h = true) {Z : Nat} (h1 : h.size ≤ Z) (h2 : Z ≤ s.size) : likeS (s.extract 0 Z) h = true := by
  have hl := of_decide_eq_true hl
  refine decide_eq_true ⟨by rw [ByteArray.size_extract]; omega, fun i hi => ?_⟩
  rw [part_bt _ _ _ _ (by omega), Nat.zero_add]
  exact hl.2 i hi
theorem okS_nil (k e z : Int) : okS ⟨k, e, []⟩ z = false := by
  unfold okS
  rw [decide_eq_false (by simp), Bool.false_and]
theorem okS_less {k e z : Int} {s : Sg} {r : List Sg} (h : z < s.off) (h1 : s.ty = 1) (h2 : 0 ≤ s.sz) : okS ⟨k, e, s :: r⟩ z = false := by
  have hseg : ¬ segS s z = true := by
    unfold segS
    rw [decide_eq_true_eq]
    omega
  unfold okS
  dsimp only
  rw [chk, if_neg hseg]
  exact Bool.and_false _
theorem walk (kind entry : Int) (L : List Q4) (bh : ByteArray) (hbh : bh.size ≤ 9223372036854775807) (g : Nat → Option Ob) (n : Nat) : Rn Try.prog T 8 [.agg #[.int .i64 kind, .int .i64 entry, fz tg L.length (L.flatMap Q4c)], .string bh] g n n (fun v _ _ => v = .bool true) := by
  refine c_open Try.func8 rfl rfl rfl rfl rfl rfl ?_
  have hch := imgS_ch kind entry L
  have him := image_run kind entry L
  have hent := fun k e s r z => @imgS_ent kind entry L k e s r z
  generalize imgS kind entry L = I at hch him hent
  obtain ⟨⟨k, e, l⟩, z⟩ := I
  dsimp only at hch him
  have hz1 := ch_le hch.1
  have hz2 := ch_top hch.1
  have hl4 := hch.2
  obtain ⟨Z, rfl⟩ : ∃ Z : Nat, z = (Z : Int) := ⟨z.toNat, by omega⟩
  repeat' (first
    | ((with_reducible apply g_op); first
      | ((with_reducible apply g_assign); first
        | ((with_reducible apply w_pure (v := .bool _)); exact rfl; exact rfl))
      | ((with_reducible apply g_box); first
        | ((with_reducible apply w_box (vs := [_, _, _])); exact rfl; exact rfl)))
    | with_reducible refine w_seq ?_
    | with_reducible refine w_nil ?_
    | with_reducible refine w_region ?_)
  refine w_rf awake_run (fun _ => rfl) sn_nil ?_
  rintro _ rfl
  repeat' (first
    | ((with_reducible apply g_op); first
      | ((with_reducible apply g_load); first
        | ((with_reducible apply w_load (v := .agg #[_, _, _])); exact rfl; (first | assumption | (simp (disch := omega) only [upd_same, upd_ne]; first | done | assumption | exact rfl) | exact rfl); exact rfl))
      | ((with_reducible apply g_assign); first
        | ((with_reducible apply w_pure (v := .bool _)); exact rfl; exact rfl)))
    | with_reducible refine w_seq ?_
    | with_reducible refine w_nil ?_
    | with_reducible refine w_region ?_)
  refine w_rn (him _ _ _) (fun _ => rfl) ?_
  rintro _ g1 n1 ⟨o, rfl, ho, hfr, hn1⟩
  rw [own_ov ho]
  cases l with
  | nil =>
    repeat' (first
      | ((with_reducible apply g_op); first
        | ((with_reducible apply g_load); first
          | ((with_reducible apply w_load (v := .slice _ _ _)); exact rfl; (first | assumption | (simp (disch := omega) only [upd_same, upd_ne]; first | done | assumption | exact rfl) | exact rfl); exact rfl)
          | ((with_reducible apply w_load (v := .agg #[_, _, _])); exact rfl; (first | assumption | (simp (disch := omega) only [upd_same, upd_ne]; first | done | assumption | exact rfl) | exact rfl); exact rfl))
        | ((with_reducible apply g_move); first
          | ((with_reducible apply w_pure (v := .int _ _)); exact rfl; exact rfl)
          | ((with_reducible apply w_pure (v := .bool _)); exact rfl; exact rfl)
          | ((with_reducible apply w_pure (v := .tuple _)); exact rfl; exact rfl))
        | ((with_reducible apply g_bin); first
          | ((with_reducible apply w_pure (v := .bool _)); exact rfl; exact rfl))
        | ((with_reducible apply g_fld); first
          | ((with_reducible apply w_fldp (o := 2)); exact rfl; exact rfl; exact rfl; exact (by decide)))
        | ((with_reducible apply g_assign); first
          | ((with_reducible apply w_pure (v := .int _ _)); exact rfl; exact rfl))
        | ((with_reducible apply g_call); first
          | ((with_reducible apply w_call (v := .int _ _)); exact rfl))
        | ((with_reducible apply g_store); first
          | ((with_reducible apply w_store (us := [_, _, _]) (ws := [_, _, _])); exact rfl; exact rfl; (first | assumption | (simp (disch := omega) only [upd_same, upd_ne]; first | done | assumption | exact rfl) | exact rfl); omega; exact rfl; exact rfl; exact rfl))
        | ((with_reducible apply w_alloc (ls := [_, _, _])); exact rfl; exact rfl)
        | ((with_reducible apply w_pure (v := .int _ _)); exact rfl; exact rfl)
        | ((with_reducible apply w_pure (v := .agg _)); exact rfl; exact rfl))
      | ((with_reducible apply g_gd); first
        | ((with_reducible apply w_want); exact rfl))
      | with_reducible refine w_seq ?_
      | with_reducible refine w_nil ?_
      | with_reducible refine w_region ?_
      | ((with_reducible apply w_yes); exact rfl))
    have how : Own g1 (n + 1) n1 43 Sg.c o ([] : List Sg) := ho
    refine w_rf (check_run ⟨k, e, []⟩ Z) (fun _ => rfl) (sn_cons (sn_agg (l := [_, _, _]) (sn_cons (sn_plain rfl) (sn_cons (sn_plain rfl) (sn_cons (by rw [← own_ov how]; exact (how.later (Nat.le_refl _) (fun j h1 h2 => by first | rfl | simp (disch := omega) only [upd_ne])).fz (k := 6) (lo' := 0) (tg := tg) (P := Try.prog) (by omega) rfl (by decide) (fun _ => rfl) (sn_plains (Sg.plains _))) sn_nil)))) (sn_plains rfl)) ?_
    rintro _ rfl
    rw [show errV (okS ⟨k, e, []⟩ Z) = .int .i64 16 by rw [okS_nil]; rfl]
    repeat' (first
      | ((with_reducible apply g_op); first
        | ((with_reducible apply g_bin); first
          | ((with_reducible apply w_pure (v := .bool _)); exact rfl; exact rfl))
        | ((with_reducible apply g_assign); first
          | ((with_reducible apply w_pure (v := .bool _)); exact rfl; exact rfl))
        | ((with_reducible apply w_pure (v := .bool _)); exact rfl; exact rfl))
      | ((with_reducible apply g_gd); first
        | ((with_reducible apply w_want); exact rfl))
      | with_reducible refine w_nil ?_
      | ((with_reducible apply w_ret (v := .bool _)); exact rfl))
    all_goals rfl
  | cons s r =>
    have hl0 : ((s :: r).length : Int) ≥ 1 := by rw [List.length_cons]; push_cast; omega
    have hen := hent k e s r Z rfl
    have hok := okS_img hch.1 hl4 hen
    have hfine := fine_img hch.1 hl4 hen
    have hrg := fine_rg hfine
    obtain ⟨ii, p, q1, q2, q3⟩ := id hch.1
    have hno : okS ⟨k, e, s :: r⟩ ((1000 : Nat) : Int) = false := okS_less (by omega) q2.1 (by omega)
    have hoffs : ∀ s2 ∈ s :: r, 0 ≤ s2.off ∧ s2.off ≤ 1099511627776 := fun s2 hs2 => (hfine.2.2.2 s2 hs2).2.2.1
    have htot : totS (s :: r) 0 > 0 := by
      have := totS_pos r (0 + s.off) (fun s2 hs2 => (hoffs s2 (List.mem_cons_of_mem _ hs2)).1)
      rw [totS]; omega
    repeat' (first
      | ((with_reducible apply g_op); first
        | ((with_reducible apply g_load); first
          | ((with_reducible apply w_load (v := .slice _ _ _)); exact rfl; (first | assumption | (simp (disch := omega) only [upd_same, upd_ne]; first | done | assumption | exact rfl) | exact rfl); exact rfl)
          | ((with_reducible apply w_load (v := .agg #[_, _, _])); exact rfl; (first | assumption | (simp (disch := omega) only [upd_same, upd_ne]; first | done | assumption | exact rfl) | exact rfl); exact rfl))
        | ((with_reducible apply g_move); first
          | ((with_reducible apply w_pure (v := .tuple _)); exact rfl; exact rfl))
        | ((with_reducible apply g_bin); first
          | ((with_reducible apply w_pure (v := .bool _)); exact rfl; exact rfl))
        | ((with_reducible apply g_fld); first
          | ((with_reducible apply w_fldp (o := 2)); exact rfl; exact rfl; exact rfl; exact (by decide)))
        | ((with_reducible apply g_assign); first
          | ((with_reducible apply w_pure (v := .int _ _)); exact rfl; exact rfl))
        | ((with_reducible apply g_call); first
          | ((with_reducible apply w_call (v := .int _ _)); exact rfl))
        | ((with_reducible apply g_store); first
          | ((with_reducible apply w_store (us := [_, _, _]) (ws := [_, _, _])); exact rfl; exact rfl; (first | assumption | (simp (disch := omega) only [upd_same, upd_ne]; first | done | assumption | exact rfl) | exact rfl); omega; exact rfl; exact rfl; exact rfl))
        | ((with_reducible apply w_alloc (ls := [_, _, _])); exact rfl; exact rfl)
        | ((with_reducible apply w_pure (v := .int _ _)); exact rfl; exact rfl)
        | ((with_reducible apply w_pure (v := .agg _)); exact rfl; exact rfl))
      | with_reducible refine w_seq ?_
      | with_reducible refine w_nil ?_
      | with_reducible refine w_region ?_
      | with_reducible refine w_skip ?_
      | ((with_reducible apply w_no); exact rfl))
    have how : Own g1 (n + 1) n1 43 Sg.c o (s :: r) := ho
    refine w_rf (head_run ⟨k, e, s :: r⟩ hrg (by dsimp only; omega)) (fun _ => rfl) (sn_cons (sn_agg (l := [_, _, _]) (sn_cons (sn_plain rfl) (sn_cons (sn_plain rfl) (sn_cons (by rw [← own_ov how]; exact (how.later (Nat.le_refl _) (fun j h1 h2 => by first | rfl | simp (disch := omega) only [upd_ne])).fz (k := 6) (lo' := 0) (tg := tg) (P := Try.prog) (by omega) rfl (by decide) (fun _ => rfl) (sn_plains (Sg.plains _))) sn_nil)))) sn_nil) ?_
    rintro _ rfl
    have hHz := headS_size ⟨k, e, s :: r⟩
    dsimp only at hHz
    obtain ⟨H, hHe⟩ : ∃ H, H = headS ⟨k, e, s :: r⟩ := ⟨_, rfl⟩
    rw [← hHe] at hHz ⊢
    obtain ⟨G, hG⟩ : ∃ G, G = upd (upd g1 n1 (some (Ob.cells 24 [Value.int .i64 0, Value.int .i64 0, Value.slice none 0 0]))) n1 (some (Ob.cells 24 [Value.int .i64 k, Value.int .i64 e, Value.slice (raOf o) (s :: r).length (s :: r).length])) := ⟨_, rfl⟩
    rw [← hG]
    have hq : G n1 = some (Ob.cells 24 [Value.int .i64 k, Value.int .i64 e, Value.slice (raOf o) (s :: r).length (s :: r).length]) := by rw [hG]; exact upd_same
    have how : Own G (n + 1) n1 43 Sg.c o (s :: r) := by rw [hG]; exact ho.later (Nat.le_refl _) (fun j h1 h2 => by simp (disch := omega) only [upd_ne])
    clear hG
    by_cases hb : bh.size ≤ 30
    · repeat' (first
        | ((with_reducible apply g_op); first
          | ((with_reducible apply g_move); first
            | ((with_reducible apply w_pure (v := .string _)); exact rfl; exact rfl))
          | ((with_reducible apply g_bin); first
            | ((with_reducible apply w_pure (v := .bool _)); exact rfl; exact rfl))
          | ((with_reducible apply g_assign); first
            | ((with_reducible apply w_pure (v := .string _)); exact rfl; exact rfl))
          | ((with_reducible apply g_call); first
            | ((with_reducible apply w_call (v := .int _ _)); exact rfl)))
        | with_reducible refine w_seq ?_
        | with_reducible refine w_nil ?_
        | with_reducible refine w_region ?_
        | with_reducible refine w_skip ?_
        | with_reducible refine w_block ?_
        | ((with_reducible apply w_ifd); exact rfl; all_goals (intro hc; first | (exfalso; omega) | skip)))
      refine w_whileK [(8, 8), (37, 44)] (fun (t : ByteArray) σ' g' n' => σ' 8 = .string (H ++ t) ∧ g' = G ∧ n' = n1 + 1 ∧ (H ++ t).size ≤ 2100) (fun t => 3000 - (H ++ t).size) ?_ ⟨#[]⟩ ⟨congrArg Value.string (Bl.app_empty H).symm, rfl, rfl, by rw [Bl.app_empty]; omega⟩
      rintro t σ' _ _ ⟨k8, rfl, rfl, hts⟩ ih
      refine w_keep (i := 8) k8 ?_
      by_cases hlt : (H ++ t).size < Z
      · have e1 : ((H ++ t) ++ bh).size = (H ++ t).size + (bh).size := ByteArray.size_append
        have e2 : ((H ++ t) ++ bh ++ ⟨#[46]⟩).size = ((H ++ t) ++ bh).size + 1 := ByteArray.size_append
        have e3 : (⟨#[46]⟩ : ByteArray).size = 1 := rfl
        repeat' (first
          | ((with_reducible apply g_op); first
            | ((with_reducible apply g_move); first
              | ((with_reducible apply w_pure (v := .int _ _)); exact rfl; exact rfl)
              | ((with_reducible apply w_pure (v := .string _)); exact rfl; exact rfl))
            | ((with_reducible apply g_bin); first
              | ((with_reducible apply w_cat); exact rfl; exact rfl; exact rfl; exact rfl; exact rfl; omega)
              | ((with_reducible apply w_pure (v := .bool _)); exact rfl; exact rfl))
            | ((with_reducible apply g_assign); first
              | ((with_reducible apply w_pure (v := .string _)); exact rfl; exact rfl))
            | ((with_reducible apply g_call); first
              | ((with_reducible apply w_call (v := .int _ _)); exact rfl)))
          | with_reducible refine w_seq ?_
          | with_reducible refine w_nil ?_
          | with_reducible refine w_region ?_
          | with_reducible refine w_skip ?_
          | with_reducible refine w_block ?_
          | with_reducible refine w_blk ?_
          | ((with_reducible apply w_ifd); exact rfl; all_goals (intro hc; first | (exfalso; omega) | skip)))
        refine ih (t ++ bh ++ ⟨#[46]⟩) _ _ _ ?_ (by repeat' (first | with_reducible exact Fr.mix | with_reducible exact Fr.rfl' | with_reducible refine Fr.put ?_ ?_ | with_reducible refine Fr.mix2 ?_ ?_ | with_reducible refine Fr.put0 ?_ | exact rfl)) ⟨congrArg Value.string (by simp only [ByteArray.append_assoc]), rfl, rfl, ?_⟩
        · rw [← ByteArray.append_assoc, ← ByteArray.append_assoc]; omega
        · rw [← ByteArray.append_assoc, ← ByteArray.append_assoc]; omega
      · have e1 : ((H ++ t).extract 0 ((Z : Int)).toNat).size = Z := by rw [ByteArray.size_extract]; omega
        have hlk := like_ext H t (Z := ((Z : Int)).toNat) (by omega) (by omega)
        repeat' (first
          | ((with_reducible apply g_op); first
            | ((with_reducible apply g_move); first
              | ((with_reducible apply w_pure (v := .int _ _)); exact rfl; exact rfl)
              | ((with_reducible apply w_pure (v := .string _)); exact rfl; exact rfl))
            | ((with_reducible apply g_bin); first
              | ((with_reducible apply w_pure (v := .bool _)); exact rfl; exact rfl))
            | ((with_reducible apply g_assign); first
              | ((with_reducible apply w_pure (v := .string _)); exact rfl; exact rfl))
            | ((with_reducible apply g_call); first
              | ((with_reducible apply w_call (v := .int _ _)); exact rfl))
            | ((with_reducible apply w_ssl); exact rfl; exact rfl; (first | exact num_of (by omega) | exact rfl); (first | exact num_of (by omega) | exact rfl); omega))
          | with_reducible refine w_seq ?_
          | with_reducible refine w_nil ?_
          | with_reducible refine w_region ?_
          | ((with_reducible apply w_exit); exact rfl)
          | ((with_reducible apply w_ifd); exact rfl; all_goals (intro hc; first | (exfalso; omega) | skip)))
        generalize (H ++ t).extract 0 ((Z : Int)).toNat = S at e1 hlk ⊢
        refine w_rf (parse_run S (by omega)) (fun _ => rfl) (sn_plains rfl) ?_
        rintro _ rfl
        have hlk2 := like_ext2 hlk (Z := Int.toNat 1000) (by omega) (by omega)
        have e2 : (S.extract 0 (Int.toNat 1000)).size = 1000 := by rw [ByteArray.size_extract]; omega
        rw [parse_back hfine (by rw [← hHe]; exact hlk), e1, if_pos hok]
        dsimp only
        simp only [Im.v]
        repeat' (first
          | ((with_reducible apply g_op); first
            | ((with_reducible apply g_move); first
              | ((with_reducible apply w_pure (v := .string _)); exact rfl; exact rfl)
              | ((with_reducible apply w_pure (v := .tuple _)); exact rfl; exact rfl))
            | ((with_reducible apply g_assign); first
              | ((with_reducible apply w_pure (v := .int _ _)); exact rfl; exact rfl))
            | ((with_reducible apply g_store); first
              | ((with_reducible apply w_store (us := [_, _, _]) (ws := [_, _, _])); exact rfl; exact rfl; (first | assumption | (simp (disch := omega) only [upd_same, upd_ne]; first | done | assumption | exact rfl) | exact rfl); omega; exact rfl; exact rfl; exact rfl))
            | ((with_reducible apply w_ssl); exact rfl; exact rfl; (first | exact num_of (by omega) | exact rfl); (first | exact num_of (by omega) | exact rfl); omega)
            | ((with_reducible apply w_alloc (ls := [_, _, _])); exact rfl; exact rfl)
            | ((with_reducible apply w_pure (v := .int _ _)); exact rfl; exact rfl)
            | ((with_reducible apply w_pure (v := .agg _)); exact rfl; exact rfl))
          | with_reducible refine w_seq ?_
          | with_reducible refine w_nil ?_
          | with_reducible refine w_region ?_)
        refine w_rf (parse_run (S.extract 0 (Int.toNat 1000)) (by omega)) (fun _ => rfl) (sn_plains rfl) ?_
        rintro _ rfl
        rw [parse_back hfine (by rw [← hHe]; exact hlk2), e2, if_neg (by rw [hno]; simp)]
        dsimp only
        simp only [Im.v, Im.zero]
        repeat' (first
          | ((with_reducible apply g_op); first
            | ((with_reducible apply g_load); first
              | ((with_reducible apply w_load (v := .agg #[_, _, _])); exact rfl; (first | assumption | (simp (disch := omega) only [upd_same, upd_ne]; first | done | assumption | exact rfl) | exact rfl); exact rfl))
            | ((with_reducible apply g_move); first
              | ((with_reducible apply w_pure (v := .int _ _)); exact rfl; exact rfl)
              | ((with_reducible apply w_pure (v := .bool _)); exact rfl; exact rfl)
              | ((with_reducible apply w_pure (v := .tuple _)); exact rfl; exact rfl))
            | ((with_reducible apply g_assign); first
              | ((with_reducible apply w_pure (v := .int _ _)); exact rfl; exact rfl))
            | ((with_reducible apply g_store); first
              | ((with_reducible apply w_store (us := [_, _, _]) (ws := [_, _, _])); exact rfl; exact rfl; (first | assumption | (simp (disch := omega) only [upd_same, upd_ne]; first | done | assumption | exact rfl) | exact rfl); omega; exact rfl; exact rfl; exact rfl))
            | ((with_reducible apply w_alloc (ls := [_, _, _])); exact rfl; exact rfl)
            | ((with_reducible apply w_pure (v := .int _ _)); exact rfl; exact rfl)
            | ((with_reducible apply w_pure (v := .agg _)); exact rfl; exact rfl))
          | ((with_reducible apply g_gd); first
            | ((with_reducible apply w_want); exact rfl))
          | with_reducible refine w_seq ?_
          | with_reducible refine w_nil ?_
          | with_reducible refine w_region ?_)
        refine w_rf (check_run ⟨k, e, s :: r⟩ Z) (fun _ => rfl) (sn_cons (sn_agg (l := [_, _, _]) (sn_cons (sn_plain rfl) (sn_cons (sn_plain rfl) (sn_cons (by rw [← own_ov how]; exact (how.later (Nat.le_refl _) (fun j h1 h2 => by first | rfl | simp (disch := omega) only [upd_ne])).fz (k := 6) (lo' := 0) (tg := tg) (P := Try.prog) (by omega) rfl (by decide) (fun _ => rfl) (sn_plains (Sg.plains _))) sn_nil)))) (sn_plains rfl)) ?_
        rintro _ rfl
        rw [show errV (okS ⟨k, e, s :: r⟩ Z) = .int .i64 0 by rw [hok]; rfl]
        repeat' (first
          | ((with_reducible apply g_op); first
            | ((with_reducible apply g_load); first
              | ((with_reducible apply w_load (v := .agg #[_, _, _])); exact rfl; (first | assumption | (simp (disch := omega) only [upd_same, upd_ne]; first | done | assumption | exact rfl) | exact rfl); exact rfl))
            | ((with_reducible apply g_move); first
              | ((with_reducible apply w_pure (v := .int _ _)); exact rfl; exact rfl)
              | ((with_reducible apply w_pure (v := .bool _)); exact rfl; exact rfl))
            | ((with_reducible apply g_bin); first
              | ((with_reducible apply w_pure (v := .bool _)); exact rfl; exact rfl))
            | ((with_reducible apply g_pick); first
              | ((with_reducible apply w_pk1 (v := .bool _)); exact rfl; exact rfl; (first | assumption | exact decide_eq_true (by assumption) | exact decide_eq_false (by assumption) | exact decide_eq_true (by omega) | exact decide_eq_false (by omega) | exact beq_iff_eq.2 (by omega) | exact beq_eq_false_iff_ne.2 (by omega) | exact bne_iff_ne.2 (by omega) | exact bne_eq_false_iff_eq.2 (by omega))))
            | ((with_reducible apply w_pure (v := .bool _)); exact rfl; exact rfl))
          | ((with_reducible apply g_gd); first
            | ((with_reducible apply w_want); exact rfl)))
        refine w_rf (same_run ⟨k, e, s :: r⟩ ⟨k, e, s :: r⟩ (by dsimp only; omega)) (fun _ => rfl) (sn_cons (sn_agg (l := [_, _, _]) (sn_cons (sn_plain rfl) (sn_cons (sn_plain rfl) (sn_cons (by rw [← own_ov how]; exact (how.later (Nat.le_refl _) (fun j h1 h2 => by first | rfl | simp (disch := omega) only [upd_ne])).fz (k := 6) (lo' := 0) (tg := tg) (P := Try.prog) (by omega) rfl (by decide) (fun _ => rfl) (sn_plains (Sg.plains _))) sn_nil)))) (sn_cons (im_sn (x := ⟨k, e, s :: r⟩)) sn_nil)) ?_
        rintro _ rfl
        rw [sameI_iff.2 rfl]
        repeat' (first
          | ((with_reducible apply g_op); first
            | ((with_reducible apply g_load); first
              | ((with_reducible apply w_load (v := .agg #[_, _, _])); exact rfl; (first | assumption | (simp (disch := omega) only [upd_same, upd_ne]; first | done | assumption | exact rfl) | exact rfl); exact rfl))
            | ((with_reducible apply g_move); first
              | ((with_reducible apply w_pure (v := .int _ _)); exact rfl; exact rfl)
              | ((with_reducible apply w_pure (v := .bool _)); exact rfl; exact rfl))
            | ((with_reducible apply g_bin); first
              | ((with_reducible apply w_pure (v := .bool _)); exact rfl; exact rfl))
            | ((with_reducible apply g_pick); first
              | ((with_reducible apply w_pk1 (v := .bool _)); exact rfl; exact rfl; (first | assumption | exact decide_eq_true (by assumption) | exact decide_eq_false (by assumption) | exact decide_eq_true (by omega) | exact decide_eq_false (by omega) | exact beq_iff_eq.2 (by omega) | exact beq_eq_false_iff_ne.2 (by omega) | exact bne_iff_ne.2 (by omega) | exact bne_eq_false_iff_eq.2 (by omega)))))
          | ((with_reducible apply g_gd); first
            | ((with_reducible apply w_want); exact rfl)))
        refine w_rf (total_run (s :: r) k e (by omega) hoffs) (fun _ => rfl) (sn_cons (sn_agg (l := [_, _, _]) (sn_cons (sn_plain rfl) (sn_cons (sn_plain rfl) (sn_cons (by rw [← own_ov how]; exact (how.later (Nat.le_refl _) (fun j h1 h2 => by first | rfl | simp (disch := omega) only [upd_ne])).fz (k := 6) (lo' := 0) (tg := tg) (P := Try.prog) (by omega) rfl (by decide) (fun _ => rfl) (sn_plains (Sg.plains _))) sn_nil)))) sn_nil) ?_
        rintro _ rfl
        repeat' (first
          | ((with_reducible apply g_op); first
            | ((with_reducible apply g_bin); first
              | ((with_reducible apply w_pure (v := .bool _)); exact rfl; exact rfl))
            | ((with_reducible apply g_assign); first
              | ((with_reducible apply w_pure (v := .bool _)); exact rfl; exact rfl))
            | ((with_reducible apply w_pure (v := .bool _)); exact rfl; exact rfl))
          | ((with_reducible apply g_gd); first
            | ((with_reducible apply w_want); exact rfl))
          | with_reducible refine w_nil ?_
          | ((with_reducible apply w_ret (v := .bool _)); exact rfl))
        all_goals rw [show (totS (s :: r) 0 == 0) = false from beq_eq_false_iff_ne.2 (by omega)]
        all_goals rfl
    · have hbz : (bh.extract 0 (Int.toNat 30)).size = 30 := by rw [ByteArray.size_extract]; omega
      repeat' (first
        | ((with_reducible apply g_op); first
          | ((with_reducible apply g_move); first
            | ((with_reducible apply w_pure (v := .string _)); exact rfl; exact rfl))
          | ((with_reducible apply g_bin); first
            | ((with_reducible apply w_pure (v := .bool _)); exact rfl; exact rfl))
          | ((with_reducible apply g_assign); first
            | ((with_reducible apply w_pure (v := .string _)); exact rfl; exact rfl))
          | ((with_reducible apply g_call); first
            | ((with_reducible apply w_call (v := .int _ _)); exact rfl))
          | ((with_reducible apply w_ssl); exact rfl; exact rfl; (first | exact num_of (by omega) | exact rfl); (first | exact num_of (by omega) | exact rfl); omega))
        | with_reducible refine w_seq ?_
        | with_reducible refine w_nil ?_
        | with_reducible refine w_region ?_
        | with_reducible refine w_block ?_
        | ((with_reducible apply w_ifd); exact rfl; all_goals (intro hc; first | (exfalso; omega) | skip)))
      generalize bh.extract 0 (Int.toNat 30) = b2 at hbz ⊢
      refine w_whileK [(8, 8), (37, 44)] (fun (t : ByteArray) σ' g' n' => σ' 8 = .string (H ++ t) ∧ g' = G ∧ n' = n1 + 1 ∧ (H ++ t).size ≤ 2100) (fun t => 3000 - (H ++ t).size) ?_ ⟨#[]⟩ ⟨congrArg Value.string (Bl.app_empty H).symm, rfl, rfl, by rw [Bl.app_empty]; omega⟩
      rintro t σ' _ _ ⟨k8, rfl, rfl, hts⟩ ih
      refine w_keep (i := 8) k8 ?_
      by_cases hlt : (H ++ t).size < Z
      · have e1 : ((H ++ t) ++ b2).size = (H ++ t).size + (b2).size := ByteArray.size_append
        have e2 : ((H ++ t) ++ b2 ++ ⟨#[46]⟩).size = ((H ++ t) ++ b2).size + 1 := ByteArray.size_append
        have e3 : (⟨#[46]⟩ : ByteArray).size = 1 := rfl
        repeat' (first
          | ((with_reducible apply g_op); first
            | ((with_reducible apply g_move); first
              | ((with_reducible apply w_pure (v := .int _ _)); exact rfl; exact rfl)
              | ((with_reducible apply w_pure (v := .string _)); exact rfl; exact rfl))
            | ((with_reducible apply g_bin); first
              | ((with_reducible apply w_cat); exact rfl; exact rfl; exact rfl; exact rfl; exact rfl; omega)
              | ((with_reducible apply w_pure (v := .bool _)); exact rfl; exact rfl))
            | ((with_reducible apply g_assign); first
              | ((with_reducible apply w_pure (v := .string _)); exact rfl; exact rfl))
            | ((with_reducible apply g_call); first
              | ((with_reducible apply w_call (v := .int _ _)); exact rfl)))
          | with_reducible refine w_seq ?_
          | with_reducible refine w_nil ?_
          | with_reducible refine w_region ?_
          | with_reducible refine w_skip ?_
          | with_reducible refine w_block ?_
          | with_reducible refine w_blk ?_
          | ((with_reducible apply w_ifd); exact rfl; all_goals (intro hc; first | (exfalso; omega) | skip)))
        refine ih (t ++ b2 ++ ⟨#[46]⟩) _ _ _ ?_ (by repeat' (first | with_reducible exact Fr.mix | with_reducible exact Fr.rfl' | with_reducible refine Fr.put ?_ ?_ | with_reducible refine Fr.mix2 ?_ ?_ | with_reducible refine Fr.put0 ?_ | exact rfl)) ⟨congrArg Value.string (by simp only [ByteArray.append_assoc]), rfl, rfl, ?_⟩
        · rw [← ByteArray.append_assoc, ← ByteArray.append_assoc]; omega
        · rw [← ByteArray.append_assoc, ← ByteArray.append_assoc]; omega
      · have e1 : ((H ++ t).extract 0 ((Z : Int)).toNat).size = Z := by rw [ByteArray.size_extract]; omega
        have hlk := like_ext H t (Z := ((Z : Int)).toNat) (by omega) (by omega)
        repeat' (first
          | ((with_reducible apply g_op); first
            | ((with_reducible apply g_move); first
              | ((with_reducible apply w_pure (v := .int _ _)); exact rfl; exact rfl)
              | ((with_reducible apply w_pure (v := .string _)); exact rfl; exact rfl))
            | ((with_reducible apply g_bin); first
              | ((with_reducible apply w_pure (v := .bool _)); exact rfl; exact rfl))
            | ((with_reducible apply g_assign); first
              | ((with_reducible apply w_pure (v := .string _)); exact rfl; exact rfl))
            | ((with_reducible apply g_call); first
              | ((with_reducible apply w_call (v := .int _ _)); exact rfl))
            | ((with_reducible apply w_ssl); exact rfl; exact rfl; (first | exact num_of (by omega) | exact rfl); (first | exact num_of (by omega) | exact rfl); omega))
          | with_reducible refine w_seq ?_
          | with_reducible refine w_nil ?_
          | with_reducible refine w_region ?_
          | ((with_reducible apply w_exit); exact rfl)
          | ((with_reducible apply w_ifd); exact rfl; all_goals (intro hc; first | (exfalso; omega) | skip)))
        generalize (H ++ t).extract 0 ((Z : Int)).toNat = S at e1 hlk ⊢
        refine w_rf (parse_run S (by omega)) (fun _ => rfl) (sn_plains rfl) ?_
        rintro _ rfl
        have hlk2 := like_ext2 hlk (Z := Int.toNat 1000) (by omega) (by omega)
        have e2 : (S.extract 0 (Int.toNat 1000)).size = 1000 := by rw [ByteArray.size_extract]; omega
        rw [parse_back hfine (by rw [← hHe]; exact hlk), e1, if_pos hok]
        dsimp only
        simp only [Im.v]
        repeat' (first
          | ((with_reducible apply g_op); first
            | ((with_reducible apply g_move); first
              | ((with_reducible apply w_pure (v := .string _)); exact rfl; exact rfl)
              | ((with_reducible apply w_pure (v := .tuple _)); exact rfl; exact rfl))
            | ((with_reducible apply g_assign); first
              | ((with_reducible apply w_pure (v := .int _ _)); exact rfl; exact rfl))
            | ((with_reducible apply g_store); first
              | ((with_reducible apply w_store (us := [_, _, _]) (ws := [_, _, _])); exact rfl; exact rfl; (first | assumption | (simp (disch := omega) only [upd_same, upd_ne]; first | done | assumption | exact rfl) | exact rfl); omega; exact rfl; exact rfl; exact rfl))
            | ((with_reducible apply w_ssl); exact rfl; exact rfl; (first | exact num_of (by omega) | exact rfl); (first | exact num_of (by omega) | exact rfl); omega)
            | ((with_reducible apply w_alloc (ls := [_, _, _])); exact rfl; exact rfl)
            | ((with_reducible apply w_pure (v := .int _ _)); exact rfl; exact rfl)
            | ((with_reducible apply w_pure (v := .agg _)); exact rfl; exact rfl))
          | with_reducible refine w_seq ?_
          | with_reducible refine w_nil ?_
          | with_reducible refine w_region ?_)
        refine w_rf (parse_run (S.extract 0 (Int.toNat 1000)) (by omega)) (fun _ => rfl) (sn_plains rfl) ?_
        rintro _ rfl
        rw [parse_back hfine (by rw [← hHe]; exact hlk2), e2, if_neg (by rw [hno]; simp)]
        dsimp only
        simp only [Im.v, Im.zero]
        repeat' (first
          | ((with_reducible apply g_op); first
            | ((with_reducible apply g_load); first
              | ((with_reducible apply w_load (v := .agg #[_, _, _])); exact rfl; (first | assumption | (simp (disch := omega) only [upd_same, upd_ne]; first | done | assumption | exact rfl) | exact rfl); exact rfl))
            | ((with_reducible apply g_move); first
              | ((with_reducible apply w_pure (v := .int _ _)); exact rfl; exact rfl)
              | ((with_reducible apply w_pure (v := .bool _)); exact rfl; exact rfl)
              | ((with_reducible apply w_pure (v := .tuple _)); exact rfl; exact rfl))
            | ((with_reducible apply g_assign); first
              | ((with_reducible apply w_pure (v := .int _ _)); exact rfl; exact rfl))
            | ((with_reducible apply g_store); first
              | ((with_reducible apply w_store (us := [_, _, _]) (ws := [_, _, _])); exact rfl; exact rfl; (first | assumption | (simp (disch := omega) only [upd_same, upd_ne]; first | done | assumption | exact rfl) | exact rfl); omega; exact rfl; exact rfl; exact rfl))
            | ((with_reducible apply w_alloc (ls := [_, _, _])); exact rfl; exact rfl)
            | ((with_reducible apply w_pure (v := .int _ _)); exact rfl; exact rfl)
            | ((with_reducible apply w_pure (v := .agg _)); exact rfl; exact rfl))
          | ((with_reducible apply g_gd); first
            | ((with_reducible apply w_want); exact rfl))
          | with_reducible refine w_seq ?_
          | with_reducible refine w_nil ?_
          | with_reducible refine w_region ?_)
        refine w_rf (check_run ⟨k, e, s :: r⟩ Z) (fun _ => rfl) (sn_cons (sn_agg (l := [_, _, _]) (sn_cons (sn_plain rfl) (sn_cons (sn_plain rfl) (sn_cons (by rw [← own_ov how]; exact (how.later (Nat.le_refl _) (fun j h1 h2 => by first | rfl | simp (disch := omega) only [upd_ne])).fz (k := 6) (lo' := 0) (tg := tg) (P := Try.prog) (by omega) rfl (by decide) (fun _ => rfl) (sn_plains (Sg.plains _))) sn_nil)))) (sn_plains rfl)) ?_
        rintro _ rfl
        rw [show errV (okS ⟨k, e, s :: r⟩ Z) = .int .i64 0 by rw [hok]; rfl]
        repeat' (first
          | ((with_reducible apply g_op); first
            | ((with_reducible apply g_load); first
              | ((with_reducible apply w_load (v := .agg #[_, _, _])); exact rfl; (first | assumption | (simp (disch := omega) only [upd_same, upd_ne]; first | done | assumption | exact rfl) | exact rfl); exact rfl))
            | ((with_reducible apply g_move); first
              | ((with_reducible apply w_pure (v := .int _ _)); exact rfl; exact rfl)
              | ((with_reducible apply w_pure (v := .bool _)); exact rfl; exact rfl))
            | ((with_reducible apply g_bin); first
              | ((with_reducible apply w_pure (v := .bool _)); exact rfl; exact rfl))
            | ((with_reducible apply g_pick); first
              | ((with_reducible apply w_pk1 (v := .bool _)); exact rfl; exact rfl; (first | assumption | exact decide_eq_true (by assumption) | exact decide_eq_false (by assumption) | exact decide_eq_true (by omega) | exact decide_eq_false (by omega) | exact beq_iff_eq.2 (by omega) | exact beq_eq_false_iff_ne.2 (by omega) | exact bne_iff_ne.2 (by omega) | exact bne_eq_false_iff_eq.2 (by omega))))
            | ((with_reducible apply w_pure (v := .bool _)); exact rfl; exact rfl))
          | ((with_reducible apply g_gd); first
            | ((with_reducible apply w_want); exact rfl)))
        refine w_rf (same_run ⟨k, e, s :: r⟩ ⟨k, e, s :: r⟩ (by dsimp only; omega)) (fun _ => rfl) (sn_cons (sn_agg (l := [_, _, _]) (sn_cons (sn_plain rfl) (sn_cons (sn_plain rfl) (sn_cons (by rw [← own_ov how]; exact (how.later (Nat.le_refl _) (fun j h1 h2 => by first | rfl | simp (disch := omega) only [upd_ne])).fz (k := 6) (lo' := 0) (tg := tg) (P := Try.prog) (by omega) rfl (by decide) (fun _ => rfl) (sn_plains (Sg.plains _))) sn_nil)))) (sn_cons (im_sn (x := ⟨k, e, s :: r⟩)) sn_nil)) ?_
        rintro _ rfl
        rw [sameI_iff.2 rfl]
        repeat' (first
          | ((with_reducible apply g_op); first
            | ((with_reducible apply g_load); first
              | ((with_reducible apply w_load (v := .agg #[_, _, _])); exact rfl; (first | assumption | (simp (disch := omega) only [upd_same, upd_ne]; first | done | assumption | exact rfl) | exact rfl); exact rfl))
            | ((with_reducible apply g_move); first
              | ((with_reducible apply w_pure (v := .int _ _)); exact rfl; exact rfl)
              | ((with_reducible apply w_pure (v := .bool _)); exact rfl; exact rfl))
            | ((with_reducible apply g_bin); first
              | ((with_reducible apply w_pure (v := .bool _)); exact rfl; exact rfl))
            | ((with_reducible apply g_pick); first
              | ((with_reducible apply w_pk1 (v := .bool _)); exact rfl; exact rfl; (first | assumption | exact decide_eq_true (by assumption) | exact decide_eq_false (by assumption) | exact decide_eq_true (by omega) | exact decide_eq_false (by omega) | exact beq_iff_eq.2 (by omega) | exact beq_eq_false_iff_ne.2 (by omega) | exact bne_iff_ne.2 (by omega) | exact bne_eq_false_iff_eq.2 (by omega)))))
          | ((with_reducible apply g_gd); first
            | ((with_reducible apply w_want); exact rfl)))
        refine w_rf (total_run (s :: r) k e (by omega) hoffs) (fun _ => rfl) (sn_cons (sn_agg (l := [_, _, _]) (sn_cons (sn_plain rfl) (sn_cons (sn_plain rfl) (sn_cons (by rw [← own_ov how]; exact (how.later (Nat.le_refl _) (fun j h1 h2 => by first | rfl | simp (disch := omega) only [upd_ne])).fz (k := 6) (lo' := 0) (tg := tg) (P := Try.prog) (by omega) rfl (by decide) (fun _ => rfl) (sn_plains (Sg.plains _))) sn_nil)))) sn_nil) ?_
        rintro _ rfl
        repeat' (first
          | ((with_reducible apply g_op); first
            | ((with_reducible apply g_bin); first
              | ((with_reducible apply w_pure (v := .bool _)); exact rfl; exact rfl))
            | ((with_reducible apply g_assign); first
              | ((with_reducible apply w_pure (v := .bool _)); exact rfl; exact rfl))
            | ((with_reducible apply w_pure (v := .bool _)); exact rfl; exact rfl))
          | ((with_reducible apply g_gd); first
            | ((with_reducible apply w_want); exact rfl))
          | with_reducible refine w_nil ?_
          | ((with_reducible apply w_ret (v := .bool _)); exact rfl))
        all_goals rw [show (totS (s :: r) 0 == 0) = false from beq_eq_false_iff_ne.2 (by omega)]
        all_goals rfl
abbrev P3 := Int × Int × List Q4
theorem proved (x0 : P3) (x1 : ByteArray) {q : Prop} (w0 : q) (w1 : wfT x1) : Rn Try.prog tab 8 [.agg ((kPair (kInt .i64) (kPair (kInt .i64) (kList (kPair (kInt .i64) (kPair (kInt .i64) (kPair (kInt .i64) (kInt .i64))))))).enc x0).toArray, .string x1] (fun _ => none) 0 0 (fun v _ _ => v = .bool true) := walk x0.1 x0.2.1 x0.2.2 x1 w1 _ 0
end Go.Proofs.Ytohfbnpmhlpkhaa.L.ElfBack

