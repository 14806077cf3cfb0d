/- NeedsOrder: walked, and its plain law. -/
import Derived.Test.Ytgljofdhdnhekaac12P
namespace Go.Proofs.Ytgljofdhdnhekaa.L.NeedsOrder
open Go.L1 Go.IntWalk Go.Proofs.Ytgljofdhdnhekaa.L
set_option linter.unusedVariables false
set_option linter.unusedSimpArgs false
set_option maxHeartbeats 4000000
def tab : Tb := L.T
theorem tabok : ∀ C : Cx, C.P = Try.prog → TbOk C tab := L.tabok
theorem byte_idx {i : Nat} (h : i < 16) : Value.int .i64 (IntKind.i64.wrap (IntKind.u8.wrap ((((nameB (i : Int)).data.toList.getD (0 : Int).toNat 0).toNat : Int) - 97))) = .int .i64 (i : Nat) := by
  have : (((nameB (i : Int)).data.toList.getD (0 : Int).toNat 0).toNat : Int) = 97 + i := by
    show (((UInt8.ofNat (97 + (i : Int) % 16).toNat).toNat : Nat) : Int) = 97 + i
    rw [UInt8.toNat_ofNat']
    omega
  rw [this]
  congr 1
  rw [show (97 + (i : Int) - 97) = i by omega]
  rw [u8_in _ (by omega)]
  exact i64_in _ (by omega)
theorem int_eq {a b : Int} (h : a = b) : Value.int .i64 a = .int .i64 b := by rw [h]
theorem walk (nd : List (List Int)) (many x1 : Int) (hnd : nd.length ≤ 9223372036854775807) (hr : ∀ r ∈ nd, r.length ≤ 9223372036854775807) (g : Nat → Option Ob) (n : Nat) : Rn Try.prog T 6 [specV tg nd many, .int .i64 x1] g n n (fun v _ _ => v = .bool true) := by
  refine c_open Try.func6 rfl rfl rfl rfl rfl rfl ?_
  unfold specV
  repeat' (first
    | ((with_reducible apply g_op); first
      | ((with_reducible apply g_assign); first
        | ((with_reducible apply w_pure (v := .bool _)); exact rfl; exact rfl))
      | ((with_reducible apply g_box); first
        | ((with_reducible apply w_box (vs := [_, _])); exact rfl; exact rfl)))
    | with_reducible refine w_seq ?_
    | with_reducible refine w_nil ?_
    | with_reducible refine w_region ?_)
  refine w_rf awake_run (fun _ => rfl) sn_nil ?_
  rintro _ rfl
  repeat' (first
    | ((with_reducible apply g_op); first
      | ((with_reducible apply g_load); first
        | ((with_reducible apply w_load (v := .agg #[_, _])); exact rfl; (first | assumption | (simp (disch := omega) only [upd_same, upd_ne]; first | done | assumption | exact rfl) | exact rfl); exact rfl))
      | ((with_reducible apply g_assign); first
        | ((with_reducible apply w_pure (v := .bool _)); exact rfl; exact rfl)))
    | with_reducible refine w_seq ?_
    | with_reducible refine w_nil ?_
    | with_reducible refine w_region ?_)
  refine w_rf (list_run nd many hnd hr) (fun _ => rfl) (sn_cons (spec_sn) sn_nil) ?_
  rintro _ rfl
  have hfit := list_fits nd many
  have hlen := list_len nd many
  have hc := cnt_ok many
  have hl1 : 0 < ((listS nd many).length : Int) := by rw [hlen]; omega
  have hl2 : ((listS nd many).length : Int) ≤ 16 := by rw [hlen]; omega
  have q1 := Int.lt_tmod_of_pos x1 hl1
  have q2 := Int.tmod_lt_of_pos x1 hl1
  repeat' (first
    | ((with_reducible apply g_op); first
      | ((with_reducible apply g_move); first
        | ((with_reducible apply w_pure (v := .int _ _)); exact rfl; exact rfl)
        | ((with_reducible apply w_pure (v := .func _ _ _)); exact rfl; exact rfl))
      | ((with_reducible apply g_assign); first
        | ((with_reducible apply w_pure (v := .func _ _ _)); exact rfl; exact rfl))
      | ((with_reducible apply g_call); first
        | ((with_reducible apply w_call (v := .int _ _)); exact rfl)))
    | with_reducible refine w_seq ?_
    | with_reducible refine w_nil ?_
    | with_reducible refine w_region ?_)
  refine w_tmod rfl rfl rfl rfl rfl (by omega) ?_
  generalize x1.tmod ((listS nd many).length : Int) = q at *
  have q3 := Int.emod_nonneg (q + ((listS nd many).length : Int)) (show ((listS nd many).length : Int) ≠ 0 by omega)
  have q4 := Int.emod_lt_of_pos (q + ((listS nd many).length : Int)) hl1
  repeat' (first
    | ((with_reducible apply g_op); first
      | ((with_reducible apply g_move); first
        | ((with_reducible apply w_pure (v := .int _ _)); exact rfl; exact rfl)
        | ((with_reducible apply w_pure (v := .func _ _ _)); exact rfl; exact rfl))
      | ((with_reducible apply g_bin); first
        | ((with_reducible apply w_mod); exact rfl; exact rfl; exact rfl; exact rfl; exact rfl; omega; omega)
        | ((with_reducible apply w_wrap); exact rfl; exact rfl; first | exact i64_in _ (by omega) | exact u64_in _ (by omega) | exact u8_in _ (by omega)))
      | ((with_reducible apply g_assign); first
        | ((with_reducible apply w_pure (v := .int _ _)); exact rfl; exact rfl))
      | ((with_reducible apply g_call); first
        | ((with_reducible apply w_call (v := .int _ _)); exact rfl)))
    | with_reducible refine w_seq ?_
    | with_reducible refine w_nil ?_
    | with_reducible refine w_region ?_)
  generalize (q + ((listS nd many).length : Int)) % ((listS nd many).length : Int) = R at *
  obtain ⟨i0, rfl⟩ : ∃ i0 : Nat, R = (i0 : Int) := ⟨R.toNat, by omega⟩
  have hi0 : i0 < cnt many := by omega
  have hroot : (findL (listS nd many) (nameB (i0 : Int))).isSome = true := by rw [list_find hi0]; rfl
  refine w_rq (name_run _ _ _ _) (fun _ => rfl) ?_
  rintro _ rfl
  repeat' (first
    | fail)
  have hor := order_run _ (nameB (i0 : Int)) hfit
  have hok := ofS_ok (listS nd many) (nameB (i0 : Int))
  have hrel := rel_wk (listS nd many) (nameB (i0 : Int))
  have hnl := hok.len
  have hmr := missing_run (listS nd many) (nameB (i0 : Int)) hfit
  by_cases hm : (wk (listS nd many) (nameB (i0 : Int))).missing.length > 0
  · have hA : orderS (listS nd many) (nameB (i0 : Int)) = ([], 17) := by unfold orderS; rw [hroot, if_neg (by simp), if_pos (.inl hm)]
    rw [hA] at hor
    dsimp only at hor
    refine w_rf hor (fun _ => rfl) (sn_cons lv_sn (sn_cons (sn_plain rfl) sn_nil)) ?_
    rintro _ rfl
    repeat' (first
      | ((with_reducible apply g_op); first
        | ((with_reducible apply g_move); first
          | ((with_reducible apply w_pure (v := .int _ _)); exact rfl; exact rfl)
          | ((with_reducible apply w_pure (v := .bool _)); exact rfl; exact rfl)
          | ((with_reducible apply w_pure (v := .tuple _)); exact rfl; exact rfl)
          | ((with_reducible apply w_pure (v := .func _ _ _)); exact rfl; exact rfl))
        | ((with_reducible apply g_bin); first
          | ((with_reducible apply w_pure (v := .bool _)); exact rfl; exact rfl))
        | ((with_reducible apply g_assign); first
          | ((with_reducible apply w_pure (v := .int _ _)); exact rfl; exact rfl)
          | ((with_reducible apply w_pure (v := .func _ _ _)); exact rfl; exact rfl))
        | ((with_reducible apply w_pure (v := .int _ _)); exact rfl; exact rfl)
        | ((with_reducible apply w_pure (v := .bool _)); exact rfl; exact rfl)
        | ((with_reducible apply w_pure (v := .func _ _ _)); exact rfl; exact rfl))
      | ((with_reducible apply g_gd); first
        | ((with_reducible apply w_want); exact rfl))
      | with_reducible refine w_seq ?_
      | with_reducible refine w_nil ?_
      | with_reducible refine w_region ?_
      | ((with_reducible apply w_yes); exact rfl))
    refine w_rq (name_run _ _ _ _) (fun _ => rfl) ?_
    rintro _ rfl
    repeat' (first
      | ((with_reducible apply g_gd); first
        | ((with_reducible apply w_want); exact rfl)))
    refine w_rf hmr (fun _ => rfl) (sn_cons lv_sn (sn_cons (sn_plain rfl) sn_nil)) ?_
    rintro _ rfl
    repeat' (first
      | ((with_reducible apply g_op); first
        | ((with_reducible apply g_bin); first
          | ((with_reducible apply w_pure (v := .bool _)); exact rfl; exact rfl))
        | ((with_reducible apply g_pick); first
          | ((with_reducible apply w_pk1 (v := .bool _)); exact rfl; exact rfl; (first | assumption | exact decide_eq_true (by assumption) | exact decide_eq_false (by assumption) | exact decide_eq_true (by omega) | exact decide_eq_false (by omega) | exact beq_iff_eq.2 (by omega) | exact beq_eq_false_iff_ne.2 (by omega) | exact bne_iff_ne.2 (by omega) | exact bne_eq_false_iff_eq.2 (by omega))))
        | ((with_reducible apply g_assign); first
          | ((with_reducible apply w_pure (v := .bool _)); exact rfl; exact rfl))
        | ((with_reducible apply g_call); first
          | ((with_reducible apply w_call (v := .int _ _)); exact rfl)))
      | ((with_reducible apply g_gd); first
        | ((with_reducible apply w_want); exact rfl))
      | with_reducible refine w_nil ?_
      | ((with_reducible apply w_ret (v := .bool _)); exact rfl))
    exact congrArg Value.bool (decide_eq_true (by omega))
  · have hA : orderS (listS nd many) (nameB (i0 : Int)) = ((ofS (listS nd many) (nameB (i0 : Int))).names, 0) := by
      unfold orderS
      rw [hroot, if_neg (by simp), if_neg (by rintro (h | h); exact hm h; rw [hrel.names] at h; omega), hrel.names]
    rw [hA] at hor
    obtain ⟨o, ho⟩ : ∃ o, o = (ofS (listS nd many) (nameB (i0 : Int))).names := ⟨_, rfl⟩
    rw [← ho] at hnl hor
    dsimp only at hor
    refine w_rf hor (fun _ => rfl) (sn_cons lv_sn (sn_cons (sn_plain rfl) sn_nil)) ?_
    rintro _ rfl
    have hdr : ∀ x, Rf Try.prog T 10 [lv tg (listS nd many), .string (nameB (i0 : Int)), .string x] (fun v => v = .int .i64 (rdepthS (listS nd many) (nameB (i0 : Int)) x)) := fun x => by
      have := depth_run (listS nd many) (nameB (i0 : Int)) x hfit
      rwa [depth_eq] at this
    have f0 : o[0]? = some (nameB (i0 : Int)) := by rw [ho]; exact head_root hroot
    have f1 : ∀ j x, o[j]? = some x → ∃ i, i < cnt many ∧ x = nameB (i : Int) := fun j x h => by
      rw [ho] at h
      exact list_has (hok.within x (List.mem_of_getElem? h))
    have f2 : o.Nodup := by rw [ho]; exact hok.nodup
    have f3 : ∀ j y, 0 < j → o[j]? = some y → ∃ k x, k < j ∧ o[k]? = some x ∧ y ∈ (findL (listS nd many) x).getD [] := by rw [ho]; exact behind hroot
    have f4 : ∀ j x y, o[j]? = some x → o[j + 1]? = some y → rdepthS (listS nd many) (nameB (i0 : Int)) x ≤ rdepthS (listS nd many) (nameB (i0 : Int)) y := fun j x y h1 h2 => by
      rw [ho] at h1 h2
      have g1 := (List.getElem?_eq_some_iff.1 h1).1
      have g2 := (List.getElem?_eq_some_iff.1 h2).1
      have e1 : (ofS (listS nd many) (nameB (i0 : Int))).depths[j]? = some _ := List.getElem?_eq_getElem (by rw [hok.same]; exact g1)
      have e2 : (ofS (listS nd many) (nameB (i0 : Int))).depths[j + 1]? = some _ := List.getElem?_eq_getElem (by rw [hok.same]; exact g2)
      rw [depth_at h1 e1, depth_at h2 e2]
      exact sorted hroot j _ _ e1 e2
    clear ho
    have hol : 0 < o.length := (List.getElem?_eq_some_iff.1 f0).1
    repeat' (first
      | ((with_reducible apply g_op); first
        | ((with_reducible apply g_load); first
          | ((with_reducible apply w_fl (v := .string _)); exact rfl; exact (fun _ => rfl); assumption; exact rfl))
        | ((with_reducible apply g_move); first
          | ((with_reducible apply w_pure (v := .int _ _)); exact rfl; exact rfl)
          | ((with_reducible apply w_pure (v := .bool _)); exact rfl; exact rfl)
          | ((with_reducible apply w_pure (v := .tuple _)); exact rfl; exact rfl)
          | ((with_reducible apply w_pure (v := .func _ _ _)); exact rfl; exact rfl))
        | ((with_reducible apply g_bin); first
          | ((with_reducible apply w_pure (v := .bool _)); exact rfl; exact rfl))
        | ((with_reducible apply g_assign); first
          | ((with_reducible apply w_pure (v := .int _ _)); exact rfl; exact rfl)
          | ((with_reducible apply w_pure (v := .func _ _ _)); exact rfl; exact rfl))
        | ((with_reducible apply g_call); first
          | ((with_reducible apply w_call (v := .int _ _)); exact rfl))
        | ((with_reducible apply g_ix); first
          | ((with_reducible apply w_fx (sz := 1)); exact rfl; exact rfl; exact rfl; exact rfl; exact rfl; exact (fun _ => rfl); assumption; exact rfl))
        | ((with_reducible apply w_pure (v := .int _ _)); exact rfl; exact rfl)
        | ((with_reducible apply w_pure (v := .func _ _ _)); exact rfl; exact rfl))
      | ((with_reducible apply g_gd); first
        | ((with_reducible apply w_gd_f); exact rfl; all_goals (intro hc; first | (exfalso; omega) | skip)))
      | with_reducible refine w_seq ?_
      | with_reducible refine w_nil ?_
      | with_reducible refine w_region ?_
      | with_reducible refine w_skip ?_
      | ((with_reducible apply w_draw); kernel_rfl; kernel_rfl)
      | ((with_reducible apply w_no); exact rfl))
    all_goals first | (exfalso; omega) | skip
    refine w_rq (name_run _ _ _ _) (fun _ => rfl) ?_
    rintro _ rfl
    repeat' (first
      | ((with_reducible apply g_op); first
        | ((with_reducible apply g_bin); first
          | ((with_reducible apply w_tne); exact rfl; exact rfl; exact rfl; exact rfl; exact rfl))
        | ((with_reducible apply g_pick); first
          | ((with_reducible apply w_pk0 (v := .bool _)); exact rfl; exact rfl; (first | assumption | exact decide_eq_true (by assumption) | exact decide_eq_false (by assumption) | exact decide_eq_true (by omega) | exact decide_eq_false (by omega) | exact beq_iff_eq.2 (by omega) | exact beq_eq_false_iff_ne.2 (by omega) | exact bne_iff_ne.2 (by omega) | exact bne_eq_false_iff_eq.2 (by omega))))
        | ((with_reducible apply g_assign); first
          | ((with_reducible apply w_pure (v := .int _ _)); exact rfl; exact rfl)
          | ((with_reducible apply w_pure (v := .bool _)); exact rfl; exact rfl)))
      | ((with_reducible apply g_gd); first
        | ((with_reducible apply w_gd_f); exact rfl; all_goals (intro hc; first | (exfalso; omega) | skip)))
      | with_reducible refine w_seq ?_
      | with_reducible refine w_nil ?_
      | with_reducible refine w_region ?_
      | with_reducible refine w_skip ?_
      | with_reducible refine w_block ?_
      | ((with_reducible apply w_ifd); exact rfl; all_goals (intro hc; first | (exfalso; omega) | skip))
      | ((with_reducible apply w_ret (v := .bool _)); exact rfl))
    all_goals first | exact absurd rfl (by assumption) | skip
    refine w_whileK [(4, 4), (10, 14), (61, 133)] (α := Nat) (fun i σ g' n' => σ 10 = .int .i64 (i : Nat) ∧ 1 ≤ i ∧ i ≤ o.length) (fun i => o.length - i) ?_ 1 ⟨rfl, Nat.le_refl _, hol⟩
    rintro i σ gl nl ⟨k10, hi1, hi2⟩ ih
    refine w_keep (i := 10) k10 ?_
    by_cases hlt : i < o.length
    · obtain ⟨x, hx⟩ : ∃ x, o[i]? = some x := ⟨_, List.getElem?_eq_getElem hlt⟩
      repeat' (first
        | ((with_reducible apply g_op); first
          | ((with_reducible apply g_move); first
            | ((with_reducible apply w_pure (v := .int _ _)); exact rfl; exact rfl)
            | ((with_reducible apply w_pure (v := .func _ _ _)); exact rfl; exact rfl))
          | ((with_reducible apply g_bin); first
            | ((with_reducible apply w_pure (v := .bool _)); exact rfl; exact rfl))
          | ((with_reducible apply g_assign); first
            | ((with_reducible apply w_pure (v := .int _ _)); exact rfl; exact rfl)
            | ((with_reducible apply w_pure (v := .bool _)); exact rfl; exact rfl))
          | ((with_reducible apply g_call); first
            | ((with_reducible apply w_call (v := .int _ _)); exact rfl)))
        | with_reducible refine w_seq ?_
        | with_reducible refine w_nil ?_
        | with_reducible refine w_region ?_
        | with_reducible refine w_skip ?_
        | with_reducible refine w_block ?_
        | ((with_reducible apply w_ifd); exact rfl; all_goals (intro hc; first | (exfalso; omega) | skip)))
      refine w_cntK [(4, 4), (11, 14), (67, 109)] i (fun k (b : Bool) σ g' n' => σ 12 = .int .i64 (k : Nat) ∧ σ 11 = .bool b ∧ b = (o.take k).any (fun y => hasB ((findL (listS nd many) y).getD []) x)) ?_ ?_ false ⟨rfl, rfl, rfl⟩
      · rintro k b σ2 g2 n2 hk ⟨k12, k11, hb⟩ ih2
        refine w_keep (i := 12) k12 (w_keep (i := 11) k11 ?_)
        obtain ⟨y, hy⟩ : ∃ y, o[k]? = some y := ⟨_, List.getElem?_eq_getElem (by omega)⟩
        obtain ⟨iy, hiy, rfl⟩ := f1 k y hy
        have hne : nameB (iy : Int) ≠ x := fun e => by
          obtain ⟨g1, e1⟩ := List.getElem?_eq_some_iff.1 hy
          obtain ⟨g2, e2⟩ := List.getElem?_eq_some_iff.1 hx
          exact List.pairwise_iff_getElem.1 f2 k i g1 g2 hk (by rw [e1, e2, e])
        have hlib := list_at (nd := nd) hiy
        have hl8 : (libAt nd iy).nd.length ≤ 8 := by simp [libAt]; omega
        have hnf := list_find (nd := nd) hiy
        repeat' (first
          | ((with_reducible apply g_op); first
            | ((with_reducible apply g_load); first
              | ((with_reducible apply w_fl (v := .string _)); exact rfl; exact (fun _ => rfl); assumption; exact rfl))
            | ((with_reducible apply g_move); first
              | ((with_reducible apply w_pure (v := .int _ _)); exact rfl; exact rfl)
              | ((with_reducible apply w_pure (v := .func _ _ _)); exact rfl; exact rfl))
            | ((with_reducible apply g_bin); first
              | ((with_reducible apply w_teq); exact rfl; exact rfl; exact rfl; exact rfl; exact rfl)
              | ((with_reducible apply w_pure (v := .bool _)); exact rfl; exact rfl)
              | ((with_reducible apply w_pure (v := .int _ _)); exact rfl; exact rfl))
            | ((with_reducible apply g_assign); first
              | ((with_reducible apply w_pure (v := .bool _)); exact rfl; exact rfl))
            | ((with_reducible apply w_convw); exact rfl; exact rfl; exact rfl)
            | ((with_reducible apply g_ix); first
              | ((with_reducible apply w_fx (sz := 1)); exact rfl; exact rfl; exact rfl; exact rfl; exact rfl; exact (fun _ => rfl); assumption; exact rfl))
            | ((with_reducible apply w_pure (v := .int _ _)); exact rfl; exact rfl))
          | with_reducible refine w_seq ?_
          | with_reducible refine w_nil ?_
          | with_reducible refine w_region ?_
          | with_reducible refine w_skip ?_
          | with_reducible refine w_block ?_
          | ((with_reducible apply w_draw); kernel_rfl; kernel_rfl)
          | ((with_reducible apply w_ifd); exact rfl; all_goals (intro hc; first | (exfalso; omega) | skip))
          | ((with_reducible apply w_ret (v := .bool _)); exact rfl))
        all_goals first | exact absurd (by assumption) hne | skip
        refine w_keep (i := 88) (v := .int .i64 (iy : Nat)) (byte_idx (by omega)) ?_
        repeat' (first
          | ((with_reducible apply g_op); first
            | ((with_reducible apply g_load); first
              | ((with_reducible apply w_fl (v := .func _ _ _)); exact rfl; exact (fun _ => rfl); assumption; exact rfl))
            | ((with_reducible apply g_fld); first
              | ((with_reducible apply w_ffld (o := 1)); exact rfl; exact rfl; exact rfl; exact (by decide)))
            | ((with_reducible apply g_assign); first
              | ((with_reducible apply w_pure (v := .int _ _)); exact rfl; exact rfl)
              | ((with_reducible apply w_pure (v := .func _ _ _)); exact rfl; exact rfl))
            | ((with_reducible apply g_ix); first
              | ((with_reducible apply w_fx (sz := 2)); exact rfl; exact rfl; exact rfl; exact rfl; exact rfl; exact (fun _ => rfl); assumption; exact rfl)))
          | with_reducible refine w_seq ?_
          | with_reducible refine w_nil ?_
          | with_reducible refine w_region ?_
          | with_reducible refine w_block ?_)
        refine w_rngK [(11, 11), (14, 14), (92, 109)] (libAt nd iy).nd (fun j rest (b1 : Bool) σ g' n' => σ 14 = .int .i64 (j : Nat) ∧ σ 11 = .bool b1 ∧ (b1 || hasB rest x) = (b || hasB (libAt nd iy).nd x)) ?_ ?_ b ⟨rfl, rfl, rfl⟩
        · rintro j z rest b1 σ3 g3 n3 hz hjl ⟨k14, k11, hb1⟩ ih3
          refine w_keep (i := 14) k14 (w_keep (i := 11) k11 ?_)
          cases b1 with
          | true =>
            repeat' (first
              | ((with_reducible apply g_op); first
                | ((with_reducible apply g_move); first
                  | ((with_reducible apply w_pure (v := .int _ _)); exact rfl; exact rfl)
                  | ((with_reducible apply w_pure (v := .bool _)); exact rfl; exact rfl)
                  | ((with_reducible apply w_pure (v := .func _ _ _)); exact rfl; exact rfl))
                | ((with_reducible apply g_bin); first
                  | ((with_reducible apply w_wrap); exact rfl; exact rfl; first | exact i64_in _ (by omega) | exact u64_in _ (by omega) | exact u8_in _ (by omega))
                  | ((with_reducible apply w_pure (v := .bool _)); exact rfl; exact rfl))
                | ((with_reducible apply g_assign); first
                  | ((with_reducible apply w_pure (v := .int _ _)); exact rfl; exact rfl)
                  | ((with_reducible apply w_pure (v := .bool _)); exact rfl; exact rfl))
                | ((with_reducible apply g_call); first
                  | ((with_reducible apply w_call (v := .int _ _)); exact rfl))
                | ((with_reducible apply w_pure (v := .bool _)); exact rfl; exact rfl))
              | ((with_reducible apply g_gd); first
                | ((with_reducible apply w_pass); exact rfl))
              | with_reducible refine w_seq ?_
              | with_reducible refine w_nil ?_
              | with_reducible refine w_region ?_
              | with_reducible refine w_skip ?_
              | with_reducible refine w_block ?_
              | with_reducible refine w_blk ?_
              | ((with_reducible apply w_draw); kernel_rfl; kernel_rfl)
              | ((with_reducible apply w_ifd); exact rfl; all_goals (intro hc; first | (exfalso; omega) | skip)))
            exact ih3 true _ _ _ (by repeat' (first | with_reducible exact Fr.mix | with_reducible exact Fr.rfl' | with_reducible refine Fr.put ?_ ?_ | with_reducible refine Fr.mix2 ?_ ?_ | with_reducible refine Fr.put0 ?_ | exact rfl)) ⟨by push_cast; rfl, rfl, by rw [← hb1]; simp⟩
          | false =>
            repeat' (first
              | ((with_reducible apply g_op); first
                | ((with_reducible apply g_load); first
                  | ((with_reducible apply w_fl (v := .string _)); exact rfl; exact (fun _ => rfl); assumption; exact rfl))
                | ((with_reducible apply g_move); first
                  | ((with_reducible apply w_pure (v := .int _ _)); exact rfl; exact rfl)
                  | ((with_reducible apply w_pure (v := .bool _)); exact rfl; exact rfl)
                  | ((with_reducible apply w_pure (v := .func _ _ _)); exact rfl; exact rfl))
                | ((with_reducible apply g_bin); first
                  | ((with_reducible apply w_wrap); exact rfl; exact rfl; first | exact i64_in _ (by omega) | exact u64_in _ (by omega) | exact u8_in _ (by omega))
                  | ((with_reducible apply w_teq); exact rfl; exact rfl; exact rfl; exact rfl; exact rfl)
                  | ((with_reducible apply w_pure (v := .bool _)); exact rfl; exact rfl))
                | ((with_reducible apply g_assign); first
                  | ((with_reducible apply w_pure (v := .int _ _)); exact rfl; exact rfl)
                  | ((with_reducible apply w_pure (v := .bool _)); exact rfl; exact rfl))
                | ((with_reducible apply g_call); first
                  | ((with_reducible apply w_call (v := .int _ _)); exact rfl))
                | ((with_reducible apply g_ix); first
                  | ((with_reducible apply w_fx (sz := 1)); exact rfl; exact rfl; exact rfl; exact rfl; exact rfl; exact (fun _ => rfl); assumption; exact rfl))
                | ((with_reducible apply w_pure (v := .bool _)); exact rfl; exact rfl))
              | ((with_reducible apply g_gd); first
                | ((with_reducible apply w_want); exact rfl))
              | with_reducible refine w_seq ?_
              | with_reducible refine w_nil ?_
              | with_reducible refine w_region ?_
              | with_reducible refine w_skip ?_
              | with_reducible refine w_block ?_
              | with_reducible refine w_blk ?_
              | ((with_reducible apply w_draw); kernel_rfl; kernel_rfl)
              | ((with_reducible apply w_ifd); exact rfl; all_goals (intro hc; first | (exfalso; omega) | skip)))
            exact ih3 _ _ _ _ (by repeat' (first | with_reducible exact Fr.mix | with_reducible exact Fr.rfl' | with_reducible refine Fr.put ?_ ?_ | with_reducible refine Fr.mix2 ?_ ?_ | with_reducible refine Fr.put0 ?_ | exact rfl)) ⟨by push_cast; rfl, rfl, by rw [← hb1]; simp [hasB]⟩
        · rintro b1 σ3 g3 n3 ⟨k14, k11, hb1⟩
          refine w_keep (i := 14) k14 (w_keep (i := 11) k11 ?_)
          repeat' (first
            | ((with_reducible apply g_op); first
              | ((with_reducible apply g_move); first
                | ((with_reducible apply w_pure (v := .int _ _)); exact rfl; exact rfl)
                | ((with_reducible apply w_pure (v := .func _ _ _)); exact rfl; exact rfl))
              | ((with_reducible apply g_bin); first
                | ((with_reducible apply w_wrap); exact rfl; exact rfl; first | exact i64_in _ (by omega) | exact u64_in _ (by omega) | exact u8_in _ (by omega))
                | ((with_reducible apply w_pure (v := .bool _)); exact rfl; exact rfl))
              | ((with_reducible apply g_assign); first
                | ((with_reducible apply w_pure (v := .int _ _)); exact rfl; exact rfl))
              | ((with_reducible apply g_call); first
                | ((with_reducible apply w_call (v := .int _ _)); exact rfl)))
            | with_reducible refine w_seq ?_
            | with_reducible refine w_nil ?_
            | with_reducible refine w_region ?_
            | with_reducible refine w_blk ?_
            | ((with_reducible apply w_exit); exact rfl)
            | ((with_reducible apply w_ifd); exact rfl; all_goals (intro hc; first | (exfalso; omega) | skip)))
          refine ih2 b1 _ _ _ (by repeat' (first | with_reducible exact Fr.mix | with_reducible exact Fr.rfl' | with_reducible refine Fr.put ?_ ?_ | with_reducible refine Fr.mix2 ?_ ?_ | with_reducible refine Fr.put0 ?_ | exact rfl)) ⟨by push_cast; rfl, rfl, ?_⟩
          rw [List.take_add_one, hy, List.any_append, ← hb]
          simp only [Option.toList_some, List.any_cons, List.any_nil, Bool.or_false, hnf, Option.getD_some]
          rw [← hb1]
          simp [hasB]
      · rintro b σ2 g2 n2 ⟨k12, k11, hb⟩
        refine w_keep (i := 12) k12 (w_keep (i := 11) k11 ?_)
        have hbt : b = true := by
          obtain ⟨k, y, k1, k2, k3⟩ := f3 i x (by omega) hx
          rw [hb, List.any_eq_true]
          exact ⟨y, List.mem_of_getElem? (by rw [List.getElem?_take, if_pos k1]; exact k2), hasB_iff.2 k3⟩
        subst hbt
        obtain ⟨w, hw⟩ : ∃ w, o[i - 1]? = some w := ⟨_, List.getElem?_eq_getElem (by omega)⟩
        have hle := f4 (i - 1) w x hw (by rw [show i - 1 + 1 = i by omega]; exact hx)
        repeat' (first
          | ((with_reducible apply g_op); first
            | ((with_reducible apply g_load); first
              | ((with_reducible apply w_fl (v := .string _)); exact rfl; exact (fun _ => rfl); assumption; exact rfl))
            | ((with_reducible apply g_move); first
              | ((with_reducible apply w_pure (v := .int _ _)); exact rfl; exact rfl)
              | ((with_reducible apply w_pure (v := .bool _)); exact rfl; exact rfl)
              | ((with_reducible apply w_pure (v := .func _ _ _)); exact rfl; exact rfl))
            | ((with_reducible apply g_bin); first
              | ((with_reducible apply w_pure (v := .bool _)); exact rfl; exact rfl))
            | ((with_reducible apply g_ix); first
              | ((with_reducible apply w_fx (sz := 1)); exact rfl; exact rfl; exact rfl; exact rfl; exact rfl; exact (fun _ => rfl); assumption; exact rfl))
            | ((with_reducible apply w_pure (v := .bool _)); exact rfl; exact rfl))
          | ((with_reducible apply g_gd); first
            | ((with_reducible apply w_want); exact rfl))
          | with_reducible refine w_seq ?_
          | with_reducible refine w_nil ?_
          | with_reducible refine w_region ?_
          | ((with_reducible apply w_draw); kernel_rfl; kernel_rfl)
          | ((with_reducible apply w_exit); exact rfl)
          | ((with_reducible apply w_ifd); exact rfl; all_goals (intro hc; first | (exfalso; omega) | skip)))
        refine w_rf (hdr x) (fun _ => rfl) (sn_cons lv_sn (sn_cons (sn_plain rfl) (sn_cons (sn_plain rfl) sn_nil))) ?_
        rintro _ rfl
        repeat' (first
          | ((with_reducible apply g_op); first
            | ((with_reducible apply g_load); first
              | ((with_reducible apply w_fl (v := .string _)); exact rfl; exact (fun _ => rfl); assumption; exact rfl))
            | ((with_reducible apply g_move); first
              | ((with_reducible apply w_pure (v := .int _ _)); exact rfl; exact rfl)
              | ((with_reducible apply w_pure (v := .func _ _ _)); exact rfl; exact rfl))
            | ((with_reducible apply g_bin); first
              | ((with_reducible apply w_wrap); exact rfl; exact rfl; first | exact i64_in _ (by omega) | exact u64_in _ (by omega) | exact u8_in _ (by omega)))
            | ((with_reducible apply g_ix); first
              | ((with_reducible apply w_fx (sz := 1)); exact rfl; exact rfl; exact rfl; exact rfl; exact rfl; exact (fun _ => rfl); assumption; exact rfl)))
          | ((with_reducible apply g_gd); first
            | ((with_reducible apply w_want); exact rfl)))
        refine w_keep (i := 128) (v := .int .i64 ((i - 1 : Nat) : Int)) (int_eq (by omega)) ?_
        repeat' (first
          | ((with_reducible apply g_op); first
            | ((with_reducible apply g_load); first
              | ((with_reducible apply w_fl (v := .string _)); exact rfl; exact (fun _ => rfl); assumption; exact rfl))
            | ((with_reducible apply g_ix); first
              | ((with_reducible apply w_fx (sz := 1)); exact rfl; exact rfl; exact rfl; exact rfl; exact rfl; exact (fun _ => rfl); assumption; exact rfl)))
          | ((with_reducible apply g_gd); first
            | ((with_reducible apply w_want); exact rfl)))
        refine w_rf (hdr w) (fun _ => rfl) (sn_cons lv_sn (sn_cons (sn_plain rfl) (sn_cons (sn_plain rfl) sn_nil))) ?_
        rintro _ rfl
        repeat' (first
          | ((with_reducible apply g_op); first
            | ((with_reducible apply g_move); first
              | ((with_reducible apply w_pure (v := .int _ _)); exact rfl; exact rfl))
            | ((with_reducible apply g_bin); first
              | ((with_reducible apply w_wrap); exact rfl; exact rfl; first | exact i64_in _ (by omega) | exact u64_in _ (by omega) | exact u8_in _ (by omega))
              | ((with_reducible apply w_pure (v := .bool _)); exact rfl; exact rfl))
            | ((with_reducible apply g_assign); first
              | ((with_reducible apply w_pure (v := .int _ _)); exact rfl; exact rfl))
            | ((with_reducible apply w_pure (v := .bool _)); exact rfl; exact rfl))
          | ((with_reducible apply g_gd); first
            | ((with_reducible apply w_want); exact rfl))
          | with_reducible refine w_nil ?_
          | with_reducible refine w_region ?_
          | with_reducible refine w_skip ?_
          | with_reducible refine w_blk ?_
          | ((with_reducible apply w_ifd); exact rfl; all_goals (intro hc; first | (exfalso; omega) | skip)))
        exact ih (i + 1) _ _ _ (by omega) (by repeat' (first | with_reducible exact Fr.mix | with_reducible exact Fr.rfl' | with_reducible refine Fr.put ?_ ?_ | with_reducible refine Fr.mix2 ?_ ?_ | with_reducible refine Fr.put0 ?_ | exact rfl)) ⟨by push_cast; rfl, by omega, by omega⟩
    · repeat' (first
        | ((with_reducible apply g_op); first
          | ((with_reducible apply g_move); first
            | ((with_reducible apply w_pure (v := .int _ _)); exact rfl; exact rfl)
            | ((with_reducible apply w_pure (v := .bool _)); exact rfl; exact rfl)
            | ((with_reducible apply w_pure (v := .func _ _ _)); exact rfl; exact rfl))
          | ((with_reducible apply g_bin); first
            | ((with_reducible apply w_pure (v := .bool _)); exact rfl; exact rfl))
          | ((with_reducible apply g_assign); first
            | ((with_reducible apply w_pure (v := .bool _)); exact rfl; exact rfl))
          | ((with_reducible apply g_call); first
            | ((with_reducible apply w_call (v := .int _ _)); exact rfl)))
        | with_reducible refine w_seq ?_
        | with_reducible refine w_nil ?_
        | with_reducible refine w_region ?_
        | ((with_reducible apply w_exit); exact rfl)
        | ((with_reducible apply w_ifd); exact rfl; all_goals (intro hc; first | (exfalso; omega) | skip))
        | ((with_reducible apply w_ret (v := .bool _)); exact rfl))
      rfl
theorem proved (x0 : List (List Int) × Int) (x1 : Int) {q r : Prop} (w0 : wfL (wfL (wfI .i64)) x0.1 ∧ q) (w1 : r) : Rn Try.prog tab 6 [.agg ((kPair (kList (kList (kInt .i64))) (kInt .i64)).enc x0).toArray, .int .i64 x1] (fun _ => none) 0 0 (fun v _ _ => v = .bool true) :=
  walk x0.1 x0.2 x1 w0.1.1 (fun r hr => (w0.1.2 r hr).1) _ 0
end Go.Proofs.Ytgljofdhdnhekaa.L.NeedsOrder

