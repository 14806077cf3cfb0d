/- NeedsGrow: walked, and its plain law. -/
import Derived.Test.Ytgljofdhdnhekaac12S
namespace Go.Proofs.Ytgljofdhdnhekaa.L.NeedsGrow
open Go.L1 Go.IntWalk Go.Proofs.Ytgljofdhdnhekaa.L
set_option linter.unusedVariables false
set_option linter.unusedSimpArgs false
set_option maxHeartbeats 4000000
set_option maxRecDepth 100000
def tab : Tb := L.T
theorem tabok : ∀ C : Cx, C.P = Try.prog → TbOk C tab := L.tabok
theorem byte_idx {i : Nat} (h : i < 16) : Value.int .i64 (IntKind.i64.wrap (IntKind.u8.wrap ((((nameB (i : Int)).data.toList.getD (0 : Int).toNat 0).toNat : Int) - 97))) = .int .i64 (i : Nat) := by
  have : (((nameB (i : Int)).data.toList.getD (0 : Int).toNat 0).toNat : Int) = 97 + i := by
    show (((UInt8.ofNat (97 + (i : Int) % 16).toNat).toNat : Nat) : Int) = 97 + i
    rw [UInt8.toNat_ofNat']
    omega
  rw [this]
  congr 1
  rw [show (97 + (i : Int) - 97) = i by omega]
  rw [u8_in _ (by omega)]
  exact i64_in _ (by omega)
theorem int_eq {a b : Int} (h : a = b) : Value.int .i64 a = .int .i64 b := by rw [h]
abbrev PV := Lib × Value
def enc3 (p : PV) : List Value := [.string p.1.name, p.2]
def ps0 (l : List Lib) : List PV := l.map fun x => (x, tv #[] x.nd)
theorem ps0_cells (l : List Lib) : (ps0 l).flatMap enc3 = l.flatMap (Lib.cs #[]) := by unfold ps0; rw [List.flatMap_map]; rfl
theorem lib_one (a : Array Value) (l : List Lib) : (l.flatMap (Lib.cs a)).all Go.L1.one = true := by
  induction l with
  | nil => rfl
  | cons x l ih => rw [List.flatMap_cons, List.all_append, ih]; rfl
theorem ts_one (l : List ByteArray) : (l.flatMap ts).all Go.L1.one = true := by
  induction l with
  | nil => rfl
  | cons x l ih => rw [List.flatMap_cons, List.all_append, ih]; rfl
theorem pv_sn {G : Nat → Option Ob} {ps : List PV} {r : Nat} {l : List Lib} (hl : l = ps.map Prod.fst) (hg : G r = some (.cells 27 (ps.flatMap enc3))) (h : ∀ p ∈ ps, L1.freeze Try.prog G tg 0 8 p.2 = some (tv tg p.1.nd)) : L1.freeze Try.prog G tg 0 9 (slc r 0 ps.length) = some (lv tg l) := by
  subst hl
  rw [sn_row (sz := 2) hg (Nat.zero_le _) rfl (by decide) (rd_all (by rw [flat_len (enc := enc3) (sz := 2) (fun _ => rfl)])) (sn_map (enc' := fun p => Lib.cs tg p.1) fun p hp => sn_cons (sn_plain rfl) (sn_cons (h p hp) sn_nil))]
  simp [List.flatMap_map]
theorem ps0_sn {G : Nat → Option Ob} {l : List Lib} : ∀ p ∈ ps0 l, L1.freeze Try.prog G tg 0 8 p.2 = some (tv tg p.1.nd) := fun p hp => by
  obtain ⟨x, _, rfl⟩ := List.mem_map.1 hp
  exact sn_fzp (.inl rfl) (all_flat ts_plain _)
theorem walk (nd : List (List Int)) (many x1 : Int) (hnd : nd.length ≤ 9223372036854775807) (hr : ∀ r ∈ nd, r.length ≤ 9223372036854775807) (g : Nat → Option Ob) (n : Nat) : Rn Try.prog T 4 [specV tg nd many, .int .i64 x1] g n n (fun v _ _ => v = .bool true) := by
  refine c_open Try.func4 rfl rfl rfl rfl rfl rfl ?_
  unfold specV
  repeat' (first
    | ((with_reducible apply g_op); first
      | ((with_reducible apply g_assign); first
        | ((with_reducible apply w_pure (v := .bool _)); exact rfl; exact rfl))
      | ((with_reducible apply g_box); first
        | ((with_reducible apply w_box (vs := [_, _])); exact rfl; exact rfl)))
    | with_reducible refine w_seq ?_
    | with_reducible refine w_nil ?_
    | with_reducible refine w_region ?_)
  refine w_rf awake_run (fun _ => rfl) sn_nil ?_
  rintro _ rfl
  repeat' (first
    | ((with_reducible apply g_op); first
      | ((with_reducible apply g_load); first
        | ((with_reducible apply w_load (v := .agg #[_, _])); exact rfl; (first | assumption | (simp (disch := omega) only [upd_same, upd_ne]; first | done | assumption | exact rfl) | exact rfl); exact rfl))
      | ((with_reducible apply g_assign); first
        | ((with_reducible apply w_pure (v := .bool _)); exact rfl; exact rfl)))
    | with_reducible refine w_seq ?_
    | with_reducible refine w_nil ?_
    | with_reducible refine w_region ?_)
  refine w_rf (list_run nd many hnd hr) (fun _ => rfl) (sn_cons (spec_sn) sn_nil) ?_
  rintro _ rfl
  have hfit := list_fits nd many
  have hlen := list_len nd many
  have hc := cnt_ok many
  have hl1 : 0 < ((listS nd many).length : Int) := by rw [hlen]; omega
  have hl2 : ((listS nd many).length : Int) ≤ 16 := by rw [hlen]; omega
  have q1 := Int.lt_tmod_of_pos x1 hl1
  have q2 := Int.tmod_lt_of_pos x1 hl1
  repeat' (first
    | ((with_reducible apply g_op); first
      | ((with_reducible apply g_move); first
        | ((with_reducible apply w_pure (v := .int _ _)); exact rfl; exact rfl)
        | ((with_reducible apply w_pure (v := .func _ _ _)); exact rfl; exact rfl))
      | ((with_reducible apply g_assign); first
        | ((with_reducible apply w_pure (v := .func _ _ _)); exact rfl; exact rfl))
      | ((with_reducible apply g_call); first
        | ((with_reducible apply w_call (v := .int _ _)); exact rfl)))
    | with_reducible refine w_seq ?_
    | with_reducible refine w_nil ?_
    | with_reducible refine w_region ?_)
  refine w_tmod rfl rfl rfl rfl rfl (by omega) ?_
  generalize x1.tmod ((listS nd many).length : Int) = q at *
  have q3 := Int.emod_nonneg (q + ((listS nd many).length : Int)) (show ((listS nd many).length : Int) ≠ 0 by omega)
  have q4 := Int.emod_lt_of_pos (q + ((listS nd many).length : Int)) hl1
  repeat' (first
    | ((with_reducible apply g_op); first
      | ((with_reducible apply g_move); first
        | ((with_reducible apply w_pure (v := .func _ _ _)); exact rfl; exact rfl))
      | ((with_reducible apply g_bin); first
        | ((with_reducible apply w_mod); exact rfl; exact rfl; exact rfl; exact rfl; exact rfl; omega; omega)
        | ((with_reducible apply w_wrap); exact rfl; exact rfl; first | exact i64_in _ (by omega) | exact u64_in _ (by omega) | exact u8_in _ (by omega)))
      | ((with_reducible apply g_call); first
        | ((with_reducible apply w_call (v := .int _ _)); exact rfl))))
  generalize (q + ((listS nd many).length : Int)) % ((listS nd many).length : Int) = R at *
  obtain ⟨i0, rfl⟩ : ∃ i0 : Nat, R = (i0 : Int) := ⟨R.toNat, by omega⟩
  have hi0 : i0 < cnt many := by omega
  have hroot : (findL (listS nd many) (nameB (i0 : Int))).isSome = true := by rw [list_find hi0]; rfl
  have hg1 := grow1 nd many ⟨_, rfl⟩ hroot
  refine w_rq (name_run _ _ _ _) (fun _ => rfl) ?_
  rintro _ rfl
  repeat' (first
    | ((with_reducible apply g_op); first
      | ((with_reducible apply g_move); first
        | ((with_reducible apply w_pure (v := .string _)); exact rfl; exact rfl)
        | ((with_reducible apply w_pure (v := .func _ _ _)); exact rfl; exact rfl))
      | ((with_reducible apply g_assign); first
        | ((with_reducible apply w_pure (v := .string _)); exact rfl; exact rfl)))
    | with_reducible refine w_seq ?_
    | with_reducible refine w_nil ?_
    | with_reducible refine w_region ?_)
  have hor := order_run _ (nameB (i0 : Int)) hfit
  have hor1 := order_run _ (nameB (i0 : Int)) (more1_fits nd many (nameB (i0 : Int)))
  rw [hg1] at hor1
  have hal := order_len _ (nameB (i0 : Int)) hfit
  have hok := ofS_ok (listS nd many) (nameB (i0 : Int))
  have hrel := rel_wk (listS nd many) (nameB (i0 : Int))
  have hnl := hok.len
  obtain ⟨a, e, hA, hcase⟩ : ∃ a e, orderS (listS nd many) (nameB (i0 : Int)) = (a, e) ∧ ((a = [] ∧ e = 17) ∨ (a = (ofS (listS nd many) (nameB (i0 : Int))).names ∧ e = 0 ∧ (ofS (listS nd many) (nameB (i0 : Int))).missing.length = 0)) := by
    refine ⟨(orderS (listS nd many) (nameB (i0 : Int))).1, (orderS (listS nd many) (nameB (i0 : Int))).2, rfl, ?_⟩
    unfold orderS
    rw [hroot, if_neg (by simp)]
    by_cases hm : (wk (listS nd many) (nameB (i0 : Int))).missing.length > 0
    · rw [if_pos (.inl hm)]; exact .inl ⟨rfl, rfl⟩
    · rw [if_neg (by rintro (h | h); exact hm h; rw [hrel.names] at h; omega)]
      exact .inr ⟨hrel.names, rfl, by rw [← hrel.missing]; omega⟩
  rw [hA] at hor hor1 hal
  dsimp only at hor hor1 hal
  refine w_rf hor (fun _ => rfl) (sn_cons lv_sn (sn_cons (sn_plain rfl) sn_nil)) ?_
  rintro _ rfl
  repeat' (first
    | ((with_reducible apply g_op); first
      | ((with_reducible apply g_move); first
        | ((with_reducible apply w_pure (v := .slice _ _ _)); exact rfl; exact rfl)
        | ((with_reducible apply w_pure (v := .tuple _)); exact rfl; exact rfl)
        | ((with_reducible apply w_pure (v := .func _ _ _)); exact rfl; exact rfl))
      | ((with_reducible apply g_assign); first
        | ((with_reducible apply w_pure (v := .int _ _)); exact rfl; exact rfl)
        | ((with_reducible apply w_pure (v := .slice _ _ _)); exact rfl; exact rfl)
        | ((with_reducible apply w_pure (v := .func _ _ _)); exact rfl; exact rfl))
      | ((with_reducible apply w_pure (v := .int _ _)); exact rfl; exact rfl)
      | ((with_reducible apply w_pure (v := .func _ _ _)); exact rfl; exact rfl))
    | with_reducible refine w_seq ?_
    | with_reducible refine w_nil ?_
    | with_reducible refine w_region ?_)
  refine w_apA0 (by_ := 40) (sz := 2) (mm := (listS nd many).length) (ns := (ps0 (listS nd many)).flatMap enc3) rfl rfl rfl rfl rfl rfl rfl ?_ ?_ (by omega) (by omega) ?_
  · rw [ps0_cells]
    show (if _ = _ then _ else _) = _
    rw [if_pos (by rw [List.size_toArray, flat_len (enc := Lib.cs #[]) (sz := 2) (fun _ => rfl)])]
  · rw [ps0_cells]; unfold appendable; rw [lib_one]; rfl
  have hp0 : (ps0 (listS nd many)).length = (listS nd many).length := by simp [ps0]
  have hfl : ((ps0 (listS nd many)).flatMap enc3).length = (listS nd many).length * 2 := by rw [flat_len (enc := enc3) (sz := 2) (fun _ => rfl), hp0]
  repeat' (first
    | ((with_reducible apply g_op); first
      | ((with_reducible apply g_move); first
        | ((with_reducible apply w_pure (v := .slice _ _ _)); exact rfl; exact rfl)
        | ((with_reducible apply w_pure (v := .string _)); exact rfl; exact rfl))
      | ((with_reducible apply g_assign); first
        | ((with_reducible apply w_pure (v := .slice _ _ _)); exact rfl; exact rfl))
      | ((with_reducible apply g_build); first
        | ((with_reducible apply w_pure (v := .agg #[_, _])); exact rfl; exact rfl))
      | ((with_reducible apply w_bsl (ls := [_])); exact rfl; exact rfl; exact rfl; exact ⟨by decide, rfl⟩; exact rfl)
      | ((with_reducible apply w_bsl (ls := [_, _])); exact rfl; exact rfl; exact rfl; exact ⟨by decide, rfl⟩; exact rfl))
    | with_reducible refine w_seq ?_
    | with_reducible refine w_nil ?_
    | with_reducible refine w_region ?_)
  refine w_app1 (by_ := 40) (sz := 2) (kk := 1) (ns := [_, _]) rfl rfl rfl rfl rfl rfl (by simp (disch := omega) only [upd_same, upd_ne]) (rd_all hfl.symm) upd_same rfl rfl (by decide) (by omega) ?_
  obtain ⟨P1, hP1⟩ : ∃ P1 : List PV, P1 = ps0 (listS nd many) ++ [(newL (nameB (i0 : Int)), slc (n + 1 + 1) 0 1)] := ⟨_, rfl⟩
  have hP1l : P1.length = (listS nd many).length + 1 := by rw [hP1]; simp [hp0]
  have hP1f : more1 (listS nd many) (nameB (i0 : Int)) = P1.map Prod.fst := by
    rw [hP1, List.map_append]; unfold ps0 more1
    rw [List.map_map, show (Prod.fst ∘ fun x : Lib => (x, tv #[] x.nd)) = id from rfl, List.map_id]; rfl
  refine w_gen (fun G N => G (n + 1 + 1 + 1 + 1) = some (.cells 27 (P1.flatMap enc3)) ∧ G (n + 1 + 1) = some (.cells 9 [.string (nameB (i0 : Int))]) ∧ n + 5 ≤ N) ⟨?_, ?_, by omega⟩ ?_
  · simp (disch := omega) only [upd_same, upd_ne]; rw [hP1, List.flatMap_append]; rfl
  · simp (disch := omega) only [upd_same, upd_ne]; rfl
  rintro G N ⟨hM, hq, hN⟩
  have hsn1 : ∀ G' : Nat → Option Ob, G' (n + 1 + 1) = some (.cells 9 [.string (nameB (i0 : Int))]) → ∀ p ∈ P1, L1.freeze Try.prog G' tg 0 8 p.2 = some (tv tg p.1.nd) := fun G' hq p hp => by
    rw [hP1] at hp
    rcases List.mem_append.1 hp with hp | hp
    · exact ps0_sn p hp
    · rw [List.mem_singleton.1 hp]
      exact sn_row (sz := 1) hq (Nat.zero_le _) rfl (by decide) rfl (sn_plains rfl)
  have hz1 := pv_sn hP1f hM (hsn1 G hq)
  rw [hP1l] at hz1
  repeat' (first
    | ((with_reducible apply g_op); first
      | ((with_reducible apply g_move); first
        | ((with_reducible apply w_pure (v := .slice _ _ _)); exact rfl; exact rfl)
        | ((with_reducible apply w_pure (v := .string _)); exact rfl; exact rfl))
      | ((with_reducible apply g_assign); first
        | ((with_reducible apply w_pure (v := .slice _ _ _)); exact rfl; exact rfl)))
    | with_reducible refine w_seq ?_
    | with_reducible refine w_nil ?_
    | with_reducible refine w_region ?_)
  refine w_rf hor1 (fun _ => rfl) (sn_cons hz1 (sn_cons (sn_plain rfl) sn_nil)) ?_
  rintro _ rfl
  repeat' (first
    | ((with_reducible apply g_op); first
      | ((with_reducible apply g_move); first
        | ((with_reducible apply w_pure (v := .tuple _)); exact rfl; exact rfl)
        | ((with_reducible apply w_pure (v := .func _ _ _)); exact rfl; exact rfl))
      | ((with_reducible apply g_assign); first
        | ((with_reducible apply w_pure (v := .int _ _)); exact rfl; exact rfl)
        | ((with_reducible apply w_pure (v := .func _ _ _)); exact rfl; exact rfl))
      | ((with_reducible apply w_pure (v := .int _ _)); exact rfl; exact rfl)
      | ((with_reducible apply w_pure (v := .func _ _ _)); exact rfl; exact rfl))
    | with_reducible refine w_seq ?_
    | with_reducible refine w_nil ?_
    | with_reducible refine w_region ?_)
  refine w_rf (texts_run a a (by omega) (by omega)) (fun _ => rfl) (sn_cons (sn_fzp (.inl rfl) (all_flat ts_plain _)) (sn_cons (sn_fzp (.inl rfl) (all_flat ts_plain _)) sn_nil)) ?_
  rintro _ rfl
  rw [decide_eq_true rfl]
  rcases hcase with ⟨ha, he⟩ | ⟨ha, he, hm⟩
  · subst he
    repeat' (first
      | ((with_reducible apply g_op); first
        | ((with_reducible apply g_move); first
          | ((with_reducible apply w_pure (v := .int _ _)); exact rfl; exact rfl)
          | ((with_reducible apply w_pure (v := .bool _)); exact rfl; exact rfl))
        | ((with_reducible apply g_bin); first
          | ((with_reducible apply w_pure (v := .bool _)); exact rfl; exact rfl))
        | ((with_reducible apply g_assign); first
          | ((with_reducible apply w_pure (v := .bool _)); exact rfl; exact rfl))
        | ((with_reducible apply w_pure (v := .bool _)); exact rfl; exact rfl))
      | ((with_reducible apply g_gd); first
        | ((with_reducible apply w_want); exact rfl))
      | with_reducible refine w_seq ?_
      | with_reducible refine w_nil ?_
      | with_reducible refine w_region ?_
      | with_reducible refine w_skip ?_
      | ((with_reducible apply w_yes); exact rfl)
      | ((with_reducible apply w_no); exact rfl)
      | ((with_reducible apply w_ret (v := .bool _)); exact rfl))
    rfl
  · subst he
    have hroot' : (ofS (listS nd many) (nameB (i0 : Int))).names[0]? = some (nameB (i0 : Int)) := head_root hroot
    rw [← ha] at hroot'
    have hal0 : 0 < a.length := (List.getElem?_eq_some_iff.1 hroot').1
    obtain ⟨xl, hxl⟩ : ∃ x, a[a.length - 1]? = some x := ⟨_, List.getElem?_eq_getElem (by omega)⟩
    obtain ⟨k, hk, rfl⟩ := list_has (hok.within xl (by rw [← ha]; exact List.mem_of_getElem? hxl))
    have hsz : (nameB (k : Int)).size = 1 := rfl
    obtain ⟨hgo2, hgr2⟩ := grow2 hi0 hk hm (by rw [← ha]; exact hxl)
    rw [← ha] at hgo2
    have hlib := list_at (nd := nd) hk
    have hnl8 : (libAt nd k).nd.length ≤ 8 := by simp [libAt]; omega
    have hv : IntKind.i64.wrap (IntKind.u8.wrap (bt (nameB (k : Int)) (Int.toNat 0) - 97)) = (k : Int) := (Value.int.inj (byte_idx (i := k) (by omega))).2
    have hP1k : P1[k]? = some (libAt nd k, tv #[] (libAt nd k).nd) := by
      rw [hP1, List.getElem?_append_left (by rw [hp0, hlen]; exact hk)]
      unfold ps0
      rw [List.getElem?_map, hlib]; rfl
    repeat' (first
      | ((with_reducible apply g_op); first
        | ((with_reducible apply g_move); first
          | ((with_reducible apply w_pure (v := .int _ _)); exact rfl; exact rfl)
          | ((with_reducible apply w_pure (v := .bool _)); exact rfl; exact rfl)
          | ((with_reducible apply w_pure (v := .func _ _ _)); exact rfl; exact rfl))
        | ((with_reducible apply g_bin); first
          | ((with_reducible apply w_wrap); exact rfl; exact rfl; first | exact i64_in _ (by omega) | exact u64_in _ (by omega) | exact u8_in _ (by omega))
          | ((with_reducible apply w_pure (v := .bool _)); exact rfl; exact rfl))
        | ((with_reducible apply g_assign); first
          | ((with_reducible apply w_pure (v := .bool _)); exact rfl; exact rfl))
        | ((with_reducible apply g_call); first
          | ((with_reducible apply w_call (v := .int _ _)); exact rfl))
        | ((with_reducible apply w_pure (v := .bool _)); exact rfl; exact rfl))
      | ((with_reducible apply g_gd); first
        | ((with_reducible apply w_want); exact rfl)
        | ((with_reducible apply w_gd_f); exact rfl; all_goals (intro hc; first | (exfalso; omega) | skip)))
      | with_reducible refine w_seq ?_
      | with_reducible refine w_nil ?_
      | with_reducible refine w_region ?_
      | with_reducible refine w_skip ?_
      | ((with_reducible apply w_no); exact rfl))
    refine w_keep (i := 74) (v := .int .i64 ((a.length - 1 : Nat) : Int)) (int_eq (by omega)) ?_
    repeat' (first
      | ((with_reducible apply g_op); first
        | ((with_reducible apply g_load); first
          | ((with_reducible apply w_fl (v := .string _)); exact rfl; exact (fun _ => rfl); assumption; exact rfl))
        | ((with_reducible apply g_move); first
          | ((with_reducible apply w_pure (v := .func _ _ _)); exact rfl; exact rfl))
        | ((with_reducible apply g_bin); first
          | ((with_reducible apply w_wrap); exact rfl; exact rfl; first | exact i64_in _ (by omega) | exact u64_in _ (by omega) | exact u8_in _ (by omega))
          | ((with_reducible apply w_pure (v := .bool _)); exact rfl; exact rfl))
        | ((with_reducible apply g_pick); first
          | ((with_reducible apply w_pk0 (v := .bool _)); exact rfl; exact rfl; (first | assumption | exact decide_eq_true (by assumption) | exact decide_eq_false (by assumption) | exact decide_eq_true (by omega) | exact decide_eq_false (by omega) | exact beq_iff_eq.2 (by omega) | exact beq_eq_false_iff_ne.2 (by omega) | exact bne_iff_ne.2 (by omega) | exact bne_eq_false_iff_eq.2 (by omega))))
        | ((with_reducible apply g_call); first
          | ((with_reducible apply w_call (v := .int _ _)); exact rfl))
        | ((with_reducible apply g_ix); first
          | ((with_reducible apply w_fx (sz := 1)); exact rfl; exact rfl; exact rfl; exact rfl; exact rfl; exact (fun _ => rfl); assumption; exact rfl)))
      | ((with_reducible apply g_gd); first
        | ((with_reducible apply w_gd_f); exact rfl; all_goals (intro hc; first | (exfalso; omega) | skip)))
      | with_reducible refine w_seq ?_
      | with_reducible refine w_nil ?_
      | with_reducible refine w_region ?_
      | with_reducible refine w_skip ?_
      | ((with_reducible apply w_no); exact rfl))
    all_goals first | (exfalso; omega) | skip
    refine w_keep (i := 83) (v := .int .i64 ((a.length - 1 : Nat) : Int)) (int_eq (by omega)) ?_
    repeat' (first
      | ((with_reducible apply g_op); first
        | ((with_reducible apply g_load); first
          | ((with_reducible apply w_fl (v := .string _)); exact rfl; exact (fun _ => rfl); assumption; exact rfl))
        | ((with_reducible apply g_move); first
          | ((with_reducible apply w_pure (v := .int _ _)); exact rfl; exact rfl)
          | ((with_reducible apply w_pure (v := .bool _)); exact rfl; exact rfl)
          | ((with_reducible apply w_pure (v := .slice _ _ _)); exact rfl; exact rfl)
          | ((with_reducible apply w_pure (v := .func _ _ _)); exact rfl; exact rfl))
        | ((with_reducible apply g_bin); first
          | ((with_reducible apply w_pure (v := .bool _)); exact rfl; exact rfl)
          | ((with_reducible apply w_pure (v := .int _ _)); exact rfl; exact rfl))
        | ((with_reducible apply g_pick); first
          | ((with_reducible apply w_pk0 (v := .bool _)); exact rfl; exact rfl; (first | assumption | exact decide_eq_true (by assumption) | exact decide_eq_false (by assumption) | exact decide_eq_true (by omega) | exact decide_eq_false (by omega) | exact beq_iff_eq.2 (by omega) | exact beq_eq_false_iff_ne.2 (by omega) | exact bne_iff_ne.2 (by omega) | exact bne_eq_false_iff_eq.2 (by omega))))
        | ((with_reducible apply g_assign); first
          | ((with_reducible apply w_pure (v := .int _ _)); exact rfl; exact rfl))
        | ((with_reducible apply g_call); first
          | ((with_reducible apply w_call (v := .int _ _)); exact rfl))
        | ((with_reducible apply w_convw); exact rfl; exact rfl; exact rfl)
        | ((with_reducible apply w_sidx); exact rfl; exact rfl; exact rfl; omega; omega)
        | ((with_reducible apply g_ix); first
          | ((with_reducible apply w_fx (sz := 1)); exact rfl; exact rfl; exact rfl; exact rfl; exact rfl; exact (fun _ => rfl); assumption; exact rfl)))
      | ((with_reducible apply g_gd); first
        | ((with_reducible apply w_gd_f); exact rfl; all_goals (intro hc; first | (exfalso; omega) | skip)))
      | with_reducible refine w_seq ?_
      | with_reducible refine w_nil ?_
      | with_reducible refine w_region ?_
      | with_reducible refine w_skip ?_
      | ((with_reducible apply w_ifd); exact rfl; all_goals (intro hc; first | (exfalso; omega) | skip)))
    all_goals first | (exfalso; omega) | skip
    refine w_keep (i := 14) (v := .int .i64 (k : Nat)) (int_eq hv) ?_
    refine w_keep (i := 98) (v := .int .i64 (k : Nat)) (int_eq hv) ?_
    refine w_bsl (ls := []) rfl rfl rfl ⟨by decide, rfl⟩ rfl ?_
    repeat' (first
      | ((with_reducible apply g_op); first
        | ((with_reducible apply g_load); first
          | ((with_reducible apply w_fl (v := .func _ _ _)); exact rfl; exact (fun _ => rfl); assumption; exact rfl))
        | ((with_reducible apply g_move); first
          | ((with_reducible apply w_pure (v := .int _ _)); exact rfl; exact rfl)
          | ((with_reducible apply w_pure (v := .func _ _ _)); exact rfl; exact rfl))
        | ((with_reducible apply g_fld); first
          | ((with_reducible apply w_ffld (o := 1)); exact rfl; exact rfl; exact rfl; exact (by decide)))
        | ((with_reducible apply g_ix); first
          | ((with_reducible apply w_fx (sz := 2)); exact rfl; exact rfl; exact rfl; exact rfl; exact rfl; exact (fun _ => rfl); assumption; exact rfl))))
    refine w_appF (by_ := 16) (sz := 1) (i := N) (n0 := 0) (mm := (libAt nd k).nd.length) (vs0 := []) (ns := (libAt nd k).nd.flatMap ts) rfl rfl rfl rfl rfl rfl rfl ?_ ?_ upd_same rfl (fun h => by rw [List.length_eq_zero_iff.1 h]; rfl) (by omega) (by omega) ?_
    · show (if _ = _ then _ else _) = _
      rw [if_pos (by rw [List.size_toArray, flat_len (enc := ts) (sz := 1) ts_len])]
    · unfold appendable; rw [ts_one]; rfl
    rintro r G1 N1 h1 h2 h3 h4 h5 h6
    have hM1 : G1 (n + 1 + 1 + 1 + 1) = some (.cells 27 (P1.flatMap enc3)) := by rw [h6 _ (by omega) (by omega), upd_ne (by omega)]; exact hM
    have hq1 : G1 (n + 1 + 1) = some (.cells 9 [.string (nameB (i0 : Int))]) := by rw [h6 _ (by omega) (by omega), upd_ne (by omega)]; exact hq
    rw [List.nil_append] at h5
    have hoff : 0 + ((k : Int)).toNat * 2 + 1 = k * 2 + 1 := by omega
    repeat' (first
      | ((with_reducible apply g_op); first
        | ((with_reducible apply g_fld); first
          | ((with_reducible apply w_fldp (o := 1)); exact rfl; exact rfl; exact rfl; exact (by decide)))
        | ((with_reducible apply g_ix); first
          | ((with_reducible apply w_ixr (sz := 2)); exact rfl; exact rfl; exact rfl; exact rfl; omega; omega))))
    refine w_store (i := n + 1 + 1 + 1 + 1) (off := 0 + ((k : Int)).toNat * 2 + 1) (us := [slc r 0 (0 + (libAt nd k).nd.length)]) (ws := (P1.set k (libAt nd k, slc r 0 (0 + (libAt nd k).nd.length))).flatMap enc3) rfl rfl hM1 (by omega) rfl rfl (by rw [hoff]; exact wr_flat (enc := enc3) (sz := 2) (c := 1) (us := [slc r 0 (0 + (libAt nd k).nd.length)]) (y := (libAt nd k, tv #[] (libAt nd k).nd)) (y' := (libAt nd k, slc r 0 (0 + (libAt nd k).nd.length))) (fun _ => rfl) (show 2 ≤ 2 by decide) rfl hP1k) ?_
    obtain ⟨P2, hP2⟩ : ∃ P2, P2 = P1.set k (libAt nd k, slc r 0 (0 + (libAt nd k).nd.length)) := ⟨_, rfl⟩
    have hP2k : P2[k]? = some (libAt nd k, slc r 0 (0 + (libAt nd k).nd.length)) := by
      rw [hP2, List.getElem?_set_self (by rw [hP1l]; omega)]
    rw [← hP2]
    have hrk : r ≠ n + 1 + 1 + 1 + 1 := by omega
    have hrq : r ≠ n + 1 + 1 := by omega
    refine w_gen (fun G N' => G (n + 1 + 1 + 1 + 1) = some (.cells 27 (P2.flatMap enc3)) ∧ G (n + 1 + 1) = some (.cells 9 [.string (nameB (i0 : Int))]) ∧ G r = some (.cells 9 ((libAt nd k).nd.flatMap ts)) ∧ N1 ≤ N') ⟨upd_same, by rw [upd_ne (by omega)]; exact hq1, by rw [upd_ne hrk]; exact h5, Nat.le_refl _⟩ ?_
    clear h5 hM1 hq1 hM hq
    rintro G2 N2 ⟨hM2, hq2, hr2, hN2⟩
    repeat' (first
      | ((with_reducible apply g_op); first
        | ((with_reducible apply g_move); first
          | ((with_reducible apply w_pure (v := .int _ _)); exact rfl; exact rfl)
          | ((with_reducible apply w_pure (v := .slice _ _ _)); exact rfl; exact rfl))
        | ((with_reducible apply g_fld); first
          | ((with_reducible apply w_fldp (o := 1)); exact rfl; exact rfl; exact rfl; exact (by decide)))
        | ((with_reducible apply g_ix); first
          | ((with_reducible apply w_ixr (sz := 2)); exact rfl; exact rfl; exact rfl; exact rfl; omega; omega)))
      | with_reducible refine w_seq ?_
      | with_reducible refine w_nil ?_
      | with_reducible refine w_region ?_)
    refine w_load (v := slc r 0 (0 + (libAt nd k).nd.length)) rfl hM2 (by rw [hoff]; exact part_flat (fun _ => rfl) hP2k (part_one (P := Try.prog) (t := 25) (by kernel_rfl))) ?_
    repeat' (first
      | ((with_reducible apply g_op); first
        | ((with_reducible apply w_bsl (ls := [_])); exact rfl; exact rfl; exact rfl; exact ⟨by decide, rfl⟩; exact rfl)))
    refine w_appF (by_ := 16) (sz := 1) (i := r) (n0 := 0 + (libAt nd k).nd.length) (mm := 1) (xv := slc N2 0 1) (vs0 := (libAt nd k).nd.flatMap ts) (ns := [.string newB]) rfl rfl rfl rfl rfl rfl rfl (by simp only [lenList, upd_same]; rfl) rfl (by rw [upd_ne (by omega)]; exact hr2) (by rw [flat_len (enc := ts) (sz := 1) ts_len]; omega) (fun h => by cases h) (by omega) (by omega) ?_
    rintro r' G3 N3 e1 e2 e3 e4 e5 e6
    have hM3 : G3 (n + 1 + 1 + 1 + 1) = some (.cells 27 (P2.flatMap enc3)) := by rw [e6 _ (by omega) (by omega), upd_ne (by omega)]; exact hM2
    have hq3 : G3 (n + 1 + 1) = some (.cells 9 [.string (nameB (i0 : Int))]) := by rw [e6 _ (by omega) (by omega), upd_ne (by omega)]; exact hq2
    repeat' (first
      | ((with_reducible apply g_op); first
        | ((with_reducible apply g_fld); first
          | ((with_reducible apply w_fldp (o := 1)); exact rfl; exact rfl; exact rfl; exact (by decide)))
        | ((with_reducible apply g_ix); first
          | ((with_reducible apply w_ixr (sz := 2)); exact rfl; exact rfl; exact rfl; exact rfl; omega; omega))))
    refine w_store (i := n + 1 + 1 + 1 + 1) (off := 0 + ((k : Int)).toNat * 2 + 1) (us := [slc r' 0 (0 + (libAt nd k).nd.length + 1)]) (ws := (P2.set k (⟨(libAt nd k).name, (libAt nd k).nd ++ [newB]⟩, slc r' 0 (0 + (libAt nd k).nd.length + 1))).flatMap enc3) rfl rfl hM3 (by omega) rfl rfl (by rw [hoff]; exact wr_flat (enc := enc3) (sz := 2) (c := 1) (us := [slc r' 0 (0 + (libAt nd k).nd.length + 1)]) (y := (libAt nd k, slc r 0 (0 + (libAt nd k).nd.length))) (y' := (⟨(libAt nd k).name, (libAt nd k).nd ++ [newB]⟩, slc r' 0 (0 + (libAt nd k).nd.length + 1))) (fun _ => rfl) (show 2 ≤ 2 by decide) rfl hP2k) ?_
    have hrk' : r' ≠ n + 1 + 1 + 1 + 1 := by omega
    rw [hP2, List.set_set]
    obtain ⟨P3, hP3⟩ : ∃ P3, P3 = P1.set k (⟨(libAt nd k).name, (libAt nd k).nd ++ [newB]⟩, slc r' 0 (0 + (libAt nd k).nd.length + 1)) := ⟨_, rfl⟩
    rw [← hP3]
    refine w_gen (fun G N' => G (n + 1 + 1 + 1 + 1) = some (.cells 27 (P3.flatMap enc3)) ∧ G (n + 1 + 1) = some (.cells 9 [.string (nameB (i0 : Int))]) ∧ G r' = some (.cells 9 (((libAt nd k).nd ++ [newB]).flatMap ts)) ∧ N3 ≤ N') ⟨upd_same, by rw [upd_ne (by omega)]; exact hq3, by rw [upd_ne hrk', e5, List.flatMap_append]; rfl, Nat.le_refl _⟩ ?_
    clear e5 hM3 hq3 hM2 hq2 hr2
    rintro G4 N4 ⟨hM4, hq4, hr4, hN4⟩
    have hP3l : P3.length = (listS nd many).length + 1 := by rw [hP3, List.length_set, hP1l]
    have hP3f : more2 (listS nd many) (nameB (i0 : Int)) k (libAt nd k) = P3.map Prod.fst := by
      unfold more2
      rw [hP3, hP1f, List.map_set]
    have hz3 := pv_sn hP3f hM4 (fun p hp => by
      rw [hP3] at hp
      rcases List.mem_or_eq_of_mem_set hp with hp | hp
      · exact hsn1 G4 hq4 p hp
      · rw [hp]
        have := sn_row (P := Try.prog) (ss := tg) (kk := 7) (lo := 0) (nn := ((libAt nd k).nd ++ [newB]).length) (sz := 1) hr4 (Nat.zero_le _) rfl (by decide) (rd_all (by rw [flat_len (enc := ts) (sz := 1) ts_len])) (sn_plains (all_flat ts_plain _))
        rw [List.length_append] at this
        rw [show 0 + (libAt nd k).nd.length + 1 = (libAt nd k).nd.length + [newB].length by simp]
        rw [this]
        simp)
    rw [hP3l] at hz3
    have hf2 := more2_fits (nd := nd) (many := many) (k := k) (nameB (i0 : Int))
    have hor2 := order_run _ (nameB (i0 : Int)) hf2
    rw [hgo2] at hor2
    dsimp only at hor2
    repeat' (first
      | ((with_reducible apply g_op); first
        | ((with_reducible apply g_move); first
          | ((with_reducible apply w_pure (v := .slice _ _ _)); exact rfl; exact rfl)
          | ((with_reducible apply w_pure (v := .string _)); exact rfl; exact rfl)))
      | with_reducible refine w_seq ?_
      | with_reducible refine w_nil ?_
      | with_reducible refine w_region ?_)
    refine w_rf hor2 (fun _ => rfl) (sn_cons hz3 (sn_cons (sn_plain rfl) sn_nil)) ?_
    rintro _ rfl
    repeat' (first
      | ((with_reducible apply g_op); first
        | ((with_reducible apply g_move); first
          | ((with_reducible apply w_pure (v := .slice _ _ _)); exact rfl; exact rfl)
          | ((with_reducible apply w_pure (v := .tuple _)); exact rfl; exact rfl)
          | ((with_reducible apply w_pure (v := .func _ _ _)); exact rfl; exact rfl))
        | ((with_reducible apply g_assign); first
          | ((with_reducible apply w_pure (v := .int _ _)); exact rfl; exact rfl)
          | ((with_reducible apply w_pure (v := .slice _ _ _)); exact rfl; exact rfl)
          | ((with_reducible apply w_pure (v := .func _ _ _)); exact rfl; exact rfl))
        | ((with_reducible apply w_pure (v := .int _ _)); exact rfl; exact rfl)
        | ((with_reducible apply w_pure (v := .func _ _ _)); exact rfl; exact rfl))
      | with_reducible refine w_seq ?_
      | with_reducible refine w_nil ?_
      | with_reducible refine w_region ?_)
    refine w_apA0 (by_ := 16) (sz := 1) (mm := a.length) (ns := a.flatMap ts) rfl rfl rfl rfl rfl rfl rfl ?_ ?_ (by omega) (by omega) ?_
    · show (if _ = _ then _ else _) = _
      rw [if_pos (by rw [List.size_toArray, flat_len (enc := ts) (sz := 1) ts_len])]
    · unfold appendable; rw [ts_one]; rfl
    repeat' (first
      | ((with_reducible apply g_op); first
        | ((with_reducible apply g_move); first
          | ((with_reducible apply w_pure (v := .slice _ _ _)); exact rfl; exact rfl))
        | ((with_reducible apply g_assign); first
          | ((with_reducible apply w_pure (v := .slice _ _ _)); exact rfl; exact rfl))
        | ((with_reducible apply w_bsl (ls := [_])); exact rfl; exact rfl; exact rfl; exact ⟨by decide, rfl⟩; exact rfl))
      | with_reducible refine w_seq ?_
      | with_reducible refine w_nil ?_
      | with_reducible refine w_region ?_)
    refine w_appF (by_ := 16) (sz := 1) (i := N4) (n0 := a.length) (mm := 1) (xv := slc (N4 + 1) 0 1) (vs0 := a.flatMap ts) (ns := [.string newB]) rfl rfl rfl rfl rfl rfl rfl (by simp only [lenList, upd_same]; rfl) rfl (by simp (disch := omega) only [upd_same, upd_ne]) (by rw [flat_len (enc := ts) (sz := 1) ts_len]) (fun h => by cases h) (by omega) (by omega) ?_
    rintro w G5 N5 w1 w2 w3 w4 w5 w6
    have hM5 : G5 (n + 1 + 1 + 1 + 1) = some (.cells 27 (P3.flatMap enc3)) := by rw [w6 _ (by omega) (by omega)]; simp (disch := omega) only [upd_ne]; exact hM4
    have hq5 : G5 (n + 1 + 1) = some (.cells 9 [.string (nameB (i0 : Int))]) := by rw [w6 _ (by omega) (by omega)]; simp (disch := omega) only [upd_ne]; exact hq4
    have hzw := sn_row (P := Try.prog) (ss := tg) (kk := 8) (lo := 0) (nn := a.length + 1) (sz := 1) (l := (a ++ [newB]).flatMap ts) (r := (a ++ [newB]).flatMap ts) w5 (Nat.zero_le _) rfl (by decide) (by rw [List.flatMap_append]; exact rd_all (by rw [List.length_append, flat_len (enc := ts) (sz := 1) ts_len]; simp)) (sn_plains (all_flat ts_plain _))
    have hz5 := pv_sn hP3f hM5 (fun p hp => by
      rw [hP3] at hp
      rcases List.mem_or_eq_of_mem_set hp with hp | hp
      · exact hsn1 G5 hq5 p hp
      · rw [hp]
        have hr5 : G5 r' = some (.cells 9 (((libAt nd k).nd ++ [newB]).flatMap ts)) := by rw [w6 _ (by omega) (by omega)]; simp (disch := omega) only [upd_ne]; exact hr4
        have := sn_row (P := Try.prog) (ss := tg) (kk := 7) (lo := 0) (nn := ((libAt nd k).nd ++ [newB]).length) (sz := 1) hr5 (Nat.zero_le _) rfl (by decide) (rd_all (by rw [flat_len (enc := ts) (sz := 1) ts_len])) (sn_plains (all_flat ts_plain _))
        rw [List.length_append] at this
        rw [show 0 + (libAt nd k).nd.length + 1 = (libAt nd k).nd.length + [newB].length by simp]
        rw [this]
        simp)
    rw [hP3l] at hz5
    have hax : L1.freeze Try.prog G5 tg 0 9 (tv #[] (a ++ [newB])) = some (fz tg (a.length + 1) ((a ++ [newB]).flatMap ts)) := by
      have := sn_fzp (P := Try.prog) (kk := 7) (gg := G5) (lo := 0) (ss := tg) (nn := (a ++ [newB]).length) (a := #[]) (.inl rfl) (all_flat ts_plain (a ++ [newB]))
      rw [this, show (a ++ [newB]).length = a.length + 1 by simp]
    have htx := texts_run (a ++ [newB]) (a ++ [newB]) (by simp; omega) (by simp; omega)
    rw [decide_eq_true rfl, show tv tg (a ++ [newB]) = fz tg (a.length + 1) ((a ++ [newB]).flatMap ts) by simp] at htx
    repeat' (first
      | ((with_reducible apply g_op); first
        | ((with_reducible apply g_move); first
          | ((with_reducible apply w_pure (v := .slice _ _ _)); exact rfl; exact rfl)
          | ((with_reducible apply w_pure (v := .func _ _ _)); exact rfl; exact rfl))
        | ((with_reducible apply g_assign); first
          | ((with_reducible apply w_pure (v := .slice _ _ _)); exact rfl; exact rfl)))
      | with_reducible refine w_seq ?_
      | with_reducible refine w_nil ?_
      | with_reducible refine w_region ?_)
    refine w_rf htx (fun _ => rfl) (sn_cons hax (sn_cons hzw sn_nil)) ?_
    rintro _ rfl
    repeat' (first
      | ((with_reducible apply g_op); first
        | ((with_reducible apply g_move); first
          | ((with_reducible apply w_pure (v := .int _ _)); exact rfl; exact rfl)
          | ((with_reducible apply w_pure (v := .bool _)); exact rfl; exact rfl)
          | ((with_reducible apply w_pure (v := .slice _ _ _)); exact rfl; exact rfl)
          | ((with_reducible apply w_pure (v := .string _)); exact rfl; exact rfl))
        | ((with_reducible apply g_bin); first
          | ((with_reducible apply w_pure (v := .bool _)); exact rfl; exact rfl))
        | ((with_reducible apply g_pick); first
          | ((with_reducible apply w_pk1 (v := .bool _)); exact rfl; exact rfl; (first | assumption | exact decide_eq_true (by assumption) | exact decide_eq_false (by assumption) | exact decide_eq_true (by omega) | exact decide_eq_false (by omega) | exact beq_iff_eq.2 (by omega) | exact beq_eq_false_iff_ne.2 (by omega) | exact bne_iff_ne.2 (by omega) | exact bne_eq_false_iff_eq.2 (by omega))))
        | ((with_reducible apply g_assign); first
          | ((with_reducible apply w_pure (v := .bool _)); exact rfl; exact rfl))
        | ((with_reducible apply w_pure (v := .bool _)); exact rfl; exact rfl))
      | ((with_reducible apply g_gd); first
        | ((with_reducible apply w_want); exact rfl))
      | with_reducible refine w_seq ?_
      | with_reducible refine w_nil ?_
      | with_reducible refine w_region ?_)
    refine w_rf (round_run _ (nameB (i0 : Int)) hf2 _ true hgr2) (fun _ => rfl) (sn_cons hz5 (sn_cons (sn_plain rfl) sn_nil)) ?_
    rintro _ rfl
    repeat' (first
      | ((with_reducible apply g_op); first
        | ((with_reducible apply g_assign); first
          | ((with_reducible apply w_pure (v := .bool _)); exact rfl; exact rfl))
        | ((with_reducible apply w_pure (v := .bool _)); exact rfl; exact rfl))
      | with_reducible refine w_nil ?_
      | ((with_reducible apply w_ret (v := .bool _)); exact rfl))
    rfl
theorem proved (x0 : List (List Int) × Int) (x1 : Int) {q r : Prop} (w0 : wfL (wfL (wfI .i64)) x0.1 ∧ q) (w1 : r) : Rn Try.prog tab 4 [.agg ((kPair (kList (kList (kInt .i64))) (kInt .i64)).enc x0).toArray, .int .i64 x1] (fun _ => none) 0 0 (fun v _ _ => v = .bool true) :=
  walk x0.1 x0.2 x1 w0.1.1 (fun r hr => (w0.1.2 r hr).1) _ 0
end Go.Proofs.Ytgljofdhdnhekaa.L.NeedsGrow

