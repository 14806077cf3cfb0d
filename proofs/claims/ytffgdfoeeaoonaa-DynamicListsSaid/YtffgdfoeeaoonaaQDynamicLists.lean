/- DynamicLists: walked, and its plain law. -/
import Derived.Test.Ytffgdfoeeaoonaac09L
import Derived.Test.YtffgdfoeeaoonaaL1W
namespace Go.Proofs.Ytffgdfoeeaoonaa.L.DynamicLists
open Go.L1 Go.IntWalk Go.Proofs.Ytffgdfoeeaoonaa.L Li Oct
set_option linter.unusedVariables false
set_option linter.unusedSimpArgs false
set_option maxHeartbeats 4000000
set_option maxRecDepth 20000
def tab : Tb := L.T
theorem tabok : ∀ C : Cx, C.P = Try.prog → TbOk C tab := L.tabok
def raOf (o : Option Nat) : Option Addr := match o with | none => none | some i => some ⟨i, 0, none⟩
theorem own_ov {α : Type} {e : TypeId} {enc : α → List Value} {g : Nat → Option Ob} {lo n : Nat} {o : Option Nat} {l : List α} (h : Own g lo n e enc o l) : ov o l.length = .slice (raOf o) l.length l.length := by
  cases o with
  | none => have : l = [] := h; subst this; rfl
  | some i => rfl
theorem own_row {α : Type} {e : TypeId} {enc : α → List Value} {g : Nat → Option Ob} {lo n : Nat} {o : Option Nat} {l : List α} (h : Own g lo n e enc o l) : Row g (raOf o) e (l.flatMap enc) := by
  cases o with
  | none => have : l = [] := h; subst this; exact .inl rfl
  | some i => exact .inr ⟨i, 0, _, rfl, h.2.2.2, by rw [Nat.zero_add]; exact Nat.le_refl _, by rw [List.drop_zero, List.take_length]⟩
theorem own_keep {α : Type} {e : TypeId} {enc : α → List Value} {g g' : Nat → Option Ob} {lo n n' : Nat} {o : Option Nat} {l : List α} (h : Own g lo n e enc o l) (hn : n ≤ n') (hg : ∀ j, lo ≤ j → j < n → some j = o → g' j = g j) : Own g' lo n' e enc o l := by
  cases o with
  | none => exact h
  | some i => exact ⟨h.1, h.2.1, Nat.lt_of_lt_of_le h.2.2.1 hn, by rw [hg i h.2.1 h.2.2.1 rfl]; exact h.2.2.2⟩
theorem own_low {α : Type} {e : TypeId} {enc : α → List Value} {g : Nat → Option Ob} {lo lo' n : Nat} {o : Option Nat} {l : List α} (h : Own g lo n e enc o l) (hl : lo' ≤ lo) : Own g lo' n e enc o l := by
  cases o with
  | none => exact h
  | some i => exact ⟨h.1, Nat.le_trans hl h.2.1, h.2.2.1, h.2.2.2⟩
theorem own_none {α : Type} {e : TypeId} {enc : α → List Value} {g : Nat → Option Ob} {lo n : Nat} {l : List α} (h : Own g lo n e enc none l) : l = [] := h
theorem own_pos {α : Type} {e : TypeId} {enc : α → List Value} {g : Nat → Option Ob} {lo n : Nat} {o : Option Nat} {l : List α} (h : Own g lo n e enc o l) (hl : l ≠ []) : ∃ i, o = some i := by
  cases o with
  | none => exact absurd h hl
  | some i => exact ⟨i, rfl⟩
theorem fill_size (a : Nat) : (Oct.fillV Oct.noneB a).size = a := by
  unfold Oct.fillV
  have h0 : Oct.noneB.size = 0 := rfl
  split
  · rename_i h
    rw [ByteArray.size_extract]; omega
  · rw [ByteArray.size_append, Oct.zeroB_size]
    omega
def more : ByteArray := ⟨#[109, 111, 114, 101, 0]⟩
set_option maxHeartbeats 0 in
theorem walk (x0 : List Int) (ah : Int) (x2 : List Int) (hl : x0.length ≤ 9223372036854775807) (hx : x2.length ≤ 9223372036854775807) (g : Nat → Option Ob) (s : Nat) : Rn Try.prog T 6 [iv tg x0, .int .i64 ah, iv tg x2] g s s (fun v _ _ => v = .bool true) := by
  refine c_open Try.func6 rfl rfl rfl rfl rfl rfl ?_
  repeat' (first
    | ((with_reducible apply g_op); first
      | ((with_reducible apply g_assign); first
        | ((with_reducible apply w_pure (v := .bool _)); exact rfl; exact rfl)))
    | with_reducible refine w_seq ?_
    | with_reducible refine w_nil ?_
    | with_reducible refine w_region ?_)
  refine w_rf awake_run (fun _ => rfl) sn_nil ?_
  rintro v rfl
  repeat' (first
    | ((with_reducible apply g_op); first
      | ((with_reducible apply g_move); first
        | ((with_reducible apply w_pure (v := .int _ _)); exact rfl; exact rfl))
      | ((with_reducible apply g_bin); first
        | ((with_reducible apply w_and (j := 6) (c1 := 64)); exact rfl; exact rfl; exact rfl; exact rfl; exact rfl; exact (by decide); exact (by decide); exact (by decide)))
      | ((with_reducible apply g_assign); first
        | ((with_reducible apply w_pure (v := .bool _)); exact rfl; exact rfl)))
    | with_reducible refine w_seq ?_
    | with_reducible refine w_nil ?_
    | with_reducible refine w_region ?_)
  have hmod : 0 ≤ ah % 64 ∧ ah % 64 < 64 := ⟨Int.emod_nonneg _ (by decide), Int.emod_lt_of_pos _ (by decide)⟩
  obtain ⟨a, ha⟩ : ∃ a : Nat, ah % 64 = (a : Int) := ⟨(ah % 64).toNat, by omega⟩
  rw [ha]
  have ha2 : a ≤ 63 := by omega
  refine w_rq (Oct.rfill_run Oct.noneB a (by decide) (by omega) _ _ _) (fun _ => rfl) ?_
  rintro _ rfl
  have hfs := fill_size a
  obtain ⟨base, hbase⟩ : ∃ base, (Oct.fillV Oct.noneB a).data.toList = base := ⟨_, rfl⟩
  have hbl : base.length = a := by rw [← hbase, size_list, hfs]
  generalize Oct.fillV Oct.noneB a = W0 at *
  repeat' (first
    | ((with_reducible apply g_op); first
      | ((with_reducible apply g_move); first
        | ((with_reducible apply w_pure (v := .string _)); exact rfl; exact rfl))
      | ((with_reducible apply g_assign); first
        | ((with_reducible apply w_pure (v := .int _ _)); exact rfl; exact rfl)
        | ((with_reducible apply w_pure (v := .slice _ _ _)); exact rfl; exact rfl)
        | ((with_reducible apply w_pure (v := .string _)); exact rfl; exact rfl))
      | ((with_reducible apply g_call); first
        | ((with_reducible apply w_call (v := .int _ _)); exact rfl))
      | ((with_reducible apply g_store); first
        | ((with_reducible apply w_store (us := [_, _, _, _, _, _, _, _, _]) (ws := [_, _, _, _, _, _, _, _, _])); exact rfl; exact rfl; (first | assumption | (simp (disch := omega) only [upd_same, upd_ne]; first | done | assumption | exact rfl) | exact rfl); omega; exact rfl; exact rfl; exact rfl))
      | ((with_reducible apply g_build); first
        | ((with_reducible apply w_pure (v := .agg #[_, _, _, _, _, _, _, _, _])); exact rfl; exact rfl))
      | ((with_reducible apply w_alloc (ls := [_, _, _, _, _, _, _, _, _])); exact rfl; exact rfl))
    | with_reducible refine w_seq ?_
    | with_reducible refine w_nil ?_
    | with_reducible refine w_region ?_)
  rw [hfs]
  obtain ⟨N, hN⟩ : ∃ N, min x0.length 6 = N := ⟨_, rfl⟩
  refine w_meetK [(8, 8), (10, 13), (31, 68)] (fun σ' g' n' => ∃ W o10 o11, W.data.toList = base ++ tl x0 N ∧ σ' 8 = .string W ∧ σ' 10 = .slice (raOf o10) N N ∧ σ' 11 = .slice (raOf o11) N N
    ∧ g' s = some (.cells 26 [.slice none 0 0, .int .i64 (a : Nat), .int .i64 0, .int .i64 0, .int .i64 0, .int .i64 0, .int .i64 0, .int .i64 0, .int .i64 0])
    ∧ Own g' (s + 1) n' 9 ts o10 (nmL x0 N) ∧ Own g' (s + 1) n' 3 ii o11 (plL N) ∧ s + 1 ≤ n') ?_ ?_
  · intro K R hK
    repeat' (first
      | with_reducible refine w_block ?_)
    refine w_cntK [(8, 8), (10, 13), (31, 68)] N (fun i (b : ByteArray × Option Nat × Option Nat) σ g' n' => σ 12 = .int .i64 (i : Nat) ∧ σ 8 = .string b.1 ∧ σ 10 = ov b.2.1 i ∧ σ 11 = ov b.2.2 i ∧ b.1.data.toList = base ++ tl x0 i
      ∧ g' s = some (.cells 26 [.slice none 0 0, .int .i64 (a : Nat), .int .i64 0, .int .i64 0, .int .i64 0, .int .i64 0, .int .i64 0, .int .i64 0, .int .i64 0])
      ∧ Own g' (s + 1) n' 9 ts b.2.1 (nmL x0 i) ∧ Own g' (s + 1) n' 3 ii b.2.2 (plL i) ∧ s + 1 ≤ n') ?_ ?_ (W0, none, none) ⟨rfl, rfl, rfl, rfl, by rw [hbase]; simp [tl], by simp (disch := omega) only [upd_same, upd_ne]; rfl, rfl, rfl, by omega⟩
    · rintro i ⟨W, o10, o11⟩ σ gl nl hlt ⟨k12, k8, k10, k11, hW, hg, ho10, ho11, hn⟩ ih
      dsimp only at k8 k10 k11 hW ho10 ho11
      obtain ⟨y, hy⟩ : ∃ y, x0[i]? = some y := ⟨_, List.getElem?_eq_getElem (by omega)⟩
      have hwd : wdB x0 i = nums [97 + y % 8, 48 + (i : Nat)] := by unfold wdB; rw [List.getD_eq_getElem?_getD, hy]; rfl
      have hWs := size_of hW
      rw [List.length_append, hbl, tl_len] at hWs
      have hy8 : 0 ≤ y % 8 ∧ y % 8 < 8 := ⟨Int.emod_nonneg _ (by decide), Int.emod_lt_of_pos _ (by decide)⟩
      have hnl := nm_len x0 i
      have hpl := pl_len i
      have hsub : (W.size : Int) - (a : Int) = ((3 * i : Nat) : Int) := by omega
      have hz1 : (⟨#[0]⟩ : ByteArray).size = 1 := rfl
      have hwz := wd_size x0 i
      have hW2 : (W ++ wdB x0 i ++ ⟨#[0]⟩).data.toList = base ++ tl x0 (i + 1) := by
        simp only [data_app, hW, tl_succ, List.append_assoc]
      have hz2 : (W ++ wdB x0 i).size = a + 3 * i + 2 := by rw [ByteArray.size_append, hWs, hwz]
      cases o10 with
      | none =>
        have hi0 : i = 0 := by have := own_none ho10; rw [this] at hnl; simpa using hnl.symm
        subst hi0
        cases o11 with
        | some p => exact absurd rfl ho11.1
        | none =>
          simp only [ov] at k10 k11
          refine w_keep (i := 8) k8 (w_keep (i := 10) k10 (w_keep (i := 11) k11 (w_keep (i := 12) k12 ?_)))
          repeat' (first
            | ((with_reducible apply g_op); first
              | ((with_reducible apply g_load); first
                | ((with_reducible apply w_fl (v := .int _ _)); exact rfl; exact (fun _ => rfl); assumption; exact rfl))
              | ((with_reducible apply g_move); first
                | ((with_reducible apply w_pure (v := .int _ _)); exact rfl; exact rfl)
                | ((with_reducible apply w_pure (v := .bool _)); exact rfl; exact rfl)
                | ((with_reducible apply w_pure (v := .func _ _ _)); exact rfl; exact rfl))
              | ((with_reducible apply g_bin); first
                | ((with_reducible apply w_and (j := 3) (c1 := 8)); exact rfl; exact rfl; exact rfl; exact rfl; exact rfl; exact (by decide); exact (by decide); exact (by decide))
                | ((with_reducible apply w_wrap); exact rfl; exact rfl; first | exact i64_in _ (by omega) | exact u64_in _ (by omega) | exact u8_in _ (by omega))
                | ((with_reducible apply w_pure (v := .bool _)); exact rfl; exact rfl))
              | ((with_reducible apply g_pick); first
                | ((with_reducible apply w_pk1 (v := .bool _)); exact rfl; exact rfl; (first | assumption | exact decide_eq_true (by assumption) | exact decide_eq_false (by assumption) | exact decide_eq_true (by omega) | exact decide_eq_false (by omega) | exact beq_iff_eq.2 (by omega) | exact beq_eq_false_iff_ne.2 (by omega) | exact bne_iff_ne.2 (by omega) | exact bne_eq_false_iff_eq.2 (by omega))))
              | ((with_reducible apply g_call); first
                | ((with_reducible apply w_call (v := .int _ _)); exact rfl))
              | ((with_reducible apply w_conv); exact rfl; exact rfl; exact rfl; first | exact i64_in _ (by omega) | exact u64_in _ (by omega) | exact u8_in _ (by omega) | exact u32_in _ (by omega))
              | ((with_reducible apply g_ix); first
                | ((with_reducible apply w_fx (sz := 1)); exact rfl; exact rfl; exact rfl; exact rfl; exact rfl; exact (fun _ => rfl); assumption; exact rfl))
              | ((with_reducible apply w_bsl (ls := [_, _])); exact rfl; exact rfl; exact rfl; exact ⟨by decide, rfl⟩; exact rfl))
            | ((with_reducible apply g_gd); first
              | ((with_reducible apply w_gd_t); exact rfl; all_goals (intro hc; first | (exfalso; omega) | skip)))
            | with_reducible refine w_seq ?_
            | with_reducible refine w_nil ?_
            | with_reducible refine w_region ?_
            | with_reducible refine w_skip ?_
            | with_reducible refine w_block ?_
            | ((with_reducible apply w_yes); exact rfl))
          refine w_b2s (ns := [97 + y % 8, 48 + (0 : Nat)]) rfl rfl rfl rfl upd_same rfl ?_
          rw [← hwd]
          repeat' (first
            | ((with_reducible apply g_op); first
              | ((with_reducible apply g_load); first
                | ((with_reducible apply w_load (v := .int _ _)); exact rfl; (first | assumption | (simp (disch := omega) only [upd_same, upd_ne]; first | done | assumption | exact rfl) | exact rfl); exact rfl))
              | ((with_reducible apply g_move); first
                | ((with_reducible apply w_pure (v := .int _ _)); exact rfl; exact rfl)
                | ((with_reducible apply w_pure (v := .slice _ _ _)); exact rfl; exact rfl)
                | ((with_reducible apply w_pure (v := .string _)); exact rfl; exact rfl))
              | ((with_reducible apply g_bin); first
                | ((with_reducible apply w_cat); exact rfl; exact rfl; exact rfl; exact rfl; exact rfl; omega)
                | ((with_reducible apply w_wrap); exact rfl; exact rfl; first | exact i64_in _ (by omega) | exact u64_in _ (by omega) | exact u8_in _ (by omega)))
              | ((with_reducible apply g_fld); first
                | ((with_reducible apply w_fldp (o := 1)); exact rfl; exact rfl; exact rfl; exact (by decide)))
              | ((with_reducible apply g_assign); first
                | ((with_reducible apply w_pure (v := .int _ _)); exact rfl; exact rfl)
                | ((with_reducible apply w_pure (v := .slice _ _ _)); exact rfl; exact rfl)
                | ((with_reducible apply w_pure (v := .string _)); exact rfl; exact rfl))
              | ((with_reducible apply g_call); first
                | ((with_reducible apply w_call (v := .int _ _)); exact rfl)
                | ((with_reducible apply w_app0 (ns := [_])); exact rfl; exact rfl; exact rfl; exact rfl; exact rfl; exact rfl; (first | assumption | (simp (disch := omega) only [upd_same, upd_ne]; first | done | assumption | exact rfl) | exact rfl); exact rfl; exact rfl; exact (by decide); exact ⟨by decide, by decide⟩))
              | ((with_reducible apply w_bsl (ls := [_])); exact rfl; exact rfl; exact rfl; exact ⟨by decide, rfl⟩; exact rfl))
            | with_reducible refine w_seq ?_
            | with_reducible refine w_nil ?_
            | with_reducible refine w_region ?_
            | with_reducible refine w_blk ?_)
          refine ih (W ++ wdB x0 0 ++ ⟨#[0]⟩, some (nl + 1 + 1), some (nl + 1 + 1 + 1 + 1)) _ _ _ (by repeat' (first | with_reducible exact Fr.mix | with_reducible exact Fr.rfl' | with_reducible refine Fr.put ?_ ?_ | with_reducible refine Fr.mix2 ?_ ?_ | with_reducible refine Fr.put0 ?_ | exact rfl)) ⟨rfl, rfl, rfl, rfl, hW2, by simp (disch := omega) only [upd_ne]; exact hg, ⟨by rw [nm_succ]; simp, by omega, by omega, ?_⟩, ⟨by rw [pl_succ]; simp, by omega, by omega, ?_⟩, by omega⟩
          · simp (disch := omega) only [upd_same, upd_ne]
            rfl
          · simp (disch := omega) only [upd_same, upd_ne]
            rw [pl_succ, ← hsub]
            rfl
      | some p10 =>
        have hne : nmL x0 i ≠ [] := ho10.1
        obtain ⟨p11, rfl⟩ := own_pos ho11 (fun e => hne (List.length_eq_zero_iff.1 (by rw [hnl, ← hpl, e]; rfl)))
        have hpp : p11 ≠ p10 := fun e => by
          have h1 := ho11.2.2.2
          rw [e, ho10.2.2.2] at h1
          cases h1
        simp only [ov] at k10 k11
        refine w_keep (i := 8) k8 (w_keep (i := 10) k10 (w_keep (i := 11) k11 (w_keep (i := 12) k12 ?_)))
        repeat' (first
          | ((with_reducible apply g_op); first
            | ((with_reducible apply g_load); first
              | ((with_reducible apply w_fl (v := .int _ _)); exact rfl; exact (fun _ => rfl); assumption; exact rfl))
            | ((with_reducible apply g_move); first
              | ((with_reducible apply w_pure (v := .int _ _)); exact rfl; exact rfl)
              | ((with_reducible apply w_pure (v := .bool _)); exact rfl; exact rfl)
              | ((with_reducible apply w_pure (v := .func _ _ _)); exact rfl; exact rfl))
            | ((with_reducible apply g_bin); first
              | ((with_reducible apply w_and (j := 3) (c1 := 8)); exact rfl; exact rfl; exact rfl; exact rfl; exact rfl; exact (by decide); exact (by decide); exact (by decide))
              | ((with_reducible apply w_wrap); exact rfl; exact rfl; first | exact i64_in _ (by omega) | exact u64_in _ (by omega) | exact u8_in _ (by omega))
              | ((with_reducible apply w_pure (v := .bool _)); exact rfl; exact rfl))
            | ((with_reducible apply g_pick); first
              | ((with_reducible apply w_pk1 (v := .bool _)); exact rfl; exact rfl; (first | assumption | exact decide_eq_true (by assumption) | exact decide_eq_false (by assumption) | exact decide_eq_true (by omega) | exact decide_eq_false (by omega) | exact beq_iff_eq.2 (by omega) | exact beq_eq_false_iff_ne.2 (by omega) | exact bne_iff_ne.2 (by omega) | exact bne_eq_false_iff_eq.2 (by omega))))
            | ((with_reducible apply g_call); first
              | ((with_reducible apply w_call (v := .int _ _)); exact rfl))
            | ((with_reducible apply w_conv); exact rfl; exact rfl; exact rfl; first | exact i64_in _ (by omega) | exact u64_in _ (by omega) | exact u8_in _ (by omega) | exact u32_in _ (by omega))
            | ((with_reducible apply g_ix); first
              | ((with_reducible apply w_fx (sz := 1)); exact rfl; exact rfl; exact rfl; exact rfl; exact rfl; exact (fun _ => rfl); assumption; exact rfl))
            | ((with_reducible apply w_bsl (ls := [_, _])); exact rfl; exact rfl; exact rfl; exact ⟨by decide, rfl⟩; exact rfl))
          | ((with_reducible apply g_gd); first
            | ((with_reducible apply w_gd_t); exact rfl; all_goals (intro hc; first | (exfalso; omega) | skip)))
          | with_reducible refine w_seq ?_
          | with_reducible refine w_nil ?_
          | with_reducible refine w_region ?_
          | with_reducible refine w_skip ?_
          | with_reducible refine w_block ?_
          | ((with_reducible apply w_ifd); exact rfl; all_goals (intro hc; first | (exfalso; omega) | skip)))
        refine w_b2s (ns := [97 + y % 8, 48 + (i : Nat)]) rfl rfl rfl rfl upd_same rfl ?_
        rw [← hwd]
        repeat' (first
          | ((with_reducible apply g_op); first
            | ((with_reducible apply g_move); first
              | ((with_reducible apply w_pure (v := .slice _ _ _)); exact rfl; exact rfl)
              | ((with_reducible apply w_pure (v := .string _)); exact rfl; exact rfl))
            | ((with_reducible apply g_assign); first
              | ((with_reducible apply w_pure (v := .string _)); exact rfl; exact rfl))
            | ((with_reducible apply w_bsl (ls := [_])); exact rfl; exact rfl; exact rfl; exact ⟨by decide, rfl⟩; exact rfl))
          | with_reducible refine w_seq ?_
          | with_reducible refine w_nil ?_
          | with_reducible refine w_region ?_)
        refine w_own1 (enc := ts) (y := wdB x0 i) (by_ := 16) (sz := 1) (lo := s + 1) (o := some p10) (xs := nmL x0 i) (ho10.later (by omega) (fun j h1 h2 => by rw [upd_ne (by omega), upd_ne (by omega)])) (by rw [hnl]; rfl) rfl rfl rfl rfl rfl (fun _ => rfl) upd_same rfl rfl rfl (by omega) (by omega) ?_
        intro g1 h1 h2 h3
        have ho11' : Own g1 (s + 1) (nl + 1 + 1 + 1) 3 ii (some p11) (plL i) := own_keep ho11 (by omega) (fun j q1 q2 q3 => by cases q3; rw [h1 p11 (by omega) (fun e => hpp (by cases e; rfl)), upd_ne (by omega), upd_ne (by omega)])
        have r0 : g1 s = _ := (h1 s (by omega) (by have := ho10.2.1; simp; omega)).trans ((upd_ne (by omega)).trans ((upd_ne (by omega)).trans hg))
        repeat' (first
          | ((with_reducible apply g_op); first
            | ((with_reducible apply g_load); first
              | ((with_reducible apply w_load (v := .int _ _)); exact rfl; (first | assumption | (simp (disch := omega) only [upd_same, upd_ne]; first | done | assumption | exact rfl) | exact rfl); exact rfl))
            | ((with_reducible apply g_move); first
              | ((with_reducible apply w_pure (v := .slice _ _ _)); exact rfl; exact rfl)
              | ((with_reducible apply w_pure (v := .string _)); exact rfl; exact rfl))
            | ((with_reducible apply g_bin); first
              | ((with_reducible apply w_wrap); exact rfl; exact rfl; first | exact i64_in _ (by omega) | exact u64_in _ (by omega) | exact u8_in _ (by omega)))
            | ((with_reducible apply g_fld); first
              | ((with_reducible apply w_fldp (o := 1)); exact rfl; exact rfl; exact rfl; exact (by decide)))
            | ((with_reducible apply g_assign); first
              | ((with_reducible apply w_pure (v := .slice _ _ _)); exact rfl; exact rfl))
            | ((with_reducible apply g_call); first
              | ((with_reducible apply w_call (v := .int _ _)); exact rfl))
            | ((with_reducible apply w_bsl (ls := [_])); exact rfl; exact rfl; exact rfl; exact ⟨by decide, rfl⟩; exact rfl))
          | with_reducible refine w_seq ?_
          | with_reducible refine w_nil ?_
          | with_reducible refine w_region ?_)
        refine w_own1 (enc := ii) (y := ((3 * i : Nat) : Int)) (by_ := 8) (sz := 1) (lo := s + 1) (o := some p11) (xs := plL i) (ho11'.later (by omega) (fun j h1 h2 => upd_ne (by omega))) (by rw [hpl]; rfl) rfl rfl rfl rfl rfl (fun _ => rfl) upd_same rfl (by rw [← hsub]; rfl) rfl (by omega) (by omega) ?_
        intro g2 q1 q2 q3
        repeat' (first
          | ((with_reducible apply g_op); first
            | ((with_reducible apply g_move); first
              | ((with_reducible apply w_pure (v := .int _ _)); exact rfl; exact rfl)
              | ((with_reducible apply w_pure (v := .string _)); exact rfl; exact rfl))
            | ((with_reducible apply g_bin); first
              | ((with_reducible apply w_cat); exact rfl; exact rfl; exact rfl; exact rfl; exact rfl; omega)
              | ((with_reducible apply w_wrap); exact rfl; exact rfl; first | exact i64_in _ (by omega) | exact u64_in _ (by omega) | exact u8_in _ (by omega)))
            | ((with_reducible apply g_assign); first
              | ((with_reducible apply w_pure (v := .int _ _)); exact rfl; exact rfl)
              | ((with_reducible apply w_pure (v := .slice _ _ _)); exact rfl; exact rfl)
              | ((with_reducible apply w_pure (v := .string _)); exact rfl; exact rfl)))
          | with_reducible refine w_nil ?_
          | with_reducible refine w_region ?_
          | with_reducible refine w_blk ?_)
        rw [← pl_succ] at q3
        rw [← nm_succ] at h3
        refine ih (W ++ wdB x0 i ++ ⟨#[0]⟩, some (nl + 1 + 1), some (nl + 1 + 1 + 1 + 1)) _ _ _ (by repeat' (first | with_reducible exact Fr.mix | with_reducible exact Fr.rfl' | with_reducible refine Fr.put ?_ ?_ | with_reducible refine Fr.mix2 ?_ ?_ | with_reducible refine Fr.put0 ?_ | exact rfl)) ⟨rfl, rfl, ?_, ?_, hW2, ?_, ?_, q3, by omega⟩
        · exact congrArg (fun k => slc (nl + 1 + 1) 0 k) (show (nmL x0 i ++ [wdB x0 i]).length = i + 1 by simp [hnl])
        · exact congrArg (fun k => slc (nl + 1 + 1 + 1 + 1) 0 k) (show (plL i ++ [((3 * i : Nat) : Int)]).length = i + 1 by simp [hpl])
        · exact (q1 s (by omega) (by have := ho11.2.1; simp; omega)).trans ((upd_ne (by omega)).trans r0)
        · exact own_keep h3 (by omega) (fun j a1 a2 a3 => by cases a3; rw [q1 _ (by omega) (by have := ho11.2.2.1; simp; omega), upd_ne (by omega)])
    · rintro ⟨W, o10, o11⟩ σ gl nl ⟨k12, k8, k10, k11, hW, hg, ho10, ho11, hn⟩
      dsimp only at k8 k10 k11 hW ho10 ho11
      have e10 := own_ov ho10
      have e11 := own_ov ho11
      rw [nm_len] at e10
      rw [pl_len] at e11
      rw [e10] at k10
      rw [e11] at k11
      refine w_keep (i := 8) k8 (w_keep (i := 10) k10 (w_keep (i := 11) k11 (w_keep (i := 12) k12 ?_)))
      repeat' (first
        | ((with_reducible apply g_op); first
          | ((with_reducible apply g_move); first
            | ((with_reducible apply w_pure (v := .int _ _)); exact rfl; exact rfl)
            | ((with_reducible apply w_pure (v := .bool _)); exact rfl; exact rfl)
            | ((with_reducible apply w_pure (v := .func _ _ _)); exact rfl; exact rfl))
          | ((with_reducible apply g_bin); first
            | ((with_reducible apply w_pure (v := .bool _)); exact rfl; exact rfl))
          | ((with_reducible apply g_pick); first
            | ((with_reducible apply w_pk1 (v := .bool _)); exact rfl; exact rfl; (first | assumption | exact decide_eq_true (by assumption) | exact decide_eq_false (by assumption) | exact decide_eq_true (by omega) | exact decide_eq_false (by omega) | exact beq_iff_eq.2 (by omega) | exact beq_eq_false_iff_ne.2 (by omega) | exact bne_iff_ne.2 (by omega) | exact bne_eq_false_iff_eq.2 (by omega)))
            | ((with_reducible apply w_pk0 (v := .bool _)); exact rfl; exact rfl; (first | assumption | exact decide_eq_true (by assumption) | exact decide_eq_false (by assumption) | exact decide_eq_true (by omega) | exact decide_eq_false (by omega) | exact beq_iff_eq.2 (by omega) | exact beq_eq_false_iff_ne.2 (by omega) | exact bne_iff_ne.2 (by omega) | exact bne_eq_false_iff_eq.2 (by omega))))
          | ((with_reducible apply g_call); first
            | ((with_reducible apply w_call (v := .int _ _)); exact rfl)))
        | ((with_reducible apply g_gd); first
          | ((with_reducible apply w_gd_t); exact rfl; all_goals (intro hc; first | (exfalso; omega) | skip)))
        | with_reducible refine w_seq ?_
        | with_reducible refine w_nil ?_
        | with_reducible refine w_region ?_
        | ((with_reducible apply w_exit); exact rfl)
        | ((with_reducible apply w_no); exact rfl)
        | ((with_reducible apply w_ifd); exact rfl; all_goals (intro hc; first | (exfalso; omega) | skip)))
      all_goals exact hK _ _ _ (by repeat' (first | with_reducible exact Fr.mix | with_reducible exact Fr.rfl' | with_reducible refine Fr.put ?_ ?_ | with_reducible refine Fr.mix2 ?_ ?_ | with_reducible refine Fr.put0 ?_ | exact rfl)) ⟨W, o10, o11, hW, rfl, rfl, rfl, hg, ho10, ho11, hn⟩
  · rintro σ' gl nl ⟨W, o10, o11, hW, k8, k10, k11, hg, ho10, ho11, hn⟩
    have hWs := size_of hW
    rw [List.length_append, hbl, tl_len] at hWs
    have hnl := nm_len x0 N
    have hpl := pl_len N
    have hN6 : N ≤ 6 := by omega
    have hsub : (W.size : Int) - (a : Int) = ((3 * N : Nat) : Int) := by omega
    refine w_env ?_
    intro τ hτ
    have k2 : τ 2 = iv tg x2 := (hτ 2).trans rfl
    have k7 : τ 7 = .bool true := (hτ 7).trans rfl
    have k9 : τ 9 = ptr s 0 := (hτ 9).trans rfl
    have k8 : τ 8 = .string W := (hτ 8).trans k8
    have k10 : τ 10 = .slice (raOf o10) N N := (hτ 10).trans k10
    have k11 : τ 11 = .slice (raOf o11) N N := (hτ 11).trans k11
    clear hτ
    refine w_keep (i := 2) k2 (w_keep (i := 7) k7 (w_keep (i := 8) k8 (w_keep (i := 9) k9 (w_keep (i := 10) k10 (w_keep (i := 11) k11 ?_)))))
    repeat' (first
      | ((with_reducible apply g_op); first
        | ((with_reducible apply g_load); first
          | ((with_reducible apply w_load (v := .int _ _)); exact rfl; (first | assumption | (simp (disch := omega) only [upd_same, upd_ne]; first | done | assumption | exact rfl) | exact rfl); exact rfl))
        | ((with_reducible apply g_move); first
          | ((with_reducible apply w_pure (v := .string _)); exact rfl; exact rfl))
        | ((with_reducible apply g_bin); first
          | ((with_reducible apply w_wrap); exact rfl; exact rfl; first | exact i64_in _ (by omega) | exact u64_in _ (by omega) | exact u8_in _ (by omega)))
        | ((with_reducible apply g_fld); first
          | ((with_reducible apply w_fldp (o := 1)); exact rfl; exact rfl; exact rfl; exact (by decide))
          | ((with_reducible apply w_fldp (o := 2)); exact rfl; exact rfl; exact rfl; exact (by decide)))
        | ((with_reducible apply g_assign); first
          | ((with_reducible apply w_pure (v := .int _ _)); exact rfl; exact rfl)
          | ((with_reducible apply w_pure (v := .slice _ _ _)); exact rfl; exact rfl))
        | ((with_reducible apply g_call); first
          | ((with_reducible apply w_call (v := .int _ _)); exact rfl))
        | ((with_reducible apply g_store); first
          | ((with_reducible apply w_store (us := [.int _ _]) (ws := [_, _, _, _, _, _, _, _, _])); exact rfl; exact rfl; (first | assumption | (simp (disch := omega) only [upd_same, upd_ne]; first | done | assumption | exact rfl) | exact rfl); omega; exact rfl; exact rfl; exact rfl)))
      | with_reducible refine w_seq ?_
      | with_reducible refine w_nil ?_
      | with_reducible refine w_region ?_)
    rw [hsub]
    obtain ⟨M, hM⟩ : ∃ M, (if N = 0 then 0 else min x2.length 8) = M := ⟨_, rfl⟩
    have hM9 : N = 0 ∨ x2.length ≤ M ∨ 8 ≤ M := by rw [← hM]; split <;> omega
    have hM8 : M ≤ x2.length ∧ M ≤ 8 ∧ (0 < M → 0 < N) := by rw [← hM]; split <;> omega
    refine w_meetK [(14, 16), (75, 118)] (fun σ' g' n' => ∃ oN oW, σ' 14 = .slice (raOf oW) M M
      ∧ g' s = some (.cells 26 [.slice (raOf oN) M M, .int .i64 (a : Nat), .int .i64 (3 * N : Nat), .int .i64 0, .int .i64 0, .int .i64 0, .int .i64 0, .int .i64 0, .int .i64 0])
      ∧ Own g' (s + 1) n' 9 ts oW (((x2.take M).map fun x => pk x N).map (wdB x0)) ∧ Own g' (s + 1) n' 3 ii oN (((x2.take M).map fun x => pk x N).map fun k => ((3 * k : Nat) : Int)) ∧ s + 1 ≤ n') ?_ ?_
    · intro K R hK
      refine w_block ?_
      refine w_cntK [(14, 16), (75, 118)] M (fun i (b : Option Nat × Option Nat) σ g' n' => σ 15 = .int .i64 (i : Nat) ∧ σ 14 = ov b.2 i
        ∧ g' s = some (.cells 26 [ov b.1 i, .int .i64 (a : Nat), .int .i64 (3 * N : Nat), .int .i64 0, .int .i64 0, .int .i64 0, .int .i64 0, .int .i64 0, .int .i64 0])
        ∧ Own g' (s + 1) nl 9 ts o10 (nmL x0 N) ∧ Own g' (s + 1) nl 3 ii o11 (plL N)
        ∧ Own g' nl n' 9 ts b.2 (((x2.take i).map fun x => pk x N).map (wdB x0)) ∧ Own g' nl n' 3 ii b.1 (((x2.take i).map fun x => pk x N).map fun k => ((3 * k : Nat) : Int)) ∧ nl ≤ n') ?_ ?_ (none, none) ⟨rfl, rfl, ?_, ?_, ?_, rfl, rfl, by omega⟩
      · rintro i ⟨oN, oW⟩ σ g2 n2 hlt ⟨k15, k14, hg, ho10, ho11, hoW, hoN, hn2⟩ ih
        dsimp only at k14 hg hoW hoN
        obtain ⟨y, hy⟩ : ∃ y, x2[i]? = some y := ⟨_, List.getElem?_eq_getElem (by omega)⟩
        obtain ⟨p1, p2, p3⟩ := pk_is y N (by omega)
        have hlen : ((x2.take i).map fun x => pk x N).length = i := by simp; omega
        have hsn : ((x2.take (i + 1)).map fun x => pk x N) = ((x2.take i).map fun x => pk x N) ++ [pk y N] := by rw [List.take_add_one, hy]; simp
        obtain ⟨ks, hks⟩ : ∃ ks, ((x2.take i).map fun x => pk x N) = ks := ⟨_, rfl⟩
        rw [hks] at hlen hoW hoN
        rw [hks] at hsn
        have hlW : (ks.map (wdB x0)).length = i := by rw [List.length_map, hlen]
        have hlN : (ks.map fun k => ((3 * k : Nat) : Int)).length = i := by rw [List.length_map, hlen]
        have row11 := own_row ho11
        have hpk : (plL N)[((pk y N : Nat) : Int).toNat]? = some ((3 * pk y N : Nat) : Int) := pl_at N _ p3
        have hnk : (nmL x0 N)[((pk y N : Nat) : Int).toNat]? = some (wdB x0 (pk y N)) := nm_at x0 N _ p3
        cases oN with
        | none =>
          have h0 := own_none hoN
          have hi0 : i = 0 := by rw [h0] at hlN; simpa using hlN.symm
          subst hi0
          obtain rfl : ks = [] := List.length_eq_zero_iff.1 hlen
          cases oW with
          | some p => exact absurd rfl hoW.1
          | none =>
            simp only [ov] at k14 hg
            refine w_keep (i := 14) k14 (w_keep (i := 15) k15 ?_)
            repeat' (first
              | ((with_reducible apply g_op); first
                | ((with_reducible apply g_load); first
                  | ((with_reducible apply w_fl (v := .int _ _)); exact rfl; exact (fun _ => rfl); assumption; exact rfl))
                | ((with_reducible apply g_move); first
                  | ((with_reducible apply w_pure (v := .int _ _)); exact rfl; exact rfl)
                  | ((with_reducible apply w_pure (v := .bool _)); exact rfl; exact rfl)
                  | ((with_reducible apply w_pure (v := .slice _ _ _)); exact rfl; exact rfl)
                  | ((with_reducible apply w_pure (v := .func _ _ _)); exact rfl; exact rfl))
                | ((with_reducible apply g_bin); first
                  | ((with_reducible apply w_pure (v := .bool _)); exact rfl; exact rfl))
                | ((with_reducible apply g_pick); first
                  | ((with_reducible apply w_pk1 (v := .bool _)); exact rfl; exact rfl; (first | assumption | exact decide_eq_true (by assumption) | exact decide_eq_false (by assumption) | exact decide_eq_true (by omega) | exact decide_eq_false (by omega) | exact beq_iff_eq.2 (by omega) | exact beq_eq_false_iff_ne.2 (by omega) | exact bne_iff_ne.2 (by omega) | exact bne_eq_false_iff_eq.2 (by omega))))
                | ((with_reducible apply g_call); first
                  | ((with_reducible apply w_call (v := .int _ _)); exact rfl))
                | ((with_reducible apply g_ix); first
                  | ((with_reducible apply w_fx (sz := 1)); exact rfl; exact rfl; exact rfl; exact rfl; exact rfl; exact (fun _ => rfl); assumption; exact rfl)))
              | ((with_reducible apply g_gd); first
                | ((with_reducible apply w_want); exact rfl)
                | ((with_reducible apply w_gd_t); exact rfl; all_goals (intro hc; first | (exfalso; omega) | skip)))
              | with_reducible refine w_seq ?_
              | with_reducible refine w_nil ?_
              | with_reducible refine w_region ?_
              | with_reducible refine w_skip ?_
              | with_reducible refine w_block ?_
              | ((with_reducible apply w_ifd); exact rfl; all_goals (intro hc; first | (exfalso; omega) | skip)))
            refine w_tmod rfl rfl rfl rfl rfl (by omega) ?_
            repeat' (first
              | ((with_reducible apply g_op); first
                | ((with_reducible apply g_move); first
                  | ((with_reducible apply w_pure (v := .slice _ _ _)); exact rfl; exact rfl))
                | ((with_reducible apply g_bin); first
                  | ((with_reducible apply w_mod); exact rfl; exact rfl; exact rfl; exact rfl; exact rfl; omega; omega)
                  | ((with_reducible apply w_wrap); exact rfl; exact rfl; first | exact i64_in _ (by omega) | exact u64_in _ (by omega) | exact u8_in _ (by omega)))
                | ((with_reducible apply g_assign); first
                  | ((with_reducible apply w_pure (v := .int _ _)); exact rfl; exact rfl))
                | ((with_reducible apply g_call); first
                  | ((with_reducible apply w_call (v := .int _ _)); exact rfl)))
              | with_reducible refine w_seq ?_
              | with_reducible refine w_nil ?_)
            rw [p2]
            repeat' (first
              | ((with_reducible apply g_op); first
                | ((with_reducible apply g_load); first
                  | ((with_reducible apply w_ld (v := .int _ _)); exact rfl; assumption; exact (fun _ => rfl); assumption; exact (by decide); exact rfl)
                  | ((with_reducible apply w_load (v := .slice _ _ _)); exact rfl; (first | assumption | (simp (disch := omega) only [upd_same, upd_ne]; first | done | assumption | exact rfl) | exact rfl); exact rfl))
                | ((with_reducible apply g_move); first
                  | ((with_reducible apply w_pure (v := .int _ _)); exact rfl; exact rfl)
                  | ((with_reducible apply w_pure (v := .slice _ _ _)); exact rfl; exact rfl))
                | ((with_reducible apply g_fld); first
                  | ((with_reducible apply w_fldp (o := 0)); exact rfl; exact rfl; exact rfl; exact (by decide)))
                | ((with_reducible apply g_call); first
                  | ((with_reducible apply w_app0 (ns := [_])); exact rfl; exact rfl; exact rfl; exact rfl; exact rfl; exact rfl; (first | assumption | (simp (disch := omega) only [upd_same, upd_ne]; first | done | assumption | exact rfl) | exact rfl); exact rfl; exact rfl; exact (by decide); exact ⟨by decide, by decide⟩))
                | ((with_reducible apply g_store); first
                  | ((with_reducible apply w_store (us := [.slice _ _ _]) (ws := [_, _, _, _, _, _, _, _, _])); exact rfl; exact rfl; (first | assumption | (simp (disch := omega) only [upd_same, upd_ne]; first | done | assumption | exact rfl) | exact rfl); omega; exact rfl; exact rfl; exact rfl))
                | ((with_reducible apply g_ix); first
                  | ((with_reducible apply w_ix (sz := 1)); exact rfl; exact rfl; exact rfl; exact rfl; exact (by decide); exact rfl; assumption; exact (fun _ => rfl); assumption; omega))
                | ((with_reducible apply w_bsl (ls := [_])); exact rfl; exact rfl; exact rfl; exact ⟨by decide, rfl⟩; exact rfl))
              | with_reducible refine w_nil ?_
              | ((with_reducible apply w_draw); kernel_rfl; kernel_rfl))
            refine w_gen (fun G N' => G s = some (.cells 26 [slc (n2 + 1) 0 1, .int .i64 (a : Nat), .int .i64 (3 * N : Nat), .int .i64 0, .int .i64 0, .int .i64 0, .int .i64 0, .int .i64 0, .int .i64 0]) ∧ Own G (s + 1) nl 9 ts o10 (nmL x0 N) ∧ Own G (s + 1) nl 3 ii o11 (plL N) ∧ Own G nl N' 3 ii (some (n2 + 1)) [((3 * pk y N : Nat) : Int)] ∧ N' = n2 + 1 + 1) ⟨?_, ?_, ?_, ⟨by simp, by omega, by omega, ?_⟩, rfl⟩ ?_
            · simp (disch := omega) only [upd_same]
            · exact ho10.later (Nat.le_refl _) (fun j h1 h2 => by simp (disch := omega) only [upd_ne])
            · exact ho11.later (Nat.le_refl _) (fun j h1 h2 => by simp (disch := omega) only [upd_ne])
            · simp (disch := omega) only [upd_same, upd_ne]
              rfl
            clear hg row11 ho10 ho11
            rintro G _ ⟨hg, ho10, ho11, hoN2, rfl⟩
            have row10 := own_row ho10
            repeat' (first
              | ((with_reducible apply g_op); first
                | ((with_reducible apply g_load); first
                  | ((with_reducible apply w_ld (v := .string _)); exact rfl; assumption; exact (fun _ => rfl); assumption; exact (by decide); exact rfl))
                | ((with_reducible apply g_move); first
                  | ((with_reducible apply w_pure (v := .int _ _)); exact rfl; exact rfl)
                  | ((with_reducible apply w_pure (v := .slice _ _ _)); exact rfl; exact rfl))
                | ((with_reducible apply g_bin); first
                  | ((with_reducible apply w_wrap); exact rfl; exact rfl; first | exact i64_in _ (by omega) | exact u64_in _ (by omega) | exact u8_in _ (by omega)))
                | ((with_reducible apply g_assign); first
                  | ((with_reducible apply w_pure (v := .int _ _)); exact rfl; exact rfl)
                  | ((with_reducible apply w_pure (v := .slice _ _ _)); exact rfl; exact rfl))
                | ((with_reducible apply g_call); first
                  | ((with_reducible apply w_app0 (ns := [_])); exact rfl; exact rfl; exact rfl; exact rfl; exact rfl; exact rfl; (first | assumption | (simp (disch := omega) only [upd_same, upd_ne]; first | done | assumption | exact rfl) | exact rfl); exact rfl; exact rfl; exact (by decide); exact ⟨by decide, by decide⟩))
                | ((with_reducible apply g_ix); first
                  | ((with_reducible apply w_ix (sz := 1)); exact rfl; exact rfl; exact rfl; exact rfl; exact (by decide); exact rfl; assumption; exact (fun _ => rfl); assumption; omega))
                | ((with_reducible apply w_bsl (ls := [_])); exact rfl; exact rfl; exact rfl; exact ⟨by decide, rfl⟩; exact rfl))
              | with_reducible refine w_nil ?_
              | with_reducible refine w_region ?_
              | with_reducible refine w_blk ?_)
            refine ih (some (n2 + 1), some (n2 + 1 + 1 + 1)) _ _ _ (by repeat' (first | with_reducible exact Fr.mix | with_reducible exact Fr.rfl' | with_reducible refine Fr.put ?_ ?_ | with_reducible refine Fr.mix2 ?_ ?_ | with_reducible refine Fr.put0 ?_ | exact rfl)) ⟨rfl, rfl, ?_, ?_, ?_, ⟨by rw [hsn]; simp, by omega, by omega, ?_⟩, ?_, by omega⟩
            · simp (disch := omega) only [upd_ne]; exact hg
            · exact ho10.later (Nat.le_refl _) (fun j h1 h2 => by simp (disch := omega) only [upd_ne])
            · exact ho11.later (Nat.le_refl _) (fun j h1 h2 => by simp (disch := omega) only [upd_ne])
            · simp (disch := omega) only [upd_same, upd_ne]
              rw [hsn]
              rfl
            · rw [hsn]
              exact hoN2.later (by omega) (fun j h1 h2 => by simp (disch := omega) only [upd_ne])
        | some pN =>
          have hne : ks ≠ [] := fun e => hoN.1 (by rw [e]; rfl)
          obtain ⟨pW, rfl⟩ := own_pos hoW (fun e => hne (List.map_eq_nil_iff.1 e))
          have hpp : pW ≠ pN := fun e => by
            have h1 := hoW.2.2.2
            rw [e, hoN.2.2.2] at h1
            cases h1
          have hpN := hoN.2.1
          have hpW := hoW.2.1
          have hpN2 := hoN.2.2.1
          have hpW2 := hoW.2.2.1
          simp only [ov] at k14 hg
          refine w_keep (i := 14) k14 (w_keep (i := 15) k15 ?_)
          repeat' (first
            | ((with_reducible apply g_op); first
              | ((with_reducible apply g_load); first
                | ((with_reducible apply w_fl (v := .int _ _)); exact rfl; exact (fun _ => rfl); assumption; exact rfl))
              | ((with_reducible apply g_move); first
                | ((with_reducible apply w_pure (v := .int _ _)); exact rfl; exact rfl)
                | ((with_reducible apply w_pure (v := .bool _)); exact rfl; exact rfl)
                | ((with_reducible apply w_pure (v := .slice _ _ _)); exact rfl; exact rfl)
                | ((with_reducible apply w_pure (v := .func _ _ _)); exact rfl; exact rfl))
              | ((with_reducible apply g_bin); first
                | ((with_reducible apply w_pure (v := .bool _)); exact rfl; exact rfl))
              | ((with_reducible apply g_pick); first
                | ((with_reducible apply w_pk1 (v := .bool _)); exact rfl; exact rfl; (first | assumption | exact decide_eq_true (by assumption) | exact decide_eq_false (by assumption) | exact decide_eq_true (by omega) | exact decide_eq_false (by omega) | exact beq_iff_eq.2 (by omega) | exact beq_eq_false_iff_ne.2 (by omega) | exact bne_iff_ne.2 (by omega) | exact bne_eq_false_iff_eq.2 (by omega))))
              | ((with_reducible apply g_call); first
                | ((with_reducible apply w_call (v := .int _ _)); exact rfl))
              | ((with_reducible apply g_ix); first
                | ((with_reducible apply w_fx (sz := 1)); exact rfl; exact rfl; exact rfl; exact rfl; exact rfl; exact (fun _ => rfl); assumption; exact rfl)))
            | ((with_reducible apply g_gd); first
              | ((with_reducible apply w_gd_t); exact rfl; all_goals (intro hc; first | (exfalso; omega) | skip)))
            | with_reducible refine w_seq ?_
            | with_reducible refine w_nil ?_
            | with_reducible refine w_region ?_
            | with_reducible refine w_skip ?_
            | with_reducible refine w_block ?_
            | ((with_reducible apply w_ifd); exact rfl; all_goals (intro hc; first | (exfalso; omega) | skip)))
          refine w_tmod rfl rfl rfl rfl rfl (by omega) ?_
          repeat' (first
            | ((with_reducible apply g_op); first
              | ((with_reducible apply g_move); first
                | ((with_reducible apply w_pure (v := .slice _ _ _)); exact rfl; exact rfl))
              | ((with_reducible apply g_bin); first
                | ((with_reducible apply w_mod); exact rfl; exact rfl; exact rfl; exact rfl; exact rfl; omega; omega)
                | ((with_reducible apply w_wrap); exact rfl; exact rfl; first | exact i64_in _ (by omega) | exact u64_in _ (by omega) | exact u8_in _ (by omega)))
              | ((with_reducible apply g_assign); first
                | ((with_reducible apply w_pure (v := .int _ _)); exact rfl; exact rfl))
              | ((with_reducible apply g_call); first
                | ((with_reducible apply w_call (v := .int _ _)); exact rfl)))
            | with_reducible refine w_seq ?_
            | with_reducible refine w_nil ?_)
          rw [p2]
          repeat' (first
            | ((with_reducible apply g_op); first
              | ((with_reducible apply g_load); first
                | ((with_reducible apply w_ld (v := .int _ _)); exact rfl; assumption; exact (fun _ => rfl); assumption; exact (by decide); exact rfl)
                | ((with_reducible apply w_load (v := .slice _ _ _)); exact rfl; (first | assumption | (simp (disch := omega) only [upd_same, upd_ne]; first | done | assumption | exact rfl) | exact rfl); exact rfl))
              | ((with_reducible apply g_move); first
                | ((with_reducible apply w_pure (v := .int _ _)); exact rfl; exact rfl)
                | ((with_reducible apply w_pure (v := .slice _ _ _)); exact rfl; exact rfl))
              | ((with_reducible apply g_fld); first
                | ((with_reducible apply w_fldp (o := 0)); exact rfl; exact rfl; exact rfl; exact (by decide)))
              | ((with_reducible apply g_ix); first
                | ((with_reducible apply w_ix (sz := 1)); exact rfl; exact rfl; exact rfl; exact rfl; exact (by decide); exact rfl; assumption; exact (fun _ => rfl); assumption; omega))
              | ((with_reducible apply w_bsl (ls := [_])); exact rfl; exact rfl; exact rfl; exact ⟨by decide, rfl⟩; exact rfl))
            | ((with_reducible apply w_draw); kernel_rfl; kernel_rfl))
          refine w_own1 (enc := ii) (y := ((3 * pk y N : Nat) : Int)) (by_ := 8) (sz := 1) (lo := nl) (o := some pN) (xs := ks.map fun k => ((3 * k : Nat) : Int)) (hoN.later (by omega) (fun j h1 h2 => upd_ne (by omega))) (by rw [hlN]; rfl) rfl rfl rfl rfl rfl (fun _ => rfl) upd_same rfl rfl rfl (by omega) (by omega) ?_
          intro g3 h1 h2 h3
          have r0 := (h1 s (by omega) (by simp; omega)).trans ((upd_ne (by omega)).trans hg)
          have r10 : Own g3 (s + 1) nl 9 ts o10 (nmL x0 N) := own_keep ho10 (Nat.le_refl _) (fun j q1 q2 _ => by rw [h1 j (by omega) (by simp; omega), upd_ne (by omega)])
          have r11 : Own g3 (s + 1) nl 3 ii o11 (plL N) := own_keep ho11 (Nat.le_refl _) (fun j q1 q2 _ => by rw [h1 j (by omega) (by simp; omega), upd_ne (by omega)])
          have rW : Own g3 nl (n2 + 1 + 1) 9 ts (some pW) (ks.map (wdB x0)) := own_keep hoW (by omega) (fun j q1 q2 q3 => by cases q3; rw [h1 pW (by omega) (fun e => hpp (by cases e; rfl)), upd_ne (by omega)])
          clear hg row11 ho10 ho11
          repeat' (first
            | ((with_reducible apply g_op); first
              | ((with_reducible apply g_fld); first
                | ((with_reducible apply w_fldp (o := 0)); exact rfl; exact rfl; exact rfl; exact (by decide)))
              | ((with_reducible apply g_store); first
                | ((with_reducible apply w_store (us := [.slice _ _ _]) (ws := [_, _, _, _, _, _, _, _, _])); exact rfl; exact rfl; (first | assumption | (simp (disch := omega) only [upd_same, upd_ne]; first | done | assumption | exact rfl) | exact rfl); omega; exact rfl; exact rfl; exact rfl)))
            | with_reducible refine w_nil ?_)
          have hlen1 : (ks.map (fun k => ((3 * k : Nat) : Int)) ++ [((3 * pk y N : Nat) : Int)]).length = i + 1 := by simp [hlen]
          refine w_gen (fun G N' => G s = some (.cells 26 [slc (n2 + 1) 0 (i + 1), .int .i64 (a : Nat), .int .i64 (3 * N : Nat), .int .i64 0, .int .i64 0, .int .i64 0, .int .i64 0, .int .i64 0, .int .i64 0]) ∧ Own G (s + 1) nl 9 ts o10 (nmL x0 N) ∧ Own G (s + 1) nl 3 ii o11 (plL N) ∧ Own G nl N' 3 ii (some (n2 + 1)) (ks.map (fun k => ((3 * k : Nat) : Int)) ++ [((3 * pk y N : Nat) : Int)]) ∧ Own G nl N' 9 ts (some pW) (ks.map (wdB x0)) ∧ N' = n2 + 1 + 1) ⟨?_, ?_, ?_, ?_, ?_, rfl⟩ ?_
          · rw [upd_same, ← hlen1]
          · exact r10.later (Nat.le_refl _) (fun j h1 h2 => upd_ne (by omega))
          · exact r11.later (Nat.le_refl _) (fun j h1 h2 => upd_ne (by omega))
          · exact h3.later (Nat.le_refl _) (fun j h1 h2 => upd_ne (by omega))
          · exact rW.later (Nat.le_refl _) (fun j h1 h2 => upd_ne (by omega))
          clear r0 r10 r11 rW h1 h2 h3
          rintro G _ ⟨hg, ho10, ho11, hoN2, hoW2, rfl⟩
          have row10 := own_row ho10
          repeat' (first
            | ((with_reducible apply g_op); first
              | ((with_reducible apply g_load); first
                | ((with_reducible apply w_ld (v := .string _)); exact rfl; assumption; exact (fun _ => rfl); assumption; exact (by decide); exact rfl))
              | ((with_reducible apply g_move); first
                | ((with_reducible apply w_pure (v := .int _ _)); exact rfl; exact rfl)
                | ((with_reducible apply w_pure (v := .slice _ _ _)); exact rfl; exact rfl))
              | ((with_reducible apply g_ix); first
                | ((with_reducible apply w_ix (sz := 1)); exact rfl; exact rfl; exact rfl; exact rfl; exact (by decide); exact rfl; assumption; exact (fun _ => rfl); assumption; omega))
              | ((with_reducible apply w_bsl (ls := [_])); exact rfl; exact rfl; exact rfl; exact ⟨by decide, rfl⟩; exact rfl))
            | with_reducible refine w_region ?_)
          refine w_own1 (enc := ts) (y := wdB x0 (pk y N)) (by_ := 16) (sz := 1) (lo := nl) (o := some pW) (xs := ks.map (wdB x0)) (hoW2.later (by omega) (fun j h1 h2 => upd_ne (by omega))) (by rw [hlW]; rfl) rfl rfl rfl rfl rfl (fun _ => rfl) upd_same rfl rfl rfl (by omega) (by omega) ?_
          intro g4 h1 h2 h3
          repeat' (first
            | ((with_reducible apply g_op); first
              | ((with_reducible apply g_move); first
                | ((with_reducible apply w_pure (v := .int _ _)); exact rfl; exact rfl))
              | ((with_reducible apply g_bin); first
                | ((with_reducible apply w_wrap); exact rfl; exact rfl; first | exact i64_in _ (by omega) | exact u64_in _ (by omega) | exact u8_in _ (by omega)))
              | ((with_reducible apply g_assign); first
                | ((with_reducible apply w_pure (v := .int _ _)); exact rfl; exact rfl)
                | ((with_reducible apply w_pure (v := .slice _ _ _)); exact rfl; exact rfl)))
            | with_reducible refine w_nil ?_
            | with_reducible refine w_region ?_
            | with_reducible refine w_blk ?_)
          have hlen2 : (ks.map (wdB x0) ++ [wdB x0 (pk y N)]).length = i + 1 := by simp [hlen]
          refine ih (some (n2 + 1), some (n2 + 1 + 1 + 1)) _ _ _ (by repeat' (first | with_reducible exact Fr.mix | with_reducible exact Fr.rfl' | with_reducible refine Fr.put ?_ ?_ | with_reducible refine Fr.mix2 ?_ ?_ | with_reducible refine Fr.put0 ?_ | exact rfl)) ⟨rfl, congrArg (fun k => slc (n2 + 1 + 1 + 1) 0 k) hlen2, ?_, ?_, ?_, ?_, ?_, by omega⟩
          · exact (h1 s (by omega) (by simp; omega)).trans ((upd_ne (by omega)).trans hg)
          · exact own_keep ho10 (Nat.le_refl _) (fun j q1 q2 _ => by rw [h1 j (by omega) (by simp; omega), upd_ne (by omega)])
          · exact own_keep ho11 (Nat.le_refl _) (fun j q1 q2 _ => by rw [h1 j (by omega) (by simp; omega), upd_ne (by omega)])
          · dsimp only
            rw [hsn, List.map_append]
            exact h3
          · dsimp only
            rw [hsn, List.map_append]
            exact own_keep hoN2 (by omega) (fun j q1 q2 q3 => by cases q3; rw [h1 _ (by omega) (by simp; omega), upd_ne (by omega)])
      · rintro ⟨oN, oW⟩ σ g2 n2 ⟨k15, k14, hg, ho10, ho11, hoW, hoN, hn2⟩
        dsimp only at k14 hg hoW hoN
        have hks : ((x2.take M).map fun x => pk x N).length = M := by simp; omega
        have eW := own_ov hoW
        have eN := own_ov hoN
        rw [List.length_map, hks] at eW eN
        rw [eW] at k14
        rw [eN] at hg
        refine w_keep (i := 14) k14 (w_keep (i := 15) k15 ?_)
        repeat' (first
          | ((with_reducible apply g_op); first
            | ((with_reducible apply g_move); first
              | ((with_reducible apply w_pure (v := .int _ _)); exact rfl; exact rfl)
              | ((with_reducible apply w_pure (v := .bool _)); exact rfl; exact rfl)
              | ((with_reducible apply w_pure (v := .slice _ _ _)); exact rfl; exact rfl)
              | ((with_reducible apply w_pure (v := .func _ _ _)); exact rfl; exact rfl))
            | ((with_reducible apply g_bin); first
              | ((with_reducible apply w_pure (v := .bool _)); exact rfl; exact rfl))
            | ((with_reducible apply g_pick); first
              | ((with_reducible apply w_pk1 (v := .bool _)); exact rfl; exact rfl; (first | assumption | exact decide_eq_true (by assumption) | exact decide_eq_false (by assumption) | exact decide_eq_true (by omega) | exact decide_eq_false (by omega) | exact beq_iff_eq.2 (by omega) | exact beq_eq_false_iff_ne.2 (by omega) | exact bne_iff_ne.2 (by omega) | exact bne_eq_false_iff_eq.2 (by omega)))
              | ((with_reducible apply w_pk0 (v := .bool _)); exact rfl; exact rfl; (first | assumption | exact decide_eq_true (by assumption) | exact decide_eq_false (by assumption) | exact decide_eq_true (by omega) | exact decide_eq_false (by omega) | exact beq_iff_eq.2 (by omega) | exact beq_eq_false_iff_ne.2 (by omega) | exact bne_iff_ne.2 (by omega) | exact bne_eq_false_iff_eq.2 (by omega))))
            | ((with_reducible apply g_call); first
              | ((with_reducible apply w_call (v := .int _ _)); exact rfl))
            | ((with_reducible apply w_pure (v := .bool _)); exact rfl; exact rfl))
          | ((with_reducible apply g_gd); first
            | ((with_reducible apply w_pass); exact rfl)
            | ((with_reducible apply w_gd_t); exact rfl; all_goals (intro hc; first | (exfalso; omega) | skip)))
          | with_reducible refine w_seq ?_
          | with_reducible refine w_nil ?_
          | with_reducible refine w_region ?_
          | ((with_reducible apply w_exit); exact rfl)
          | ((with_reducible apply w_no); exact rfl)
          | ((with_reducible apply w_ifd); exact rfl; all_goals (intro hc; first | (exfalso; omega) | skip)))
        all_goals exact hK _ _ _ (by repeat' (first | with_reducible exact Fr.mix | with_reducible exact Fr.rfl' | with_reducible refine Fr.put ?_ ?_ | with_reducible refine Fr.mix2 ?_ ?_ | with_reducible refine Fr.put0 ?_ | exact rfl)) ⟨oN, oW, rfl, hg, own_low hoW (by omega), own_low hoN (by omega), by omega⟩
      · simp (disch := omega) only [upd_same, upd_ne]
        rfl
      · exact ho10.later (by omega) (fun j h1 h2 => upd_ne (by omega))
      · exact ho11.later (by omega) (fun j h1 h2 => upd_ne (by omega))
    · rintro σ2 g2 n2 ⟨oN, oW, k14, hg, hoW, hoN, hn2⟩
      have hks : ((x2.take M).map fun x => pk x N).length = M := by simp; omega
      have hkN : ∀ k ∈ ((x2.take M).map fun x => pk x N), k < N := by
        intro k hk
        obtain ⟨x, hx, rfl⟩ := List.mem_map.1 hk
        have : 0 < M := by
          rcases Nat.eq_zero_or_pos M with h | h
          · rw [h] at hx; exact absurd hx (by simp)
          · exact h
        exact (pk_is x N (hM8.2.2 this)).2.2
      generalize ((x2.take M).map fun x => pk x N) = ks at *
      have hlW : (ks.map (wdB x0)).length = M := by rw [List.length_map, hks]
      have hlN : (ks.map fun k => ((3 * k : Nat) : Int)).length = M := by rw [List.length_map, hks]
      have hfz : ∀ (o : Option Nat) (l : List Int) (g1 : Nat → Option Ob) (n1 : Nat), Own g1 (s + 1) n1 3 ii o l → L1.freeze Try.prog g1 tg 0 9 (.agg [.slice (raOf o) l.length l.length, .int .i64 (a : Nat), .int .i64 (3 * N : Nat), .int .i64 0, .int .i64 0, .int .i64 0, .int .i64 0, .int .i64 0, .int .i64 0].toArray) = some ((⟨l, (a : Nat), (3 * N : Nat), 0, 0, 0, 0, 0, 0⟩ : Dyn).v tg) := fun o l g1 n1 h => by
        have := h.fz (P := Try.prog) (k := 6) (tg := tg) (lo' := 0) (by omega) rfl (by decide) (fun _ => rfl) (sn_plains (all_flat (fun _ => rfl) l))
        rw [own_ov h] at this
        exact sn_agg (sn_cons this (sn_plains rfl))
      have hfW : ∀ (g1 : Nat → Option Ob) (n1 : Nat), Own g1 (s + 1) n1 9 ts oW (ks.map (wdB x0)) → L1.freeze Try.prog g1 tg 0 9 (.slice (raOf oW) M M) = some (tv tg (ks.map (wdB x0))) := fun g1 n1 h => by
        have := h.fz (P := Try.prog) (k := 7) (tg := tg) (lo' := 0) (by omega) rfl (by decide) (fun _ => rfl) (sn_plains (all_flat (fun _ => rfl) _))
        rw [own_ov h, hlW] at this
        show _ = some (fz tg (ks.map (wdB x0)).length _)
        rw [hlW]
        exact this
      have hmz2 : (⟨#[109, 111, 114, 101, 0]⟩ : ByteArray).size = 5 := rfl
      have hmz : more.size = 5 := rfl
      have hvd : (W ++ more).data.toList = base ++ (tl x0 N ++ more.data.toList) := by rw [data_app, hW, List.append_assoc]
      have hvz : (W ++ more).size ≤ 1000000 := by rw [ByteArray.size_append]; omega
      have hall : namesS (W ++ more) ⟨ks.map (fun k => ((3 * k : Nat) : Int)), (a : Nat), (3 * N : Nat), 0, 0, 0, 0, 0, 0⟩ = (ks.map (wdB x0), 0) := by rw [← hbl]; exact names_all hN6 hvd ks hkN
      have hnone : namesS (W ++ more) ⟨ks.map (fun k => ((3 * k : Nat) : Int)) ++ [((3 * N : Nat) : Int)], (a : Nat), (3 * N : Nat), 0, 0, 0, 0, 0, 0⟩ = ([], 17) := by rw [← hbl]; exact names_none hN6 hvd ks hkN
      have hout : nameS (W ++ more) ⟨ks.map (fun k => ((3 * k : Nat) : Int)), (a : Nat), (3 * N : Nat), 0, 0, 0, 0, 0, 0⟩ ((3 * N : Nat) : Int) = (noneB, false) := by rw [← hbl]; exact name_out hvd _ 0 0 0 0 0 0
      have hb1 : ∀ x ∈ (ks.map fun k => ((3 * k : Nat) : Int)), x ≤ 9223372036854775807 := by
        intro x hx
        obtain ⟨k, hk, rfl⟩ := List.mem_map.1 hx
        have := hkN k hk
        omega
      have hfN := hfz oN (ks.map fun k => ((3 * k : Nat) : Int))
      rw [hlN] at hfN
      obtain ⟨V0, hV0⟩ : ∃ V0, V0 = Value.slice (raOf oN) M M := ⟨_, rfl⟩
      rw [← hV0] at hg hfN
      refine w_env ?_
      intro τ2 hτ
      have k7 : τ2 7 = .bool true := (hτ 7).trans rfl
      have k8 : τ2 8 = .string W := (hτ 8).trans rfl
      have k9 : τ2 9 = ptr s 0 := (hτ 9).trans rfl
      have k14 : τ2 14 = .slice (raOf oW) M M := (hτ 14).trans k14
      clear hτ
      refine w_keep (i := 7) k7 (w_keep (i := 8) k8 (w_keep (i := 9) k9 (w_keep (i := 14) k14 ?_)))
      repeat' (first
        | ((with_reducible apply g_op); first
          | ((with_reducible apply g_move); first
            | ((with_reducible apply w_pure (v := .string _)); exact rfl; exact rfl))
          | ((with_reducible apply g_bin); first
            | ((with_reducible apply w_cat); exact rfl; exact rfl; exact rfl; exact rfl; exact rfl; omega)))
        | with_reducible refine w_seq ?_
        | with_reducible refine w_region ?_)
      refine w_load (v := .agg #[V0, .int .i64 (a : Nat), .int .i64 (3 * N : Nat), .int .i64 0, .int .i64 0, .int .i64 0, .int .i64 0, .int .i64 0, .int .i64 0]) rfl hg rfl ?_
      refine w_rf (names_run (W ++ more) ⟨ks.map (fun k => ((3 * k : Nat) : Int)), (a : Nat), (3 * N : Nat), 0, 0, 0, 0, 0, 0⟩ hvz (by dsimp only; omega) hb1) (fun _ => rfl) (sn_cons (sn_plain rfl) (sn_cons (hfN _ _ hoN) sn_nil)) ?_
      rintro _ rfl
      rw [hall]
      repeat' (first
        | ((with_reducible apply g_op); first
          | ((with_reducible apply g_move); first
            | ((with_reducible apply w_pure (v := .slice _ _ _)); exact rfl; exact rfl)
            | ((with_reducible apply w_pure (v := .tuple _)); exact rfl; exact rfl)
            | ((with_reducible apply w_pure (v := .func _ _ _)); exact rfl; exact rfl))
          | ((with_reducible apply g_assign); first
            | ((with_reducible apply w_pure (v := .int _ _)); exact rfl; exact rfl)
            | ((with_reducible apply w_pure (v := .func _ _ _)); exact rfl; exact rfl))
          | ((with_reducible apply w_pure (v := .int _ _)); exact rfl; exact rfl)
          | ((with_reducible apply w_pure (v := .func _ _ _)); exact rfl; exact rfl))
        | with_reducible refine w_seq ?_
        | with_reducible refine w_nil ?_
        | with_reducible refine w_region ?_)
      refine w_rf (texts_run (ks.map (wdB x0)) (ks.map (wdB x0)) (by omega) (by omega)) (fun _ => rfl) (sn_cons (sn_fzp (.inr (by simp)) (all_flat (fun _ => rfl) _)) (sn_cons (hfW _ _ hoW) sn_nil)) ?_
      rintro _ rfl
      rw [decide_eq_true rfl]
      repeat' (first
        | ((with_reducible apply g_op); first
          | ((with_reducible apply g_move); first
            | ((with_reducible apply w_pure (v := .string _)); exact rfl; exact rfl))
          | ((with_reducible apply g_bin); first
            | ((with_reducible apply w_cat); exact rfl; exact rfl; exact rfl; exact rfl; exact rfl; omega))
          | ((with_reducible apply g_assign); first
            | ((with_reducible apply w_pure (v := .bool _)); exact rfl; exact rfl)))
        | with_reducible refine w_seq ?_
        | with_reducible refine w_nil ?_
        | with_reducible refine w_region ?_)
      refine w_load (v := .agg #[V0, .int .i64 (a : Nat), .int .i64 (3 * N : Nat), .int .i64 0, .int .i64 0, .int .i64 0, .int .i64 0, .int .i64 0, .int .i64 0]) rfl hg rfl ?_
      repeat' (first
        | ((with_reducible apply g_op); first
          | ((with_reducible apply g_load); first
            | ((with_reducible apply w_load (v := .int _ _)); exact rfl; (first | assumption | (simp (disch := omega) only [upd_same, upd_ne]; first | done | assumption | exact rfl) | exact rfl); exact rfl))
          | ((with_reducible apply g_fld); first
            | ((with_reducible apply w_fldp (o := 2)); exact rfl; exact rfl; exact rfl; exact (by decide)))))
      refine w_rf (name_run (W ++ more) ⟨ks.map (fun k => ((3 * k : Nat) : Int)), (a : Nat), (3 * N : Nat), 0, 0, 0, 0, 0, 0⟩ ((3 * N : Nat) : Int) hvz (by omega)) (fun _ => rfl) (sn_cons (sn_plain rfl) (sn_cons (hfN _ _ hoN) (sn_cons (sn_plain rfl) sn_nil))) ?_
      rintro _ rfl
      rw [hout]
      repeat' (first
        | ((with_reducible apply g_op); first
          | ((with_reducible apply g_move); first
            | ((with_reducible apply w_pure (v := .tuple _)); exact rfl; exact rfl))
          | ((with_reducible apply g_fld); first
            | ((with_reducible apply w_fldp (o := 0)); exact rfl; exact rfl; exact rfl; exact (by decide)))
          | ((with_reducible apply g_assign); first
            | ((with_reducible apply w_pure (v := .bool _)); exact rfl; exact rfl)
            | ((with_reducible apply w_pure (v := .string _)); exact rfl; exact rfl))
          | ((with_reducible apply w_pure (v := .bool _)); exact rfl; exact rfl)
          | ((with_reducible apply w_pure (v := .string _)); exact rfl; exact rfl))
        | with_reducible refine w_seq ?_
        | with_reducible refine w_nil ?_
        | with_reducible refine w_region ?_)
      refine w_load (v := V0) rfl hg rfl ?_
      repeat' (first
        | ((with_reducible apply g_op); first
          | ((with_reducible apply g_load); first
            | ((with_reducible apply w_load (v := .int _ _)); exact rfl; (first | assumption | (simp (disch := omega) only [upd_same, upd_ne]; first | done | assumption | exact rfl) | exact rfl); exact rfl))
          | ((with_reducible apply g_fld); first
            | ((with_reducible apply w_fldp (o := 2)); exact rfl; exact rfl; exact rfl; exact (by decide)))
          | ((with_reducible apply w_bsl (ls := [_])); exact rfl; exact rfl; exact rfl; exact ⟨by decide, rfl⟩; exact rfl)))
      have hsN : some s ≠ oN := fun e => by
        rw [← e] at hoN
        have := hoN.2.1
        omega
      have hov := own_ov hoN
      refine w_own1 (enc := ii) (y := ((3 * N : Nat) : Int)) (by_ := 8) (sz := 1) (lo := s + 1) (o := oN) (xs := ks.map fun k => ((3 * k : Nat) : Int)) (hoN.later (by omega) (fun j h1 h2 => upd_ne (by omega))) (by rw [hov, hlN]; exact hV0) rfl rfl rfl rfl rfl (fun _ => rfl) upd_same rfl rfl rfl (by omega) (by omega) ?_
      intro g3 h1 h2 h3
      have r0 := (h1 s (by omega) hsN).trans ((upd_ne (by omega)).trans hg)
      have hf2 := hfz (some (n2 + 1)) (ks.map (fun k => ((3 * k : Nat) : Int)) ++ [((3 * N : Nat) : Int)])
      repeat' (first
        | ((with_reducible apply g_op); first
          | ((with_reducible apply g_move); first
            | ((with_reducible apply w_pure (v := .string _)); exact rfl; exact rfl))
          | ((with_reducible apply g_bin); first
            | ((with_reducible apply w_cat); exact rfl; exact rfl; exact rfl; exact rfl; exact rfl; omega))
          | ((with_reducible apply g_fld); first
            | ((with_reducible apply w_fldp (o := 0)); exact rfl; exact rfl; exact rfl; exact (by decide)))
          | ((with_reducible apply g_store); first
            | ((with_reducible apply w_store (us := [.slice _ _ _]) (ws := [_, _, _, _, _, _, _, _, _])); exact rfl; exact rfl; (first | assumption | (simp (disch := omega) only [upd_same, upd_ne]; first | done | assumption | exact rfl) | exact rfl); omega; exact rfl; exact rfl; exact rfl)))
        | with_reducible refine w_seq ?_
        | with_reducible refine w_nil ?_
        | with_reducible refine w_region ?_)
      refine w_load (v := .agg #[.slice (raOf (some (n2 + 1))) (ks.map (fun k => ((3 * k : Nat) : Int)) ++ [((3 * N : Nat) : Int)]).length (ks.map (fun k => ((3 * k : Nat) : Int)) ++ [((3 * N : Nat) : Int)]).length, .int .i64 (a : Nat), .int .i64 (3 * N : Nat), .int .i64 0, .int .i64 0, .int .i64 0, .int .i64 0, .int .i64 0, .int .i64 0]) rfl (by rw [upd_same]) rfl ?_
      refine w_rf (names_run (W ++ more) ⟨ks.map (fun k => ((3 * k : Nat) : Int)) ++ [((3 * N : Nat) : Int)], (a : Nat), (3 * N : Nat), 0, 0, 0, 0, 0, 0⟩ hvz (by dsimp only; rw [List.length_append, hlN, List.length_singleton]; omega) (fun x hx => by
        rcases List.mem_append.1 hx with h | h
        · exact hb1 x h
        · rw [List.mem_singleton.1 h]; omega)) (fun _ => rfl) (sn_cons (sn_plain rfl) (sn_cons (hf2 _ _ (h3.later (Nat.le_refl _) (fun j a1 a2 => upd_ne (by omega)))) sn_nil)) ?_
      rintro _ rfl
      rw [hnone]
      repeat' (first
        | ((with_reducible apply g_op); first
          | ((with_reducible apply g_move); first
            | ((with_reducible apply w_pure (v := .int _ _)); exact rfl; exact rfl)
            | ((with_reducible apply w_pure (v := .bool _)); exact rfl; exact rfl)
            | ((with_reducible apply w_pure (v := .tuple _)); exact rfl; exact rfl))
          | ((with_reducible apply g_bin); first
            | ((with_reducible apply w_pure (v := .bool _)); exact rfl; exact rfl))
          | ((with_reducible apply g_pick); first
            | ((with_reducible apply w_pk1 (v := .bool _)); exact rfl; exact rfl; (first | assumption | exact decide_eq_true (by assumption) | exact decide_eq_false (by assumption) | exact decide_eq_true (by omega) | exact decide_eq_false (by omega) | exact beq_iff_eq.2 (by omega) | exact beq_eq_false_iff_ne.2 (by omega) | exact bne_iff_ne.2 (by omega) | exact bne_eq_false_iff_eq.2 (by omega))))
          | ((with_reducible apply g_assign); first
            | ((with_reducible apply w_pure (v := .int _ _)); exact rfl; exact rfl)
            | ((with_reducible apply w_pure (v := .bool _)); exact rfl; exact rfl)
            | ((with_reducible apply w_pure (v := .func _ _ _)); exact rfl; exact rfl))
          | ((with_reducible apply w_pure (v := .int _ _)); exact rfl; exact rfl)
          | ((with_reducible apply w_pure (v := .bool _)); exact rfl; exact rfl)
          | ((with_reducible apply w_pure (v := .func _ _ _)); exact rfl; exact rfl))
        | ((with_reducible apply g_gd); first
          | ((with_reducible apply w_want); exact rfl))
        | with_reducible refine w_seq ?_
        | with_reducible refine w_nil ?_
        | with_reducible refine w_region ?_
        | ((with_reducible apply w_ret (v := .bool _)); exact rfl))
      all_goals first | rfl | (exfalso; exact absurd rfl (by assumption)) | (exfalso; omega) | trace_state
theorem proved (x0 : List Int) (x1 : Int) (x2 : List Int) {q : Prop} (w0 : wfL (wfI .i64) x0) (w1 : q) (w2 : wfL (wfI .i64) x2) : Rn Try.prog tab 6 [fz tg x0.length (x0.flatMap (kInt .i64).enc), .int .i64 x1, fz tg x2.length (x2.flatMap (kInt .i64).enc)] (fun _ => none) 0 0 (fun v _ _ => v = .bool true) := walk x0 x1 x2 w0.1 w2.1 _ 0
end Go.Proofs.Ytffgdfoeeaoonaa.L.DynamicLists

