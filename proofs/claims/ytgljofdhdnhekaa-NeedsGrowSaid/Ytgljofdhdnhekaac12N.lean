/- The chapter's example; how many are missing. -/
import Derived.Test.Ytgljofdhdnhekaac12M
namespace Go.Proofs.Ytgljofdhdnhekaa.L
open Go.L1 Go.IntWalk
set_option linter.unusedVariables false
set_option linter.unusedSimpArgs false
set_option maxHeartbeats 4000000
def ch (c : UInt8) : ByteArray := ⟨#[c]⟩
def awakeL : List Lib := [⟨ch 97, [ch 98, ch 99]⟩, ⟨ch 98, [ch 100]⟩, ⟨ch 99, [ch 100, ch 97]⟩, ⟨ch 100, []⟩]
theorem awake_order : orderS awakeL (ch 97) = ([ch 97, ch 98, ch 99, ch 100], 0) := by decide +kernel
theorem awake_round : roundS' awakeL (ch 97) 4 = some true := by decide +kernel
theorem awake_depth : (mget (wk awakeL (ch 97)).depth (ch 100)).getD (-1) = 2 := by decide +kernel
theorem awake_fits : Fits awakeL := ⟨by decide, by decide⟩
theorem awake_sn {G : Nat → Option Ob} {n : Nat} (h0 : G n = some (.cells 9 [.string (ch 98), .string (ch 99)])) (h1 : G (n + 1) = some (.cells 9 [.string (ch 100)])) (h2 : G (n + 1 + 1) = some (.cells 9 [.string (ch 100), .string (ch 97)])) (h3 : G (n + 1 + 1 + 1) = some (.cells 27 [.string (ch 97), slc n 0 2, .string (ch 98), slc (n + 1) 0 1, .string (ch 99), slc (n + 1 + 1) 0 2, .string (ch 100), .slice none 0 0])) : L1.freeze Try.prog G tg 0 9 (slc (n + 1 + 1 + 1) 0 4) = some (lv tg awakeL) :=
  sn_row (sz := 2) (l := [.string (ch 97), slc n 0 2, .string (ch 98), slc (n + 1) 0 1, .string (ch 99), slc (n + 1 + 1) 0 2, .string (ch 100), .slice none 0 0]) h3 (Nat.zero_le _) rfl (by decide) rfl (sn_cons (sn_plain rfl) (sn_cons (sn_row (sz := 1) (l := [_, _]) h0 (Nat.zero_le _) rfl (by decide) rfl (sn_plains rfl)) (sn_cons (sn_plain rfl) (sn_cons (sn_row (sz := 1) (l := [_]) h1 (Nat.zero_le _) rfl (by decide) rfl (sn_plains rfl)) (sn_cons (sn_plain rfl) (sn_cons (sn_row (sz := 1) (l := [_, _]) h2 (Nat.zero_le _) rfl (by decide) rfl (sn_plains rfl)) (sn_cons (sn_plain rfl) (sn_cons sn_none sn_nil))))))))
theorem awake_run : Rf Try.prog T 7 [] (fun v => v = .bool true) := by
  refine c_froz Try.func7 rfl rfl rfl rfl rfl rfl ?_
  intro g n
  repeat' (first
    | ((with_reducible apply g_op); first
      | ((with_reducible apply g_assign); first
        | ((with_reducible apply w_pure (v := .bool _)); exact rfl; exact rfl))
      | ((with_reducible apply g_build); first
        | ((with_reducible apply w_pure (v := .agg #[_, _])); exact rfl; exact rfl))
      | ((with_reducible apply w_bsl (ls := [_])); exact rfl; exact rfl; exact rfl; exact ⟨by decide, rfl⟩; exact rfl)
      | ((with_reducible apply w_bsl (ls := [_, _])); exact rfl; exact rfl; exact rfl; exact ⟨by decide, rfl⟩; exact rfl))
    | with_reducible refine w_seq ?_
    | with_reducible refine w_nil ?_
    | with_reducible refine w_region ?_)
  refine w_bsl (ls := [.string (ch 97), slc n 0 2, .string (ch 98), slc (n + 1) 0 1, .string (ch 99), slc (n + 1 + 1) 0 2, .string (ch 100), .slice none 0 0]) rfl rfl rfl ⟨by decide, rfl⟩ rfl ?_
  repeat' (first
    | ((with_reducible apply g_op); first
      | ((with_reducible apply g_move); first
        | ((with_reducible apply w_pure (v := .slice _ _ _)); exact rfl; exact rfl))
      | ((with_reducible apply g_assign); first
        | ((with_reducible apply w_pure (v := .slice _ _ _)); exact rfl; exact rfl)))
    | with_reducible refine w_seq ?_
    | with_reducible refine w_nil ?_
    | with_reducible refine w_region ?_)
  refine w_rf (order_run awakeL (ch 97) awake_fits) (fun _ => rfl) (sn_cons (awake_sn (by simp (disch := omega) only [upd_same, upd_ne] <;> rfl) (by simp (disch := omega) only [upd_same, upd_ne] <;> rfl) (by simp (disch := omega) only [upd_same, upd_ne] <;> rfl) (by simp (disch := omega) only [upd_same, upd_ne] <;> rfl)) (sn_cons (sn_plain rfl) sn_nil)) ?_
  rintro _ rfl
  rw [awake_order]
  repeat' (first
    | ((with_reducible apply g_op); first
      | ((with_reducible apply g_move); first
        | ((with_reducible apply w_pure (v := .tuple _)); exact rfl; exact rfl)
        | ((with_reducible apply w_pure (v := .func _ _ _)); exact rfl; exact rfl))
      | ((with_reducible apply g_assign); first
        | ((with_reducible apply w_pure (v := .int _ _)); exact rfl; exact rfl)
        | ((with_reducible apply w_pure (v := .func _ _ _)); exact rfl; exact rfl))
      | ((with_reducible apply w_bsl (ls := [_, _, _, _])); exact rfl; exact rfl; exact rfl; exact ⟨by decide, rfl⟩; exact rfl)
      | ((with_reducible apply w_pure (v := .int _ _)); exact rfl; exact rfl)
      | ((with_reducible apply w_pure (v := .func _ _ _)); exact rfl; exact rfl))
    | with_reducible refine w_seq ?_
    | with_reducible refine w_nil ?_
    | with_reducible refine w_region ?_)
  refine w_rf (texts_run [ch 97, ch 98, ch 99, ch 100] [ch 97, ch 98, ch 99, ch 100] (by decide) (by decide)) (fun _ => rfl) (sn_cons (sn_fzp (.inl rfl) rfl) (sn_cons (sn_row (sz := 1) (l := [_, _, _, _]) upd_same (Nat.zero_le _) rfl (by decide) rfl (sn_plains rfl)) sn_nil)) ?_
  rintro _ rfl
  rw [decide_eq_true rfl]
  repeat' (first
    | ((with_reducible apply g_op); first
      | ((with_reducible apply g_move); first
        | ((with_reducible apply w_pure (v := .int _ _)); exact rfl; exact rfl)
        | ((with_reducible apply w_pure (v := .bool _)); exact rfl; exact rfl)
        | ((with_reducible apply w_pure (v := .slice _ _ _)); exact rfl; exact rfl))
      | ((with_reducible apply g_bin); first
        | ((with_reducible apply w_pure (v := .bool _)); exact rfl; exact rfl))
      | ((with_reducible apply g_assign); first
        | ((with_reducible apply w_pure (v := .bool _)); exact rfl; exact rfl))
      | ((with_reducible apply w_pure (v := .bool _)); exact rfl; exact rfl))
    | ((with_reducible apply g_gd); first
      | ((with_reducible apply w_want); exact rfl))
    | with_reducible refine w_seq ?_
    | with_reducible refine w_nil ?_
    | with_reducible refine w_region ?_)
  refine w_rf (round_run awakeL (ch 97) awake_fits 4 true awake_round) (fun _ => rfl) (sn_cons (awake_sn (by simp (disch := omega) only [upd_same, upd_ne] <;> rfl) (by simp (disch := omega) only [upd_same, upd_ne] <;> rfl) (by simp (disch := omega) only [upd_same, upd_ne] <;> rfl) (by simp (disch := omega) only [upd_same, upd_ne] <;> rfl)) (sn_cons (sn_plain rfl) sn_nil)) ?_
  rintro _ rfl
  repeat' (first
    | ((with_reducible apply g_op); first
      | ((with_reducible apply g_move); first
        | ((with_reducible apply w_pure (v := .bool _)); exact rfl; exact rfl)
        | ((with_reducible apply w_pure (v := .slice _ _ _)); exact rfl; exact rfl))
      | ((with_reducible apply g_pick); first
        | ((with_reducible apply w_pk1 (v := .bool _)); exact rfl; exact rfl; (first | assumption | exact decide_eq_true (by assumption) | exact decide_eq_false (by assumption) | exact decide_eq_true (by omega) | exact decide_eq_false (by omega) | exact beq_iff_eq.2 (by omega) | exact beq_eq_false_iff_ne.2 (by omega) | exact bne_iff_ne.2 (by omega) | exact bne_eq_false_iff_eq.2 (by omega)))))
    | ((with_reducible apply g_gd); first
      | ((with_reducible apply w_want); exact rfl)))
  refine w_rf (depth_run awakeL (ch 97) (ch 100) awake_fits) (fun _ => rfl) (sn_cons (awake_sn (by simp (disch := omega) only [upd_same, upd_ne] <;> rfl) (by simp (disch := omega) only [upd_same, upd_ne] <;> rfl) (by simp (disch := omega) only [upd_same, upd_ne] <;> rfl) (by simp (disch := omega) only [upd_same, upd_ne] <;> rfl)) (sn_cons (sn_plain rfl) (sn_cons (sn_plain rfl) sn_nil))) ?_
  rintro _ rfl
  rw [awake_depth]
  repeat' (first
    | ((with_reducible apply g_op); first
      | ((with_reducible apply g_bin); first
        | ((with_reducible apply w_pure (v := .bool _)); exact rfl; exact rfl))
      | ((with_reducible apply g_assign); first
        | ((with_reducible apply w_pure (v := .bool _)); exact rfl; exact rfl))
      | ((with_reducible apply w_pure (v := .bool _)); exact rfl; exact rfl))
    | ((with_reducible apply g_gd); first
      | ((with_reducible apply w_want); exact rfl))
    | with_reducible refine w_nil ?_
    | ((with_reducible apply w_ret (v := .bool _)); exact rfl))
  exact fr_plain rfl rfl
theorem missing_len (l : List Lib) (root : ByteArray) (hl : Fits l) : (wk l root).missing.length ≤ 100000 := by
  rw [(rel_wk l root).missing]
  cases hr : (findL l root).isSome with
  | false => unfold ofS; rw [hr, if_neg (by simp)]; simp
  | true =>
    have h := ofS_inv hr (I := fun i w => w.missing.length ≤ 100 * i) (by simp) fun i w hok hI hi => by
      unfold ofRound
      rw [round_nd hi]
      have hnd : ((findL l w.names[i]).getD []).length ≤ 100 := by
        cases h : findL l w.names[i] with
        | none => simp
        | some nd => exact hl.tab _ nd (by rw [tab_get]; exact h)
      have : ∀ (nd : List ByteArray) (w : Rw) (dp : Int), (nd.foldl (ofMeet l dp) w).missing.length ≤ w.missing.length + nd.length := by
        intro nd
        induction nd with
        | nil => intro w dp; simp
        | cons s nd ih =>
          intro w dp
          have h1 := ih (ofMeet l dp w s) dp
          have h2 : (ofMeet l dp w s).missing.length ≤ w.missing.length + 1 := by
            unfold ofMeet
            repeat' split
            all_goals simp
          simp only [List.foldl_cons, List.length_cons]
          omega
      have h1 := this ((findL l w.names[i]).getD []) w (w.depths.getD i 0)
      omega
    have := (ofS_ok l root).len
    have := hl.len
    omega
theorem names_len (l : List Lib) (root : ByteArray) (hl : Fits l) : (wk l root).names.length ≤ 300 := by
  rw [(rel_wk l root).names]
  have := (ofS_ok l root).len
  have := hl.len
  omega
theorem order_len (l : List Lib) (root : ByteArray) (hl : Fits l) : (orderS l root).1.length ≤ 300 := by
  unfold orderS
  split
  · simp
  · split
    · simp
    · exact names_len l root hl
end Go.Proofs.Ytgljofdhdnhekaa.L

