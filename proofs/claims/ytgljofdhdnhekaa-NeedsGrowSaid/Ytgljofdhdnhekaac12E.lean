/- needs.Order, needs.Missing, needs.Depth. -/
import Derived.Test.Ytgljofdhdnhekaac12D
namespace Go.Proofs.Ytgljofdhdnhekaa.L
open Go.L1 Go.IntWalk
set_option linter.unusedVariables false
set_option linter.unusedSimpArgs false
set_option maxHeartbeats 4000000
def findL (l : List Lib) (x : ByteArray) : Option (List ByteArray) := (l.find? fun y => decide (y.name = x)).map Lib.nd
theorem tab_go (x : ByteArray) : ∀ (l : List Lib) (t : Tbl), mget (l.foldl tabStep t) x = (mget t x).or (findL l x)
  | [], t => by simp [findL]
  | y :: l, t => by
    rw [List.foldl_cons, tab_go x l]
    unfold tabStep findL
    cases h : (mget t y.name).isSome with
    | true =>
      simp only [if_true, List.find?_cons]
      by_cases e : y.name = x
      · rw [e] at h
        obtain ⟨v, hv⟩ := Option.isSome_iff_exists.1 h
        simp [hv]
      · simp [e]
    | false =>
      simp only [Bool.false_eq_true, if_false, List.find?_cons, mget_put]
      by_cases e : y.name = x
      · rw [e] at h
        have : mget t x = none := by simpa using h
        simp [e, this]
      · rw [if_neg (fun h => e h.symm)]; simp [e]
theorem tab_get (l : List Lib) (x : ByteArray) : mget (tabS l) x = findL l x := by
  unfold tabS; rw [tab_go]; simp [mget]
theorem put_len (t : Tbl) (k : ByteArray) (v : List ByteArray) : (mput t k v).length ≤ t.length + 1 := by
  induction t with
  | nil => simp [mput]
  | cons p t ih => unfold mput; split <;> simp_all
theorem tab_len (l : List Lib) : (tabS l).length ≤ l.length := by
  suffices H : ∀ (l : List Lib) (t : Tbl), (l.foldl tabStep t).length ≤ t.length + l.length by have := H l []; simpa [tabS] using this
  intro l
  induction l with
  | nil => intro t; simp
  | cons y l ih =>
    intro t
    have h1 := ih (tabStep t y)
    have h2 : (tabStep t y).length ≤ t.length + 1 := by
      unfold tabStep
      split
      · omega
      · exact put_len ..
    simp only [List.foldl_cons, List.length_cons]
    omega
structure Fits (l : List Lib) : Prop where
  len : l.length ≤ 300
  nd : ∀ x ∈ l, x.nd.length ≤ 100
theorem Fits.tab {l : List Lib} (h : Fits l) : ∀ x v, mget (tabS l) x = some v → v.length ≤ 100 := by
  intro x v hv
  rw [tab_get] at hv
  unfold findL at hv
  obtain ⟨y, h1, rfl⟩ := Option.map_eq_some_iff.1 hv
  exact h.nd y (List.mem_of_find?_eq_some h1)
def wk (l : List Lib) (root : ByteArray) : Wk := walkS (tabS l) root
def orderS (l : List Lib) (root : ByteArray) : List ByteArray × Int := if (findL l root).isSome = false then ([], 12) else if (wk l root).missing.length > 0 ∨ (wk l root).names.length > 64 then ([], 17) else ((wk l root).names, 0)
theorem ts_len (x : ByteArray) : (ts x).length = 1 := rfl
theorem ts_plain (x : ByteArray) : (ts x).all plain = true := rfl
theorem order_run (l : List Lib) (root : ByteArray) (hl : Fits l) : Rf Try.prog T 8 [lv tg l, .string root] (fun v => v = .tuple #[tv #[] (orderS l root).1, .int .i64 (orderS l root).2]) := by
  refine c_froz Try.func8 rfl rfl rfl rfl rfl rfl ?_
  intro g n
  repeat' (first
    | ((with_reducible apply g_op); first
      | ((with_reducible apply g_move); first
        | ((with_reducible apply w_pure (v := .func _ _ _)); exact rfl; exact rfl))
      | ((with_reducible apply g_assign); first
        | ((with_reducible apply w_pure (v := .int _ _)); exact rfl; exact rfl)
        | ((with_reducible apply w_pure (v := .slice _ _ _)); exact rfl; exact rfl)))
    | with_reducible refine w_seq ?_
    | with_reducible refine w_nil ?_
    | with_reducible refine w_region ?_)
  refine w_rn (table_run l (by have := hl.len; omega) g n n (Nat.le_refl _)) (fun _ => rfl) ?_
  rintro _ g1 n1 ⟨rfl, ht, hf, hn⟩
  repeat' (first
    | ((with_reducible apply g_op); first
      | ((with_reducible apply g_move); first
        | ((with_reducible apply w_pure (v := .string _)); exact rfl; exact rfl)
        | ((with_reducible apply w_pure (v := .map _)); exact rfl; exact rfl))
      | ((with_reducible apply g_assign); first
        | ((with_reducible apply w_pure (v := .map _)); exact rfl; exact rfl)))
    | with_reducible refine w_seq ?_
    | with_reducible refine w_nil ?_
    | with_reducible refine w_region ?_)
  refine w_look2 (ek := Value.string) (evv := tv tg) (es := tabS l) (key := root) (z := .slice none 0 0) rfl rfl rfl (keyK_str (by kernel_rfl)) rfl ht ?_
  unfold orderS
  rw [← tab_get]
  cases hr : mget (tabS l) root with
  | none =>
    repeat' (first
      | ((with_reducible apply g_op); first
        | ((with_reducible apply g_move); first
          | ((with_reducible apply w_pure (v := .bool _)); exact rfl; exact rfl)
          | ((with_reducible apply w_pure (v := .tuple _)); exact rfl; exact rfl))
        | ((with_reducible apply g_assign); first
          | ((with_reducible apply w_pure (v := .int _ _)); exact rfl; exact rfl)
          | ((with_reducible apply w_pure (v := .bool _)); exact rfl; exact rfl)
          | ((with_reducible apply w_pure (v := .slice _ _ _)); exact rfl; exact rfl))
        | ((with_reducible apply w_pure (v := .bool _)); exact rfl; exact rfl)
        | ((with_reducible apply w_pure (v := .slice _ _ _)); exact rfl; exact rfl))
      | with_reducible refine w_seq ?_
      | with_reducible refine w_nil ?_
      | with_reducible refine w_region ?_
      | ((with_reducible apply w_yes); exact rfl)
      | ((with_reducible apply w_ret (v := .tuple #[.slice _ _ _, .int _ _])); exact rfl))
    exact ⟨_, sn_tuple (l := [_, _]) (sn_cons sn_none (sn_cons (sn_plain rfl) sn_nil)), rfl⟩
  | some nd =>
    repeat' (first
      | ((with_reducible apply g_op); first
        | ((with_reducible apply g_move); first
          | ((with_reducible apply w_pure (v := .bool _)); exact rfl; exact rfl)
          | ((with_reducible apply w_pure (v := .string _)); exact rfl; exact rfl)
          | ((with_reducible apply w_pure (v := .tuple _)); exact rfl; exact rfl)
          | ((with_reducible apply w_pure (v := .map _)); exact rfl; exact rfl))
        | ((with_reducible apply g_assign); first
          | ((with_reducible apply w_pure (v := .bool _)); exact rfl; exact rfl)
          | ((with_reducible apply w_pure (v := .func _ _ _)); exact rfl; exact rfl))
        | ((with_reducible apply w_pure (v := .bool _)); exact rfl; exact rfl)
        | ((with_reducible apply w_pure (v := .func _ _ _)); exact rfl; exact rfl))
      | with_reducible refine w_seq ?_
      | with_reducible refine w_nil ?_
      | with_reducible refine w_region ?_
      | with_reducible refine w_skip ?_
      | ((with_reducible apply w_no); exact rfl))
    refine w_rn (walk_run (tabS l) root n g1 n1 n (by omega) (by omega) ht (by have := tab_len l; have := hl.len; omega) hl.tab) (fun _ => rfl) ?_
    rintro _ g2 n2 ⟨o1, o2, rfl, hs, hf2⟩
    have r1 := hs.r1
    have r2 := hs.r2
    have hw : walkS (tabS l) root = wk l root := rfl
    rw [hw] at r1 r2
    rw [hw]
    generalize wk l root = w at *
    cases o2 with
    | none =>
      have e2 : w.missing = [] := r2
      cases o1 with
      | none =>
        have e1 : w.names = [] := r1
        repeat' (first
          | ((with_reducible apply g_op); first
            | ((with_reducible apply g_move); first
              | ((with_reducible apply w_pure (v := .bool _)); exact rfl; exact rfl)
              | ((with_reducible apply w_pure (v := .slice _ _ _)); exact rfl; exact rfl)
              | ((with_reducible apply w_pure (v := .tuple _)); exact rfl; exact rfl))
            | ((with_reducible apply g_bin); first
              | ((with_reducible apply w_pure (v := .bool _)); exact rfl; exact rfl))
            | ((with_reducible apply g_pick); first
              | ((with_reducible apply w_pk0 (v := .bool _)); exact rfl; exact rfl; (first | assumption | exact decide_eq_true (by assumption) | exact decide_eq_false (by assumption) | exact decide_eq_true (by omega) | exact decide_eq_false (by omega) | exact beq_iff_eq.2 (by omega) | exact beq_eq_false_iff_ne.2 (by omega) | exact bne_iff_ne.2 (by omega) | exact bne_eq_false_iff_eq.2 (by omega))))
            | ((with_reducible apply g_assign); first
              | ((with_reducible apply w_pure (v := .int _ _)); exact rfl; exact rfl)
              | ((with_reducible apply w_pure (v := .slice _ _ _)); exact rfl; exact rfl)
              | ((with_reducible apply w_pure (v := .map _)); exact rfl; exact rfl))
            | ((with_reducible apply g_call); first
              | ((with_reducible apply w_call (v := .int _ _)); exact rfl))
            | ((with_reducible apply w_pure (v := .slice _ _ _)); exact rfl; exact rfl)
            | ((with_reducible apply w_pure (v := .map _)); exact rfl; exact rfl))
          | ((with_reducible apply g_gd); first
            | ((with_reducible apply w_want); exact rfl))
          | with_reducible refine w_seq ?_
          | with_reducible refine w_nil ?_
          | with_reducible refine w_region ?_
          | with_reducible refine w_skip ?_
          | ((with_reducible apply w_no); exact rfl)
          | ((with_reducible apply w_ret (v := .tuple #[.slice _ _ _, .int _ _])); exact rfl))
        all_goals simp only [e1, e2]
        exact ⟨_, sn_tuple (l := [_, _]) (sn_cons sn_none (sn_cons (sn_plain rfl) sn_nil)), rfl⟩
      | some o1 =>
        repeat' (first
          | ((with_reducible apply g_op); first
            | ((with_reducible apply g_move); first
              | ((with_reducible apply w_pure (v := .bool _)); exact rfl; exact rfl)
              | ((with_reducible apply w_pure (v := .slice _ _ _)); exact rfl; exact rfl)
              | ((with_reducible apply w_pure (v := .tuple _)); exact rfl; exact rfl))
            | ((with_reducible apply g_bin); first
              | ((with_reducible apply w_pure (v := .bool _)); exact rfl; exact rfl))
            | ((with_reducible apply g_pick); first
              | ((with_reducible apply w_pk0 (v := .bool _)); exact rfl; exact rfl; (first | assumption | exact decide_eq_true (by assumption) | exact decide_eq_false (by assumption) | exact decide_eq_true (by omega) | exact decide_eq_false (by omega) | exact beq_iff_eq.2 (by omega) | exact beq_eq_false_iff_ne.2 (by omega) | exact bne_iff_ne.2 (by omega) | exact bne_eq_false_iff_eq.2 (by omega))))
            | ((with_reducible apply g_assign); first
              | ((with_reducible apply w_pure (v := .int _ _)); exact rfl; exact rfl)
              | ((with_reducible apply w_pure (v := .slice _ _ _)); exact rfl; exact rfl)
              | ((with_reducible apply w_pure (v := .map _)); exact rfl; exact rfl))
            | ((with_reducible apply g_call); first
              | ((with_reducible apply w_call (v := .int _ _)); exact rfl))
            | ((with_reducible apply w_pure (v := .slice _ _ _)); exact rfl; exact rfl)
            | ((with_reducible apply w_pure (v := .map _)); exact rfl; exact rfl))
          | ((with_reducible apply g_gd); first
            | ((with_reducible apply w_want); exact rfl))
          | with_reducible refine w_seq ?_
          | with_reducible refine w_nil ?_
          | with_reducible refine w_region ?_
          | with_reducible refine w_skip ?_
          | ((with_reducible apply w_ifd); exact rfl; all_goals (intro hc; first | (exfalso; omega) | skip))
          | ((with_reducible apply w_ret (v := .tuple #[.slice _ _ _, .int _ _])); exact rfl))
        · have q : w.names.length > 64 := by omega
          exact ⟨_, sn_tuple (l := [_, _]) (sn_cons sn_none (sn_cons (sn_plain rfl) sn_nil)), by simp [e2, q]⟩
        · have q : ¬ w.names.length > 64 := by omega
          exact ⟨_, sn_tuple (l := [_, _]) (sn_cons (r1.fz (k := 6) (lo' := n) (by omega) rfl (by decide) ts_len (sn_plains (all_flat ts_plain _))) (sn_cons (sn_plain rfl) sn_nil)), by simp [e2, q]⟩
    | some o2 =>
      have e2 : w.missing ≠ [] := r2.1
      have e3 : 0 < w.missing.length := List.length_pos_iff.2 e2
      cases o1 <;> (
        repeat' (first
          | ((with_reducible apply g_op); first
            | ((with_reducible apply g_move); first
              | ((with_reducible apply w_pure (v := .bool _)); exact rfl; exact rfl)
              | ((with_reducible apply w_pure (v := .slice _ _ _)); exact rfl; exact rfl)
              | ((with_reducible apply w_pure (v := .tuple _)); exact rfl; exact rfl))
            | ((with_reducible apply g_bin); first
              | ((with_reducible apply w_pure (v := .bool _)); exact rfl; exact rfl))
            | ((with_reducible apply g_pick); first
              | ((with_reducible apply w_pk1 (v := .bool _)); exact rfl; exact rfl; (first | assumption | exact decide_eq_true (by assumption) | exact decide_eq_false (by assumption) | exact decide_eq_true (by omega) | exact decide_eq_false (by omega) | exact beq_iff_eq.2 (by omega) | exact beq_eq_false_iff_ne.2 (by omega) | exact bne_iff_ne.2 (by omega) | exact bne_eq_false_iff_eq.2 (by omega))))
            | ((with_reducible apply g_assign); first
              | ((with_reducible apply w_pure (v := .int _ _)); exact rfl; exact rfl)
              | ((with_reducible apply w_pure (v := .slice _ _ _)); exact rfl; exact rfl)
              | ((with_reducible apply w_pure (v := .map _)); exact rfl; exact rfl))
            | ((with_reducible apply g_call); first
              | ((with_reducible apply w_call (v := .int _ _)); exact rfl))
            | ((with_reducible apply w_pure (v := .slice _ _ _)); exact rfl; exact rfl)
            | ((with_reducible apply w_pure (v := .map _)); exact rfl; exact rfl))
          | ((with_reducible apply g_gd); first
            | ((with_reducible apply w_gd_f); exact rfl; all_goals (intro hc; first | (exfalso; omega) | skip)))
          | with_reducible refine w_seq ?_
          | with_reducible refine w_nil ?_
          | with_reducible refine w_region ?_
          | ((with_reducible apply w_yes); exact rfl)
          | ((with_reducible apply w_ret (v := .tuple #[.slice _ _ _, .int _ _])); exact rfl))
        exact ⟨_, sn_tuple (l := [_, _]) (sn_cons sn_none (sn_cons (sn_plain rfl) sn_nil)), by simp [e3]⟩)
theorem missing_run (l : List Lib) (root : ByteArray) (hl : Fits l) : Rf Try.prog T 16 [lv tg l, .string root] (fun v => v = tv #[] (wk l root).missing) := by
  refine c_froz Try.func16 rfl rfl rfl rfl rfl rfl ?_
  intro g n
  repeat' (first
    | ((with_reducible apply g_op); first
      | ((with_reducible apply g_move); first
        | ((with_reducible apply w_pure (v := .func _ _ _)); exact rfl; exact rfl))
      | ((with_reducible apply g_assign); first
        | ((with_reducible apply w_pure (v := .slice _ _ _)); exact rfl; exact rfl)))
    | with_reducible refine w_seq ?_
    | with_reducible refine w_nil ?_
    | with_reducible refine w_region ?_)
  refine w_rn (table_run l (by have := hl.len; omega) g n n (Nat.le_refl _)) (fun _ => rfl) ?_
  rintro _ g1 n1 ⟨rfl, ht, hf, hn⟩
  repeat' (first
    | ((with_reducible apply g_op); first
      | ((with_reducible apply g_move); first
        | ((with_reducible apply w_pure (v := .string _)); exact rfl; exact rfl))))
  refine w_rn (walk_run (tabS l) root n g1 n1 n (by omega) (by omega) ht (by have := tab_len l; have := hl.len; omega) hl.tab) (fun _ => rfl) ?_
  rintro _ g2 n2 ⟨o1, o2, rfl, hs, hf2⟩
  have r2 := hs.r2
  have hw : walkS (tabS l) root = wk l root := rfl
  rw [hw] at r2
  rw [hw]
  generalize wk l root = w at *
  cases o1 <;> cases o2 <;> (
    repeat' (first
      | ((with_reducible apply g_op); first
        | ((with_reducible apply g_move); first
          | ((with_reducible apply w_pure (v := .slice _ _ _)); exact rfl; exact rfl)
          | ((with_reducible apply w_pure (v := .tuple _)); exact rfl; exact rfl))
        | ((with_reducible apply g_assign); first
          | ((with_reducible apply w_pure (v := .slice _ _ _)); exact rfl; exact rfl)
          | ((with_reducible apply w_pure (v := .map _)); exact rfl; exact rfl))
        | ((with_reducible apply w_pure (v := .slice _ _ _)); exact rfl; exact rfl)
        | ((with_reducible apply w_pure (v := .map _)); exact rfl; exact rfl))
      | with_reducible refine w_seq ?_
      | with_reducible refine w_nil ?_
      | with_reducible refine w_region ?_
      | ((with_reducible apply w_ret (v := .slice _ _ _)); exact rfl))
    exact ⟨_, r2.fz (k := 7) (lo' := n) (by omega) rfl (by decide) ts_len (sn_plains (all_flat ts_plain _)), rfl⟩)
theorem depth_run (l : List Lib) (root x : ByteArray) (hl : Fits l) : Rf Try.prog T 10 [lv tg l, .string root, .string x] (fun v => v = .int .i64 ((mget (wk l root).depth x).getD (-1))) := by
  refine c_froz Try.func10 rfl rfl rfl rfl rfl rfl ?_
  intro g n
  repeat' (first
    | ((with_reducible apply g_op); first
      | ((with_reducible apply g_move); first
        | ((with_reducible apply w_pure (v := .func _ _ _)); exact rfl; exact rfl))
      | ((with_reducible apply g_assign); first
        | ((with_reducible apply w_pure (v := .int _ _)); exact rfl; exact rfl)))
    | with_reducible refine w_seq ?_
    | with_reducible refine w_nil ?_
    | with_reducible refine w_region ?_)
  refine w_rn (table_run l (by have := hl.len; omega) g n n (Nat.le_refl _)) (fun _ => rfl) ?_
  rintro _ g1 n1 ⟨rfl, ht, hf, hn⟩
  repeat' (first
    | ((with_reducible apply g_op); first
      | ((with_reducible apply g_move); first
        | ((with_reducible apply w_pure (v := .string _)); exact rfl; exact rfl))))
  refine w_rn (walk_run (tabS l) root n g1 n1 n (by omega) (by omega) ht (by have := tab_len l; have := hl.len; omega) hl.tab) (fun _ => rfl) ?_
  rintro _ g2 n2 ⟨o1, o2, rfl, hs, hf2⟩
  have b4 := hs.b4
  have hw : walkS (tabS l) root = wk l root := rfl
  rw [hw] at b4
  rw [hw]
  generalize wk l root = w at *
  cases o1 <;> cases o2 <;> (
    repeat' (first
      | ((with_reducible apply g_op); first
        | ((with_reducible apply g_move); first
          | ((with_reducible apply w_pure (v := .string _)); exact rfl; exact rfl)
          | ((with_reducible apply w_pure (v := .tuple _)); exact rfl; exact rfl)
          | ((with_reducible apply w_pure (v := .map _)); exact rfl; exact rfl))
        | ((with_reducible apply g_assign); first
          | ((with_reducible apply w_pure (v := .slice _ _ _)); exact rfl; exact rfl)
          | ((with_reducible apply w_pure (v := .map _)); exact rfl; exact rfl))
        | ((with_reducible apply w_pure (v := .slice _ _ _)); exact rfl; exact rfl)
        | ((with_reducible apply w_pure (v := .map _)); exact rfl; exact rfl))
      | with_reducible refine w_seq ?_
      | with_reducible refine w_nil ?_
      | with_reducible refine w_region ?_)
    refine w_look2 (ek := Value.string) (evv := Value.int .i64) (es := w.depth) (key := x) (z := .int .i64 0) rfl rfl rfl (keyK_str (by kernel_rfl)) rfl b4 ?_
    cases hD : mget w.depth x <;> (
      repeat' (first
        | ((with_reducible apply g_op); first
          | ((with_reducible apply g_move); first
            | ((with_reducible apply w_pure (v := .int _ _)); exact rfl; exact rfl)
            | ((with_reducible apply w_pure (v := .bool _)); exact rfl; exact rfl)
            | ((with_reducible apply w_pure (v := .tuple _)); exact rfl; exact rfl))
          | ((with_reducible apply g_assign); first
            | ((with_reducible apply w_pure (v := .int _ _)); exact rfl; exact rfl)
            | ((with_reducible apply w_pure (v := .bool _)); exact rfl; exact rfl))
          | ((with_reducible apply w_pure (v := .int _ _)); exact rfl; exact rfl)
          | ((with_reducible apply w_pure (v := .bool _)); exact rfl; exact rfl))
        | with_reducible refine w_seq ?_
        | with_reducible refine w_nil ?_
        | with_reducible refine w_region ?_
        | with_reducible refine w_skip ?_
        | ((with_reducible apply w_yes); exact rfl)
        | ((with_reducible apply w_no); exact rfl)
        | ((with_reducible apply w_ret (v := .int _ _)); exact rfl))
      exact fr_plain rfl rfl))
end Go.Proofs.Ytgljofdhdnhekaa.L

