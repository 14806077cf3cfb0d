/- needs.walk's closure 'meet'. -/
import Derived.Test.Ytgljofdhdnhekaac12A
namespace Go.Proofs.Ytgljofdhdnhekaa.L
open Go.L1 Go.IntWalk
set_option linter.unusedVariables false
set_option linter.unusedSimpArgs false
set_option maxHeartbeats 4000000
structure Wk where
  names : List ByteArray
  depth : List (ByteArray × Int)
  gone : List (ByteArray × Bool)
  missing : List ByteArray
def meetS (t : Tbl) (w : Wk) (name : ByteArray) (deep : Int) : Wk :=
  if (mget t name).isSome = false ∧ (mget w.gone name).getD false = false then { w with gone := mput w.gone name true, missing := w.missing ++ [name] }
  else if (mget t name).isSome = true ∧ (mget w.depth name).isSome = false then { w with depth := mput w.depth name deep, names := w.names ++ [name] }
  else w
/-- The walk's own memory, from c on; the table lies at i. -/
structure St (g : Nat → Option Ob) (c nn i : Nat) (t : Tbl) (w : Wk) (o1 o2 : Option Nat) : Prop where
  hi : i < c
  hn : c + 7 ≤ nn
  tbl : g i = some (.map (ents Value.string (tv tg) t))
  b0 : g c = some (.cells 47 [.map (some i)])
  b1 : g (c + 1) = some (.cells 25 [ov o1 w.names.length])
  b2 : g (c + 2) = some (.cells 50 [.map (some (c + 4))])
  b3 : g (c + 3) = some (.cells 25 [ov o2 w.missing.length])
  b4 : g (c + 4) = some (.map (ents Value.string (Value.int .i64) w.depth))
  b5 : g (c + 5) = some (.map (ents Value.string Value.bool w.gone))
  b6 : g (c + 6) = some (.cells 53 [.map (some (c + 5))])
  r1 : Own g (c + 7) nn 9 ts o1 w.names
  r2 : Own g (c + 7) nn 9 ts o2 w.missing
  ne : o1 = none ∨ o1 ≠ o2
theorem _root_.Go.L1.Own.keep {α : Type} {e : TypeId} {enc : α → List Value} {g g' : Nat → Option Ob} {lo n n' : Nat} {o : Option Nat} {l : List α} (h : Own g lo n e enc o l) (hn : n ≤ n') (hg : ∀ j, o = some j → lo ≤ j → j < n → g' j = g j) : Own g' lo n' e enc o l := by
  cases o with
  | none => exact h
  | some i => obtain ⟨h1, h2, h3, h4⟩ := h; exact ⟨h1, h2, by omega, by rw [hg i rfl h2 h3]; exact h4⟩
theorem _root_.Go.L1.Own.lt {α : Type} {e : TypeId} {enc : α → List Value} {g : Nat → Option Ob} {lo n : Nat} {o : Option Nat} {l : List α} (h : Own g lo n e enc o l) (i : Nat) (hi : o = some i) : i < n := by
  subst hi; exact h.2.2.1
theorem ne_new {o : Option Nat} {k : Nat} (h : ∀ i, o = some i → i < k) : o = none ∨ o ≠ some k := by
  cases o with
  | none => exact .inl rfl
  | some i => right; intro e; cases e; exact absurd (h _ rfl) (Nat.lt_irrefl _)
theorem gd (o : Option Bool) : (o.map Value.bool).getD (.bool false) = .bool (o.getD false) := by cases o <;> rfl
theorem meet_run (t : Tbl) (w : Wk) (o1 o2 : Option Nat) (name : ByteArray) (deep : Int) (g : Nat → Option Ob) (c n m i : Nat) (hm : m ≤ c) (h : St g c n i t w o1 o2) (hl1 : w.names.length ≤ 100000) (hl2 : w.missing.length ≤ 100000) : Rn Try.prog T 25 [.string name, .int .i64 deep, ptr c 0, ptr (c + 2) 0, ptr (c + 6) 0, ptr (c + 3) 0, ptr (c + 1) 0] g n m (fun _ g' n' => ∃ o1' o2', St g' c n' i t (meetS t w name deep) o1' o2' ∧ n ≤ n' ∧ ∀ j, j < c → g' j = g j) := by
  refine c_open Try.func25 rfl rfl rfl rfl rfl rfl ?_
  obtain ⟨hi, hn, tbl, b0, b1, b2, b3, b4, b5, b6, r1, r2, ne⟩ := h
  repeat' (first
    | ((with_reducible apply g_op); first
      | ((with_reducible apply g_load); first
        | ((with_reducible apply w_load (v := .map _)); exact rfl; (first | assumption | (simp (disch := omega) only [upd_same, upd_ne]; first | done | assumption | exact rfl) | exact rfl); exact rfl))
      | ((with_reducible apply g_move); first
        | ((with_reducible apply w_pure (v := .string _)); exact rfl; exact rfl)))
    | with_reducible refine w_seq ?_
    | with_reducible refine w_region ?_)
  refine w_look2 (ek := Value.string) (evv := tv tg) (es := t) (key := name) (z := .slice none 0 0) rfl rfl rfl (keyK_str (by kernel_rfl)) rfl tbl ?_
  cases hT : mget t name with
  | none =>
    repeat' (first
      | ((with_reducible apply g_op); first
        | ((with_reducible apply g_load); first
          | ((with_reducible apply w_load (v := .map _)); exact rfl; (first | assumption | (simp (disch := omega) only [upd_same, upd_ne]; first | done | assumption | exact rfl) | exact rfl); exact rfl))
        | ((with_reducible apply g_move); first
          | ((with_reducible apply w_pure (v := .string _)); exact rfl; exact rfl)
          | ((with_reducible apply w_pure (v := .tuple _)); exact rfl; exact rfl))
        | ((with_reducible apply g_assign); first
          | ((with_reducible apply w_pure (v := .bool _)); exact rfl; exact rfl)
          | ((with_reducible apply w_pure (v := .slice _ _ _)); exact rfl; exact rfl))
        | ((with_reducible apply w_pure (v := .bool _)); exact rfl; exact rfl)
        | ((with_reducible apply w_pure (v := .slice _ _ _)); exact rfl; exact rfl))
      | with_reducible refine w_seq ?_
      | with_reducible refine w_nil ?_
      | with_reducible refine w_region ?_)
    refine w_look2 (ek := Value.string) (evv := Value.int .i64) (es := w.depth) (key := name) (z := .int .i64 0) rfl rfl rfl (keyK_str (by kernel_rfl)) rfl b4 ?_
    cases hD : mget w.depth name <;> (
      repeat' (first
        | ((with_reducible apply g_op); first
          | ((with_reducible apply g_load); first
            | ((with_reducible apply w_load (v := .map _)); exact rfl; (first | assumption | (simp (disch := omega) only [upd_same, upd_ne]; first | done | assumption | exact rfl) | exact rfl); exact rfl))
          | ((with_reducible apply g_move); first
            | ((with_reducible apply w_pure (v := .bool _)); exact rfl; exact rfl)
            | ((with_reducible apply w_pure (v := .string _)); exact rfl; exact rfl)
            | ((with_reducible apply w_pure (v := .tuple _)); exact rfl; exact rfl))
          | ((with_reducible apply g_assign); first
            | ((with_reducible apply w_pure (v := .int _ _)); exact rfl; exact rfl)
            | ((with_reducible apply w_pure (v := .bool _)); exact rfl; exact rfl))
          | ((with_reducible apply w_pure (v := .int _ _)); exact rfl; exact rfl)
          | ((with_reducible apply w_pure (v := .bool _)); exact rfl; exact rfl))
        | ((with_reducible apply g_gd); first
          | ((with_reducible apply w_want); exact rfl))
        | with_reducible refine w_seq ?_
        | with_reducible refine w_nil ?_
        | with_reducible refine w_region ?_
        | with_reducible refine w_block ?_)
      refine w_look (ek := Value.string) (evv := Value.bool) (es := w.gone) (key := name) (z := .bool false) rfl rfl rfl (keyK_str (by kernel_rfl)) rfl b5 ?_
      rw [gd]
      cases hG : (mget w.gone name).getD false with
      | true =>
        have e : meetS t w name deep = w := by unfold meetS; simp [hT, hG]
        rw [e]
        repeat' (first
          | ((with_reducible apply g_op); first
            | ((with_reducible apply g_move); first
              | ((with_reducible apply w_pure (v := .bool _)); exact rfl; exact rfl))
            | ((with_reducible apply g_assign); first
              | ((with_reducible apply w_pure (v := .bool _)); exact rfl; exact rfl))
            | ((with_reducible apply w_pure (v := .bool _)); exact rfl; exact rfl))
          | ((with_reducible apply g_gd); first
            | ((with_reducible apply w_want); exact rfl)
            | ((with_reducible apply w_pass); exact rfl))
          | with_reducible refine w_seq ?_
          | with_reducible refine w_nil ?_
          | with_reducible refine w_region ?_
          | with_reducible refine w_skip ?_
          | with_reducible refine w_blk ?_
          | ((with_reducible apply w_no); exact rfl)
          | ((with_reducible apply w_end (v := .tuple #[])); exact rfl))
        exact ⟨o1, o2, ⟨hi, hn, tbl, b0, b1, b2, b3, b4, b5, b6, r1, r2, ne⟩, by omega, fun _ _ => rfl⟩
      | false =>
        have e : meetS t w name deep = { w with gone := mput w.gone name true, missing := w.missing ++ [name] } := by unfold meetS; simp [hT, hG]
        rw [e]
        repeat' (first
          | ((with_reducible apply g_op); first
            | ((with_reducible apply g_load); first
              | ((with_reducible apply w_load (v := .map _)); exact rfl; (first | assumption | (simp (disch := omega) only [upd_same, upd_ne]; first | done | assumption | exact rfl) | exact rfl); exact rfl))
            | ((with_reducible apply g_move); first
              | ((with_reducible apply w_pure (v := .string _)); exact rfl; exact rfl))
            | ((with_reducible apply g_assign); first
              | ((with_reducible apply w_pure (v := .bool _)); exact rfl; exact rfl))
            | ((with_reducible apply w_pure (v := .bool _)); exact rfl; exact rfl))
          | ((with_reducible apply g_gd); first
            | ((with_reducible apply w_want); exact rfl))
          | with_reducible refine w_seq ?_
          | with_reducible refine w_nil ?_
          | with_reducible refine w_region ?_
          | ((with_reducible apply w_yes); exact rfl))
        refine w_mput (ek := Value.string) (evv := Value.bool) (es := w.gone) (key := name) (v := true) rfl rfl rfl rfl (keyK_str (by kernel_rfl)) b5 (by omega) ?_
        cases o2 with
        | none =>
          have hm0 : w.missing = [] := r2
          simp only [ov] at b3
          repeat' (first
            | ((with_reducible apply g_op); first
              | ((with_reducible apply g_load); first
                | ((with_reducible apply w_load (v := .slice _ _ _)); exact rfl; (first | assumption | (simp (disch := omega) only [upd_same, upd_ne]; first | done | assumption | exact rfl) | exact rfl); exact rfl))
              | ((with_reducible apply g_move); first
                | ((with_reducible apply w_pure (v := .string _)); exact rfl; exact rfl))
              | ((with_reducible apply g_call); first
                | ((with_reducible apply w_app0 (ns := [_])); exact rfl; exact rfl; exact rfl; exact rfl; exact rfl; exact rfl; (first | assumption | (simp (disch := omega) only [upd_same, upd_ne]; first | done | assumption | exact rfl) | exact rfl); exact rfl; exact rfl; exact (by decide); exact ⟨by decide, by decide⟩))
              | ((with_reducible apply g_store); first
                | ((with_reducible apply w_store (us := [.slice _ _ _]) (ws := [_])); exact rfl; exact rfl; (first | assumption | (simp (disch := omega) only [upd_same, upd_ne]; first | done | assumption | exact rfl) | exact rfl); omega; exact rfl; exact rfl; exact rfl))
              | ((with_reducible apply w_bsl (ls := [_])); exact rfl; exact rfl; exact rfl; exact ⟨by decide, rfl⟩; exact rfl))
            | with_reducible refine w_nil ?_
            | with_reducible refine w_region ?_
            | with_reducible refine w_blk ?_
            | ((with_reducible apply w_end (v := .tuple #[])); exact rfl))
          refine ⟨o1, some (n + 1), ⟨hi, by omega, ?_, ?_, ?_, ?_, ?_, ?_, ?_, ?_, r1.later (by omega) (fun j h1 h2 => by simp (disch := omega) only [upd_ne]), ⟨by simp, by omega, by omega, ?_⟩, ?_⟩, by omega, fun j hj => by simp (disch := omega) only [upd_ne]⟩
          all_goals try simp (disch := omega) only [upd_same, upd_ne]
          all_goals first | exact tbl | exact b0 | exact b1 | exact b2 | exact b4 | exact b6 | (rw [hm0]; rfl) | exact ne_new fun a ha => Nat.lt_succ_of_lt (r1.lt a ha)
        | some o2 =>
          simp only [ov] at b3
          have ho2 := r2.2.1
          have ho3 := r2.2.2.1
          repeat' (first
            | ((with_reducible apply g_op); first
              | ((with_reducible apply g_load); first
                | ((with_reducible apply w_load (v := .slice _ _ _)); exact rfl; (first | assumption | (simp (disch := omega) only [upd_same, upd_ne]; first | done | assumption | exact rfl) | exact rfl); exact rfl))
              | ((with_reducible apply g_move); first
                | ((with_reducible apply w_pure (v := .string _)); exact rfl; exact rfl))
              | ((with_reducible apply w_bsl (ls := [_])); exact rfl; exact rfl; exact rfl; exact ⟨by decide, rfl⟩; exact rfl))
            | with_reducible refine w_nil ?_
            | with_reducible refine w_region ?_)
          refine w_own1 (enc := ts) (y := name) (by_ := 16) (sz := 1) (lo := c + 7) (o := some o2) (xs := w.missing) (r2.later (by omega) (fun j h1 h2 => by simp (disch := omega) only [upd_ne])) rfl rfl rfl rfl rfl rfl (fun _ => rfl) upd_same rfl rfl rfl (by omega) (by omega) ?_
          intro g' h1 _ h3
          have q : ∀ j, j < c + 7 → j ≠ c + 5 → g' j = g j := fun j h h' => by
            rw [h1 j (by omega) (by simp; omega)]; simp (disch := omega) only [upd_ne]
          have q5 : g' (c + 5) = some (.map (ents Value.string Value.bool (mput w.gone name true))) := by
            rw [h1 _ (by omega) (by simp; omega)]; simp (disch := omega) only [upd_same, upd_ne]
          have q3 := (q (c + 3) (by omega) (by omega)).trans b3
          have qo : ∀ j, o1 = some j → c + 7 ≤ j → j < n → g' j = g j := fun j hj h h' => by
            have hne : j ≠ o2 := fun e => by subst e; exact ne.elim (fun e => by rw [e] at hj; cases hj) (fun e => e hj)
            rw [h1 j (by omega) (by simpa using hne)]; simp (disch := omega) only [upd_ne]
          simp only [ov]
          repeat' (first
            | ((with_reducible apply g_op); first
              | ((with_reducible apply g_store); first
                | ((with_reducible apply w_store (us := [.slice _ _ _]) (ws := [_])); exact rfl; exact rfl; (first | assumption | (simp (disch := omega) only [upd_same, upd_ne]; first | done | assumption | exact rfl) | exact rfl); omega; exact rfl; exact rfl; exact rfl)))
            | with_reducible refine w_nil ?_
            | with_reducible refine w_blk ?_
            | ((with_reducible apply w_end (v := .tuple #[])); exact rfl))
          refine ⟨o1, some (n + 1), ⟨hi, by omega, ?_, ?_, ?_, ?_, ?_, ?_, ?_, ?_, r1.keep (by omega) (fun j h h2 h4 => by simp (disch := omega) only [upd_ne]; exact qo j h h2 h4), h3.later (by omega) (fun j h1 h2 => by simp (disch := omega) only [upd_ne]), ?_⟩, by omega, fun j hj => by simp (disch := omega) only [upd_ne]; exact q j (by omega) (by omega)⟩
          all_goals try simp (disch := omega) only [upd_same, upd_ne]
          all_goals first | exact (q _ (by omega) (by omega)).trans tbl | exact (q _ (by omega) (by omega)).trans b0 | exact (q _ (by omega) (by omega)).trans b1 | exact (q _ (by omega) (by omega)).trans b2 | exact (q _ (by omega) (by omega)).trans b4 | exact (q _ (by omega) (by omega)).trans b6 | exact q5 | rfl | exact ne_new fun a ha => Nat.lt_succ_of_lt (r1.lt a ha))
  | some nd =>
    repeat' (first
      | ((with_reducible apply g_op); first
        | ((with_reducible apply g_load); first
          | ((with_reducible apply w_load (v := .map _)); exact rfl; (first | assumption | (simp (disch := omega) only [upd_same, upd_ne]; first | done | assumption | exact rfl) | exact rfl); exact rfl))
        | ((with_reducible apply g_move); first
          | ((with_reducible apply w_pure (v := .string _)); exact rfl; exact rfl)
          | ((with_reducible apply w_pure (v := .tuple _)); exact rfl; exact rfl))
        | ((with_reducible apply g_assign); first
          | ((with_reducible apply w_pure (v := .bool _)); exact rfl; exact rfl)
          | ((with_reducible apply w_pure (v := .func _ _ _)); exact rfl; exact rfl))
        | ((with_reducible apply w_pure (v := .bool _)); exact rfl; exact rfl)
        | ((with_reducible apply w_pure (v := .func _ _ _)); exact rfl; exact rfl))
      | with_reducible refine w_seq ?_
      | with_reducible refine w_nil ?_
      | with_reducible refine w_region ?_)
    refine w_look2 (ek := Value.string) (evv := Value.int .i64) (es := w.depth) (key := name) (z := .int .i64 0) rfl rfl rfl (keyK_str (by kernel_rfl)) rfl b4 ?_
    cases hD : mget w.depth name with
    | some dd =>
      have e : meetS t w name deep = w := by unfold meetS; simp [hT, hD]
      rw [e]
      repeat' (first
        | ((with_reducible apply g_op); first
          | ((with_reducible apply g_move); first
            | ((with_reducible apply w_pure (v := .bool _)); exact rfl; exact rfl)
            | ((with_reducible apply w_pure (v := .tuple _)); exact rfl; exact rfl))
          | ((with_reducible apply g_assign); first
            | ((with_reducible apply w_pure (v := .int _ _)); exact rfl; exact rfl)
            | ((with_reducible apply w_pure (v := .bool _)); exact rfl; exact rfl))
          | ((with_reducible apply w_pure (v := .int _ _)); exact rfl; exact rfl)
          | ((with_reducible apply w_pure (v := .bool _)); exact rfl; exact rfl))
        | ((with_reducible apply g_gd); first
          | ((with_reducible apply w_want); exact rfl)
          | ((with_reducible apply w_pass); exact rfl))
        | with_reducible refine w_seq ?_
        | with_reducible refine w_nil ?_
        | with_reducible refine w_region ?_
        | with_reducible refine w_skip ?_
        | with_reducible refine w_block ?_
        | with_reducible refine w_blk ?_
        | ((with_reducible apply w_no); exact rfl)
        | ((with_reducible apply w_end (v := .tuple #[])); exact rfl))
      exact ⟨o1, o2, ⟨hi, hn, tbl, b0, b1, b2, b3, b4, b5, b6, r1, r2, ne⟩, by omega, fun _ _ => rfl⟩
    | none =>
      have e : meetS t w name deep = { w with depth := mput w.depth name deep, names := w.names ++ [name] } := by unfold meetS; simp [hT, hD]
      rw [e]
      repeat' (first
        | ((with_reducible apply g_op); first
          | ((with_reducible apply g_load); first
            | ((with_reducible apply w_load (v := .map _)); exact rfl; (first | assumption | (simp (disch := omega) only [upd_same, upd_ne]; first | done | assumption | exact rfl) | exact rfl); exact rfl))
          | ((with_reducible apply g_move); first
            | ((with_reducible apply w_pure (v := .int _ _)); exact rfl; exact rfl)
            | ((with_reducible apply w_pure (v := .bool _)); exact rfl; exact rfl)
            | ((with_reducible apply w_pure (v := .string _)); exact rfl; exact rfl)
            | ((with_reducible apply w_pure (v := .tuple _)); exact rfl; exact rfl))
          | ((with_reducible apply g_assign); first
            | ((with_reducible apply w_pure (v := .int _ _)); exact rfl; exact rfl)
            | ((with_reducible apply w_pure (v := .bool _)); exact rfl; exact rfl))
          | ((with_reducible apply w_pure (v := .int _ _)); exact rfl; exact rfl)
          | ((with_reducible apply w_pure (v := .bool _)); exact rfl; exact rfl))
        | ((with_reducible apply g_gd); first
          | ((with_reducible apply w_want); exact rfl)
          | ((with_reducible apply w_pass); exact rfl))
        | with_reducible refine w_seq ?_
        | with_reducible refine w_nil ?_
        | with_reducible refine w_region ?_
        | with_reducible refine w_block ?_
        | ((with_reducible apply w_yes); exact rfl)
        | ((with_reducible apply w_no); exact rfl))
      refine w_mput (ek := Value.string) (evv := Value.int .i64) (es := w.depth) (key := name) (v := deep) rfl rfl rfl rfl (keyK_str (by kernel_rfl)) b4 (by omega) ?_
      cases o1 with
      | none =>
        have hm0 : w.names = [] := r1
        simp only [ov] at b1
        repeat' (first
          | ((with_reducible apply g_op); first
            | ((with_reducible apply g_load); first
              | ((with_reducible apply w_load (v := .slice _ _ _)); exact rfl; (first | assumption | (simp (disch := omega) only [upd_same, upd_ne]; first | done | assumption | exact rfl) | exact rfl); exact rfl))
            | ((with_reducible apply g_move); first
              | ((with_reducible apply w_pure (v := .string _)); exact rfl; exact rfl))
            | ((with_reducible apply g_call); first
              | ((with_reducible apply w_app0 (ns := [_])); exact rfl; exact rfl; exact rfl; exact rfl; exact rfl; exact rfl; (first | assumption | (simp (disch := omega) only [upd_same, upd_ne]; first | done | assumption | exact rfl) | exact rfl); exact rfl; exact rfl; exact (by decide); exact ⟨by decide, by decide⟩))
            | ((with_reducible apply g_store); first
              | ((with_reducible apply w_store (us := [.slice _ _ _]) (ws := [_])); exact rfl; exact rfl; (first | assumption | (simp (disch := omega) only [upd_same, upd_ne]; first | done | assumption | exact rfl) | exact rfl); omega; exact rfl; exact rfl; exact rfl))
            | ((with_reducible apply w_bsl (ls := [_])); exact rfl; exact rfl; exact rfl; exact ⟨by decide, rfl⟩; exact rfl))
          | with_reducible refine w_nil ?_
          | with_reducible refine w_region ?_
          | with_reducible refine w_blk ?_
          | ((with_reducible apply w_end (v := .tuple #[])); exact rfl))
        refine ⟨some (n + 1), o2, ⟨hi, by omega, ?_, ?_, ?_, ?_, ?_, ?_, ?_, ?_, ⟨by simp, by omega, by omega, ?_⟩, r2.later (by omega) (fun j h1 h2 => by simp (disch := omega) only [upd_ne]), ?_⟩, by omega, fun j hj => by simp (disch := omega) only [upd_ne]⟩
        all_goals try simp (disch := omega) only [upd_same, upd_ne]
        all_goals first | exact tbl | exact b0 | exact b2 | exact b3 | exact b5 | exact b6 | (rw [hm0]; rfl) | exact .inr fun e => by (have := r2.lt _ e.symm; omega)
      | some o1 =>
        simp only [ov] at b1
        have ho2 := r1.2.1
        have ho3 := r1.2.2.1
        repeat' (first
          | ((with_reducible apply g_op); first
            | ((with_reducible apply g_load); first
              | ((with_reducible apply w_load (v := .slice _ _ _)); exact rfl; (first | assumption | (simp (disch := omega) only [upd_same, upd_ne]; first | done | assumption | exact rfl) | exact rfl); exact rfl))
            | ((with_reducible apply g_move); first
              | ((with_reducible apply w_pure (v := .string _)); exact rfl; exact rfl))
            | ((with_reducible apply w_bsl (ls := [_])); exact rfl; exact rfl; exact rfl; exact ⟨by decide, rfl⟩; exact rfl))
          | with_reducible refine w_nil ?_
          | with_reducible refine w_region ?_)
        refine w_own1 (enc := ts) (y := name) (by_ := 16) (sz := 1) (lo := c + 7) (o := some o1) (xs := w.names) (r1.later (by omega) (fun j h1 h2 => by simp (disch := omega) only [upd_ne])) rfl rfl rfl rfl rfl rfl (fun _ => rfl) upd_same rfl rfl rfl (by omega) (by omega) ?_
        intro g' h1 _ h3
        have q : ∀ j, j < c + 7 → j ≠ c + 4 → g' j = g j := fun j h h' => by
          rw [h1 j (by omega) (by simp; omega)]; simp (disch := omega) only [upd_ne]
        have q4 : g' (c + 4) = some (.map (ents Value.string (Value.int .i64) (mput w.depth name deep))) := by
          rw [h1 _ (by omega) (by simp; omega)]; simp (disch := omega) only [upd_same, upd_ne]
        have q1 := (q (c + 1) (by omega) (by omega)).trans b1
        have qo : ∀ j, o2 = some j → c + 7 ≤ j → j < n → g' j = g j := fun j hj h h' => by
          have hne : j ≠ o1 := fun e => by subst e; exact ne.elim (fun e => by cases e) (fun e => e hj.symm)
          rw [h1 j (by omega) (by simpa using hne)]; simp (disch := omega) only [upd_ne]
        simp only [ov]
        repeat' (first
          | ((with_reducible apply g_op); first
            | ((with_reducible apply g_store); first
              | ((with_reducible apply w_store (us := [.slice _ _ _]) (ws := [_])); exact rfl; exact rfl; (first | assumption | (simp (disch := omega) only [upd_same, upd_ne]; first | done | assumption | exact rfl) | exact rfl); omega; exact rfl; exact rfl; exact rfl)))
          | with_reducible refine w_nil ?_
          | with_reducible refine w_blk ?_
          | ((with_reducible apply w_end (v := .tuple #[])); exact rfl))
        refine ⟨some (n + 1), o2, ⟨hi, by omega, ?_, ?_, ?_, ?_, ?_, ?_, ?_, ?_, h3.later (by omega) (fun j h1 h2 => by simp (disch := omega) only [upd_ne]), r2.keep (by omega) (fun j h h2 h4 => by simp (disch := omega) only [upd_ne]; exact qo j h h2 h4), ?_⟩, by omega, fun j hj => by simp (disch := omega) only [upd_ne]; exact q j (by omega) (by omega)⟩
        all_goals try simp (disch := omega) only [upd_same, upd_ne]
        all_goals first | exact (q _ (by omega) (by omega)).trans tbl | exact (q _ (by omega) (by omega)).trans b0 | exact (q _ (by omega) (by omega)).trans b2 | exact (q _ (by omega) (by omega)).trans b3 | exact (q _ (by omega) (by omega)).trans b5 | exact (q _ (by omega) (by omega)).trans b6 | exact q4 | rfl | exact .inr fun e => by (have := r2.lt _ e.symm; omega)
end Go.Proofs.Ytgljofdhdnhekaa.L

