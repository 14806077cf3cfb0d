/- Place: All, the program's and the document's; Same. -/
import Derived.Test.Ythfhlfkcphojkaac13C
namespace Go.Proofs.Ythfhlfkcphojkaa.L
open Go.L1 Go.IntWalk
set_option linter.unusedVariables false
set_option linter.unusedSimpArgs false
set_option maxHeartbeats 4000000
set_option maxRecDepth 20000
theorem fits_in {l : List (Int × Int)} {at_ : List Int} {low high p size : Int} (h : fitsS l at_ low high p size = true) : low ≤ p ∧ p ≤ high ∧ size ≤ high - p := by
  unfold fitsS at h
  simp only [Bool.and_eq_true, Bool.not_eq_true', Bool.or_eq_false_iff, decide_eq_false_iff_not] at h
  omega
theorem freeS_ok {l : List (Int × Int)} {at_ : List Int} {low high size : Int} : (freeS l at_ low high size).2 = true → (freeS l at_ low high size).1 % 64 = 0 ∧ fitsS l at_ low high (freeS l at_ low high size).1 (rnd size) = true := by
  have go : ∀ (cs : List Int) (s : Int × Bool), (s.2 = true → s.1 % 64 = 0 ∧ fitsS l at_ low high s.1 (rnd size) = true) → (cs.foldl (stepS l at_ low high (rnd size)) s).2 = true → (cs.foldl (stepS l at_ low high (rnd size)) s).1 % 64 = 0 ∧ fitsS l at_ low high (cs.foldl (stepS l at_ low high (rnd size)) s).1 (rnd size) = true := by
    intro cs
    induction cs with
    | nil => intro s h; exact h
    | cons c cs ih =>
      intro s h
      refine ih _ ?_
      unfold stepS
      split
      · rename_i hc; intro _; exact ⟨hc.1, hc.2.2⟩
      · exact h
  exact go _ (0, false) (fun h => by cases h)
def badB (w : Int × Int) : Bool := decide (w.1 < 1 ∨ w.1 > 1099511627776 ∨ w.2 < 0 ∨ w.2 > 1099511627776)
def placeS (l : List (Int × Int)) (at_ : List Int) (low high : Int) (w : Int × Int) : Option Int := if w.2 = 0 ∨ w.2 % 64 ≠ 0 ∨ fitsS l at_ low high w.2 (rnd w.1) = false then (if (freeS l at_ low high w.1).2 = true then some (freeS l at_ low high w.1).1 else none) else some w.2
theorem placeS_free {l : List (Int × Int)} {at_ : List Int} {low high : Int} {w : Int × Int} (h : w.2 = 0 ∨ w.2 % 64 ≠ 0 ∨ fitsS l at_ low high w.2 (rnd w.1) = false) : placeS l at_ low high w = if (freeS l at_ low high w.1).2 = true then some (freeS l at_ low high w.1).1 else none := if_pos h
theorem placeS_slot {l : List (Int × Int)} {at_ : List Int} {low high : Int} {w : Int × Int} (h0 : w.2 ≠ 0) (h1 : w.2 % 64 = 0) (h2 : fitsS l at_ low high w.2 (rnd w.1) = true) : placeS l at_ low high w = some w.2 := if_neg (by rintro (h | h | h); { exact h0 h }; { exact h h1 }; { rw [h2] at h; cases h })
def allGo (l : List (Int × Int)) (low high : Int) : List (Int × Int) → List Int → Option (List Int)
  | [], at_ => some at_
  | w :: r, at_ => (placeS l at_ low high w).bind fun p => allGo l low high r (at_ ++ [p])
def allS (l : List (Int × Int)) (low high : Int) : List Int × Int := if roomS low high = false then ([], 1) else if l.any badB = true then ([], 1) else match allGo l low high l [] with | some at_ => (at_, 0) | none => ([], 18)
theorem Ok.add {l : List (Int × Int)} {at_ : List Int} {p : Int} (h : Ok l at_) (hl : at_.length < 1000000) (hp : 0 ≤ p ∧ p ≤ 1099511627776) : Ok l (at_ ++ [p]) :=
  ⟨h.1, by simp; omega, fun q hq => by rcases List.mem_append.1 hq with hq | hq; { exact h.2.2 q hq }; { simp at hq; subst hq; exact hp }⟩
theorem allGo_step {l : List (Int × Int)} {low high : Int} {i : Nat} {w : Int × Int} {at_ : List Int} (hw : l[i]? = some w) : allGo l low high (l.drop i) at_ = (placeS l at_ low high w).bind fun p => allGo l low high (l.drop (i + 1)) (at_ ++ [p]) := by
  obtain ⟨hi, rfl⟩ := List.getElem?_eq_some_iff.1 hw
  rw [List.drop_eq_getElem_cons hi]
  rfl
theorem fr_none {g : Nat → Option Ob} {n : Nat} {e : Int} {r : List Int × Int} (h : r = ([], e)) : ∃ u, L1.freeze Try.prog g #[] n 9 (.tuple #[.slice none 0 0, .int .i64 e]) = some u ∧ u = .tuple #[iv #[] r.1, .int .i64 r.2] := by
  subst h
  exact ⟨_, rfl, rfl⟩
theorem all_run (l : List (Int × Int)) (low high : Int) (hl : l.length ≤ 1000) : Rf Try.prog T 9 [wv tg l, .int .i64 low, .int .i64 high] (fun v => v = .tuple #[iv #[] (allS l low high).1, .int .i64 (allS l low high).2]) := by
  refine c_froz Try.func9 rfl rfl rfl rfl rfl rfl ?_
  intro g n
  repeat' (first
    | ((with_reducible apply g_op); first
      | ((with_reducible apply g_move); first
        | ((with_reducible apply w_pure (v := .int _ _)); exact rfl; exact rfl))
      | ((with_reducible apply g_assign); first
        | ((with_reducible apply w_pure (v := .int _ _)); exact rfl; exact rfl)
        | ((with_reducible apply w_pure (v := .slice _ _ _)); exact rfl; exact rfl)))
    | with_reducible refine w_seq ?_
    | with_reducible refine w_nil ?_
    | with_reducible refine w_region ?_)
  refine w_rq (room_run _ _ _ _ _) (fun _ => rfl) ?_
  rintro v rfl
  cases hrm : roomS low high with
  | false =>
    repeat' (first
      | ((with_reducible apply g_op); first
        | ((with_reducible apply g_assign); first
          | ((with_reducible apply w_pure (v := .int _ _)); exact rfl; exact rfl)
          | ((with_reducible apply w_pure (v := .slice _ _ _)); exact rfl; exact rfl))
        | ((with_reducible apply w_pure (v := .bool _)); exact rfl; exact rfl))
      | with_reducible refine w_seq ?_
      | with_reducible refine w_nil ?_
      | with_reducible refine w_region ?_
      | ((with_reducible apply w_yes); exact rfl)
      | ((with_reducible apply w_ret (v := .tuple #[.slice _ _ _, .int _ _])); exact rfl))
    exact fr_none (by unfold allS; rw [if_pos hrm])
  | true =>
    obtain ⟨m1, m2, m3, m4, m5⟩ := roomS_iff.1 hrm
    repeat' (first
      | ((with_reducible apply g_op); first
        | ((with_reducible apply g_move); first
          | ((with_reducible apply w_pure (v := .int _ _)); exact rfl; exact rfl)
          | ((with_reducible apply w_pure (v := .func _ _ _)); exact rfl; exact rfl))
        | ((with_reducible apply g_call); first
          | ((with_reducible apply w_call (v := .int _ _)); exact rfl))
        | ((with_reducible apply w_pure (v := .bool _)); exact rfl; exact rfl))
      | with_reducible refine w_seq ?_
      | with_reducible refine w_nil ?_
      | with_reducible refine w_region ?_
      | with_reducible refine w_skip ?_
      | with_reducible refine w_block ?_
      | ((with_reducible apply w_no); exact rfl))
    refine w_cntK [(6, 7), (9, 9), (22, 44)] l.length (fun i (_ : Unit) σ g' n' => σ 22 = .int .i64 (i : Nat) ∧ n ≤ n' ∧ (l.take i).any badB = false) ?_ ?_ () ⟨rfl, Nat.le_refl _, rfl⟩
    · rintro i _ σ g2 n2 hi ⟨k22, hn2, hb⟩ ih
      obtain ⟨⟨w1, w2⟩, hw⟩ : ∃ w, l[i]? = some w := ⟨_, List.getElem?_eq_getElem hi⟩
      refine w_keep (i := 22) k22 ?_
      repeat' (first
        | ((with_reducible apply g_op); first
          | ((with_reducible apply g_load); first
            | ((with_reducible apply w_fl (v := .agg #[_, _])); exact rfl; exact (fun _ => rfl); assumption; exact rfl)
            | ((with_reducible apply w_load (v := .int _ _)); exact rfl; (first | assumption | (simp (disch := omega) only [upd_same, upd_ne]; first | done | assumption | exact rfl) | exact rfl); exact rfl))
          | ((with_reducible apply g_move); first
            | ((with_reducible apply w_pure (v := .int _ _)); exact rfl; exact rfl)
            | ((with_reducible apply w_pure (v := .bool _)); exact rfl; exact rfl))
          | ((with_reducible apply g_bin); first
            | ((with_reducible apply w_wrap); exact rfl; exact rfl; first | exact i64_in _ (by omega) | exact u64_in _ (by omega) | exact u8_in _ (by omega))
            | ((with_reducible apply w_pure (v := .bool _)); exact rfl; exact rfl))
          | ((with_reducible apply g_fld); first
            | ((with_reducible apply w_fldp (o := 0)); exact rfl; exact rfl; exact rfl; exact (by decide))
            | ((with_reducible apply w_fldp (o := 1)); exact rfl; exact rfl; exact rfl; exact (by decide)))
          | ((with_reducible apply g_pick); first
            | ((with_reducible apply w_pk1 (v := .bool _)); exact rfl; exact rfl; (first | assumption | exact decide_eq_true (by assumption) | exact decide_eq_false (by assumption) | exact decide_eq_true (by omega) | exact decide_eq_false (by omega) | exact beq_iff_eq.2 (by omega) | exact beq_eq_false_iff_ne.2 (by omega) | exact bne_iff_ne.2 (by omega) | exact bne_eq_false_iff_eq.2 (by omega)))
            | ((with_reducible apply w_pk0 (v := .bool _)); exact rfl; exact rfl; (first | assumption | exact decide_eq_true (by assumption) | exact decide_eq_false (by assumption) | exact decide_eq_true (by omega) | exact decide_eq_false (by omega) | exact beq_iff_eq.2 (by omega) | exact beq_eq_false_iff_ne.2 (by omega) | exact bne_iff_ne.2 (by omega) | exact bne_eq_false_iff_eq.2 (by omega))))
          | ((with_reducible apply g_assign); first
            | ((with_reducible apply w_pure (v := .int _ _)); exact rfl; exact rfl)
            | ((with_reducible apply w_pure (v := .slice _ _ _)); exact rfl; exact rfl))
          | ((with_reducible apply g_store); first
            | ((with_reducible apply w_store (us := [_, _]) (ws := [_, _])); exact rfl; exact rfl; (first | assumption | (simp (disch := omega) only [upd_same, upd_ne]; first | done | assumption | exact rfl) | exact rfl); omega; exact rfl; exact rfl; exact rfl))
          | ((with_reducible apply g_ix); first
            | ((with_reducible apply w_fx (sz := 2)); exact rfl; exact rfl; exact rfl; exact rfl; exact rfl; exact (fun _ => rfl); assumption; exact rfl))
          | ((with_reducible apply w_alloc (ls := [_, _])); exact rfl; exact rfl)
          | ((with_reducible apply w_pure (v := .bool _)); exact rfl; exact rfl))
        | ((with_reducible apply g_gd); first
          | ((with_reducible apply w_pass); exact rfl)
          | ((with_reducible apply w_gd_f); exact rfl; all_goals (intro hc; first | (exfalso; omega) | skip)))
        | with_reducible refine w_seq ?_
        | with_reducible refine w_nil ?_
        | with_reducible refine w_region ?_
        | with_reducible refine w_skip ?_
        | with_reducible refine w_block ?_
        | with_reducible refine w_blk ?_
        | ((with_reducible apply w_yes); exact rfl)
        | ((with_reducible apply w_ifd); exact rfl; all_goals (intro hc; first | (exfalso; omega) | skip))
        | ((with_reducible apply w_ret (v := .tuple #[.slice _ _ _, .int _ _])); exact rfl))
      all_goals first
        | exact fr_none (by unfold allS; rw [if_neg (by simp [hrm]), if_pos (List.any_eq_true.2 ⟨_, List.mem_of_getElem? hw, decide_eq_true (by dsimp only; omega)⟩)])
        | exact ih () _ _ _ (by repeat' (first | with_reducible exact Fr.mix | with_reducible exact Fr.rfl' | with_reducible refine Fr.put ?_ ?_ | with_reducible refine Fr.mix2 ?_ ?_ | with_reducible refine Fr.put0 ?_ | exact rfl)) ⟨rfl, by omega, by rw [List.take_add_one, hw, List.any_append, hb]; simp [badB]; omega⟩
    · rintro _ σ g2 n2 ⟨k22, hn2, hb⟩
      rw [List.take_length] at hb
      have hbad := hb
      have hgood : ∀ w ∈ l, 1 ≤ w.1 ∧ w.1 ≤ 1099511627776 ∧ 0 ≤ w.2 ∧ w.2 ≤ 1099511627776 := fun w hw => by
        have := List.any_eq_false.1 hb w hw
        simp [badB] at this
        omega
      clear hb
      refine w_keep (i := 22) k22 ?_
      repeat' (first
        | ((with_reducible apply g_op); first
          | ((with_reducible apply g_move); first
            | ((with_reducible apply w_pure (v := .int _ _)); exact rfl; exact rfl)
            | ((with_reducible apply w_pure (v := .func _ _ _)); exact rfl; exact rfl))
          | ((with_reducible apply g_bin); first
            | ((with_reducible apply w_pure (v := .bool _)); exact rfl; exact rfl))
          | ((with_reducible apply g_assign); first
            | ((with_reducible apply w_pure (v := .slice _ _ _)); exact rfl; exact rfl))
          | ((with_reducible apply g_call); first
            | ((with_reducible apply w_call (v := .int _ _)); exact rfl)))
        | with_reducible refine w_seq ?_
        | with_reducible refine w_nil ?_
        | with_reducible refine w_region ?_
        | with_reducible refine w_block ?_
        | ((with_reducible apply w_exit); exact rfl)
        | ((with_reducible apply w_ifd); exact rfl; all_goals (intro hc; first | (exfalso; omega) | skip)))
      refine w_cntK [(6, 7), (10, 10), (12, 15), (47, 89)] l.length (fun i (s : List Int × Option Nat) σ g' n' => σ 47 = .int .i64 (i : Nat) ∧ σ 10 = ov s.2 s.1.length ∧ Own g' n n' 3 iC s.2 s.1 ∧ n2 ≤ n' ∧ n ≤ n' ∧ allGo l low high l [] = allGo l low high (l.drop i) s.1 ∧ s.1.length = i ∧ Ok l s.1) ?_ ?_ ([], none) ⟨rfl, rfl, Own.nil, Nat.le_refl _, hn2, rfl, rfl, by omega, by simp, by simp⟩
      · rintro i ⟨at_, o⟩ σ g3 n3 hi ⟨k47, k10, ho, hn3, hn4, hgo, hlen, hok⟩ ih
        dsimp only at k10 ho hgo hlen hok
        obtain ⟨w, hw⟩ : ∃ w, l[i]? = some w := ⟨_, List.getElem?_eq_getElem hi⟩
        have hwg := hgood w (List.mem_of_getElem? hw)
        rw [allGo_step hw] at hgo
        have hr1 := rnd_le w.1
        refine w_keep (i := 47) k47 (w_keep (i := 10) k10 ?_)
        by_cases h0 : w.2 = 0
        · repeat' (first
            | ((with_reducible apply g_op); first
              | ((with_reducible apply g_load); first
                | ((with_reducible apply w_fl (v := .agg #[_, _])); exact rfl; exact (fun _ => rfl); assumption; exact rfl)
                | ((with_reducible apply w_load (v := .int _ _)); exact rfl; (first | assumption | (simp (disch := omega) only [upd_same, upd_ne]; first | done | assumption | exact rfl) | exact rfl); exact rfl))
              | ((with_reducible apply g_move); first
                | ((with_reducible apply w_pure (v := .int _ _)); exact rfl; exact rfl)
                | ((with_reducible apply w_pure (v := .bool _)); exact rfl; exact rfl)
                | ((with_reducible apply w_pure (v := .func _ _ _)); exact rfl; exact rfl)
                | ((with_reducible apply w_pure (v := ov _ _)); exact rfl; exact rfl))
              | ((with_reducible apply g_bin); first
                | ((with_reducible apply w_pure (v := .bool _)); exact rfl; exact rfl))
              | ((with_reducible apply g_fld); first
                | ((with_reducible apply w_fldp (o := 0)); exact rfl; exact rfl; exact rfl; exact (by decide))
                | ((with_reducible apply w_fldp (o := 1)); exact rfl; exact rfl; exact rfl; exact (by decide)))
              | ((with_reducible apply g_pick); first
                | ((with_reducible apply w_pk1 (v := .bool _)); exact rfl; exact rfl; (first | assumption | exact decide_eq_true (by assumption) | exact decide_eq_false (by assumption) | exact decide_eq_true (by omega) | exact decide_eq_false (by omega) | exact beq_iff_eq.2 (by omega) | exact beq_eq_false_iff_ne.2 (by omega) | exact bne_iff_ne.2 (by omega) | exact bne_eq_false_iff_eq.2 (by omega))))
              | ((with_reducible apply g_assign); first
                | ((with_reducible apply w_pure (v := .int _ _)); exact rfl; exact rfl))
              | ((with_reducible apply g_store); first
                | ((with_reducible apply w_store (us := [_, _]) (ws := [_, _])); exact rfl; exact rfl; (first | assumption | (simp (disch := omega) only [upd_same, upd_ne]; first | done | assumption | exact rfl) | exact rfl); omega; exact rfl; exact rfl; exact rfl))
              | ((with_reducible apply g_ix); first
                | ((with_reducible apply w_fx (sz := 2)); exact rfl; exact rfl; exact rfl; exact rfl; exact rfl; exact (fun _ => rfl); assumption; exact rfl))
              | ((with_reducible apply w_alloc (ls := [_, _])); exact rfl; exact rfl)
              | ((with_reducible apply w_pure (v := .bool _)); exact rfl; exact rfl))
            | ((with_reducible apply g_gd); first
              | ((with_reducible apply w_pass); exact rfl)
              | ((with_reducible apply w_gd_f); exact rfl; all_goals (intro hc; first | (exfalso; omega) | skip)))
            | with_reducible refine w_seq ?_
            | with_reducible refine w_nil ?_
            | with_reducible refine w_region ?_
            | with_reducible refine w_skip ?_
            | with_reducible refine w_block ?_
            | ((with_reducible apply w_yes); exact rfl)
            | ((with_reducible apply w_ifd); exact rfl; all_goals (intro hc; first | (exfalso; omega) | skip)))
          refine w_rf (free_run l at_ low high w.1 hok hrm (by omega)) (fun _ => rfl) (sn_cons wv_sn (sn_cons ((ho.later (n' := n3 + 1) (by omega) (fun j h1 h2 => by first | rfl | (simp (disch := omega) only [upd_ne]))).fz (by omega) rfl (by decide) (fun _ => rfl) (sn_plains (iplains _))) (sn_cons (sn_plain rfl) (sn_cons (sn_plain rfl) (sn_cons (sn_plain rfl) sn_nil))))) ?_
          rintro _ rfl
          have hpl := placeS_free (l := l) (at_ := at_) (low := low) (high := high) (w := w) (.inl h0)
          have hfo := freeS_ok (l := l) (at_ := at_) (low := low) (high := high) (size := w.1)
          generalize freeS l at_ low high w.1 = A at *
          obtain ⟨p, fb⟩ := A
          dsimp only at hfo hpl
          cases fb with
          | false =>
            repeat' (first
              | ((with_reducible apply g_op); first
                | ((with_reducible apply g_move); first
                  | ((with_reducible apply w_pure (v := .bool _)); exact rfl; exact rfl)
                  | ((with_reducible apply w_pure (v := .tuple _)); exact rfl; exact rfl))
                | ((with_reducible apply g_assign); first
                  | ((with_reducible apply w_pure (v := .int _ _)); exact rfl; exact rfl)
                  | ((with_reducible apply w_pure (v := .bool _)); exact rfl; exact rfl)
                  | ((with_reducible apply w_pure (v := .slice _ _ _)); exact rfl; exact rfl))
                | ((with_reducible apply w_pure (v := .int _ _)); exact rfl; exact rfl)
                | ((with_reducible apply w_pure (v := .bool _)); exact rfl; exact rfl))
              | with_reducible refine w_seq ?_
              | with_reducible refine w_nil ?_
              | with_reducible refine w_region ?_
              | ((with_reducible apply w_yes); exact rfl)
              | ((with_reducible apply w_ret (v := .tuple #[.slice _ _ _, .int _ _])); exact rfl))
            exact fr_none (by unfold allS; rw [if_neg (by simp [hrm]), if_neg (by simp [hbad]), hgo, hpl]; rfl)
          | true =>
            obtain ⟨q1, q2⟩ := hfo rfl
            obtain ⟨q3, q4, q5⟩ := fits_in q2
            repeat' (first
              | ((with_reducible apply g_op); first
                | ((with_reducible apply g_move); first
                  | ((with_reducible apply w_pure (v := .int _ _)); exact rfl; exact rfl)
                  | ((with_reducible apply w_pure (v := .bool _)); exact rfl; exact rfl)
                  | ((with_reducible apply w_pure (v := .tuple _)); exact rfl; exact rfl)
                  | ((with_reducible apply w_pure (v := ov _ _)); exact rfl; exact rfl))
                | ((with_reducible apply g_assign); first
                  | ((with_reducible apply w_pure (v := .int _ _)); exact rfl; exact rfl)
                  | ((with_reducible apply w_pure (v := .bool _)); exact rfl; exact rfl))
                | ((with_reducible apply w_bsl (ls := [_])); exact rfl; exact rfl; exact rfl; exact ⟨by decide, rfl⟩; exact rfl)
                | ((with_reducible apply w_pure (v := .int _ _)); exact rfl; exact rfl)
                | ((with_reducible apply w_pure (v := .bool _)); exact rfl; exact rfl))
              | with_reducible refine w_seq ?_
              | with_reducible refine w_nil ?_
              | with_reducible refine w_region ?_
              | with_reducible refine w_skip ?_
              | ((with_reducible apply w_no); exact rfl))
            refine w_own1 (enc := iC) (y := p) (by_ := 8) (sz := 1) (lo := n) (o := o) (xs := at_) (ho.later (by omega) (fun j h1 h2 => by simp (disch := omega) only [upd_ne])) rfl rfl rfl rfl rfl rfl (fun _ => rfl) upd_same rfl rfl rfl (by have := hok.2.1; omega) (by omega) ?_
            intro g4 hg3 hg4 ho3
            repeat' (first
              | ((with_reducible apply g_op); first
                | ((with_reducible apply g_move); first
                  | ((with_reducible apply w_pure (v := .int _ _)); exact rfl; exact rfl))
                | ((with_reducible apply g_bin); first
                  | ((with_reducible apply w_wrap); exact rfl; exact rfl; first | exact i64_in _ (by omega) | exact u64_in _ (by omega) | exact u8_in _ (by omega)))
                | ((with_reducible apply g_assign); first
                  | ((with_reducible apply w_pure (v := .slice _ _ _)); exact rfl; exact rfl)))
              | with_reducible refine w_nil ?_
              | with_reducible refine w_region ?_
              | with_reducible refine w_blk ?_)
            exact ih (at_ ++ [p], some _) _ _ _ (by repeat' (first | with_reducible exact Fr.mix | with_reducible exact Fr.rfl' | with_reducible refine Fr.put ?_ ?_ | with_reducible refine Fr.mix2 ?_ ?_ | with_reducible refine Fr.put0 ?_ | exact rfl)) ⟨rfl, rfl, ho3, by omega, by omega, by rw [hgo, hpl]; rfl, by rw [List.length_append, hlen]; rfl, hok.add (by have := hok.1; omega) (by omega)⟩
        · by_cases h1 : w.2 % 64 = 0
          · repeat' (first
              | ((with_reducible apply g_op); first
                | ((with_reducible apply g_load); first
                  | ((with_reducible apply w_fl (v := .agg #[_, _])); exact rfl; exact (fun _ => rfl); assumption; exact rfl)
                  | ((with_reducible apply w_load (v := .int _ _)); exact rfl; (first | assumption | (simp (disch := omega) only [upd_same, upd_ne]; first | done | assumption | exact rfl) | exact rfl); exact rfl))
                | ((with_reducible apply g_move); first
                  | ((with_reducible apply w_pure (v := .int _ _)); exact rfl; exact rfl)
                  | ((with_reducible apply w_pure (v := .bool _)); exact rfl; exact rfl)
                  | ((with_reducible apply w_pure (v := .func _ _ _)); exact rfl; exact rfl)
                  | ((with_reducible apply w_pure (v := ov _ _)); exact rfl; exact rfl))
                | ((with_reducible apply g_bin); first
                  | ((with_reducible apply w_mod); exact rfl; exact rfl; exact rfl; exact rfl; exact rfl; omega; omega)
                  | ((with_reducible apply w_pure (v := .bool _)); exact rfl; exact rfl))
                | ((with_reducible apply g_fld); first
                  | ((with_reducible apply w_fldp (o := 0)); exact rfl; exact rfl; exact rfl; exact (by decide))
                  | ((with_reducible apply w_fldp (o := 1)); exact rfl; exact rfl; exact rfl; exact (by decide)))
                | ((with_reducible apply g_pick); first
                  | ((with_reducible apply w_pk0 (v := .bool _)); exact rfl; exact rfl; (first | assumption | exact decide_eq_true (by assumption) | exact decide_eq_false (by assumption) | exact decide_eq_true (by omega) | exact decide_eq_false (by omega) | exact beq_iff_eq.2 (by omega) | exact beq_eq_false_iff_ne.2 (by omega) | exact bne_iff_ne.2 (by omega) | exact bne_eq_false_iff_eq.2 (by omega))))
                | ((with_reducible apply g_assign); first
                  | ((with_reducible apply w_pure (v := .int _ _)); exact rfl; exact rfl))
                | ((with_reducible apply g_store); first
                  | ((with_reducible apply w_store (us := [_, _]) (ws := [_, _])); exact rfl; exact rfl; (first | assumption | (simp (disch := omega) only [upd_same, upd_ne]; first | done | assumption | exact rfl) | exact rfl); omega; exact rfl; exact rfl; exact rfl))
                | ((with_reducible apply g_ix); first
                  | ((with_reducible apply w_fx (sz := 2)); exact rfl; exact rfl; exact rfl; exact rfl; exact rfl; exact (fun _ => rfl); assumption; exact rfl))
                | ((with_reducible apply w_alloc (ls := [_, _])); exact rfl; exact rfl))
              | ((with_reducible apply g_gd); first
                | ((with_reducible apply w_gd_f); exact rfl; all_goals (intro hc; first | (exfalso; omega) | skip))
                | ((with_reducible apply w_gn_f); exact rfl; all_goals (intro hc; first | (exfalso; omega) | skip)))
              | with_reducible refine w_seq ?_
              | with_reducible refine w_nil ?_
              | with_reducible refine w_region ?_
              | with_reducible refine w_skip ?_
              | with_reducible refine w_block ?_
              | ((with_reducible apply w_ifd); exact rfl; all_goals (intro hc; first | (exfalso; omega) | skip)))
            refine w_rq (round_run _ _ _ _) (fun _ => rfl) ?_
            rintro v rfl
            repeat' (first
              | ((with_reducible apply g_gd); first
                | ((with_reducible apply w_gn_f); exact rfl; all_goals (intro hc; first | (exfalso; omega) | skip))))
            refine w_rf (fits_run l at_ low high w.2 (rnd w.1) hok (by omega) (by omega) (by omega) (by omega) (by omega) (by omega) (by omega) (by omega)) (fun _ => rfl) (sn_cons wv_sn (sn_cons ((ho.later (n' := n3 + 1) (by omega) (fun j h1 h2 => by first | rfl | (simp (disch := omega) only [upd_ne]))).fz (by omega) rfl (by decide) (fun _ => rfl) (sn_plains (iplains _))) (sn_cons (sn_plain rfl) (sn_cons (sn_plain rfl) (sn_cons (sn_plain rfl) (sn_cons (sn_plain rfl) sn_nil)))))) ?_
            rintro _ rfl
            cases hfb : fitsS l at_ low high w.2 (rnd w.1) with
            | false =>
              repeat' (first
                | ((with_reducible apply g_op); first
                  | ((with_reducible apply g_load); first
                    | ((with_reducible apply w_load (v := .int _ _)); exact rfl; (first | assumption | (simp (disch := omega) only [upd_same, upd_ne]; first | done | assumption | exact rfl) | exact rfl); exact rfl))
                  | ((with_reducible apply g_move); first
                    | ((with_reducible apply w_pure (v := .int _ _)); exact rfl; exact rfl)
                    | ((with_reducible apply w_pure (v := .func _ _ _)); exact rfl; exact rfl)
                    | ((with_reducible apply w_pure (v := ov _ _)); exact rfl; exact rfl))
                  | ((with_reducible apply g_fld); first
                    | ((with_reducible apply w_fldp (o := 0)); exact rfl; exact rfl; exact rfl; exact (by decide)))
                  | ((with_reducible apply g_pick); first
                    | ((with_reducible apply w_pk0 (v := .bool _)); exact rfl; exact rfl; (first | assumption | exact decide_eq_true (by assumption) | exact decide_eq_false (by assumption) | exact decide_eq_true (by omega) | exact decide_eq_false (by omega) | exact beq_iff_eq.2 (by omega) | exact beq_eq_false_iff_ne.2 (by omega) | exact bne_iff_ne.2 (by omega) | exact bne_eq_false_iff_eq.2 (by omega))))
                  | ((with_reducible apply w_pure (v := .bool _)); exact rfl; exact rfl))
                | ((with_reducible apply g_gd); first
                  | ((with_reducible apply w_gn_f); exact rfl; all_goals (intro hc; first | (exfalso; omega) | skip)))
                | with_reducible refine w_seq ?_
                | with_reducible refine w_nil ?_
                | with_reducible refine w_region ?_
                | ((with_reducible apply w_yes); exact rfl))
              refine w_rf (free_run l at_ low high w.1 hok hrm (by omega)) (fun _ => rfl) (sn_cons wv_sn (sn_cons ((ho.later (n' := n3 + 1) (by omega) (fun j h1 h2 => by first | rfl | (simp (disch := omega) only [upd_ne]))).fz (by omega) rfl (by decide) (fun _ => rfl) (sn_plains (iplains _))) (sn_cons (sn_plain rfl) (sn_cons (sn_plain rfl) (sn_cons (sn_plain rfl) sn_nil))))) ?_
              rintro _ rfl
              have hpl := placeS_free (l := l) (at_ := at_) (low := low) (high := high) (w := w) (.inr (.inr hfb))
              have hfo := freeS_ok (l := l) (at_ := at_) (low := low) (high := high) (size := w.1)
              generalize freeS l at_ low high w.1 = A at *
              obtain ⟨p, fb⟩ := A
              dsimp only at hfo hpl
              cases fb with
              | false =>
                repeat' (first
                  | ((with_reducible apply g_op); first
                    | ((with_reducible apply g_move); first
                      | ((with_reducible apply w_pure (v := .bool _)); exact rfl; exact rfl)
                      | ((with_reducible apply w_pure (v := .tuple _)); exact rfl; exact rfl))
                    | ((with_reducible apply g_assign); first
                      | ((with_reducible apply w_pure (v := .int _ _)); exact rfl; exact rfl)
                      | ((with_reducible apply w_pure (v := .bool _)); exact rfl; exact rfl)
                      | ((with_reducible apply w_pure (v := .slice _ _ _)); exact rfl; exact rfl))
                    | ((with_reducible apply w_pure (v := .int _ _)); exact rfl; exact rfl)
                    | ((with_reducible apply w_pure (v := .bool _)); exact rfl; exact rfl))
                  | with_reducible refine w_seq ?_
                  | with_reducible refine w_nil ?_
                  | with_reducible refine w_region ?_
                  | ((with_reducible apply w_yes); exact rfl)
                  | ((with_reducible apply w_ret (v := .tuple #[.slice _ _ _, .int _ _])); exact rfl))
                exact fr_none (by unfold allS; rw [if_neg (by simp [hrm]), if_neg (by simp [hbad]), hgo, hpl]; rfl)
              | true =>
                obtain ⟨q1, q2⟩ := hfo rfl
                obtain ⟨q3, q4, q5⟩ := fits_in q2
                repeat' (first
                  | ((with_reducible apply g_op); first
                    | ((with_reducible apply g_move); first
                      | ((with_reducible apply w_pure (v := .int _ _)); exact rfl; exact rfl)
                      | ((with_reducible apply w_pure (v := .bool _)); exact rfl; exact rfl)
                      | ((with_reducible apply w_pure (v := .tuple _)); exact rfl; exact rfl)
                      | ((with_reducible apply w_pure (v := ov _ _)); exact rfl; exact rfl))
                    | ((with_reducible apply g_assign); first
                      | ((with_reducible apply w_pure (v := .int _ _)); exact rfl; exact rfl)
                      | ((with_reducible apply w_pure (v := .bool _)); exact rfl; exact rfl))
                    | ((with_reducible apply w_bsl (ls := [_])); exact rfl; exact rfl; exact rfl; exact ⟨by decide, rfl⟩; exact rfl)
                    | ((with_reducible apply w_pure (v := .int _ _)); exact rfl; exact rfl)
                    | ((with_reducible apply w_pure (v := .bool _)); exact rfl; exact rfl))
                  | with_reducible refine w_seq ?_
                  | with_reducible refine w_nil ?_
                  | with_reducible refine w_region ?_
                  | with_reducible refine w_skip ?_
                  | ((with_reducible apply w_no); exact rfl))
                refine w_own1 (enc := iC) (y := p) (by_ := 8) (sz := 1) (lo := n) (o := o) (xs := at_) (ho.later (by omega) (fun j h1 h2 => by simp (disch := omega) only [upd_ne])) rfl rfl rfl rfl rfl rfl (fun _ => rfl) upd_same rfl rfl rfl (by have := hok.2.1; omega) (by omega) ?_
                intro g4 hg3 hg4 ho3
                repeat' (first
                  | ((with_reducible apply g_op); first
                    | ((with_reducible apply g_move); first
                      | ((with_reducible apply w_pure (v := .int _ _)); exact rfl; exact rfl))
                    | ((with_reducible apply g_bin); first
                      | ((with_reducible apply w_wrap); exact rfl; exact rfl; first | exact i64_in _ (by omega) | exact u64_in _ (by omega) | exact u8_in _ (by omega)))
                    | ((with_reducible apply g_assign); first
                      | ((with_reducible apply w_pure (v := .slice _ _ _)); exact rfl; exact rfl)))
                  | with_reducible refine w_nil ?_
                  | with_reducible refine w_region ?_
                  | with_reducible refine w_blk ?_)
                exact ih (at_ ++ [p], some _) _ _ _ (by repeat' (first | with_reducible exact Fr.mix | with_reducible exact Fr.rfl' | with_reducible refine Fr.put ?_ ?_ | with_reducible refine Fr.mix2 ?_ ?_ | with_reducible refine Fr.put0 ?_ | exact rfl)) ⟨rfl, rfl, ho3, by omega, by omega, by rw [hgo, hpl]; rfl, by rw [List.length_append, hlen]; rfl, hok.add (by have := hok.1; omega) (by omega)⟩
            | true =>
              obtain ⟨q3, q4, q5⟩ := fits_in hfb
              have hpl := placeS_slot h0 h1 hfb
              repeat' (first
                | ((with_reducible apply g_op); first
                  | ((with_reducible apply g_move); first
                    | ((with_reducible apply w_pure (v := .int _ _)); exact rfl; exact rfl)
                    | ((with_reducible apply w_pure (v := ov _ _)); exact rfl; exact rfl))
                  | ((with_reducible apply g_pick); first
                    | ((with_reducible apply w_pk0 (v := .bool _)); exact rfl; exact rfl; (first | assumption | exact decide_eq_true (by assumption) | exact decide_eq_false (by assumption) | exact decide_eq_true (by omega) | exact decide_eq_false (by omega) | exact beq_iff_eq.2 (by omega) | exact beq_eq_false_iff_ne.2 (by omega) | exact bne_iff_ne.2 (by omega) | exact bne_eq_false_iff_eq.2 (by omega))))
                  | ((with_reducible apply w_bsl (ls := [_])); exact rfl; exact rfl; exact rfl; exact ⟨by decide, rfl⟩; exact rfl)
                  | ((with_reducible apply w_pure (v := .bool _)); exact rfl; exact rfl))
                | ((with_reducible apply g_gd); first
                  | ((with_reducible apply w_gn_f); exact rfl; all_goals (intro hc; first | (exfalso; omega) | skip)))
                | with_reducible refine w_nil ?_
                | with_reducible refine w_region ?_
                | with_reducible refine w_skip ?_
                | ((with_reducible apply w_no); exact rfl))
              refine w_own1 (enc := iC) (y := w.2) (by_ := 8) (sz := 1) (lo := n) (o := o) (xs := at_) (ho.later (by omega) (fun j h1 h2 => by simp (disch := omega) only [upd_ne])) rfl rfl rfl rfl rfl rfl (fun _ => rfl) upd_same rfl rfl rfl (by have := hok.2.1; omega) (by omega) ?_
              intro g4 hg3 hg4 ho3
              repeat' (first
                | ((with_reducible apply g_op); first
                  | ((with_reducible apply g_move); first
                    | ((with_reducible apply w_pure (v := .int _ _)); exact rfl; exact rfl))
                  | ((with_reducible apply g_bin); first
                    | ((with_reducible apply w_wrap); exact rfl; exact rfl; first | exact i64_in _ (by omega) | exact u64_in _ (by omega) | exact u8_in _ (by omega)))
                  | ((with_reducible apply g_assign); first
                    | ((with_reducible apply w_pure (v := .slice _ _ _)); exact rfl; exact rfl)))
                | with_reducible refine w_nil ?_
                | with_reducible refine w_region ?_
                | with_reducible refine w_blk ?_)
              exact ih (at_ ++ [w.2], some _) _ _ _ (by repeat' (first | with_reducible exact Fr.mix | with_reducible exact Fr.rfl' | with_reducible refine Fr.put ?_ ?_ | with_reducible refine Fr.mix2 ?_ ?_ | with_reducible refine Fr.put0 ?_ | exact rfl)) ⟨rfl, rfl, ho3, by omega, by omega, by rw [hgo, hpl]; rfl, by rw [List.length_append, hlen]; rfl, hok.add (by have := hok.1; omega) (by omega)⟩
          · repeat' (first
              | ((with_reducible apply g_op); first
                | ((with_reducible apply g_load); first
                  | ((with_reducible apply w_fl (v := .agg #[_, _])); exact rfl; exact (fun _ => rfl); assumption; exact rfl)
                  | ((with_reducible apply w_load (v := .int _ _)); exact rfl; (first | assumption | (simp (disch := omega) only [upd_same, upd_ne]; first | done | assumption | exact rfl) | exact rfl); exact rfl))
                | ((with_reducible apply g_move); first
                  | ((with_reducible apply w_pure (v := .int _ _)); exact rfl; exact rfl)
                  | ((with_reducible apply w_pure (v := .bool _)); exact rfl; exact rfl)
                  | ((with_reducible apply w_pure (v := .func _ _ _)); exact rfl; exact rfl)
                  | ((with_reducible apply w_pure (v := ov _ _)); exact rfl; exact rfl))
                | ((with_reducible apply g_bin); first
                  | ((with_reducible apply w_mod); exact rfl; exact rfl; exact rfl; exact rfl; exact rfl; omega; omega)
                  | ((with_reducible apply w_pure (v := .bool _)); exact rfl; exact rfl))
                | ((with_reducible apply g_fld); first
                  | ((with_reducible apply w_fldp (o := 0)); exact rfl; exact rfl; exact rfl; exact (by decide))
                  | ((with_reducible apply w_fldp (o := 1)); exact rfl; exact rfl; exact rfl; exact (by decide)))
                | ((with_reducible apply g_pick); first
                  | ((with_reducible apply w_pk1 (v := .bool _)); exact rfl; exact rfl; (first | assumption | exact decide_eq_true (by assumption) | exact decide_eq_false (by assumption) | exact decide_eq_true (by omega) | exact decide_eq_false (by omega) | exact beq_iff_eq.2 (by omega) | exact beq_eq_false_iff_ne.2 (by omega) | exact bne_iff_ne.2 (by omega) | exact bne_eq_false_iff_eq.2 (by omega)))
                  | ((with_reducible apply w_pk0 (v := .bool _)); exact rfl; exact rfl; (first | assumption | exact decide_eq_true (by assumption) | exact decide_eq_false (by assumption) | exact decide_eq_true (by omega) | exact decide_eq_false (by omega) | exact beq_iff_eq.2 (by omega) | exact beq_eq_false_iff_ne.2 (by omega) | exact bne_iff_ne.2 (by omega) | exact bne_eq_false_iff_eq.2 (by omega))))
                | ((with_reducible apply g_assign); first
                  | ((with_reducible apply w_pure (v := .int _ _)); exact rfl; exact rfl))
                | ((with_reducible apply g_store); first
                  | ((with_reducible apply w_store (us := [_, _]) (ws := [_, _])); exact rfl; exact rfl; (first | assumption | (simp (disch := omega) only [upd_same, upd_ne]; first | done | assumption | exact rfl) | exact rfl); omega; exact rfl; exact rfl; exact rfl))
                | ((with_reducible apply g_ix); first
                  | ((with_reducible apply w_fx (sz := 2)); exact rfl; exact rfl; exact rfl; exact rfl; exact rfl; exact (fun _ => rfl); assumption; exact rfl))
                | ((with_reducible apply w_alloc (ls := [_, _])); exact rfl; exact rfl))
              | ((with_reducible apply g_gd); first
                | ((with_reducible apply w_gd_f); exact rfl; all_goals (intro hc; first | (exfalso; omega) | skip))
                | ((with_reducible apply w_gn_f); exact rfl; all_goals (intro hc; first | (exfalso; omega) | skip)))
              | with_reducible refine w_seq ?_
              | with_reducible refine w_nil ?_
              | with_reducible refine w_region ?_
              | with_reducible refine w_skip ?_
              | with_reducible refine w_block ?_
              | ((with_reducible apply w_yes); exact rfl)
              | ((with_reducible apply w_ifd); exact rfl; all_goals (intro hc; first | (exfalso; omega) | skip)))
            refine w_rf (free_run l at_ low high w.1 hok hrm (by omega)) (fun _ => rfl) (sn_cons wv_sn (sn_cons ((ho.later (n' := n3 + 1) (by omega) (fun j h1 h2 => by first | rfl | (simp (disch := omega) only [upd_ne]))).fz (by omega) rfl (by decide) (fun _ => rfl) (sn_plains (iplains _))) (sn_cons (sn_plain rfl) (sn_cons (sn_plain rfl) (sn_cons (sn_plain rfl) sn_nil))))) ?_
            rintro _ rfl
            have hpl := placeS_free (l := l) (at_ := at_) (low := low) (high := high) (w := w) (.inr (.inl h1))
            have hfo := freeS_ok (l := l) (at_ := at_) (low := low) (high := high) (size := w.1)
            generalize freeS l at_ low high w.1 = A at *
            obtain ⟨p, fb⟩ := A
            dsimp only at hfo hpl
            cases fb with
            | false =>
              repeat' (first
                | ((with_reducible apply g_op); first
                  | ((with_reducible apply g_move); first
                    | ((with_reducible apply w_pure (v := .bool _)); exact rfl; exact rfl)
                    | ((with_reducible apply w_pure (v := .tuple _)); exact rfl; exact rfl))
                  | ((with_reducible apply g_assign); first
                    | ((with_reducible apply w_pure (v := .int _ _)); exact rfl; exact rfl)
                    | ((with_reducible apply w_pure (v := .bool _)); exact rfl; exact rfl)
                    | ((with_reducible apply w_pure (v := .slice _ _ _)); exact rfl; exact rfl))
                  | ((with_reducible apply w_pure (v := .int _ _)); exact rfl; exact rfl)
                  | ((with_reducible apply w_pure (v := .bool _)); exact rfl; exact rfl))
                | with_reducible refine w_seq ?_
                | with_reducible refine w_nil ?_
                | with_reducible refine w_region ?_
                | ((with_reducible apply w_yes); exact rfl)
                | ((with_reducible apply w_ret (v := .tuple #[.slice _ _ _, .int _ _])); exact rfl))
              exact fr_none (by unfold allS; rw [if_neg (by simp [hrm]), if_neg (by simp [hbad]), hgo, hpl]; rfl)
            | true =>
              obtain ⟨q1, q2⟩ := hfo rfl
              obtain ⟨q3, q4, q5⟩ := fits_in q2
              repeat' (first
                | ((with_reducible apply g_op); first
                  | ((with_reducible apply g_move); first
                    | ((with_reducible apply w_pure (v := .int _ _)); exact rfl; exact rfl)
                    | ((with_reducible apply w_pure (v := .bool _)); exact rfl; exact rfl)
                    | ((with_reducible apply w_pure (v := .tuple _)); exact rfl; exact rfl)
                    | ((with_reducible apply w_pure (v := ov _ _)); exact rfl; exact rfl))
                  | ((with_reducible apply g_assign); first
                    | ((with_reducible apply w_pure (v := .int _ _)); exact rfl; exact rfl)
                    | ((with_reducible apply w_pure (v := .bool _)); exact rfl; exact rfl))
                  | ((with_reducible apply w_bsl (ls := [_])); exact rfl; exact rfl; exact rfl; exact ⟨by decide, rfl⟩; exact rfl)
                  | ((with_reducible apply w_pure (v := .int _ _)); exact rfl; exact rfl)
                  | ((with_reducible apply w_pure (v := .bool _)); exact rfl; exact rfl))
                | with_reducible refine w_seq ?_
                | with_reducible refine w_nil ?_
                | with_reducible refine w_region ?_
                | with_reducible refine w_skip ?_
                | ((with_reducible apply w_no); exact rfl))
              refine w_own1 (enc := iC) (y := p) (by_ := 8) (sz := 1) (lo := n) (o := o) (xs := at_) (ho.later (by omega) (fun j h1 h2 => by simp (disch := omega) only [upd_ne])) rfl rfl rfl rfl rfl rfl (fun _ => rfl) upd_same rfl rfl rfl (by have := hok.2.1; omega) (by omega) ?_
              intro g4 hg3 hg4 ho3
              repeat' (first
                | ((with_reducible apply g_op); first
                  | ((with_reducible apply g_move); first
                    | ((with_reducible apply w_pure (v := .int _ _)); exact rfl; exact rfl))
                  | ((with_reducible apply g_bin); first
                    | ((with_reducible apply w_wrap); exact rfl; exact rfl; first | exact i64_in _ (by omega) | exact u64_in _ (by omega) | exact u8_in _ (by omega)))
                  | ((with_reducible apply g_assign); first
                    | ((with_reducible apply w_pure (v := .slice _ _ _)); exact rfl; exact rfl)))
                | with_reducible refine w_nil ?_
                | with_reducible refine w_region ?_
                | with_reducible refine w_blk ?_)
              exact ih (at_ ++ [p], some _) _ _ _ (by repeat' (first | with_reducible exact Fr.mix | with_reducible exact Fr.rfl' | with_reducible refine Fr.put ?_ ?_ | with_reducible refine Fr.mix2 ?_ ?_ | with_reducible refine Fr.put0 ?_ | exact rfl)) ⟨rfl, rfl, ho3, by omega, by omega, by rw [hgo, hpl]; rfl, by rw [List.length_append, hlen]; rfl, hok.add (by have := hok.1; omega) (by omega)⟩
      · rintro ⟨at_, o⟩ σ g3 n3 ⟨k47, k10, ho, hn3, hn4, hgo, hlen, hok⟩
        dsimp only at k10 ho hgo hlen hok
        rw [List.drop_length] at hgo
        refine w_keep (i := 47) k47 (w_keep (i := 10) k10 ?_)
        repeat' (first
          | ((with_reducible apply g_op); first
            | ((with_reducible apply g_move); first
              | ((with_reducible apply w_pure (v := ov _ _)); exact rfl; exact rfl))
            | ((with_reducible apply g_bin); first
              | ((with_reducible apply w_pure (v := .bool _)); exact rfl; exact rfl))
            | ((with_reducible apply g_assign); first
              | ((with_reducible apply w_pure (v := .int _ _)); exact rfl; exact rfl)
              | ((with_reducible apply w_pure (v := ov _ _)); exact rfl; exact rfl)))
          | with_reducible refine w_seq ?_
          | with_reducible refine w_nil ?_
          | with_reducible refine w_region ?_
          | ((with_reducible apply w_exit); exact rfl)
          | ((with_reducible apply w_ifd); exact rfl; all_goals (intro hc; first | (exfalso; omega) | skip)))
        refine w_ret (v := .tuple #[ov o at_.length, .int .i64 0]) rfl ?_
        refine ⟨_, sn_tuple (sn_cons (ho.fz (Nat.le_refl _) rfl (by decide) (fun _ => rfl) (sn_plains (iplains _))) (sn_cons (sn_plain rfl) sn_nil)), ?_⟩
        have e : allS l low high = (at_, 0) := by unfold allS; rw [if_neg (by simp [hrm]), if_neg (by simp [hbad]), hgo]; rfl
        rw [e]
end Go.Proofs.Ythfhlfkcphojkaa.L

