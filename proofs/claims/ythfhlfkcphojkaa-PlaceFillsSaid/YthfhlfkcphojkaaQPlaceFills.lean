/- PlaceFills: walked. -/
import Derived.Test.Ythfhlfkcphojkaac13G
namespace Go.Proofs.Ythfhlfkcphojkaa.L.PlaceFills
open Go.L1 Go.IntWalk Go.Proofs.Ythfhlfkcphojkaa.L
set_option linter.unusedVariables false
set_option linter.unusedSimpArgs false
set_option maxHeartbeats 4000000
set_option maxRecDepth 20000
def tab : Tb := L.T
theorem tabok : ∀ C : Cx, C.P = Try.prog → TbOk C tab := L.tabok
def mk (s : Int) : Int × Int := (1 + s % 256, 0)
theorem take_min {α : Type} (X : List α) : X.take (min X.length 12) = X.take 12 := by
  by_cases h : X.length ≤ 12
  · rw [Nat.min_eq_left h, List.take_length, List.take_of_length_le h]
  · rw [Nat.min_eq_right (by omega)]
theorem pos_le {l : List (Int × Int)} (hb : ∀ w ∈ l, 1 ≤ w.1 ∧ w.1 ≤ 256 ∧ w.2 = 0) : ∀ i : Nat, i ≤ l.length → 640 ≤ posS l i ∧ posS l i ≤ 640 + 256 * i
  | 0, _ => by have : posS l 0 = 640 := rfl; omega
  | i + 1, h => by
    have hw : l[i]? = some l[i] := List.getElem?_eq_getElem (by omega)
    have h1 := pos_le hb i (by omega)
    have h2 := hb _ (List.mem_of_getElem? hw)
    have h3 := rnd_eq h2.1 (by omega)
    have h4 := posS_succ hw
    omega
theorem walk (X : List Int) (a : Int) (g : Nat → Option Ob) (n : Nat) : Rn Try.prog T 6 [iv tg X, .int .i64 a] g n n (fun v _ _ => v = .bool true) := by
  refine c_open Try.func6 rfl rfl rfl rfl rfl rfl ?_
  repeat' (first
    | ((with_reducible apply g_op); first
      | ((with_reducible apply g_assign); first
        | ((with_reducible apply w_pure (v := .bool _)); exact rfl; exact rfl)))
    | with_reducible refine w_seq ?_
    | with_reducible refine w_nil ?_
    | with_reducible refine w_region ?_)
  refine w_rf awake_run (fun _ => rfl) sn_nil ?_
  rintro _ rfl
  repeat' (first
    | ((with_reducible apply g_op); first
      | ((with_reducible apply g_assign); first
        | ((with_reducible apply w_pure (v := .int _ _)); exact rfl; exact rfl)
        | ((with_reducible apply w_pure (v := .bool _)); exact rfl; exact rfl)
        | ((with_reducible apply w_pure (v := .slice _ _ _)); exact rfl; exact rfl)))
    | with_reducible refine w_seq ?_
    | with_reducible refine w_nil ?_
    | with_reducible refine w_region ?_)
  have hmb : ∀ w ∈ (X.take 12).map mk, 1 ≤ w.1 ∧ w.1 ≤ 256 ∧ w.2 = 0 := fun w hw => by
    obtain ⟨x, _, rfl⟩ := List.mem_map.1 hw
    unfold mk
    dsimp only
    omega
  have hgt : ∀ i x, X[i]? = some x → i < 12 → ((X.take 12).map mk)[i]? = some (mk x) := fun i x h hi => by
    rw [List.getElem?_map, List.getElem?_take, if_pos hi, h]; rfl
  refine w_meetK [(6, 10), (16, 46)] (fun σ g' n' => ∃ o1 o2, σ 6 = ov o1 ((X.take 12).map mk).length ∧ σ 7 = ov o2 (posL ((X.take 12).map mk) ((X.take 12).map mk).length).length ∧ σ 8 = .int .i64 (posS ((X.take 12).map mk) ((X.take 12).map mk).length) ∧ Own g' n n' 34 wC o1 ((X.take 12).map mk) ∧ Own g' n n' 3 iC o2 (posL ((X.take 12).map mk) ((X.take 12).map mk).length) ∧ n ≤ n') ?_ ?_
  · intro K Q hK
    repeat' (first
      | with_reducible refine w_block ?_)
    refine w_cntK [(6, 10), (16, 46)] (min X.length 12) (fun i (s : Option Nat × Option Nat) σ g' n' => σ 9 = .int .i64 (i : Nat) ∧ σ 6 = ov s.1 i ∧ σ 7 = ov s.2 i ∧ σ 8 = .int .i64 (posS ((X.take 12).map mk) i) ∧ Own g' n n' 34 wC s.1 ((X.take i).map mk) ∧ Own g' n n' 3 iC s.2 (posL ((X.take 12).map mk) i) ∧ n ≤ n' ∧ (∀ j k, s.1 = some j → s.2 = some k → j ≠ k)) ?_ ?_ (none, none) ⟨rfl, rfl, rfl, rfl, Own.nil, Own.nil, Nat.le_refl _, fun _ _ h => by cases h⟩
    · rintro i ⟨o1, o2⟩ σ g2 n2 hi ⟨k9, k6, k7, k8, ho1, ho2, hn2, hne⟩ ih
      dsimp only at k6 k7 ho1 ho2 hne
      obtain ⟨x, hx⟩ : ∃ x, X[i]? = some x := ⟨_, List.getElem?_eq_getElem (by omega)⟩
      have hlen : ((X.take i).map mk).length = i := by simp; omega
      have hgi := hgt i x hx (by omega)
      have hpl := pos_le hmb i (by simp; omega)
      have hps := posS_succ hgi
      have hrn := rnd_eq (a := (mk x).1) (by unfold mk; dsimp only; omega) (by unfold mk; dsimp only; omega)
      have hm1 : (mk x).1 = 1 + x % 256 := rfl
      generalize hl : (X.take 12).map mk = l at *
      refine w_keep (i := 9) k9 (w_keep (i := 6) k6 (w_keep (i := 7) k7 (w_keep (i := 8) k8 ?_)))
      repeat' (first
        | ((with_reducible apply g_op); first
          | ((with_reducible apply g_load); first
            | ((with_reducible apply w_fl (v := .int _ _)); exact rfl; exact (fun _ => rfl); assumption; exact rfl))
          | ((with_reducible apply g_move); first
            | ((with_reducible apply w_pure (v := .int _ _)); exact rfl; exact rfl)
            | ((with_reducible apply w_pure (v := .bool _)); exact rfl; exact rfl)
            | ((with_reducible apply w_pure (v := .func _ _ _)); exact rfl; exact rfl)
            | ((with_reducible apply w_pure (v := ov _ _)); exact rfl; exact rfl))
          | ((with_reducible apply g_bin); first
            | ((with_reducible apply w_and (j := 8) (c1 := 256)); exact rfl; exact rfl; exact rfl; exact rfl; exact rfl; exact (by decide); exact (by decide); exact (by decide))
            | ((with_reducible apply w_wrap); exact rfl; exact rfl; first | exact i64_in _ (by omega) | exact u64_in _ (by omega) | exact u8_in _ (by omega))
            | ((with_reducible apply w_pure (v := .bool _)); exact rfl; exact rfl))
          | ((with_reducible apply g_pick); first
            | ((with_reducible apply w_pk1 (v := .bool _)); exact rfl; exact rfl; (first | assumption | exact decide_eq_true (by assumption) | exact decide_eq_false (by assumption) | exact decide_eq_true (by omega) | exact decide_eq_false (by omega) | exact beq_iff_eq.2 (by omega) | exact beq_eq_false_iff_ne.2 (by omega) | exact bne_iff_ne.2 (by omega) | exact bne_eq_false_iff_eq.2 (by omega))))
          | ((with_reducible apply g_assign); first
            | ((with_reducible apply w_pure (v := .int _ _)); exact rfl; exact rfl))
          | ((with_reducible apply g_call); first
            | ((with_reducible apply w_call (v := .int _ _)); exact rfl))
          | ((with_reducible apply g_build); first
            | ((with_reducible apply w_pure (v := .agg #[.int _ _, .int _ _])); exact rfl; exact rfl))
          | ((with_reducible apply g_ix); first
            | ((with_reducible apply w_fx (sz := 1)); exact rfl; exact rfl; exact rfl; exact rfl; exact rfl; exact (fun _ => rfl); assumption; exact rfl))
          | ((with_reducible apply w_bsl (ls := [_, _])); exact rfl; exact rfl; exact rfl; exact ⟨by decide, rfl⟩; exact rfl))
        | ((with_reducible apply g_gd); first
          | ((with_reducible apply w_gd_t); exact rfl; all_goals (intro hc; first | (exfalso; omega) | skip)))
        | with_reducible refine w_seq ?_
        | with_reducible refine w_nil ?_
        | with_reducible refine w_region ?_
        | with_reducible refine w_skip ?_
        | with_reducible refine w_block ?_
        | ((with_reducible apply w_ifd); exact rfl; all_goals (intro hc; first | (exfalso; omega) | skip)))
      refine w_own1 (enc := wC) (y := mk x) (by_ := 16) (sz := 2) (lo := n) (o := o1) (xs := (X.take i).map mk) (ho1.later (by omega) (fun j h1 h2 => by simp (disch := omega) only [upd_ne])) (by rw [hlen]; rfl) rfl rfl rfl rfl rfl (fun _ => rfl) upd_same rfl rfl rfl (by omega) (by omega) ?_
      intro g4 hg3 hg4 hq1
      have hq2 : Own g4 n (n2 + 1 + 1) 3 iC o2 (posL l i) := by
        cases o2 with
        | none => exact ho2
        | some k =>
          obtain ⟨z1, z2, z3, z4⟩ := ho2
          refine ⟨z1, z2, by omega, ?_⟩
          rw [hg3 k (by omega) (fun e => hne k k e.symm rfl rfl), upd_ne (by omega)]
          exact z4
      repeat' (first
        | ((with_reducible apply g_op); first
          | ((with_reducible apply g_move); first
            | ((with_reducible apply w_pure (v := .int _ _)); exact rfl; exact rfl)
            | ((with_reducible apply w_pure (v := ov _ _)); exact rfl; exact rfl))
          | ((with_reducible apply g_assign); first
            | ((with_reducible apply w_pure (v := .slice _ _ _)); exact rfl; exact rfl))
          | ((with_reducible apply w_bsl (ls := [_])); exact rfl; exact rfl; exact rfl; exact ⟨by decide, rfl⟩; exact rfl))
        | with_reducible refine w_seq ?_
        | with_reducible refine w_nil ?_
        | with_reducible refine w_region ?_)
      refine w_own1 (enc := iC) (y := posS l i) (by_ := 8) (sz := 1) (lo := n) (o := o2) (xs := posL l i) (hq2.later (by omega) (fun j h1 h2 => by simp (disch := omega) only [upd_ne])) (by rw [posL_len]; rfl) rfl rfl rfl rfl rfl (fun _ => rfl) upd_same rfl rfl rfl (by rw [posL_len]; omega) (by omega) ?_
      intro g5 hg5 hg6 hq3
      repeat' (first
        | ((with_reducible apply g_op); first
          | ((with_reducible apply g_move); first
            | ((with_reducible apply w_pure (v := .int _ _)); exact rfl; exact rfl))
          | ((with_reducible apply g_bin); first
            | ((with_reducible apply w_div); exact rfl; exact rfl; exact rfl; exact rfl; exact rfl; omega; omega; omega)
            | ((with_reducible apply w_wrap); exact rfl; exact rfl; first | exact i64_in _ (by omega) | exact u64_in _ (by omega) | exact u8_in _ (by omega)))
          | ((with_reducible apply g_assign); first
            | ((with_reducible apply w_pure (v := .int _ _)); exact rfl; exact rfl)
            | ((with_reducible apply w_pure (v := .slice _ _ _)); exact rfl; exact rfl)))
        | with_reducible refine w_nil ?_
        | with_reducible refine w_region ?_
        | with_reducible refine w_blk ?_)
      refine ih (some (n2 + 1), some (n2 + 1 + 1 + 1)) _ _ _ (by repeat' (first | with_reducible exact Fr.mix | with_reducible exact Fr.rfl' | with_reducible refine Fr.put ?_ ?_ | with_reducible refine Fr.mix2 ?_ ?_ | with_reducible refine Fr.put0 ?_ | exact rfl)) ⟨rfl, ?_, ?_, ?_, ?_, ?_, by omega, ?_⟩
      · show ov (some (n2 + 1)) ((X.take i).map mk ++ [mk x]).length = ov (some (n2 + 1)) (i + 1)
        rw [List.length_append, hlen]; rfl
      · show ov (some (n2 + 1 + 1 + 1)) (posL l i ++ [posS l i]).length = ov (some (n2 + 1 + 1 + 1)) (i + 1)
        rw [List.length_append, posL_len]; rfl
      · exact ieq (by rw [hps, hrn, hm1])
      · rw [List.take_add_one, hx, List.map_append]
        obtain ⟨z1, z2, z3, z4⟩ := hq1
        refine ⟨z1, z2, by omega, ?_⟩
        rw [hg5 (n2 + 1) (by omega) (fun e => ?_), upd_ne (by omega)]
        · exact z4
        · subst e
          have := ho2.2.2.1
          omega
      · rw [show posL l (i + 1) = posL l i ++ [posS l i] by unfold posL; rw [List.range_succ, List.map_append]; rfl]
        exact hq3
      · intro j k h1 h2
        cases h1
        cases h2
        omega
    · rintro ⟨o1, o2⟩ σ g2 n2 ⟨k9, k6, k7, k8, ho1, ho2, hn2, hne⟩
      dsimp only at k6 k7 ho1 ho2 hne
      rw [take_min] at ho1
      have hml : ((X.take 12).map mk).length = min X.length 12 := by simp; omega
      refine w_keep (i := 9) k9 (w_keep (i := 6) k6 (w_keep (i := 7) k7 (w_keep (i := 8) k8 ?_)))
      repeat' (first
        | ((with_reducible apply g_op); first
          | ((with_reducible apply g_move); first
            | ((with_reducible apply w_pure (v := .int _ _)); exact rfl; exact rfl)
            | ((with_reducible apply w_pure (v := .bool _)); exact rfl; exact rfl)
            | ((with_reducible apply w_pure (v := .func _ _ _)); exact rfl; exact rfl))
          | ((with_reducible apply g_bin); first
            | ((with_reducible apply w_pure (v := .bool _)); exact rfl; exact rfl))
          | ((with_reducible apply g_pick); first
            | ((with_reducible apply w_pk1 (v := .bool _)); exact rfl; exact rfl; (first | assumption | exact decide_eq_true (by assumption) | exact decide_eq_false (by assumption) | exact decide_eq_true (by omega) | exact decide_eq_false (by omega) | exact beq_iff_eq.2 (by omega) | exact beq_eq_false_iff_ne.2 (by omega) | exact bne_iff_ne.2 (by omega) | exact bne_eq_false_iff_eq.2 (by omega)))
            | ((with_reducible apply w_pk0 (v := .bool _)); exact rfl; exact rfl; (first | assumption | exact decide_eq_true (by assumption) | exact decide_eq_false (by assumption) | exact decide_eq_true (by omega) | exact decide_eq_false (by omega) | exact beq_iff_eq.2 (by omega) | exact beq_eq_false_iff_ne.2 (by omega) | exact bne_iff_ne.2 (by omega) | exact bne_eq_false_iff_eq.2 (by omega))))
          | ((with_reducible apply g_call); first
            | ((with_reducible apply w_call (v := .int _ _)); exact rfl)))
        | ((with_reducible apply g_gd); first
          | ((with_reducible apply w_gd_t); exact rfl; all_goals (intro hc; first | (exfalso; omega) | skip)))
        | with_reducible refine w_seq ?_
        | with_reducible refine w_nil ?_
        | with_reducible refine w_region ?_
        | ((with_reducible apply w_exit); exact rfl)
        | ((with_reducible apply w_no); exact rfl)
        | ((with_reducible apply w_ifd); exact rfl; all_goals (intro hc; first | (exfalso; omega) | skip)))
      all_goals exact hK _ _ _ (by repeat' (first | with_reducible exact Fr.mix | with_reducible exact Fr.rfl' | with_reducible refine Fr.put ?_ ?_ | with_reducible refine Fr.mix2 ?_ ?_ | with_reducible refine Fr.put0 ?_ | exact rfl)) ⟨o1, o2, by rw [hml]; rfl, by rw [posL_len, hml]; rfl, by rw [hml]; rfl, ho1, by rw [hml]; exact ho2, hn2⟩
  · rintro σ g2 n2 ⟨o1, o2, k6, k7, k8, ho1, ho2, hn2⟩
    have hll : ((X.take 12).map mk).length ≤ 12 := by simp; omega
    generalize (X.take 12).map mk = l at *
    have hpl := pos_le hmb l.length (Nat.le_refl _)
    have hpm := posS_mod l l.length
    obtain ⟨hi, hhi⟩ : ∃ hi, hi = 640 + 64 * (a % 64) := ⟨_, rfl⟩
    have hrm : roomS 640 hi = true := roomS_iff.2 (by omega)
    have hst := allS_stack hmb hrm
    refine w_keep (i := 6) k6 (w_keep (i := 7) k7 (w_keep (i := 8) k8 ?_))
    repeat' (first
      | ((with_reducible apply g_op); first
        | ((with_reducible apply g_move); first
          | ((with_reducible apply w_pure (v := .int _ _)); exact rfl; exact rfl)
          | ((with_reducible apply w_pure (v := ov _ _)); exact rfl; exact rfl))
        | ((with_reducible apply g_bin); first
          | ((with_reducible apply w_and (j := 6) (c1 := 64)); exact rfl; exact rfl; exact rfl; exact rfl; exact rfl; exact (by decide); exact (by decide); exact (by decide))
          | ((with_reducible apply w_wrap); exact rfl; exact rfl; first | exact i64_in _ (by omega) | exact u64_in _ (by omega) | exact u8_in _ (by omega)))
        | ((with_reducible apply g_assign); first
          | ((with_reducible apply w_pure (v := .int _ _)); exact rfl; exact rfl)))
      | with_reducible refine w_seq ?_
      | with_reducible refine w_nil ?_
      | with_reducible refine w_region ?_)
    rw [← hhi]
    refine w_rf (all_run l 640 hi (by omega)) (fun _ => rfl) (sn_cons (ho1.fz (by omega) rfl (by decide) (fun _ => rfl) (sn_plains (wplains _))) (sn_cons (sn_plain rfl) (sn_cons (sn_plain rfl) sn_nil))) ?_
    rintro _ rfl
    rw [hst]
    have hlen : (posL l l.length).length ≤ 1000000 := by rw [posL_len]; omega
    by_cases hc : posS l l.length > hi
    · rw [if_pos hc]
      repeat' (first
        | ((with_reducible apply g_op); first
          | ((with_reducible apply g_move); first
            | ((with_reducible apply w_pure (v := .int _ _)); exact rfl; exact rfl)
            | ((with_reducible apply w_pure (v := .bool _)); exact rfl; exact rfl)
            | ((with_reducible apply w_pure (v := .tuple _)); exact rfl; exact rfl)
            | ((with_reducible apply w_pure (v := .func _ _ _)); exact rfl; exact rfl))
          | ((with_reducible apply g_bin); first
            | ((with_reducible apply w_pure (v := .bool _)); exact rfl; exact rfl))
          | ((with_reducible apply g_pick); first
            | ((with_reducible apply w_pk1 (v := .bool _)); exact rfl; exact rfl; (first | assumption | exact decide_eq_true (by assumption) | exact decide_eq_false (by assumption) | exact decide_eq_true (by omega) | exact decide_eq_false (by omega) | exact beq_iff_eq.2 (by omega) | exact beq_eq_false_iff_ne.2 (by omega) | exact bne_iff_ne.2 (by omega) | exact bne_eq_false_iff_eq.2 (by omega))))
          | ((with_reducible apply g_assign); first
            | ((with_reducible apply w_pure (v := .int _ _)); exact rfl; exact rfl)
            | ((with_reducible apply w_pure (v := .bool _)); exact rfl; exact rfl)
            | ((with_reducible apply w_pure (v := .func _ _ _)); exact rfl; exact rfl))
          | ((with_reducible apply g_call); first
            | ((with_reducible apply w_call (v := .int _ _)); exact rfl))
          | ((with_reducible apply w_pure (v := .int _ _)); exact rfl; exact rfl)
          | ((with_reducible apply w_pure (v := .bool _)); exact rfl; exact rfl)
          | ((with_reducible apply w_pure (v := .func _ _ _)); exact rfl; exact rfl))
        | ((with_reducible apply g_gd); first
          | ((with_reducible apply w_want); exact rfl))
        | with_reducible refine w_seq ?_
        | with_reducible refine w_nil ?_
        | with_reducible refine w_region ?_
        | ((with_reducible apply w_ifd); exact rfl; all_goals (intro hc; first | (exfalso; omega) | skip))
        | ((with_reducible apply w_ret (v := .bool _)); exact rfl))
      all_goals first | rfl | (exfalso; omega)
    · rw [if_neg hc]
      repeat' (first
        | ((with_reducible apply g_op); first
          | ((with_reducible apply g_move); first
            | ((with_reducible apply w_pure (v := .int _ _)); exact rfl; exact rfl)
            | ((with_reducible apply w_pure (v := .tuple _)); exact rfl; exact rfl)
            | ((with_reducible apply w_pure (v := .func _ _ _)); exact rfl; exact rfl)
            | ((with_reducible apply w_pure (v := ov _ _)); exact rfl; exact rfl))
          | ((with_reducible apply g_bin); first
            | ((with_reducible apply w_pure (v := .bool _)); exact rfl; exact rfl))
          | ((with_reducible apply g_assign); first
            | ((with_reducible apply w_pure (v := .int _ _)); exact rfl; exact rfl)
            | ((with_reducible apply w_pure (v := .func _ _ _)); exact rfl; exact rfl))
          | ((with_reducible apply w_pure (v := .int _ _)); exact rfl; exact rfl)
          | ((with_reducible apply w_pure (v := .func _ _ _)); exact rfl; exact rfl))
        | with_reducible refine w_seq ?_
        | with_reducible refine w_nil ?_
        | with_reducible refine w_region ?_
        | with_reducible refine w_skip ?_
        | ((with_reducible apply w_ifd); exact rfl; all_goals (intro hc; first | (exfalso; omega) | skip)))
      all_goals first | (exfalso; omega) | skip
      refine w_rf (same_run (posL l l.length) (posL l l.length) hlen hlen) (fun _ => rfl) (sn_cons iv_sn (sn_cons (ho2.fz (by omega) rfl (by decide) (fun _ => rfl) (sn_plains (iplains _))) sn_nil)) ?_
      rintro _ ⟨b, rfl, hb⟩
      obtain rfl : b = true := hb.2 rfl
      repeat' (first
        | ((with_reducible apply g_op); first
          | ((with_reducible apply g_move); first
            | ((with_reducible apply w_pure (v := .int _ _)); exact rfl; exact rfl)
            | ((with_reducible apply w_pure (v := .bool _)); exact rfl; exact rfl))
          | ((with_reducible apply g_bin); first
            | ((with_reducible apply w_wrap); exact rfl; exact rfl; first | exact i64_in _ (by omega) | exact u64_in _ (by omega) | exact u8_in _ (by omega))
            | ((with_reducible apply w_pure (v := .bool _)); exact rfl; exact rfl))
          | ((with_reducible apply g_pick); first
            | ((with_reducible apply w_pk1 (v := .bool _)); exact rfl; exact rfl; (first | assumption | exact decide_eq_true (by assumption) | exact decide_eq_false (by assumption) | exact decide_eq_true (by omega) | exact decide_eq_false (by omega) | exact beq_iff_eq.2 (by omega) | exact beq_eq_false_iff_ne.2 (by omega) | exact bne_iff_ne.2 (by omega) | exact bne_eq_false_iff_eq.2 (by omega))))
          | ((with_reducible apply g_assign); first
            | ((with_reducible apply w_pure (v := .bool _)); exact rfl; exact rfl))
          | ((with_reducible apply w_pure (v := .bool _)); exact rfl; exact rfl))
        | ((with_reducible apply g_gd); first
          | ((with_reducible apply w_want); exact rfl))
        | with_reducible refine w_seq ?_
        | with_reducible refine w_nil ?_
        | with_reducible refine w_region ?_)
      refine w_rq (round_run _ _ _ _) (fun _ => rfl) ?_
      rintro v rfl
      repeat' (first
        | ((with_reducible apply g_op); first
          | ((with_reducible apply g_move); first
            | ((with_reducible apply w_pure (v := .int _ _)); exact rfl; exact rfl))
          | ((with_reducible apply g_bin); first
            | ((with_reducible apply w_wrap); exact rfl; exact rfl; first | exact i64_in _ (by omega) | exact u64_in _ (by omega) | exact u8_in _ (by omega))
            | ((with_reducible apply w_pure (v := .bool _)); exact rfl; exact rfl))
          | ((with_reducible apply g_assign); first
            | ((with_reducible apply w_pure (v := .bool _)); exact rfl; exact rfl))
          | ((with_reducible apply w_pure (v := .bool _)); exact rfl; exact rfl))
        | ((with_reducible apply g_gd); first
          | ((with_reducible apply w_want); exact rfl))
        | with_reducible refine w_nil ?_
        | ((with_reducible apply w_ret (v := .bool _)); exact rfl))
      exact congrArg Value.bool (beq_iff_eq.2 (by unfold rnd; omega))
theorem proved (x0 : List Int) (x1 : Int) {p q : Prop} (w0 : p) (w1 : q) : Rn Try.prog tab 6 [fz tg x0.length (x0.flatMap (kInt .i64).enc), .int .i64 x1] (fun _ => none) 0 0 (fun v _ _ => v = .bool true) := walk x0 x1 (fun _ => none) 0
end Go.Proofs.Ythfhlfkcphojkaa.L.PlaceFills

