/- PlaceApart: walked. -/
import Derived.Test.Ythfhlfkcphojkaac13F
namespace Go.Proofs.Ythfhlfkcphojkaa.L.PlaceApart
open Go.L1 Go.IntWalk Go.Proofs.Ythfhlfkcphojkaa.L
set_option linter.unusedVariables false
set_option linter.unusedSimpArgs false
set_option maxHeartbeats 4000000
set_option maxRecDepth 20000
def tab : Tb := L.T
theorem tabok : ∀ C : Cx, C.P = Try.prog → TbOk C tab := L.tabok
def mk (x : Int × Int) : Int × Int := (1 + x.1 % 512, 64 * (x.2 % 256))
def Lk (l : List (Int × Int)) (A : List Int) (lo hi : Int) (w : Int × Int) (k : Nat) : Prop := w.2 ≠ 0 ∧ lo ≤ w.2 ∧ w.2 + rnd w.1 ≤ hi ∧ ∀ (j : Nat) (q : Int) (u : Int × Int), j < k → A[j]? = some q → l[j]? = some u → w.2 ≥ q + rnd u.1 ∨ q ≥ w.2 + rnd w.1
theorem Lk.more {l : List (Int × Int)} {A : List Int} {lo hi : Int} {w u : Int × Int} {q : Int} {k : Nat} (h : Lk l A lo hi w k) (hu : l[k]? = some u) (hq : A[k]? = some q) (hc : w.2 ≥ q + rnd u.1 ∨ q ≥ w.2 + rnd w.1) : Lk l A lo hi w (k + 1) := by
  refine ⟨h.1, h.2.1, h.2.2.1, fun j q' u' hj hq' hu' => ?_⟩
  by_cases hjk : j = k
  · subst hjk
    rw [hq] at hq'
    rw [hu] at hu'
    cases hq'
    cases hu'
    exact hc
  · exact h.2.2.2 j q' u' (by omega) hq' hu'
theorem walk (X : List (Int × Int)) (a b : Int) (g : Nat → Option Ob) (n : Nat) : Rn Try.prog T 4 [wv tg X, .agg #[.int .i64 a, .int .i64 b]] g n n (fun v _ _ => v = .bool true) := by
  refine c_open Try.func4 rfl rfl rfl rfl rfl rfl ?_
  repeat' (first
    | ((with_reducible apply g_op); first
      | ((with_reducible apply g_assign); first
        | ((with_reducible apply w_pure (v := .bool _)); exact rfl; exact rfl))
      | ((with_reducible apply g_box); first
        | ((with_reducible apply w_box (vs := [_, _])); exact rfl; exact rfl)))
    | with_reducible refine w_seq ?_
    | with_reducible refine w_nil ?_
    | with_reducible refine w_region ?_)
  refine w_rf awake_run (fun _ => rfl) sn_nil ?_
  rintro _ rfl
  repeat' (first
    | ((with_reducible apply g_op); first
      | ((with_reducible apply g_assign); first
        | ((with_reducible apply w_pure (v := .int _ _)); exact rfl; exact rfl)
        | ((with_reducible apply w_pure (v := .bool _)); exact rfl; exact rfl)
        | ((with_reducible apply w_pure (v := .slice _ _ _)); exact rfl; exact rfl)))
    | with_reducible refine w_seq ?_
    | with_reducible refine w_nil ?_
    | with_reducible refine w_region ?_)
  obtain ⟨G0, hG0⟩ : ∃ G0, G0 = upd g n (some (.cells 32 [.int .i64 a, .int .i64 b])) := ⟨_, rfl⟩
  rw [← hG0]
  have hb0 : G0 n = some (.cells 32 [.int .i64 a, .int .i64 b]) := by rw [hG0]; exact upd_same
  clear hG0
  have hmb : ∀ w ∈ (X.take 12).map mk, 1 ≤ w.1 ∧ w.1 ≤ 512 ∧ 0 ≤ w.2 ∧ w.2 ≤ 16320 ∧ w.2 % 64 = 0 := fun w hw => by
    obtain ⟨x, _, rfl⟩ := List.mem_map.1 hw
    unfold mk
    dsimp only
    omega
  refine w_meetK [(6, 7), (18, 45)] (fun σ g' n' => ∃ o, σ 6 = ov o ((X.take 12).map mk).length ∧ Own g' (n + 1) n' 34 wC o ((X.take 12).map mk) ∧ n + 1 ≤ n' ∧ g' n = some (.cells 32 [.int .i64 a, .int .i64 b])) ?_ ?_
  · intro K Q hK
    repeat' (first
      | with_reducible refine w_block ?_)
    refine w_cntK [(6, 7), (18, 45)] (min X.length 12) (fun i (o : Option Nat) σ g' n' => σ 7 = .int .i64 (i : Nat) ∧ σ 6 = ov o i ∧ Own g' (n + 1) n' 34 wC o ((X.take i).map mk) ∧ n + 1 ≤ n' ∧ g' n = some (.cells 32 [.int .i64 a, .int .i64 b])) ?_ ?_ none ⟨rfl, rfl, Own.nil, Nat.le_refl _, hb0⟩
    · rintro i o σ g2 n2 hi ⟨k7, k6, ho, hn2, hb⟩ ih
      obtain ⟨x, hx⟩ : ∃ x, X[i]? = some x := ⟨_, List.getElem?_eq_getElem (by omega)⟩
      have hlen : ((X.take i).map mk).length = i := by simp; omega
      refine w_keep (i := 7) k7 (w_keep (i := 6) k6 ?_)
      repeat' (first
        | ((with_reducible apply g_op); first
          | ((with_reducible apply g_load); first
            | ((with_reducible apply w_fl (v := .int _ _)); exact rfl; exact (fun _ => rfl); assumption; exact rfl))
          | ((with_reducible apply g_move); first
            | ((with_reducible apply w_pure (v := .int _ _)); exact rfl; exact rfl)
            | ((with_reducible apply w_pure (v := .bool _)); exact rfl; exact rfl)
            | ((with_reducible apply w_pure (v := .func _ _ _)); exact rfl; exact rfl)
            | ((with_reducible apply w_pure (v := ov _ _)); exact rfl; exact rfl))
          | ((with_reducible apply g_bin); first
            | ((with_reducible apply w_and (j := 8) (c1 := 256)); exact rfl; exact rfl; exact rfl; exact rfl; exact rfl; exact (by decide); exact (by decide); exact (by decide))
            | ((with_reducible apply w_and (j := 9) (c1 := 512)); exact rfl; exact rfl; exact rfl; exact rfl; exact rfl; exact (by decide); exact (by decide); exact (by decide))
            | ((with_reducible apply w_wrap); exact rfl; exact rfl; first | exact i64_in _ (by omega) | exact u64_in _ (by omega) | exact u8_in _ (by omega))
            | ((with_reducible apply w_pure (v := .bool _)); exact rfl; exact rfl))
          | ((with_reducible apply g_pick); first
            | ((with_reducible apply w_pk1 (v := .bool _)); exact rfl; exact rfl; (first | assumption | exact decide_eq_true (by assumption) | exact decide_eq_false (by assumption) | exact decide_eq_true (by omega) | exact decide_eq_false (by omega) | exact beq_iff_eq.2 (by omega) | exact beq_eq_false_iff_ne.2 (by omega) | exact bne_iff_ne.2 (by omega) | exact bne_eq_false_iff_eq.2 (by omega))))
          | ((with_reducible apply g_call); first
            | ((with_reducible apply w_call (v := .int _ _)); exact rfl))
          | ((with_reducible apply g_build); first
            | ((with_reducible apply w_pure (v := .agg #[.int _ _, .int _ _])); exact rfl; exact rfl))
          | ((with_reducible apply g_ix); first
            | ((with_reducible apply w_fx (sz := 2)); exact rfl; exact rfl; exact rfl; exact rfl; exact rfl; exact (fun _ => rfl); assumption; exact rfl))
          | ((with_reducible apply w_bsl (ls := [_, _])); exact rfl; exact rfl; exact rfl; exact ⟨by decide, rfl⟩; exact rfl)
          | ((with_reducible apply w_pure (v := .func _ _ _)); exact rfl; exact rfl))
        | ((with_reducible apply g_gd); first
          | ((with_reducible apply w_gd_t); exact rfl; all_goals (intro hc; first | (exfalso; omega) | skip)))
        | with_reducible refine w_seq ?_
        | with_reducible refine w_nil ?_
        | with_reducible refine w_region ?_
        | with_reducible refine w_skip ?_
        | with_reducible refine w_block ?_
        | ((with_reducible apply w_draw); kernel_rfl; kernel_rfl)
        | ((with_reducible apply w_ifd); exact rfl; all_goals (intro hc; first | (exfalso; omega) | skip)))
      refine w_own1 (enc := wC) (y := mk x) (by_ := 16) (sz := 2) (lo := n + 1) (o := o) (xs := (X.take i).map mk) (ho.later (by omega) (fun j h1 h2 => by simp (disch := omega) only [upd_ne])) (by rw [hlen]; rfl) rfl rfl rfl rfl rfl (fun _ => rfl) upd_same rfl rfl rfl (by omega) (by omega) ?_
      intro g4 hg3 hg4 ho3
      repeat' (first
        | ((with_reducible apply g_op); first
          | ((with_reducible apply g_move); first
            | ((with_reducible apply w_pure (v := .int _ _)); exact rfl; exact rfl))
          | ((with_reducible apply g_bin); first
            | ((with_reducible apply w_wrap); exact rfl; exact rfl; first | exact i64_in _ (by omega) | exact u64_in _ (by omega) | exact u8_in _ (by omega)))
          | ((with_reducible apply g_assign); first
            | ((with_reducible apply w_pure (v := .int _ _)); exact rfl; exact rfl)
            | ((with_reducible apply w_pure (v := .slice _ _ _)); exact rfl; exact rfl)))
        | with_reducible refine w_nil ?_
        | with_reducible refine w_region ?_
        | with_reducible refine w_blk ?_)
      refine ih (some (n2 + 1)) _ _ _ (by repeat' (first | with_reducible exact Fr.mix | with_reducible exact Fr.rfl' | with_reducible refine Fr.put ?_ ?_ | with_reducible refine Fr.mix2 ?_ ?_ | with_reducible refine Fr.put0 ?_ | exact rfl)) ⟨by exact rfl, ?_, ?_, by omega, ?_⟩
      · show ov (some (n2 + 1)) ((X.take i).map mk ++ [mk x]).length = ov (some (n2 + 1)) (i + 1)
        rw [List.length_append, hlen]
        rfl
      · rw [List.take_add_one, hx, List.map_append]; exact ho3
      · rw [hg3 n (by omega) (fun e => by subst e; have := ho.2.1; omega)]
        simp (disch := omega) only [upd_ne]
        exact hb
    · rintro o σ g2 n2 ⟨k7, k6, ho, hn2, hb⟩
      have hm : (X.take (min X.length 12)).map mk = (X.take 12).map mk := by
        by_cases h : X.length ≤ 12
        · rw [Nat.min_eq_left h, List.take_length, List.take_of_length_le h]
        · rw [Nat.min_eq_right (by omega)]
      rw [hm] at ho
      have hml : ((X.take 12).map mk).length = min X.length 12 := by simp; omega
      refine w_keep (i := 7) k7 (w_keep (i := 6) k6 ?_)
      repeat' (first
        | ((with_reducible apply g_op); first
          | ((with_reducible apply g_move); first
            | ((with_reducible apply w_pure (v := .int _ _)); exact rfl; exact rfl)
            | ((with_reducible apply w_pure (v := .bool _)); exact rfl; exact rfl)
            | ((with_reducible apply w_pure (v := .func _ _ _)); exact rfl; exact rfl))
          | ((with_reducible apply g_bin); first
            | ((with_reducible apply w_pure (v := .bool _)); exact rfl; exact rfl))
          | ((with_reducible apply g_pick); first
            | ((with_reducible apply w_pk1 (v := .bool _)); exact rfl; exact rfl; (first | assumption | exact decide_eq_true (by assumption) | exact decide_eq_false (by assumption) | exact decide_eq_true (by omega) | exact decide_eq_false (by omega) | exact beq_iff_eq.2 (by omega) | exact beq_eq_false_iff_ne.2 (by omega) | exact bne_iff_ne.2 (by omega) | exact bne_eq_false_iff_eq.2 (by omega)))
            | ((with_reducible apply w_pk0 (v := .bool _)); exact rfl; exact rfl; (first | assumption | exact decide_eq_true (by assumption) | exact decide_eq_false (by assumption) | exact decide_eq_true (by omega) | exact decide_eq_false (by omega) | exact beq_iff_eq.2 (by omega) | exact beq_eq_false_iff_ne.2 (by omega) | exact bne_iff_ne.2 (by omega) | exact bne_eq_false_iff_eq.2 (by omega))))
          | ((with_reducible apply g_call); first
            | ((with_reducible apply w_call (v := .int _ _)); exact rfl)))
        | ((with_reducible apply g_gd); first
          | ((with_reducible apply w_gd_t); exact rfl; all_goals (intro hc; first | (exfalso; omega) | skip)))
        | with_reducible refine w_seq ?_
        | with_reducible refine w_nil ?_
        | with_reducible refine w_region ?_
        | ((with_reducible apply w_exit); exact rfl)
        | ((with_reducible apply w_no); exact rfl)
        | ((with_reducible apply w_ifd); exact rfl; all_goals (intro hc; first | (exfalso; omega) | skip)))
      all_goals exact hK _ _ _ (by repeat' (first | with_reducible exact Fr.mix | with_reducible exact Fr.rfl' | with_reducible refine Fr.put ?_ ?_ | with_reducible refine Fr.mix2 ?_ ?_ | with_reducible refine Fr.put0 ?_ | exact rfl)) ⟨o, by rw [hml]; rfl, ho, hn2, hb⟩
  · rintro σ g2 n2 ⟨o, k6, ho, hn2, hb⟩
    have hll : ((X.take 12).map mk).length ≤ 12 := by simp; omega
    generalize (X.take 12).map mk = l at *
    obtain ⟨lo, hlo⟩ : ∃ lo, lo = 64 * (a % 64) := ⟨_, rfl⟩
    obtain ⟨hi, hhi⟩ : ∃ hi, hi = lo + 64 * (b % 128) := ⟨_, rfl⟩
    have hrm : roomS lo hi = true := roomS_iff.2 (by omega)
    have hbad : l.any badB = false := List.any_eq_false.2 fun w hw => by have := hmb w hw; simp [badB]; omega
    have hlo1 : 0 ≤ lo ∧ lo ≤ 10000 := by omega
    have hhi1 : 0 ≤ hi ∧ hi ≤ 20000 := by omega
    have hfz : L1.freeze Try.prog g2 tg 0 9 (ov o l.length) = some (wv tg l) := ho.fz (by omega) rfl (by decide) (fun _ => rfl) (sn_plains (wplains _))
    obtain ⟨V, hV, hVc⟩ : ∃ V, V = ov o l.length ∧ (l ≠ [] → ∃ ra, V = .slice ra l.length l.length ∧ Row g2 ra 34 (l.flatMap wC)) := by
      cases o with
      | none => exact ⟨_, rfl, fun h => absurd ho h⟩
      | some oi => exact ⟨_, rfl, fun _ => ⟨_, rfl, own_row ho⟩⟩
    rw [← hV] at k6 hfz
    clear ho
    by_cases hl0 : l = []
    · subst hl0
      have hVn : V = .slice none 0 0 ∨ ∃ i, V = slc i 0 0 := by
        subst hV
        cases o with
        | none => exact .inl rfl
        | some oi => exact .inr ⟨oi, rfl⟩
      have e0 : allS [] lo hi = ([], 0) := by unfold allS; rw [if_neg (by simp [hrm])]; rfl
      rcases hVn with rfl | ⟨oi, rfl⟩ <;> (
        refine w_keep (i := 6) k6 ?_
        repeat' (first
          | ((with_reducible apply g_op); first
            | ((with_reducible apply g_load); first
              | ((with_reducible apply w_load (v := .int _ _)); exact rfl; (first | assumption | (simp (disch := omega) only [upd_same, upd_ne]; first | done | assumption | exact rfl) | exact rfl); exact rfl))
            | ((with_reducible apply g_move); first
              | ((with_reducible apply w_pure (v := .int _ _)); exact rfl; exact rfl)
              | ((with_reducible apply w_pure (v := .slice _ _ _)); exact rfl; exact rfl))
            | ((with_reducible apply g_bin); first
              | ((with_reducible apply w_and (j := 6) (c1 := 64)); exact rfl; exact rfl; exact rfl; exact rfl; exact rfl; exact (by decide); exact (by decide); exact (by decide))
              | ((with_reducible apply w_and (j := 7) (c1 := 128)); exact rfl; exact rfl; exact rfl; exact rfl; exact rfl; exact (by decide); exact (by decide); exact (by decide))
              | ((with_reducible apply w_wrap); exact rfl; exact rfl; first | exact i64_in _ (by omega) | exact u64_in _ (by omega) | exact u8_in _ (by omega)))
            | ((with_reducible apply g_assign); first
              | ((with_reducible apply w_pure (v := .int _ _)); exact rfl; exact rfl))
            | ((with_reducible apply w_pure (v := .pointer _)); exact rfl; exact rfl))
          | with_reducible refine w_seq ?_
          | with_reducible refine w_nil ?_
          | with_reducible refine w_region ?_)
        rw [← hlo, ← hhi]
        refine w_rf (all_run [] lo hi (by simp)) (fun _ => rfl) (sn_cons hfz (sn_cons (sn_plain rfl) (sn_cons (sn_plain rfl) sn_nil))) ?_
        rintro _ rfl
        rw [e0]
        repeat' (first
          | ((with_reducible apply g_op); first
            | ((with_reducible apply g_move); first
              | ((with_reducible apply w_pure (v := .int _ _)); exact rfl; exact rfl)
              | ((with_reducible apply w_pure (v := .slice _ _ _)); exact rfl; exact rfl)
              | ((with_reducible apply w_pure (v := .tuple _)); exact rfl; exact rfl)
              | ((with_reducible apply w_pure (v := .func _ _ _)); exact rfl; exact rfl))
            | ((with_reducible apply g_bin); first
              | ((with_reducible apply w_pure (v := .bool _)); exact rfl; exact rfl))
            | ((with_reducible apply g_assign); first
              | ((with_reducible apply w_pure (v := .int _ _)); exact rfl; exact rfl)
              | ((with_reducible apply w_pure (v := .func _ _ _)); exact rfl; exact rfl))
            | ((with_reducible apply g_call); first
              | ((with_reducible apply w_call (v := .int _ _)); exact rfl))
            | ((with_reducible apply w_pure (v := .int _ _)); exact rfl; exact rfl)
            | ((with_reducible apply w_pure (v := .func _ _ _)); exact rfl; exact rfl))
          | with_reducible refine w_seq ?_
          | with_reducible refine w_nil ?_
          | with_reducible refine w_region ?_
          | with_reducible refine w_skip ?_
          | with_reducible refine w_block ?_
          | ((with_reducible apply w_no); exact rfl))
        refine w_cntK [(4, 4), (12, 16), (85, 227)] 0 (fun i (_ : Unit) σ g' n' => σ 12 = .int .i64 (i : Nat)) ?_ ?_ () rfl
        · intro i _ _ _ _ hi
          omega
        · rintro _ σ g3 n3 k12
          refine w_keep (i := 12) k12 ?_
          repeat' (first
            | ((with_reducible apply g_op); first
              | ((with_reducible apply g_move); first
                | ((with_reducible apply w_pure (v := .int _ _)); exact rfl; exact rfl)
                | ((with_reducible apply w_pure (v := .bool _)); exact rfl; exact rfl)
                | ((with_reducible apply w_pure (v := .func _ _ _)); exact rfl; exact rfl))
              | ((with_reducible apply g_bin); first
                | ((with_reducible apply w_pure (v := .bool _)); exact rfl; exact rfl))
              | ((with_reducible apply g_assign); first
                | ((with_reducible apply w_pure (v := .bool _)); exact rfl; exact rfl))
              | ((with_reducible apply g_call); first
                | ((with_reducible apply w_call (v := .int _ _)); exact rfl)))
            | with_reducible refine w_seq ?_
            | with_reducible refine w_nil ?_
            | with_reducible refine w_region ?_
            | ((with_reducible apply w_exit); exact rfl)
            | ((with_reducible apply w_no); exact rfl)
            | ((with_reducible apply w_ret (v := .bool _)); exact rfl))
          all_goals rfl)
    · obtain ⟨ra, rfl, hrow⟩ := hVc hl0
      clear hV
      refine w_keep (i := 6) k6 ?_
      repeat' (first
        | ((with_reducible apply g_op); first
          | ((with_reducible apply g_load); first
            | ((with_reducible apply w_load (v := .int _ _)); exact rfl; (first | assumption | (simp (disch := omega) only [upd_same, upd_ne]; first | done | assumption | exact rfl) | exact rfl); exact rfl))
          | ((with_reducible apply g_move); first
            | ((with_reducible apply w_pure (v := .int _ _)); exact rfl; exact rfl)
            | ((with_reducible apply w_pure (v := .slice _ _ _)); exact rfl; exact rfl))
          | ((with_reducible apply g_bin); first
            | ((with_reducible apply w_and (j := 6) (c1 := 64)); exact rfl; exact rfl; exact rfl; exact rfl; exact rfl; exact (by decide); exact (by decide); exact (by decide))
            | ((with_reducible apply w_and (j := 7) (c1 := 128)); exact rfl; exact rfl; exact rfl; exact rfl; exact rfl; exact (by decide); exact (by decide); exact (by decide))
            | ((with_reducible apply w_wrap); exact rfl; exact rfl; first | exact i64_in _ (by omega) | exact u64_in _ (by omega) | exact u8_in _ (by omega)))
          | ((with_reducible apply g_assign); first
            | ((with_reducible apply w_pure (v := .int _ _)); exact rfl; exact rfl))
          | ((with_reducible apply w_pure (v := .pointer _)); exact rfl; exact rfl))
        | with_reducible refine w_seq ?_
        | with_reducible refine w_nil ?_
        | with_reducible refine w_region ?_)
      rw [← hlo, ← hhi]
      refine w_rf (all_run l lo hi (by omega)) (fun _ => rfl) (sn_cons hfz (sn_cons (sn_plain rfl) (sn_cons (sn_plain rfl) sn_nil))) ?_
      rintro _ rfl
      clear hlo hhi hb0 hb hfz
      rcases allS_ok hrm hbad with ⟨e1, e2, e3⟩ | ⟨e1, e2, _⟩
      · rw [e1]
        clear e1
        generalize (allS l lo hi).1 = A1 at *
        repeat' (first
          | ((with_reducible apply g_op); first
            | ((with_reducible apply g_move); first
              | ((with_reducible apply w_pure (v := .int _ _)); exact rfl; exact rfl)
              | ((with_reducible apply w_pure (v := .slice _ _ _)); exact rfl; exact rfl)
              | ((with_reducible apply w_pure (v := .tuple _)); exact rfl; exact rfl)
              | ((with_reducible apply w_pure (v := .func _ _ _)); exact rfl; exact rfl))
            | ((with_reducible apply g_bin); first
              | ((with_reducible apply w_pure (v := .bool _)); exact rfl; exact rfl))
            | ((with_reducible apply g_assign); first
              | ((with_reducible apply w_pure (v := .int _ _)); exact rfl; exact rfl)
              | ((with_reducible apply w_pure (v := .func _ _ _)); exact rfl; exact rfl))
            | ((with_reducible apply g_call); first
              | ((with_reducible apply w_call (v := .int _ _)); exact rfl))
            | ((with_reducible apply w_pure (v := .int _ _)); exact rfl; exact rfl)
            | ((with_reducible apply w_pure (v := .func _ _ _)); exact rfl; exact rfl))
          | with_reducible refine w_seq ?_
          | with_reducible refine w_nil ?_
          | with_reducible refine w_region ?_
          | with_reducible refine w_skip ?_
          | with_reducible refine w_block ?_
          | ((with_reducible apply w_no); exact rfl)
          | ((with_reducible apply w_ifn); exact rfl; all_goals (intro hc; first | (exfalso; omega) | skip)))
        all_goals first
          | (exfalso; omega)
          | skip
        refine w_cntK [(4, 4), (12, 16), (85, 227)] A1.length (fun i (_ : Unit) σ g' n' => σ 12 = .int .i64 (i : Nat) ∧ g' = g2 ∧ n' = n2) ?_ ?_ () ⟨rfl, rfl, rfl⟩
        · rintro i _ σ g2 n2 hi' ⟨k12, rfl, rfl⟩ ih
          obtain ⟨w, hw⟩ : ∃ w, l[i]? = some w := ⟨_, List.getElem?_eq_getElem (by omega)⟩
          obtain ⟨p, hp⟩ : ∃ p, A1[i]? = some p := ⟨_, List.getElem?_eq_getElem hi'⟩
          obtain ⟨m1, m2, m3, m4, m5⟩ := hmb w (List.mem_of_getElem? hw)
          obtain ⟨p1, p2, p3, _⟩ := e3 i w p hw hp
          obtain ⟨f1, f2, f3, f4⟩ := fits_iff.1 p2
          have hrw := rnd_eq m1 (by omega)
          refine w_keep (i := 12) k12 ?_
          repeat' (first
            | ((with_reducible apply g_op); first
              | ((with_reducible apply g_load); first
                | ((with_reducible apply w_ld (v := .int _ _)); exact rfl; assumption; exact (fun _ => rfl); assumption; exact (by decide); exact rfl)
                | ((with_reducible apply w_fl (v := .int _ _)); exact rfl; exact (fun _ => rfl); assumption; exact rfl))
              | ((with_reducible apply g_move); first
                | ((with_reducible apply w_pure (v := .int _ _)); exact rfl; exact rfl)
                | ((with_reducible apply w_pure (v := .bool _)); exact rfl; exact rfl)
                | ((with_reducible apply w_pure (v := .slice _ _ _)); exact rfl; exact rfl)
                | ((with_reducible apply w_pure (v := .func _ _ _)); exact rfl; exact rfl))
              | ((with_reducible apply g_bin); first
                | ((with_reducible apply w_mod); exact rfl; exact rfl; exact rfl; exact rfl; exact rfl; omega; omega)
                | ((with_reducible apply w_div); exact rfl; exact rfl; exact rfl; exact rfl; exact rfl; omega; omega; omega)
                | ((with_reducible apply w_wrap); exact rfl; exact rfl; first | exact i64_in _ (by omega) | exact u64_in _ (by omega) | exact u8_in _ (by omega))
                | ((with_reducible apply w_pure (v := .bool _)); exact rfl; exact rfl))
              | ((with_reducible apply g_fld); first
                | ((with_reducible apply w_fld); exact rfl; exact rfl; exact rfl; exact (by decide); assumption; exact (fun _ => rfl); exact (by decide); assumption))
              | ((with_reducible apply g_pick); first
                | ((with_reducible apply w_pk1 (v := .bool _)); exact rfl; exact rfl; (first | assumption | exact decide_eq_true (by assumption) | exact decide_eq_false (by assumption) | exact decide_eq_true (by omega) | exact decide_eq_false (by omega) | exact beq_iff_eq.2 (by omega) | exact beq_eq_false_iff_ne.2 (by omega) | exact bne_iff_ne.2 (by omega) | exact bne_eq_false_iff_eq.2 (by omega)))
                | ((with_reducible apply w_pk0 (v := .bool _)); exact rfl; exact rfl; (first | assumption | exact decide_eq_true (by assumption) | exact decide_eq_false (by assumption) | exact decide_eq_true (by omega) | exact decide_eq_false (by omega) | exact beq_iff_eq.2 (by omega) | exact beq_eq_false_iff_ne.2 (by omega) | exact bne_iff_ne.2 (by omega) | exact bne_eq_false_iff_eq.2 (by omega))))
              | ((with_reducible apply g_assign); first
                | ((with_reducible apply w_pure (v := .int _ _)); exact rfl; exact rfl)
                | ((with_reducible apply w_pure (v := .bool _)); exact rfl; exact rfl))
              | ((with_reducible apply g_call); first
                | ((with_reducible apply w_call (v := .int _ _)); exact rfl))
              | ((with_reducible apply g_ix); first
                | ((with_reducible apply w_ix (sz := 2)); exact rfl; exact rfl; exact rfl; exact rfl; exact (by decide); exact rfl; assumption; exact (fun _ => rfl); assumption; omega)
                | ((with_reducible apply w_fx (sz := 1)); exact rfl; exact rfl; exact rfl; exact rfl; exact rfl; exact (fun _ => rfl); assumption; exact rfl))
              | ((with_reducible apply w_pure (v := .bool _)); exact rfl; exact rfl))
            | ((with_reducible apply g_gd); first
              | ((with_reducible apply w_pass); exact rfl)
              | ((with_reducible apply w_gd_t); exact rfl; all_goals (intro hc; first | (exfalso; omega) | skip))
              | ((with_reducible apply w_gd_f); exact rfl; all_goals (intro hc; first | (exfalso; omega) | skip))
              | ((with_reducible apply w_gn_t); exact rfl; all_goals (intro hc; first | (exfalso; omega) | skip))
              | ((with_reducible apply w_gn_f); exact rfl; all_goals (intro hc; first | (exfalso; omega) | skip)))
            | with_reducible refine w_seq ?_
            | with_reducible refine w_nil ?_
            | with_reducible refine w_region ?_
            | with_reducible refine w_skip ?_
            | with_reducible refine w_block ?_
            | ((with_reducible apply w_ifd); exact rfl; all_goals (intro hc; first | (exfalso; omega) | skip)))
          all_goals (
            refine w_cntK [(4, 4), (14, 16), (149, 214)] i (fun k (bb : Bool) σ g' n' => σ 15 = .int .i64 (k : Nat) ∧ σ 14 = .bool bb ∧ (bb = true → Lk l A1 lo hi w k) ∧ g' = g2 ∧ n' = n2) ?_ ?_ _ ⟨rfl, rfl, ?_, rfl, rfl⟩
            case refine_3 =>
              first
                | (intro h; cases h; done)
                | (intro h; have h9 := of_decide_eq_true h; exact ⟨by omega, by omega, by omega, fun j q u hj => by omega⟩)
            · rintro k bb σ g2 n2 hk ⟨k15, k14, hlk, rfl, rfl⟩ ih2
              obtain ⟨u, hu⟩ : ∃ u, l[k]? = some u := ⟨_, List.getElem?_eq_getElem (by omega)⟩
              obtain ⟨q, hq⟩ : ∃ q, A1[k]? = some q := ⟨_, List.getElem?_eq_getElem (by omega)⟩
              obtain ⟨u1, u2, u3, u4, u5⟩ := hmb u (List.mem_of_getElem? hu)
              have hru := rnd_eq u1 (by omega)
              have hm := (meet_false (rnd_pos u1) (rnd_pos m1)).1 (f4 k q u (by rw [List.getElem?_take, if_pos hk]; exact hq) hu)
              have hqr : 0 ≤ q ∧ q ≤ 20000 := by
                obtain ⟨_, z2, _⟩ := e3 k u q hu hq
                obtain ⟨z3, z4, _⟩ := fits_iff.1 z2
                omega
              refine w_keep (i := 15) k15 (w_keep (i := 14) k14 ?_)
              cases bb with
              | false =>
                repeat' (first
                  | ((with_reducible apply g_op); first
                    | ((with_reducible apply g_load); first
                      | ((with_reducible apply w_ld (v := .int _ _)); exact rfl; assumption; exact (fun _ => rfl); assumption; exact (by decide); exact rfl)
                      | ((with_reducible apply w_fl (v := .int _ _)); exact rfl; exact (fun _ => rfl); assumption; exact rfl))
                    | ((with_reducible apply g_move); first
                      | ((with_reducible apply w_pure (v := .int _ _)); exact rfl; exact rfl)
                      | ((with_reducible apply w_pure (v := .bool _)); exact rfl; exact rfl)
                      | ((with_reducible apply w_pure (v := .slice _ _ _)); exact rfl; exact rfl)
                      | ((with_reducible apply w_pure (v := .func _ _ _)); exact rfl; exact rfl))
                    | ((with_reducible apply g_bin); first
                      | ((with_reducible apply w_div); exact rfl; exact rfl; exact rfl; exact rfl; exact rfl; omega; omega; omega)
                      | ((with_reducible apply w_wrap); exact rfl; exact rfl; first | exact i64_in _ (by omega) | exact u64_in _ (by omega) | exact u8_in _ (by omega))
                      | ((with_reducible apply w_pure (v := .bool _)); exact rfl; exact rfl))
                    | ((with_reducible apply g_fld); first
                      | ((with_reducible apply w_fld); exact rfl; exact rfl; exact rfl; exact (by decide); assumption; exact (fun _ => rfl); exact (by decide); assumption))
                    | ((with_reducible apply g_pick); first
                      | ((with_reducible apply w_pk1 (v := .bool _)); exact rfl; exact rfl; (first | assumption | exact decide_eq_true (by assumption) | exact decide_eq_false (by assumption) | exact decide_eq_true (by omega) | exact decide_eq_false (by omega) | exact beq_iff_eq.2 (by omega) | exact beq_eq_false_iff_ne.2 (by omega) | exact bne_iff_ne.2 (by omega) | exact bne_eq_false_iff_eq.2 (by omega)))
                      | ((with_reducible apply w_pk0 (v := .bool _)); exact rfl; exact rfl; (first | assumption | exact decide_eq_true (by assumption) | exact decide_eq_false (by assumption) | exact decide_eq_true (by omega) | exact decide_eq_false (by omega) | exact beq_iff_eq.2 (by omega) | exact beq_eq_false_iff_ne.2 (by omega) | exact bne_iff_ne.2 (by omega) | exact bne_eq_false_iff_eq.2 (by omega))))
                    | ((with_reducible apply g_assign); first
                      | ((with_reducible apply w_pure (v := .int _ _)); exact rfl; exact rfl)
                      | ((with_reducible apply w_pure (v := .bool _)); exact rfl; exact rfl))
                    | ((with_reducible apply g_ix); first
                      | ((with_reducible apply w_ix (sz := 2)); exact rfl; exact rfl; exact rfl; exact rfl; exact (by decide); exact rfl; assumption; exact (fun _ => rfl); assumption; omega)
                      | ((with_reducible apply w_fx (sz := 1)); exact rfl; exact rfl; exact rfl; exact rfl; exact rfl; exact (fun _ => rfl); assumption; exact rfl))
                    | ((with_reducible apply w_pure (v := .bool _)); exact rfl; exact rfl))
                  | ((with_reducible apply g_gd); first
                    | ((with_reducible apply w_pass); exact rfl)
                    | ((with_reducible apply w_psn); exact rfl)
                    | ((with_reducible apply w_gd_t); exact rfl; all_goals (intro hc; first | (exfalso; omega) | skip)))
                  | with_reducible refine w_seq ?_
                  | with_reducible refine w_nil ?_
                  | with_reducible refine w_region ?_
                  | with_reducible refine w_skip ?_
                  | with_reducible refine w_block ?_
                  | with_reducible refine w_blk ?_
                  | ((with_reducible apply w_draw); kernel_rfl; kernel_rfl)
                  | ((with_reducible apply w_no); exact rfl)
                  | ((with_reducible apply w_ifd); exact rfl; all_goals (intro hc; first | (exfalso; omega) | skip)))
                all_goals exact ih2 _ _ _ _ (by repeat' (first | with_reducible exact Fr.mix | with_reducible exact Fr.rfl' | with_reducible refine Fr.put ?_ ?_ | with_reducible refine Fr.mix2 ?_ ?_ | with_reducible refine Fr.put0 ?_ | exact rfl)) ⟨rfl, rfl, fun h => (by cases h), rfl, rfl⟩
              | true =>
                have hlk' := hlk rfl
                repeat' (first
                  | ((with_reducible apply g_op); first
                    | ((with_reducible apply g_load); first
                      | ((with_reducible apply w_ld (v := .int _ _)); exact rfl; assumption; exact (fun _ => rfl); assumption; exact (by decide); exact rfl)
                      | ((with_reducible apply w_fl (v := .int _ _)); exact rfl; exact (fun _ => rfl); assumption; exact rfl))
                    | ((with_reducible apply g_move); first
                      | ((with_reducible apply w_pure (v := .int _ _)); exact rfl; exact rfl)
                      | ((with_reducible apply w_pure (v := .bool _)); exact rfl; exact rfl)
                      | ((with_reducible apply w_pure (v := .slice _ _ _)); exact rfl; exact rfl)
                      | ((with_reducible apply w_pure (v := .func _ _ _)); exact rfl; exact rfl))
                    | ((with_reducible apply g_bin); first
                      | ((with_reducible apply w_div); exact rfl; exact rfl; exact rfl; exact rfl; exact rfl; omega; omega; omega)
                      | ((with_reducible apply w_wrap); exact rfl; exact rfl; first | exact i64_in _ (by omega) | exact u64_in _ (by omega) | exact u8_in _ (by omega))
                      | ((with_reducible apply w_pure (v := .bool _)); exact rfl; exact rfl))
                    | ((with_reducible apply g_fld); first
                      | ((with_reducible apply w_fld); exact rfl; exact rfl; exact rfl; exact (by decide); assumption; exact (fun _ => rfl); exact (by decide); assumption))
                    | ((with_reducible apply g_pick); first
                      | ((with_reducible apply w_pk1 (v := .bool _)); exact rfl; exact rfl; (first | assumption | exact decide_eq_true (by assumption) | exact decide_eq_false (by assumption) | exact decide_eq_true (by omega) | exact decide_eq_false (by omega) | exact beq_iff_eq.2 (by omega) | exact beq_eq_false_iff_ne.2 (by omega) | exact bne_iff_ne.2 (by omega) | exact bne_eq_false_iff_eq.2 (by omega)))
                      | ((with_reducible apply w_pk0 (v := .bool _)); exact rfl; exact rfl; (first | assumption | exact decide_eq_true (by assumption) | exact decide_eq_false (by assumption) | exact decide_eq_true (by omega) | exact decide_eq_false (by omega) | exact beq_iff_eq.2 (by omega) | exact beq_eq_false_iff_ne.2 (by omega) | exact bne_iff_ne.2 (by omega) | exact bne_eq_false_iff_eq.2 (by omega))))
                    | ((with_reducible apply g_assign); first
                      | ((with_reducible apply w_pure (v := .int _ _)); exact rfl; exact rfl)
                      | ((with_reducible apply w_pure (v := .bool _)); exact rfl; exact rfl))
                    | ((with_reducible apply g_ix); first
                      | ((with_reducible apply w_ix (sz := 2)); exact rfl; exact rfl; exact rfl; exact rfl; exact (by decide); exact rfl; assumption; exact (fun _ => rfl); assumption; omega)
                      | ((with_reducible apply w_fx (sz := 1)); exact rfl; exact rfl; exact rfl; exact rfl; exact rfl; exact (fun _ => rfl); assumption; exact rfl))
                    | ((with_reducible apply w_pure (v := .bool _)); exact rfl; exact rfl))
                  | ((with_reducible apply g_gd); first
                    | ((with_reducible apply w_want); exact rfl)
                    | ((with_reducible apply w_gd_t); exact rfl; all_goals (intro hc; first | (exfalso; omega) | skip))
                    | ((with_reducible apply w_gd_f); exact rfl; all_goals (intro hc; first | (exfalso; omega) | skip)))
                  | with_reducible refine w_seq ?_
                  | with_reducible refine w_nil ?_
                  | with_reducible refine w_region ?_
                  | with_reducible refine w_skip ?_
                  | with_reducible refine w_block ?_
                  | with_reducible refine w_blk ?_
                  | ((with_reducible apply w_draw); kernel_rfl; kernel_rfl)
                  | ((with_reducible apply w_no); exact rfl)
                  | ((with_reducible apply w_ifd); exact rfl; all_goals (intro hc; first | (exfalso; omega) | skip)))
                all_goals exact ih2 _ _ _ _ (by repeat' (first | with_reducible exact Fr.mix | with_reducible exact Fr.rfl' | with_reducible refine Fr.put ?_ ?_ | with_reducible refine Fr.mix2 ?_ ?_ | with_reducible refine Fr.put0 ?_ | exact rfl)) ⟨rfl, rfl, fun h => (by first | exact hlk'.more hu hq (by omega) | (cases h; done) | (have h9 := of_decide_eq_true h; exact hlk'.more hu hq (by omega))), rfl, rfl⟩
            · rintro bb σ g2 n2 ⟨k15, k14, hlk, rfl, rfl⟩
              refine w_keep (i := 15) k15 (w_keep (i := 14) k14 ?_)
              cases bb with
              | false =>
                repeat' (first
                  | ((with_reducible apply g_op); first
                    | ((with_reducible apply g_move); first
                      | ((with_reducible apply w_pure (v := .int _ _)); exact rfl; exact rfl)
                      | ((with_reducible apply w_pure (v := .bool _)); exact rfl; exact rfl))
                    | ((with_reducible apply g_bin); first
                      | ((with_reducible apply w_wrap); exact rfl; exact rfl; first | exact i64_in _ (by omega) | exact u64_in _ (by omega) | exact u8_in _ (by omega))
                      | ((with_reducible apply w_pure (v := .bool _)); exact rfl; exact rfl))
                    | ((with_reducible apply g_assign); first
                      | ((with_reducible apply w_pure (v := .int _ _)); exact rfl; exact rfl))
                    | ((with_reducible apply w_pure (v := .bool _)); exact rfl; exact rfl))
                  | ((with_reducible apply g_gd); first
                    | ((with_reducible apply w_pass); exact rfl))
                  | with_reducible refine w_seq ?_
                  | with_reducible refine w_nil ?_
                  | with_reducible refine w_region ?_
                  | with_reducible refine w_skip ?_
                  | with_reducible refine w_blk ?_
                  | ((with_reducible apply w_draw); kernel_rfl; kernel_rfl)
                  | ((with_reducible apply w_exit); exact rfl)
                  | ((with_reducible apply w_no); exact rfl)
                  | ((with_reducible apply w_ifd); exact rfl; all_goals (intro hc; first | (exfalso; omega) | skip)))
                exact ih () _ _ _ (by repeat' (first | with_reducible exact Fr.mix | with_reducible exact Fr.rfl' | with_reducible refine Fr.put ?_ ?_ | with_reducible refine Fr.mix2 ?_ ?_ | with_reducible refine Fr.put0 ?_ | exact rfl)) ⟨rfl, rfl, rfl⟩
              | true =>
                have hps : p = w.2 := by
                  have hl' := hlk rfl
                  refine p3 hl'.1 m5 (fits_iff.2 ⟨by have := hl'.2.1; omega, by have := hl'.2.2.1; omega, by have := hl'.2.2.1; omega, fun k q u hq hu => ?_⟩)
                  rw [List.getElem?_take] at hq
                  split at hq
                  · rename_i hk
                    obtain ⟨u1, _⟩ := hmb u (List.mem_of_getElem? hu)
                    refine (meet_false (rnd_pos u1) (rnd_pos m1)).2 ?_
                    have := hl'.2.2.2 k q u hk hq hu
                    omega
                  · cases hq
                subst hps
                repeat' (first
                  | ((with_reducible apply g_op); first
                    | ((with_reducible apply g_load); first
                      | ((with_reducible apply w_ld (v := .int _ _)); exact rfl; assumption; exact (fun _ => rfl); assumption; exact (by decide); exact rfl)
                      | ((with_reducible apply w_fl (v := .int _ _)); exact rfl; exact (fun _ => rfl); assumption; exact rfl))
                    | ((with_reducible apply g_move); first
                      | ((with_reducible apply w_pure (v := .int _ _)); exact rfl; exact rfl)
                      | ((with_reducible apply w_pure (v := .bool _)); exact rfl; exact rfl)
                      | ((with_reducible apply w_pure (v := .slice _ _ _)); exact rfl; exact rfl)
                      | ((with_reducible apply w_pure (v := .func _ _ _)); exact rfl; exact rfl))
                    | ((with_reducible apply g_bin); first
                      | ((with_reducible apply w_wrap); exact rfl; exact rfl; first | exact i64_in _ (by omega) | exact u64_in _ (by omega) | exact u8_in _ (by omega))
                      | ((with_reducible apply w_pure (v := .bool _)); exact rfl; exact rfl))
                    | ((with_reducible apply g_fld); first
                      | ((with_reducible apply w_fld); exact rfl; exact rfl; exact rfl; exact (by decide); assumption; exact (fun _ => rfl); exact (by decide); assumption))
                    | ((with_reducible apply g_assign); first
                      | ((with_reducible apply w_pure (v := .int _ _)); exact rfl; exact rfl))
                    | ((with_reducible apply g_ix); first
                      | ((with_reducible apply w_ix (sz := 2)); exact rfl; exact rfl; exact rfl; exact rfl; exact (by decide); exact rfl; assumption; exact (fun _ => rfl); assumption; omega)
                      | ((with_reducible apply w_fx (sz := 1)); exact rfl; exact rfl; exact rfl; exact rfl; exact rfl; exact (fun _ => rfl); assumption; exact rfl))
                    | ((with_reducible apply w_pure (v := .bool _)); exact rfl; exact rfl))
                  | ((with_reducible apply g_gd); first
                    | ((with_reducible apply w_want); exact rfl))
                  | with_reducible refine w_seq ?_
                  | with_reducible refine w_nil ?_
                  | with_reducible refine w_region ?_
                  | with_reducible refine w_skip ?_
                  | with_reducible refine w_blk ?_
                  | ((with_reducible apply w_draw); kernel_rfl; kernel_rfl)
                  | ((with_reducible apply w_exit); exact rfl)
                  | ((with_reducible apply w_ifd); exact rfl; all_goals (intro hc; first | (exfalso; omega) | skip))
                  | ((with_reducible apply w_ifn); exact rfl; all_goals (intro hc; first | (exfalso; omega) | skip)))
                all_goals first | (exact absurd rfl (by assumption)) | exact ih () _ _ _ (by repeat' (first | with_reducible exact Fr.mix | with_reducible exact Fr.rfl' | with_reducible refine Fr.put ?_ ?_ | with_reducible refine Fr.mix2 ?_ ?_ | with_reducible refine Fr.put0 ?_ | exact rfl)) ⟨rfl, rfl, rfl⟩)
        · rintro _ σ g2 n2 ⟨k12, rfl, rfl⟩
          refine w_keep (i := 12) k12 ?_
          repeat' (first
            | ((with_reducible apply g_op); first
              | ((with_reducible apply g_move); first
                | ((with_reducible apply w_pure (v := .int _ _)); exact rfl; exact rfl)
                | ((with_reducible apply w_pure (v := .bool _)); exact rfl; exact rfl)
                | ((with_reducible apply w_pure (v := .func _ _ _)); exact rfl; exact rfl))
              | ((with_reducible apply g_bin); first
                | ((with_reducible apply w_pure (v := .bool _)); exact rfl; exact rfl))
              | ((with_reducible apply g_assign); first
                | ((with_reducible apply w_pure (v := .bool _)); exact rfl; exact rfl))
              | ((with_reducible apply g_call); first
                | ((with_reducible apply w_call (v := .int _ _)); exact rfl)))
            | with_reducible refine w_seq ?_
            | with_reducible refine w_nil ?_
            | with_reducible refine w_region ?_
            | ((with_reducible apply w_exit); exact rfl)
            | ((with_reducible apply w_ifd); exact rfl; all_goals (intro hc; first | (exfalso; omega) | skip))
            | ((with_reducible apply w_ret (v := .bool _)); exact rfl))
          all_goals rfl
      · rw [e1]
        repeat' (first
          | ((with_reducible apply g_op); first
            | ((with_reducible apply g_move); first
              | ((with_reducible apply w_pure (v := .int _ _)); exact rfl; exact rfl)
              | ((with_reducible apply w_pure (v := .bool _)); exact rfl; exact rfl)
              | ((with_reducible apply w_pure (v := .slice _ _ _)); exact rfl; exact rfl)
              | ((with_reducible apply w_pure (v := .tuple _)); exact rfl; exact rfl)
              | ((with_reducible apply w_pure (v := .func _ _ _)); exact rfl; exact rfl))
            | ((with_reducible apply g_bin); first
              | ((with_reducible apply w_pure (v := .bool _)); exact rfl; exact rfl))
            | ((with_reducible apply g_pick); first
              | ((with_reducible apply w_pk1 (v := .bool _)); exact rfl; exact rfl; (first | assumption | exact decide_eq_true (by assumption) | exact decide_eq_false (by assumption) | exact decide_eq_true (by omega) | exact decide_eq_false (by omega) | exact beq_iff_eq.2 (by omega) | exact beq_eq_false_iff_ne.2 (by omega) | exact bne_iff_ne.2 (by omega) | exact bne_eq_false_iff_eq.2 (by omega))))
            | ((with_reducible apply g_assign); first
              | ((with_reducible apply w_pure (v := .int _ _)); exact rfl; exact rfl)
              | ((with_reducible apply w_pure (v := .bool _)); exact rfl; exact rfl)
              | ((with_reducible apply w_pure (v := .func _ _ _)); exact rfl; exact rfl))
            | ((with_reducible apply g_call); first
              | ((with_reducible apply w_call (v := .int _ _)); exact rfl))
            | ((with_reducible apply w_pure (v := .int _ _)); exact rfl; exact rfl)
            | ((with_reducible apply w_pure (v := .bool _)); exact rfl; exact rfl)
            | ((with_reducible apply w_pure (v := .func _ _ _)); exact rfl; exact rfl))
          | ((with_reducible apply g_gd); first
            | ((with_reducible apply w_want); exact rfl))
          | with_reducible refine w_seq ?_
          | with_reducible refine w_nil ?_
          | with_reducible refine w_region ?_
          | ((with_reducible apply w_yes); exact rfl)
          | ((with_reducible apply w_ret (v := .bool _)); exact rfl))
        exact congrArg Value.bool (decide_eq_true (by have := List.length_pos_iff.2 e2; omega))
theorem proved (x0 : List (Int × Int)) (x1 : Int × Int) {p q : Prop} (w0 : p) (w1 : q) : Rn Try.prog tab 4 [fz tg x0.length (x0.flatMap (kPair (kInt .i64) (kInt .i64)).enc), .agg ((kPair (kInt .i64) (kInt .i64)).enc x1).toArray] (fun _ => none) 0 0 (fun v _ _ => v = .bool true) := walk x0 x1.1 x1.2 (fun _ => none) 0
end Go.Proofs.Ythfhlfkcphojkaa.L.PlaceApart

