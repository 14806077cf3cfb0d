/- DynamicName: walked, and its plain law. -/
import Derived.Test.Ytffgdfoeeaoonaac09D
import Derived.Test.YtffgdfoeeaoonaarefF
namespace Go.Proofs.Ytffgdfoeeaoonaa.L.DynamicName
open Go.L1 Go.IntWalk Go.Proofs.Ytffgdfoeeaoonaa.L
set_option linter.unusedVariables false
set_option linter.unusedSimpArgs false
set_option maxHeartbeats 4000000
def tab : Tb := L.T
theorem tabok : ∀ C : Cx, C.P = Try.prog → TbOk C tab := L.tabok
def nB : Nat → ByteArray | 0 => ⟨#[]⟩ | k + 1 => nB k ++ ⟨#[110]⟩
def tailB (k : Nat) : ByteArray := nB k ++ ⟨#[0]⟩ ++ ⟨#[109, 111, 114, 101, 0]⟩
theorem nB_size : ∀ k, (nB k).size = k
  | 0 => rfl
  | k + 1 => by rw [nB, ByteArray.size_append, nB_size k]; rfl
theorem nB_data : ∀ k, (nB k).data.toList = List.replicate k 110
  | 0 => rfl
  | k + 1 => by rw [nB, Oct.data_app, nB_data k, List.replicate_succ']
theorem tail_data (k : Nat) : (tailB k).data.toList = List.replicate k 110 ++ [0, 109, 111, 114, 101, 0] := by
  unfold tailB
  rw [Oct.data_app, Oct.data_app, nB_data, List.append_assoc]
  rfl
theorem tail_size (k : Nat) : (tailB k).size = k + 6 := by rw [← Oct.size_list, tail_data]; simp
theorem tail_bt (k i : Nat) (h : i < k) : bt (tailB k) i = 110 := by
  unfold bt
  rw [tail_data, List.getD_eq_getElem?_getD, List.getElem?_append_left (by simpa using h), List.getElem?_replicate, if_pos h]; rfl
theorem tail_bt0 (k : Nat) : bt (tailB k) k = 0 := by
  unfold bt
  rw [tail_data, List.getD_eq_getElem?_getD, List.getElem?_append_right (by simp)]; simp
theorem find_some (s : ByteArray) (k : Nat) (h0 : bt s k = 0) : ∀ (d i : Nat), i ≤ k → k < i + d → (∀ j, i ≤ j → j < k → bt s j ≠ 0) → Oct.find0 s d i = some k
  | 0, i, h1, h2, h3 => by omega
  | d + 1, i, h1, h2, h3 => by
    unfold Oct.find0
    by_cases e : i = k
    · subst e; rw [if_pos h0]
    · rw [if_neg (h3 i (Nat.le_refl _) (by omega))]
      exact find_some s k h0 d (i + 1) (by omega) (by omega) (fun j hj hk => h3 j (by omega) hk)
theorem find_none (s : ByteArray) : ∀ (d i : Nat), (∀ j, i ≤ j → j < i + d → bt s j ≠ 0) → Oct.find0 s d i = none
  | 0, i, h3 => rfl
  | d + 1, i, h3 => by
    unfold Oct.find0
    rw [if_neg (h3 i (Nat.le_refl _) (by omega))]
    exact find_none s d (i + 1) (fun j hj hk => h3 j (by omega) (by omega))
theorem key (n m : Nat) : (Oct.textV ((tailB n).extract 0 (min ((tailB n).size : Int) (max (m : Int) 0)).toNat) 0 24).2 = decide (n ≤ 24 ∧ n < m) ∧ ((Oct.textV ((tailB n).extract 0 (min ((tailB n).size : Int) (max (m : Int) 0)).toNat) 0 24).2 = true → (Oct.textV ((tailB n).extract 0 (min ((tailB n).size : Int) (max (m : Int) 0)).toNat) 0 24).1 = nB n) := by
  have hz := tail_size n
  obtain ⟨q, hq⟩ : ∃ q : Nat, (min ((tailB n).size : Int) (max (m : Int) 0)).toNat = q := ⟨_, rfl⟩
  rw [hq]
  have hq6 : q = min (n + 6) m := by omega
  have hsz : ((tailB n).extract 0 q).size = q := by rw [ByteArray.size_extract]; omega
  have hbt : ∀ j, j < q → bt ((tailB n).extract 0 q) j = bt (tailB n) j := fun j hj => by
    have := Oct.bt_part (tailB n) 0 q j hj
    rwa [Nat.zero_add, Nat.zero_add] at this
  unfold Oct.textV
  rw [if_neg (by decide), show (0 : Int).toNat = 0 from rfl]
  obtain ⟨L, hL⟩ : ∃ L, Oct.looks ((tailB n).extract 0 q) 0 24 = L := ⟨_, rfl⟩
  have hL6 : L = min q 25 := by rw [← hL]; unfold Oct.looks; rw [hsz]; omega
  rw [hL]
  by_cases h : n ≤ 24 ∧ n < m
  · rw [find_some _ n (by rw [hbt n (by omega)]; exact tail_bt0 n) L 0 (by omega) (by omega) (fun j _ hj => by rw [hbt j (by omega), tail_bt n j hj]; decide)]
    refine ⟨(decide_eq_true h).symm, fun _ => ?_⟩
    show ((tailB n).extract 0 q).extract 0 n = nB n
    refine Oct.ba_ext ?_
    rw [Lib.extract_data, Lib.extract_data, tail_data, nB_data, List.drop_zero, List.drop_zero, Nat.sub_zero, Nat.sub_zero, List.take_take, Nat.min_eq_left (by omega), List.take_append, List.take_of_length_le (by simp)]
    simp
  · rw [find_none _ L 0 (fun j _ hj => by rw [hbt j (by omega), tail_bt n j (by omega)]; decide)]
    exact ⟨(decide_eq_false h).symm, fun h => by cases h⟩
theorem ext_r (a b : ByteArray) : (a ++ b).extract a.size (a ++ b).size = b := by
  refine Oct.ba_ext ?_
  rw [ByteArray.size_append, Lib.extract_data, Oct.data_app, ← Oct.size_list a, List.drop_left, List.take_of_length_le (by rw [Oct.size_list]; omega)]
theorem fill_size (a : Nat) : (Oct.fillV Oct.noneB a).size = a := by
  unfold Oct.fillV
  have h0 : Oct.noneB.size = 0 := rfl
  split
  · rename_i h
    rw [ByteArray.size_extract]; omega
  · rw [ByteArray.size_append, Oct.zeroB_size]
    omega
theorem rest (x k : Int) (hk : 0 < k) (hk2 : k ≤ 1000) : ∃ n : Nat, (IntKind.i64.wrap (x.tmod k + k)).tmod k = n ∧ (n : Int) < k := by
  have h1 : -k < x.tmod k ∧ x.tmod k < k := by
    refine ⟨?_, Int.tmod_lt_of_pos x hk⟩
    rcases Int.le_total 0 x with h | h
    · have := Int.tmod_nonneg k h; omega
    · have := Int.tmod_lt_of_pos (-x) hk
      rw [Int.neg_tmod] at this
      omega
  rw [i64_in _ (by omega)]
  have h2 := Int.tmod_nonneg k (show 0 ≤ x.tmod k + k by omega)
  have h3 := Int.tmod_lt_of_pos (x.tmod k + k) hk
  exact ⟨((x.tmod k + k).tmod k).toNat, by omega, by omega⟩
theorem name_is (a n m : Nat) : (nameS (Oct.fillV Oct.noneB a ++ nB n ++ ⟨#[0]⟩ ++ ⟨#[109, 111, 114, 101, 0]⟩) ⟨[], a, m, 0, 0, 0, 0, 0, 0⟩ 0).2 = decide (n ≤ 24 ∧ n < m) ∧ ((nameS (Oct.fillV Oct.noneB a ++ nB n ++ ⟨#[0]⟩ ++ ⟨#[109, 111, 114, 101, 0]⟩) ⟨[], a, m, 0, 0, 0, 0, 0, 0⟩ 0).2 = true → (nameS (Oct.fillV Oct.noneB a ++ nB n ++ ⟨#[0]⟩ ++ ⟨#[109, 111, 114, 101, 0]⟩) ⟨[], a, m, 0, 0, 0, 0, 0, 0⟩ 0).1 = nB n) := by
  have hz := fill_size a
  have hv : Oct.fillV Oct.noneB a ++ nB n ++ ⟨#[0]⟩ ++ ⟨#[109, 111, 114, 101, 0]⟩ = Oct.fillV Oct.noneB a ++ tailB n := by
    refine Oct.ba_ext ?_
    simp only [tailB, Oct.data_app, List.append_assoc]
  rw [hv]
  unfold nameS
  rw [if_neg (by rw [ByteArray.size_append]; dsimp only; omega)]
  have he := ext_r (Oct.fillV Oct.noneB a) (tailB n)
  rw [hz] at he
  dsimp only
  rw [Int.toNat_natCast, he]
  exact key n m
theorem walk (x y z : Int) (g : Nat → Option Ob) (s : Nat) : Rn Try.prog T 5 [.int .i64 x, .int .i64 y, .int .i64 z] g s s (fun v _ _ => v = .bool true) := by
  refine c_open Try.func5 rfl rfl rfl rfl rfl rfl ?_
  repeat' (first
    | ((with_reducible apply g_op); first
      | ((with_reducible apply g_assign); first
        | ((with_reducible apply w_pure (v := .bool _)); exact rfl; exact rfl)))
    | with_reducible refine w_seq ?_
    | with_reducible refine w_nil ?_
    | with_reducible refine w_region ?_)
  refine w_rf awake_run (fun _ => rfl) sn_nil ?_
  rintro v rfl
  repeat' (first
    | ((with_reducible apply g_op); first
      | ((with_reducible apply g_move); first
        | ((with_reducible apply w_pure (v := .int _ _)); exact rfl; exact rfl))
      | ((with_reducible apply g_bin); first
        | ((with_reducible apply w_pure (v := .int _ _)); exact rfl; exact rfl))
      | ((with_reducible apply g_assign); first
        | ((with_reducible apply w_pure (v := .int _ _)); exact rfl; exact rfl)
        | ((with_reducible apply w_pure (v := .bool _)); exact rfl; exact rfl)
        | ((with_reducible apply w_pure (v := .string _)); exact rfl; exact rfl)))
    | with_reducible refine w_seq ?_
    | with_reducible refine w_nil ?_
    | with_reducible refine w_region ?_
    | with_reducible refine w_block ?_)
  obtain ⟨n, hn, hn4⟩ := rest x 40 (by decide) (by decide)
  obtain ⟨mm, hmm, hm4⟩ := rest y 40 (by decide) (by decide)
  obtain ⟨a, ha, ha4⟩ := rest z 30 (by decide) (by decide)
  rw [hn, hmm, ha]
  refine w_cnt n (fun i (_ : Unit) σ g' n' => σ 7 = .bool true ∧ σ 8 = .int .i64 (n : Nat) ∧ σ 9 = .int .i64 (mm : Nat) ∧ σ 10 = .int .i64 (a : Nat) ∧ σ 11 = .string (nB i) ∧ σ 12 = .int .i64 (i : Nat) ∧ n' = s) ?_ ?_ () ⟨rfl, rfl, rfl, rfl, rfl, rfl, rfl⟩
  · rintro i _ σ g2 n2 hlt ⟨k7, k8, k9, k10, k11, k12, rfl⟩ ih
    refine w_keep (i := 7) k7 (w_keep (i := 8) k8 (w_keep (i := 9) k9 (w_keep (i := 10) k10 (w_keep (i := 11) k11 (w_keep (i := 12) k12 ?_)))))
    have hz := nB_size i
    have l1 : (⟨#[110]⟩ : ByteArray).size = 1 := rfl
    repeat' (first
      | ((with_reducible apply g_op); first
        | ((with_reducible apply g_move); first
          | ((with_reducible apply w_pure (v := .int _ _)); exact rfl; exact rfl)
          | ((with_reducible apply w_pure (v := .string _)); exact rfl; exact rfl))
        | ((with_reducible apply g_bin); first
          | ((with_reducible apply w_wrap); exact rfl; exact rfl; first | exact i64_in _ (by omega) | exact u64_in _ (by omega) | exact u8_in _ (by omega))
          | ((with_reducible apply w_cat); exact rfl; exact rfl; exact rfl; exact rfl; exact rfl; omega)
          | ((with_reducible apply w_pure (v := .bool _)); exact rfl; exact rfl))
        | ((with_reducible apply g_assign); first
          | ((with_reducible apply w_pure (v := .int _ _)); exact rfl; exact rfl)
          | ((with_reducible apply w_pure (v := .string _)); exact rfl; exact rfl)))
      | with_reducible refine w_seq ?_
      | with_reducible refine w_nil ?_
      | with_reducible refine w_region ?_
      | with_reducible refine w_skip ?_
      | with_reducible refine w_block ?_
      | with_reducible refine w_blk ?_
      | ((with_reducible apply w_ifd); exact rfl; all_goals (intro hc; first | (exfalso; omega) | skip)))
    exact ih () _ _ _ ⟨rfl, rfl, rfl, rfl, rfl, rfl, rfl⟩
  · rintro _ σ g2 n2 ⟨k7, k8, k9, k10, k11, k12, rfl⟩
    refine w_keep (i := 7) k7 (w_keep (i := 8) k8 (w_keep (i := 9) k9 (w_keep (i := 10) k10 (w_keep (i := 11) k11 (w_keep (i := 12) k12 ?_)))))
    have hz := nB_size n
    repeat' (first
      | ((with_reducible apply g_op); first
        | ((with_reducible apply g_move); first
          | ((with_reducible apply w_pure (v := .int _ _)); exact rfl; exact rfl))
        | ((with_reducible apply g_bin); first
          | ((with_reducible apply w_pure (v := .bool _)); exact rfl; exact rfl)))
      | with_reducible refine w_seq ?_
      | with_reducible refine w_nil ?_
      | with_reducible refine w_region ?_
      | ((with_reducible apply w_exit); exact rfl)
      | ((with_reducible apply w_ifd); exact rfl; all_goals (intro hc; first | (exfalso; omega) | skip)))
    refine w_rq (Oct.rfill_run Oct.noneB a (by decide) (by omega) _ _ _) (fun _ => rfl) ?_
    rintro _ rfl
    have hf := fill_size a
    have l1 : (⟨#[0]⟩ : ByteArray).size = 1 := rfl
    have l5 : (⟨#[109, 111, 114, 101, 0]⟩ : ByteArray).size = 5 := rfl
    have hA : (Oct.fillV Oct.noneB a ++ nB n).size = a + n := by rw [ByteArray.size_append, hf, hz]
    have hB : (Oct.fillV Oct.noneB a ++ nB n ++ ⟨#[0]⟩).size = a + n + 1 := by rw [ByteArray.size_append, hA, l1]
    have hV : (Oct.fillV Oct.noneB a ++ nB n ++ ⟨#[0]⟩ ++ ⟨#[109, 111, 114, 101, 0]⟩).size = a + n + 6 := by rw [ByteArray.size_append, hB, l5]
    obtain ⟨k1, k2⟩ := name_is a n mm
    repeat' (first
      | ((with_reducible apply g_op); first
        | ((with_reducible apply g_load); first
          | ((with_reducible apply w_load (v := .agg #[_, _, _, _, _, _, _, _, _])); exact rfl; (first | assumption | (simp (disch := omega) only [upd_same, upd_ne]; first | done | assumption | exact rfl) | exact rfl); exact rfl))
        | ((with_reducible apply g_move); first
          | ((with_reducible apply w_pure (v := .int _ _)); exact rfl; exact rfl)
          | ((with_reducible apply w_pure (v := .string _)); exact rfl; exact rfl))
        | ((with_reducible apply g_bin); first
          | ((with_reducible apply w_cat); exact rfl; exact rfl; exact rfl; exact rfl; exact rfl; omega))
        | ((with_reducible apply g_assign); first
          | ((with_reducible apply w_pure (v := .string _)); exact rfl; exact rfl))
        | ((with_reducible apply g_store); first
          | ((with_reducible apply w_store (us := [_, _, _, _, _, _, _, _, _]) (ws := [_, _, _, _, _, _, _, _, _])); exact rfl; exact rfl; (first | assumption | (simp (disch := omega) only [upd_same, upd_ne]; first | done | assumption | exact rfl) | exact rfl); omega; exact rfl; exact rfl; exact rfl))
        | ((with_reducible apply g_build); first
          | ((with_reducible apply w_pure (v := .agg #[_, _, _, _, _, _, _, _, _])); exact rfl; exact rfl))
        | ((with_reducible apply w_alloc (ls := [_, _, _, _, _, _, _, _, _])); exact rfl; exact rfl))
      | with_reducible refine w_seq ?_
      | with_reducible refine w_nil ?_
      | with_reducible refine w_region ?_)
    refine w_rf (name_run (Oct.fillV Oct.noneB a ++ nB n ++ ⟨#[0]⟩ ++ ⟨#[109, 111, 114, 101, 0]⟩) ⟨[], a, mm, 0, 0, 0, 0, 0, 0⟩ 0 (by omega) (by decide)) (fun _ => rfl) (sn_cons (sn_plain rfl) (sn_cons (sn_agg (l := [_, _, _, _, _, _, _, _, _]) (sn_cons sn_none (sn_plains rfl))) (sn_cons (sn_plain rfl) sn_nil))) ?_
    rintro _ rfl
    have k3 : nameS (Oct.fillV Oct.noneB a ++ nB n ++ ⟨#[0]⟩ ++ ⟨#[109, 111, 114, 101, 0]⟩) ⟨[], a, mm, 0, 0, 0, 0, 0, 0⟩ (-1) = (Oct.noneB, false) := by
      unfold nameS
      rw [if_neg (by rw [hV]; dsimp only; omega)]
      rfl
    have k4 : nameS (Oct.fillV Oct.noneB a ++ nB n ++ ⟨#[0]⟩ ++ ⟨#[109, 111, 114, 101, 0]⟩) ⟨[], ((Oct.fillV Oct.noneB a ++ nB n ++ ⟨#[0]⟩ ++ ⟨#[109, 111, 114, 101, 0]⟩).size : Int) + 1, mm, 0, 0, 0, 0, 0, 0⟩ 0 = (Oct.noneB, false) := by
      unfold nameS
      rw [if_pos (by dsimp only; omega)]
    generalize nameS (Oct.fillV Oct.noneB a ++ nB n ++ ⟨#[0]⟩ ++ ⟨#[109, 111, 114, 101, 0]⟩) ⟨[], a, mm, 0, 0, 0, 0, 0, 0⟩ 0 = t at k1 k2 ⊢
    obtain ⟨t, is⟩ := t
    dsimp only at k1 k2 ⊢
    by_cases hq : n ≤ 24 ∧ n < mm
    · rw [decide_eq_true hq] at k1
      subst k1
      obtain rfl := k2 rfl
      repeat' (first
        | ((with_reducible apply g_op); first
          | ((with_reducible apply g_load); first
            | ((with_reducible apply w_load (v := .agg #[_, _, _, _, _, _, _, _, _])); exact rfl; (first | assumption | (simp (disch := omega) only [upd_same, upd_ne]; first | done | assumption | exact rfl) | exact rfl); exact rfl))
          | ((with_reducible apply g_move); first
            | ((with_reducible apply w_pure (v := .int _ _)); exact rfl; exact rfl)
            | ((with_reducible apply w_pure (v := .bool _)); exact rfl; exact rfl)
            | ((with_reducible apply w_pure (v := .string _)); exact rfl; exact rfl)
            | ((with_reducible apply w_pure (v := .tuple _)); exact rfl; exact rfl))
          | ((with_reducible apply g_bin); first
            | ((with_reducible apply w_pure (v := .bool _)); exact rfl; exact rfl))
          | ((with_reducible apply g_pick); first
            | ((with_reducible apply w_pk1 (v := .bool _)); exact rfl; exact rfl; (first | assumption | exact decide_eq_true (by assumption) | exact decide_eq_false (by assumption) | exact decide_eq_true (by omega) | exact decide_eq_false (by omega) | exact beq_iff_eq.2 (by omega) | exact beq_eq_false_iff_ne.2 (by omega) | exact bne_iff_ne.2 (by omega) | exact bne_eq_false_iff_eq.2 (by omega))))
          | ((with_reducible apply g_assign); first
            | ((with_reducible apply w_pure (v := .bool _)); exact rfl; exact rfl)
            | ((with_reducible apply w_pure (v := .string _)); exact rfl; exact rfl))
          | ((with_reducible apply w_pure (v := .bool _)); exact rfl; exact rfl)
          | ((with_reducible apply w_pure (v := .string _)); exact rfl; exact rfl))
        | ((with_reducible apply g_gd); first
          | ((with_reducible apply w_gd_t); exact rfl; all_goals (intro hc; first | (exfalso; omega) | skip)))
        | with_reducible refine w_seq ?_
        | with_reducible refine w_nil ?_
        | with_reducible refine w_region ?_)
      all_goals refine w_rf (name_run (Oct.fillV Oct.noneB a ++ nB n ++ ⟨#[0]⟩ ++ ⟨#[109, 111, 114, 101, 0]⟩) ⟨[], a, mm, 0, 0, 0, 0, 0, 0⟩ (-1) (by omega) (by decide)) (fun _ => rfl) (sn_cons (sn_plain rfl) (sn_cons (sn_agg (l := [_, _, _, _, _, _, _, _, _]) (sn_cons sn_none (sn_plains rfl))) (sn_cons (sn_plain rfl) sn_nil))) ?_
      all_goals rintro _ rfl
      all_goals rw [k3]
      repeat' (first
        | ((with_reducible apply g_op); first
          | ((with_reducible apply g_load); first
            | ((with_reducible apply w_load (v := .agg #[_, _, _, _, _, _, _, _, _])); exact rfl; (first | assumption | (simp (disch := omega) only [upd_same, upd_ne]; first | done | assumption | exact rfl) | exact rfl); exact rfl))
          | ((with_reducible apply g_move); first
            | ((with_reducible apply w_pure (v := .string _)); exact rfl; exact rfl)
            | ((with_reducible apply w_pure (v := .tuple _)); exact rfl; exact rfl))
          | ((with_reducible apply g_bin); first
            | ((with_reducible apply w_wrap); exact rfl; exact rfl; first | exact i64_in _ (by omega) | exact u64_in _ (by omega) | exact u8_in _ (by omega)))
          | ((with_reducible apply g_fld); first
            | ((with_reducible apply w_fldp (o := 1)); exact rfl; exact rfl; exact rfl; exact (by decide)))
          | ((with_reducible apply g_assign); first
            | ((with_reducible apply w_pure (v := .bool _)); exact rfl; exact rfl)
            | ((with_reducible apply w_pure (v := .string _)); exact rfl; exact rfl))
          | ((with_reducible apply g_call); first
            | ((with_reducible apply w_call (v := .int _ _)); exact rfl))
          | ((with_reducible apply g_store); first
            | ((with_reducible apply w_store (us := [.int _ _]) (ws := [_, _, _, _, _, _, _, _, _])); exact rfl; exact rfl; (first | assumption | (simp (disch := omega) only [upd_same, upd_ne]; first | done | assumption | exact rfl) | exact rfl); omega; exact rfl; exact rfl; exact rfl))
          | ((with_reducible apply w_pure (v := .bool _)); exact rfl; exact rfl)
          | ((with_reducible apply w_pure (v := .string _)); exact rfl; exact rfl))
        | with_reducible refine w_seq ?_
        | with_reducible refine w_nil ?_
        | with_reducible refine w_region ?_)
      all_goals refine w_rf (name_run (Oct.fillV Oct.noneB a ++ nB n ++ ⟨#[0]⟩ ++ ⟨#[109, 111, 114, 101, 0]⟩) ⟨[], ((Oct.fillV Oct.noneB a ++ nB n ++ ⟨#[0]⟩ ++ ⟨#[109, 111, 114, 101, 0]⟩).size : Int) + 1, mm, 0, 0, 0, 0, 0, 0⟩ 0 (by omega) (by decide)) (fun _ => rfl) (sn_cons (sn_plain rfl) (sn_cons (sn_agg (l := [_, _, _, _, _, _, _, _, _]) (sn_cons sn_none (sn_plains rfl))) (sn_cons (sn_plain rfl) sn_nil))) ?_
      all_goals rintro _ rfl
      all_goals rw [k4]
      repeat' (first
        | ((with_reducible apply g_op); first
          | ((with_reducible apply g_move); first
            | ((with_reducible apply w_pure (v := .bool _)); exact rfl; exact rfl)
            | ((with_reducible apply w_pure (v := .string _)); exact rfl; exact rfl)
            | ((with_reducible apply w_pure (v := .tuple _)); exact rfl; exact rfl))
          | ((with_reducible apply g_bin); first
            | ((with_reducible apply w_teq); exact rfl; exact rfl; exact rfl; exact rfl; exact rfl)
            | ((with_reducible apply w_pure (v := .bool _)); exact rfl; exact rfl))
          | ((with_reducible apply g_pick); first
            | ((with_reducible apply w_pk1 (v := .bool _)); exact rfl; exact rfl; (first | assumption | exact decide_eq_true (by assumption) | exact decide_eq_false (by assumption) | exact decide_eq_true (by omega) | exact decide_eq_false (by omega) | exact beq_iff_eq.2 (by omega) | exact beq_eq_false_iff_ne.2 (by omega) | exact bne_iff_ne.2 (by omega) | exact bne_eq_false_iff_eq.2 (by omega)))
            | ((with_reducible apply w_pk0 (v := .bool _)); exact rfl; exact rfl; (first | assumption | exact decide_eq_true (by assumption) | exact decide_eq_false (by assumption) | exact decide_eq_true (by omega) | exact decide_eq_false (by omega) | exact beq_iff_eq.2 (by omega) | exact beq_eq_false_iff_ne.2 (by omega) | exact bne_iff_ne.2 (by omega) | exact bne_eq_false_iff_eq.2 (by omega))))
          | ((with_reducible apply g_assign); first
            | ((with_reducible apply w_pure (v := .bool _)); exact rfl; exact rfl)
            | ((with_reducible apply w_pure (v := .string _)); exact rfl; exact rfl))
          | ((with_reducible apply w_pure (v := .bool _)); exact rfl; exact rfl)
          | ((with_reducible apply w_pure (v := .string _)); exact rfl; exact rfl))
        | ((with_reducible apply g_gd); first
          | ((with_reducible apply w_want); exact rfl)
          | ((with_reducible apply w_pass); exact rfl)
          | ((with_reducible apply w_gd_t); exact rfl; all_goals (intro hc; first | (exfalso; omega) | skip)))
        | with_reducible refine w_seq ?_
        | with_reducible refine w_nil ?_
        | with_reducible refine w_region ?_
        | ((with_reducible apply w_ret (v := .bool _)); exact rfl))
      all_goals first | rfl | (exfalso; omega) | (exfalso; exact absurd rfl (by assumption)) | (exfalso; exact absurd (decide_eq_true (show (n : Int) < mm by omega)).symm (by assumption)) | (exfalso; exact absurd (decide_eq_false (show ¬ (n : Int) < mm by omega)).symm (by assumption)) | trace_state
    · rw [decide_eq_false hq] at k1
      subst k1
      repeat' (first
        | ((with_reducible apply g_op); first
          | ((with_reducible apply g_load); first
            | ((with_reducible apply w_load (v := .agg #[_, _, _, _, _, _, _, _, _])); exact rfl; (first | assumption | (simp (disch := omega) only [upd_same, upd_ne]; first | done | assumption | exact rfl) | exact rfl); exact rfl))
          | ((with_reducible apply g_move); first
            | ((with_reducible apply w_pure (v := .int _ _)); exact rfl; exact rfl)
            | ((with_reducible apply w_pure (v := .bool _)); exact rfl; exact rfl)
            | ((with_reducible apply w_pure (v := .string _)); exact rfl; exact rfl)
            | ((with_reducible apply w_pure (v := .tuple _)); exact rfl; exact rfl))
          | ((with_reducible apply g_bin); first
            | ((with_reducible apply w_pure (v := .bool _)); exact rfl; exact rfl))
          | ((with_reducible apply g_pick); first
            | ((with_reducible apply w_pk1 (v := .bool _)); exact rfl; exact rfl; (first | assumption | exact decide_eq_true (by assumption) | exact decide_eq_false (by assumption) | exact decide_eq_true (by omega) | exact decide_eq_false (by omega) | exact beq_iff_eq.2 (by omega) | exact beq_eq_false_iff_ne.2 (by omega) | exact bne_iff_ne.2 (by omega) | exact bne_eq_false_iff_eq.2 (by omega)))
            | ((with_reducible apply w_pk0 (v := .bool _)); exact rfl; exact rfl; (first | assumption | exact decide_eq_true (by assumption) | exact decide_eq_false (by assumption) | exact decide_eq_true (by omega) | exact decide_eq_false (by omega) | exact beq_iff_eq.2 (by omega) | exact beq_eq_false_iff_ne.2 (by omega) | exact bne_iff_ne.2 (by omega) | exact bne_eq_false_iff_eq.2 (by omega))))
          | ((with_reducible apply g_assign); first
            | ((with_reducible apply w_pure (v := .bool _)); exact rfl; exact rfl)
            | ((with_reducible apply w_pure (v := .string _)); exact rfl; exact rfl))
          | ((with_reducible apply w_pure (v := .bool _)); exact rfl; exact rfl)
          | ((with_reducible apply w_pure (v := .string _)); exact rfl; exact rfl))
        | ((with_reducible apply g_gd); first
          | ((with_reducible apply w_gd_t); exact rfl; all_goals (intro hc; first | (exfalso; omega) | skip)))
        | with_reducible refine w_seq ?_
        | with_reducible refine w_nil ?_
        | with_reducible refine w_region ?_)
      all_goals refine w_rf (name_run (Oct.fillV Oct.noneB a ++ nB n ++ ⟨#[0]⟩ ++ ⟨#[109, 111, 114, 101, 0]⟩) ⟨[], a, mm, 0, 0, 0, 0, 0, 0⟩ (-1) (by omega) (by decide)) (fun _ => rfl) (sn_cons (sn_plain rfl) (sn_cons (sn_agg (l := [_, _, _, _, _, _, _, _, _]) (sn_cons sn_none (sn_plains rfl))) (sn_cons (sn_plain rfl) sn_nil))) ?_
      all_goals rintro _ rfl
      all_goals rw [k3]
      repeat' (first
        | ((with_reducible apply g_op); first
          | ((with_reducible apply g_load); first
            | ((with_reducible apply w_load (v := .agg #[_, _, _, _, _, _, _, _, _])); exact rfl; (first | assumption | (simp (disch := omega) only [upd_same, upd_ne]; first | done | assumption | exact rfl) | exact rfl); exact rfl))
          | ((with_reducible apply g_move); first
            | ((with_reducible apply w_pure (v := .string _)); exact rfl; exact rfl)
            | ((with_reducible apply w_pure (v := .tuple _)); exact rfl; exact rfl))
          | ((with_reducible apply g_bin); first
            | ((with_reducible apply w_wrap); exact rfl; exact rfl; first | exact i64_in _ (by omega) | exact u64_in _ (by omega) | exact u8_in _ (by omega)))
          | ((with_reducible apply g_fld); first
            | ((with_reducible apply w_fldp (o := 1)); exact rfl; exact rfl; exact rfl; exact (by decide)))
          | ((with_reducible apply g_assign); first
            | ((with_reducible apply w_pure (v := .bool _)); exact rfl; exact rfl)
            | ((with_reducible apply w_pure (v := .string _)); exact rfl; exact rfl))
          | ((with_reducible apply g_call); first
            | ((with_reducible apply w_call (v := .int _ _)); exact rfl))
          | ((with_reducible apply g_store); first
            | ((with_reducible apply w_store (us := [.int _ _]) (ws := [_, _, _, _, _, _, _, _, _])); exact rfl; exact rfl; (first | assumption | (simp (disch := omega) only [upd_same, upd_ne]; first | done | assumption | exact rfl) | exact rfl); omega; exact rfl; exact rfl; exact rfl))
          | ((with_reducible apply w_pure (v := .bool _)); exact rfl; exact rfl)
          | ((with_reducible apply w_pure (v := .string _)); exact rfl; exact rfl))
        | with_reducible refine w_seq ?_
        | with_reducible refine w_nil ?_
        | with_reducible refine w_region ?_)
      all_goals refine w_rf (name_run (Oct.fillV Oct.noneB a ++ nB n ++ ⟨#[0]⟩ ++ ⟨#[109, 111, 114, 101, 0]⟩) ⟨[], ((Oct.fillV Oct.noneB a ++ nB n ++ ⟨#[0]⟩ ++ ⟨#[109, 111, 114, 101, 0]⟩).size : Int) + 1, mm, 0, 0, 0, 0, 0, 0⟩ 0 (by omega) (by decide)) (fun _ => rfl) (sn_cons (sn_plain rfl) (sn_cons (sn_agg (l := [_, _, _, _, _, _, _, _, _]) (sn_cons sn_none (sn_plains rfl))) (sn_cons (sn_plain rfl) sn_nil))) ?_
      all_goals rintro _ rfl
      all_goals rw [k4]
      repeat' (first
        | ((with_reducible apply g_op); first
          | ((with_reducible apply g_move); first
            | ((with_reducible apply w_pure (v := .bool _)); exact rfl; exact rfl)
            | ((with_reducible apply w_pure (v := .tuple _)); exact rfl; exact rfl))
          | ((with_reducible apply g_bin); first
            | ((with_reducible apply w_pure (v := .bool _)); exact rfl; exact rfl))
          | ((with_reducible apply g_pick); first
            | ((with_reducible apply w_pk1 (v := .bool _)); exact rfl; exact rfl; (first | assumption | exact decide_eq_true (by assumption) | exact decide_eq_false (by assumption) | exact decide_eq_true (by omega) | exact decide_eq_false (by omega) | exact beq_iff_eq.2 (by omega) | exact beq_eq_false_iff_ne.2 (by omega) | exact bne_iff_ne.2 (by omega) | exact bne_eq_false_iff_eq.2 (by omega)))
            | ((with_reducible apply w_pk0 (v := .bool _)); exact rfl; exact rfl; (first | assumption | exact decide_eq_true (by assumption) | exact decide_eq_false (by assumption) | exact decide_eq_true (by omega) | exact decide_eq_false (by omega) | exact beq_iff_eq.2 (by omega) | exact beq_eq_false_iff_ne.2 (by omega) | exact bne_iff_ne.2 (by omega) | exact bne_eq_false_iff_eq.2 (by omega))))
          | ((with_reducible apply g_assign); first
            | ((with_reducible apply w_pure (v := .bool _)); exact rfl; exact rfl)
            | ((with_reducible apply w_pure (v := .string _)); exact rfl; exact rfl))
          | ((with_reducible apply w_pure (v := .bool _)); exact rfl; exact rfl)
          | ((with_reducible apply w_pure (v := .string _)); exact rfl; exact rfl))
        | ((with_reducible apply g_gd); first
          | ((with_reducible apply w_want); exact rfl)
          | ((with_reducible apply w_pass); exact rfl)
          | ((with_reducible apply w_gd_t); exact rfl; all_goals (intro hc; first | (exfalso; omega) | skip)))
        | with_reducible refine w_seq ?_
        | with_reducible refine w_nil ?_
        | with_reducible refine w_region ?_
        | ((with_reducible apply w_ret (v := .bool _)); exact rfl))
      all_goals first | rfl | (exfalso; omega) | (exfalso; exact absurd rfl (by assumption)) | (exfalso; exact absurd (decide_eq_true (show (n : Int) < mm by omega)).symm (by assumption)) | (exfalso; exact absurd (decide_eq_false (show ¬ (n : Int) < mm by omega)).symm (by assumption)) | trace_state
theorem proved (x0 x1 x2 : Int) {p q r : Prop} (w0 : p) (w1 : q) (w2 : r) : Rn Try.prog tab 5 [.int .i64 x0, .int .i64 x1, .int .i64 x2] (fun _ => none) 0 0 (fun v _ _ => v = .bool true) := walk x0 x1 x2 _ 0
end Go.Proofs.Ytffgdfoeeaoonaa.L.DynamicName

