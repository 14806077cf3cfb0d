/- StackFull: walked, and its plain law. -/
import Derived.Test.Ytkpofbkedolhnaac17C
import Derived.Test.YtkpofbkedolhnaaL1W
namespace Go.Proofs.Ytkpofbkedolhnaa.L.StackFull
open Go.L1 Go.IntWalk Go.Proofs.Ytkpofbkedolhnaa.L Stk Oct
set_option linter.unusedVariables false
set_option linter.unusedSimpArgs false
set_option maxHeartbeats 4000000
set_option maxRecDepth 20000
def tab : Tb := L.T
theorem tabok : ∀ C : Cx, C.P = Try.prog → TbOk C tab := L.tabok
def rw_ (n i : Nat) : List Int := List.replicate i 116 ++ List.replicate (n - i) 0
theorem rw_set (n i : Nat) (h : i < n) : ((rw_ n i).map (Value.int .u8)).set i (.int .u8 116) = (rw_ n (i + 1)).map (Value.int .u8) := by
  rw [← List.map_set]
  congr 1
  unfold rw_
  rw [List.set_append, List.length_replicate, if_neg (by omega), Nat.sub_self, show n - i = (n - (i + 1)) + 1 by omega, List.replicate_succ, List.set_cons_zero, show List.replicate (i + 1) (116 : Int) = List.replicate i 116 ++ [116] from List.replicate_succ', List.append_assoc]
  rfl
theorem rw_len (n i : Nat) (h : i ≤ n) : (rw_ n i).length = n := by unfold rw_; simp; omega
theorem rw_end (n : Nat) : rw_ n n = List.replicate n 116 := by unfold rw_; simp
theorem zeros_u8 (k : Nat) : (List.replicate k (Value.int .u8 0).cells.toList).flatten = (rw_ k 0).map (Value.int .u8) := by
  unfold rw_
  rw [List.replicate_zero, List.nil_append, Nat.sub_zero]
  induction k with
  | zero => rfl
  | succ k ih => rw [List.replicate_succ, List.flatten_cons, ih, List.replicate_succ]; rfl
theorem t_has (n : Nat) : has (nums (List.replicate n 116)) 0 = false := by
  unfold has
  rw [nums_data, List.map_replicate]
  rw [List.any_eq_false]
  intro b hb
  rw [List.eq_of_mem_replicate hb]
  decide
set_option maxHeartbeats 0 in
theorem walk (x y : Int) (g : Nat → Option Ob) (s0 : Nat) : Rn Try.prog T 5 [.int .i64 x, .int .i64 y] g s0 s0 (fun v _ _ => v = .bool true) := by
  refine c_open Try.func5 rfl rfl rfl rfl rfl rfl ?_
  repeat' (first
    | ((with_reducible apply g_op); first
      | ((with_reducible apply g_assign); first
        | ((with_reducible apply w_pure (v := .bool _)); exact rfl; exact rfl)))
    | with_reducible refine w_seq ?_
    | with_reducible refine w_nil ?_
    | with_reducible refine w_region ?_)
  refine w_rf awake_run (fun _ => rfl) sn_nil ?_
  rintro v rfl
  repeat' (first
    | ((with_reducible apply g_op); first
      | ((with_reducible apply g_move); first
        | ((with_reducible apply w_pure (v := .int _ _)); exact rfl; exact rfl))
      | ((with_reducible apply g_bin); first
        | ((with_reducible apply w_pure (v := .int _ _)); exact rfl; exact rfl))
      | ((with_reducible apply g_assign); first
        | ((with_reducible apply w_pure (v := .int _ _)); exact rfl; exact rfl)
        | ((with_reducible apply w_pure (v := .bool _)); exact rfl; exact rfl)))
    | with_reducible refine w_seq ?_
    | with_reducible refine w_nil ?_
    | with_reducible refine w_region ?_)
  obtain ⟨M, hM, hM9⟩ := rest x 200 (by decide) (by decide)
  rw [hM]
  obtain ⟨k, hk⟩ : ∃ k : Nat, 880 + M = k := ⟨_, rfl⟩
  rw [show IntKind.i64.wrap (880 + (M : Int)) = (k : Int) by rw [i64_in _ (by omega)]; omega]
  refine w_mks (nn := k) (by_ := 1) (sz := 1) rfl rfl rfl rfl rfl rfl rfl (by omega) ?_
  rw [zeros_u8]
  repeat' (first
    | ((with_reducible apply g_op); first
      | ((with_reducible apply g_assign); first
        | ((with_reducible apply w_pure (v := .int _ _)); exact rfl; exact rfl)
        | ((with_reducible apply w_pure (v := .slice _ _ _)); exact rfl; exact rfl)))
    | with_reducible refine w_seq ?_
    | with_reducible refine w_nil ?_
    | with_reducible refine w_region ?_)
  refine w_meetK [(8, 8), (26, 33)] (fun σ' g' n' => g' s0 = some (.cells 5 ((List.replicate k 116).map (Value.int .u8))) ∧ s0 + 1 = n') ?_ ?_
  · intro K R hK
    repeat' (first
      | with_reducible refine w_block ?_)
    refine w_cntK [(8, 8), (26, 33)] k (fun i (_ : Unit) σ g' n' => σ 8 = .int .i64 (i : Nat) ∧ g' s0 = some (.cells 5 ((rw_ k i).map (Value.int .u8))) ∧ s0 + 1 = n') ?_ ?_ () ⟨rfl, upd_same, rfl⟩
    · rintro i _ σ g2 _ hlt ⟨k8, hg, rfl⟩ ih
      refine w_keep (i := 8) k8 ?_
      repeat' (first
        | ((with_reducible apply g_op); first
          | ((with_reducible apply g_move); first
            | ((with_reducible apply w_pure (v := .int _ _)); exact rfl; exact rfl)
            | ((with_reducible apply w_pure (v := .slice _ _ _)); exact rfl; exact rfl))
          | ((with_reducible apply g_bin); first
            | ((with_reducible apply w_pure (v := .bool _)); exact rfl; exact rfl))
          | ((with_reducible apply g_ix); first
            | ((with_reducible apply w_ixr (sz := 1)); exact rfl; exact rfl; exact rfl; exact rfl; omega; omega)))
        | with_reducible refine w_seq ?_
        | with_reducible refine w_nil ?_
        | with_reducible refine w_region ?_
        | with_reducible refine w_skip ?_
        | with_reducible refine w_block ?_
        | ((with_reducible apply w_ifd); exact rfl; all_goals (intro hc; first | (exfalso; omega) | skip)))
      refine w_st1 (v := .int .u8 116) rfl rfl rfl rfl hg (by omega) rfl (by rw [List.length_map, rw_len _ _ (by omega)]; omega) ?_
      rw [show 0 + ((i : Int)).toNat * 1 = i by omega, rw_set k i hlt]
      repeat' (first
        | ((with_reducible apply g_op); first
          | ((with_reducible apply g_move); first
            | ((with_reducible apply w_pure (v := .int _ _)); exact rfl; exact rfl))
          | ((with_reducible apply g_bin); first
            | ((with_reducible apply w_wrap); exact rfl; exact rfl; first | exact i64_in _ (by omega) | exact u64_in _ (by omega) | exact u8_in _ (by omega)))
          | ((with_reducible apply g_assign); first
            | ((with_reducible apply w_pure (v := .int _ _)); exact rfl; exact rfl)))
        | with_reducible refine w_nil ?_
        | with_reducible refine w_region ?_
        | with_reducible refine w_blk ?_)
      exact ih () _ _ _ (by repeat' (first | with_reducible exact Fr.mix | with_reducible exact Fr.rfl' | with_reducible refine Fr.put ?_ ?_ | with_reducible refine Fr.mix2 ?_ ?_ | with_reducible refine Fr.put0 ?_ | exact rfl)) ⟨rfl, upd_same, rfl⟩
    · rintro _ σ g2 _ ⟨k8, hg, rfl⟩
      rw [rw_end] at hg
      refine w_keep (i := 8) k8 ?_
      repeat' (first
        | ((with_reducible apply g_op); first
          | ((with_reducible apply g_move); first
            | ((with_reducible apply w_pure (v := .int _ _)); exact rfl; exact rfl))
          | ((with_reducible apply g_bin); first
            | ((with_reducible apply w_pure (v := .bool _)); exact rfl; exact rfl)))
        | with_reducible refine w_seq ?_
        | with_reducible refine w_nil ?_
        | with_reducible refine w_region ?_
        | ((with_reducible apply w_exit); exact rfl)
        | ((with_reducible apply w_ifd); exact rfl; all_goals (intro hc; first | (exfalso; omega) | skip)))
      exact hK _ _ _ (by repeat' (first | with_reducible exact Fr.mix | with_reducible exact Fr.rfl' | with_reducible refine Fr.put ?_ ?_ | with_reducible refine Fr.mix2 ?_ ?_ | with_reducible refine Fr.put0 ?_ | exact rfl)) ⟨hg, rfl⟩
  rintro σ1 g1 _ ⟨hg, rfl⟩
  obtain ⟨S, hS⟩ : ∃ S, nums (List.replicate k 116) = S := ⟨_, rfl⟩
  have hSz : S.size = k := by rw [← hS, nums_size, List.length_replicate]
  have hSh : has S 0 = false := by rw [← hS]; exact t_has k
  have hmay := may_texts [S] (fun t ht => by rw [List.mem_singleton.1 ht]; exact hSh)
  have htx : txN [S] = k + 1 := by simp [txN, hSz]
  have hz : szN [S] [] [] = (48 + (k + 1) + 15) / 16 * 16 := by unfold szN; rw [htx]; simp [txN]
  have hrd : rdCells ((List.replicate k (116 : Int)).map (Value.int .u8)) 0 k = some ((List.replicate k 116).map (Value.int .u8)) := rd_all (by simp)
  refine w_env ?_
  intro τ hτ
  have k1 : τ 1 = .int .i64 y := (hτ 1).trans rfl
  have k5 : τ 5 = .bool true := (hτ 5).trans rfl
  have k7 : τ 7 = slc s0 0 k := (hτ 7).trans rfl
  clear hτ
  refine w_keep (i := 1) k1 (w_keep (i := 5) k5 (w_keep (i := 7) k7 ?_))
  repeat' (first
    | ((with_reducible apply g_op); first
      | ((with_reducible apply g_move); first
        | ((with_reducible apply w_pure (v := .slice _ _ _)); exact rfl; exact rfl)))
    | with_reducible refine w_seq ?_
    | with_reducible refine w_region ?_)
  refine w_b2s (ns := List.replicate k 116) rfl rfl rfl rfl hg hrd ?_
  rw [hS]
  repeat' (first
    | ((with_reducible apply g_op); first
      | ((with_reducible apply w_bsl (ls := [_])); exact rfl; exact rfl; exact rfl; exact ⟨by decide, rfl⟩; exact rfl)))
  refine w_rf (size_run [S] [] [] (by omega) (by decide) (by decide)) (fun _ => rfl) (sn_cons (sn_row (sz := 1) (l := [_]) upd_same (Nat.zero_le _) (by kernel_rfl) (by decide) rfl (sn_plains rfl)) (sn_cons sn_none (sn_cons sn_none sn_nil))) ?_
  rintro _ rfl
  have hy8 : 0 ≤ y % 8 ∧ y % 8 < 8 := ⟨Int.emod_nonneg _ (by decide), Int.emod_lt_of_pos _ (by decide)⟩
  repeat' (first
    | ((with_reducible apply g_op); first
      | ((with_reducible apply g_move); first
        | ((with_reducible apply w_pure (v := .int _ _)); exact rfl; exact rfl)
        | ((with_reducible apply w_pure (v := .slice _ _ _)); exact rfl; exact rfl))
      | ((with_reducible apply g_bin); first
        | ((with_reducible apply w_and (j := 3) (c1 := 8)); exact rfl; exact rfl; exact rfl; exact rfl; exact rfl; exact (by decide); exact (by decide); exact (by decide))
        | ((with_reducible apply w_wrap); exact rfl; exact rfl; first | exact i64_in _ (by omega) | exact u64_in _ (by omega) | exact u8_in _ (by omega)))
      | ((with_reducible apply g_assign); first
        | ((with_reducible apply w_pure (v := .int _ _)); exact rfl; exact rfl)))
    | with_reducible refine w_seq ?_
    | with_reducible refine w_nil ?_
    | with_reducible refine w_region ?_)
  refine w_b2s (ns := List.replicate k 116) rfl rfl rfl rfl (by simp (disch := omega) only [upd_ne]; exact hg) hrd ?_
  rw [hS]
  repeat' (first
    | ((with_reducible apply g_op); first
      | ((with_reducible apply w_bsl (ls := [_])); exact rfl; exact rfl; exact rfl; exact ⟨by decide, rfl⟩; exact rfl)))
  refine w_rf (build_run (1024 + 16 * (y % 8)) [S] [] [] (by omega) (by decide) (by decide)) (fun _ => rfl) (sn_cons (sn_plain rfl) (sn_cons (sn_row (sz := 1) (l := [_]) upd_same (Nat.zero_le _) (by kernel_rfl) (by decide) rfl (sn_plains rfl)) (sn_cons sn_none (sn_cons sn_none sn_nil)))) ?_
  rintro _ rfl
  repeat' (first
    | ((with_reducible apply g_op); first
      | ((with_reducible apply g_move); first
        | ((with_reducible apply w_pure (v := .slice _ _ _)); exact rfl; exact rfl)
        | ((with_reducible apply w_pure (v := .tuple _)); exact rfl; exact rfl))
      | ((with_reducible apply g_assign); first
        | ((with_reducible apply w_pure (v := .int _ _)); exact rfl; exact rfl)
        | ((with_reducible apply w_pure (v := .string _)); exact rfl; exact rfl))
      | ((with_reducible apply w_pure (v := .int _ _)); exact rfl; exact rfl)
      | ((with_reducible apply w_pure (v := .string _)); exact rfl; exact rfl))
    | with_reducible refine w_seq ?_
    | with_reducible refine w_nil ?_
    | with_reducible refine w_region ?_)
  refine w_b2s (ns := List.replicate k 116) rfl rfl rfl rfl (by simp (disch := omega) only [upd_ne]; exact hg) hrd ?_
  rw [hS]
  repeat' (first
    | ((with_reducible apply g_op); first
      | ((with_reducible apply w_bsl (ls := [_])); exact rfl; exact rfl; exact rfl; exact ⟨by decide, rfl⟩; exact rfl)))
  refine w_rf (build_run 512 [S] [] [] (by omega) (by decide) (by decide)) (fun _ => rfl) (sn_cons (sn_plain rfl) (sn_cons (sn_row (sz := 1) (l := [_]) upd_same (Nat.zero_le _) (by kernel_rfl) (by decide) rfl (sn_plains rfl)) (sn_cons sn_none (sn_cons sn_none sn_nil)))) ?_
  rintro _ rfl
  rw [buildV_big 512 [S] [] [] (by decide) hmay (by omega)]
  by_cases hb : 1024 < szN [S] [] []
  · rw [buildV_big (1024 + 16 * (y % 8)) [S] [] [] (by omega) hmay (.inl hb)]
    dsimp only
    repeat' (first
      | ((with_reducible apply g_op); first
        | ((with_reducible apply g_move); first
          | ((with_reducible apply w_pure (v := .int _ _)); exact rfl; exact rfl)
          | ((with_reducible apply w_pure (v := .bool _)); exact rfl; exact rfl)
          | ((with_reducible apply w_pure (v := .tuple _)); exact rfl; exact rfl))
        | ((with_reducible apply g_bin); first
          | ((with_reducible apply w_pure (v := .bool _)); exact rfl; exact rfl))
        | ((with_reducible apply g_pick); first
          | ((with_reducible apply w_pk1 (v := .bool _)); exact rfl; exact rfl; (first | assumption | exact decide_eq_true (by assumption) | exact decide_eq_false (by assumption) | exact decide_eq_true (by omega) | exact decide_eq_false (by omega) | exact beq_iff_eq.2 (by omega) | exact beq_eq_false_iff_ne.2 (by omega) | exact bne_iff_ne.2 (by omega) | exact bne_eq_false_iff_eq.2 (by omega))))
        | ((with_reducible apply g_assign); first
          | ((with_reducible apply w_pure (v := .int _ _)); exact rfl; exact rfl)
          | ((with_reducible apply w_pure (v := .bool _)); exact rfl; exact rfl)
          | ((with_reducible apply w_pure (v := .string _)); exact rfl; exact rfl))
        | ((with_reducible apply w_pure (v := .int _ _)); exact rfl; exact rfl)
        | ((with_reducible apply w_pure (v := .bool _)); exact rfl; exact rfl)
        | ((with_reducible apply w_pure (v := .string _)); exact rfl; exact rfl))
      | ((with_reducible apply g_gd); first
        | ((with_reducible apply w_want); exact rfl)
        | ((with_reducible apply w_pass); exact rfl))
      | with_reducible refine w_seq ?_
      | with_reducible refine w_nil ?_
      | with_reducible refine w_region ?_
      | ((with_reducible apply w_ifd); exact rfl; all_goals (intro hc; first | (exfalso; omega) | skip))
      | ((with_reducible apply w_ret (v := .bool _)); exact rfl))
    all_goals first | (exfalso; omega) | skip
    all_goals first | rfl | exact congrArg Value.bool (beq_self_eq_true _)
  · obtain ⟨S2, q1, q2, -⟩ := buildV_ok (1024 + 16 * (y % 8)) [S] [] [] (by omega) hmay (by omega)
    rw [q2]
    dsimp only
    repeat' (first
      | ((with_reducible apply g_op); first
        | ((with_reducible apply g_move); first
          | ((with_reducible apply w_pure (v := .int _ _)); exact rfl; exact rfl)
          | ((with_reducible apply w_pure (v := .bool _)); exact rfl; exact rfl)
          | ((with_reducible apply w_pure (v := .string _)); exact rfl; exact rfl)
          | ((with_reducible apply w_pure (v := .tuple _)); exact rfl; exact rfl))
        | ((with_reducible apply g_bin); first
          | ((with_reducible apply w_pure (v := .bool _)); exact rfl; exact rfl))
        | ((with_reducible apply g_pick); first
          | ((with_reducible apply w_pk1 (v := .bool _)); exact rfl; exact rfl; (first | assumption | exact decide_eq_true (by assumption) | exact decide_eq_false (by assumption) | exact decide_eq_true (by omega) | exact decide_eq_false (by omega) | exact beq_iff_eq.2 (by omega) | exact beq_eq_false_iff_ne.2 (by omega) | exact bne_iff_ne.2 (by omega) | exact bne_eq_false_iff_eq.2 (by omega)))
          | ((with_reducible apply w_pk0 (v := .bool _)); exact rfl; exact rfl; (first | assumption | exact decide_eq_true (by assumption) | exact decide_eq_false (by assumption) | exact decide_eq_true (by omega) | exact decide_eq_false (by omega) | exact beq_iff_eq.2 (by omega) | exact beq_eq_false_iff_ne.2 (by omega) | exact bne_iff_ne.2 (by omega) | exact bne_eq_false_iff_eq.2 (by omega))))
        | ((with_reducible apply g_assign); first
          | ((with_reducible apply w_pure (v := .int _ _)); exact rfl; exact rfl)
          | ((with_reducible apply w_pure (v := .bool _)); exact rfl; exact rfl)
          | ((with_reducible apply w_pure (v := .string _)); exact rfl; exact rfl))
        | ((with_reducible apply g_call); first
          | ((with_reducible apply w_call (v := .int _ _)); exact rfl))
        | ((with_reducible apply w_pure (v := .int _ _)); exact rfl; exact rfl)
        | ((with_reducible apply w_pure (v := .bool _)); exact rfl; exact rfl)
        | ((with_reducible apply w_pure (v := .string _)); exact rfl; exact rfl))
      | ((with_reducible apply g_gd); first
        | ((with_reducible apply w_want); exact rfl))
      | with_reducible refine w_seq ?_
      | with_reducible refine w_nil ?_
      | with_reducible refine w_region ?_
      | with_reducible refine w_skip ?_
      | ((with_reducible apply w_ifd); exact rfl; all_goals (intro hc; first | (exfalso; omega) | skip))
      | ((with_reducible apply w_ret (v := .bool _)); exact rfl))
    all_goals first | (exfalso; omega) | skip
    all_goals first | rfl | exact congrArg Value.bool (beq_self_eq_true _) | exact congrArg Value.bool (by rw [q1]; exact beq_self_eq_true _) | trace_state
theorem proved (x0 x1 : Int) {p q : Prop} (w0 : p) (w1 : q) : Rn Try.prog tab 5 [.int .i64 x0, .int .i64 x1] (fun _ => none) 0 0 (fun v _ _ => v = .bool true) := walk x0 x1 _ 0
end Go.Proofs.Ytkpofbkedolhnaa.L.StackFull

