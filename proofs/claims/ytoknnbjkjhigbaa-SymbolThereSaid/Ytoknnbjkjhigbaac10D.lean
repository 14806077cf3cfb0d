/- The reference's Table. -/
import Derived.Test.Ytoknnbjkjhigbaac10C
namespace Go.Proofs.Ytoknnbjkjhigbaa.L
open Go.L1 Go.IntWalk
set_option linter.unusedVariables false
set_option linter.unusedSimpArgs false
set_option maxHeartbeats 4000000
namespace Sym
open Oct
theorem first_end (l : List ByteArray) : firstL l (l.length - 1 + 1) = firstL l l.length ∧ nextL l (l.length - 1 + 1) = nextL l l.length := by
  by_cases h : l.length = 0
  · have := skip_step l 0 (.inl rfl)
    rw [h]
    exact this
  · rw [show l.length - 1 + 1 = l.length by omega]
    exact ⟨rfl, rfl⟩
theorem rtable_run (l : List ByteArray) (hl : l.length ≤ 4096) (hz : ∀ s ∈ l, s.size ≤ 9223372036854775807) : Rf Try.prog T 15 [tv tg l] (fun v => v = .tuple #[.string (tableV l), .int .i64 0]) := by
  refine c_froz Try.func15 rfl rfl rfl rfl rfl rfl ?_
  intro g n
  have hB2 : bks l ≤ 4096 ∧ 1 ≤ bks l := by unfold bks; omega
  obtain ⟨q1, q2⟩ := skip_step l 0 (.inl rfl)
  obtain ⟨x1, x2⟩ := first_end l
  repeat' (first
    | ((with_reducible apply g_op); first
      | ((with_reducible apply g_move); first
        | ((with_reducible apply w_pure (v := .int _ _)); exact rfl; exact rfl)
        | ((with_reducible apply w_pure (v := .func _ _ _)); exact rfl; exact rfl))
      | ((with_reducible apply g_bin); first
        | ((with_reducible apply w_pure (v := .bool _)); exact rfl; exact rfl))
      | ((with_reducible apply g_assign); first
        | ((with_reducible apply w_pure (v := .int _ _)); exact rfl; exact rfl)
        | ((with_reducible apply w_pure (v := .string _)); exact rfl; exact rfl))
      | ((with_reducible apply g_call); first
        | ((with_reducible apply w_call (v := .int _ _)); exact rfl)))
    | with_reducible refine w_seq ?_
    | with_reducible refine w_nil ?_
    | with_reducible refine w_region ?_)
  refine w_ifd rfl (fun h => absurd h (by omega)) ?_
  intro _
  repeat' (first
    | ((with_reducible apply g_op); first
      | ((with_reducible apply g_move); first
        | ((with_reducible apply w_pure (v := .int _ _)); exact rfl; exact rfl))
      | ((with_reducible apply g_bin); first
        | ((with_reducible apply w_pure (v := .bool _)); exact rfl; exact rfl))
      | ((with_reducible apply g_assign); first
        | ((with_reducible apply w_pure (v := .int _ _)); exact rfl; exact rfl)))
    | with_reducible refine w_seq ?_
    | with_reducible refine w_nil ?_
    | with_reducible refine w_region ?_
    | with_reducible refine w_skip ?_)
  refine w_meetK [(5, 5)] (fun σ' g' n' => σ' 5 = .int .i64 (bks l : Nat) ∧ g = g' ∧ n = n') ?_ ?_
  · intro K R hK
    repeat' (first
      | ((with_reducible apply g_op); first
        | ((with_reducible apply g_assign); first
          | ((with_reducible apply w_pure (v := .int _ _)); exact rfl; exact rfl)))
      | with_reducible refine w_nil ?_
      | with_reducible refine w_region ?_
      | with_reducible refine w_skip ?_
      | ((with_reducible apply w_ifd); exact rfl; all_goals (intro hc; first | (exfalso; omega) | skip)))
    · exact hK _ _ _ (by repeat' (first | with_reducible exact Fr.mix | with_reducible exact Fr.rfl' | with_reducible refine Fr.put ?_ ?_ | with_reducible refine Fr.mix2 ?_ ?_ | with_reducible refine Fr.put0 ?_ | exact rfl)) ⟨congrArg (Value.int .i64) (by unfold bks; omega), rfl, rfl⟩
    · exact hK _ _ _ (by repeat' (first | with_reducible exact Fr.mix | with_reducible exact Fr.rfl' | with_reducible refine Fr.put ?_ ?_ | with_reducible refine Fr.mix2 ?_ ?_ | with_reducible refine Fr.put0 ?_ | exact rfl)) ⟨congrArg (Value.int .i64) (by unfold bks; omega), rfl, rfl⟩
  rintro σ' g' n' ⟨k5, rfl, rfl⟩
  refine w_keep (i := 5) k5 ?_
  repeat' (first
    | ((with_reducible apply g_op); first
      | ((with_reducible apply g_move); first
        | ((with_reducible apply w_pure (v := .int _ _)); exact rfl; exact rfl)))
    | with_reducible refine w_seq ?_
    | with_reducible refine w_region ?_)
  refine w_mks (nn := bks l) (by_ := 8) (sz := 1) rfl rfl rfl rfl rfl rfl rfl (by omega) ?_
  repeat' (first
    | ((with_reducible apply g_op); first
      | ((with_reducible apply g_move); first
        | ((with_reducible apply w_pure (v := .int _ _)); exact rfl; exact rfl))
      | ((with_reducible apply g_assign); first
        | ((with_reducible apply w_pure (v := .slice _ _ _)); exact rfl; exact rfl)))
    | with_reducible refine w_seq ?_
    | with_reducible refine w_nil ?_
    | with_reducible refine w_region ?_)
  refine w_mks (nn := l.length) (by_ := 8) (sz := 1) rfl rfl rfl rfl rfl rfl rfl (by omega) ?_
  rw [zeros_i64, zeros_i64, ← first_new, ← next_new, ← q1, ← q2]
  repeat' (first
    | ((with_reducible apply g_op); first
      | ((with_reducible apply g_assign); first
        | ((with_reducible apply w_pure (v := .int _ _)); exact rfl; exact rfl)
        | ((with_reducible apply w_pure (v := .slice _ _ _)); exact rfl; exact rfl)))
    | with_reducible refine w_seq ?_
    | with_reducible refine w_nil ?_
    | with_reducible refine w_region ?_
    | with_reducible refine w_block ?_)
  refine w_cntK [(8, 9), (24, 52)] (l.length - 1) (fun i (_ : Unit) σ g' n' => σ 8 = .int .i64 ((i : Nat) + 1) ∧ g' n = some (.cells 3 (iis (firstL l (i + 1)))) ∧ g' (n + 1) = some (.cells 3 (iis (nextL l (i + 1)))) ∧ n + 2 ≤ n') ?_ ?_ () ⟨rfl, by simp (disch := omega) only [upd_same, upd_ne], upd_same, by omega⟩
  · rintro i _ σ gl nl hlt ⟨k8, hg1, hg2, hn⟩ ih
    refine w_keep (i := 8) k8 ?_
    obtain ⟨x, hx⟩ : ∃ x, l[i + 1]? = some x := ⟨_, List.getElem?_eq_getElem (by omega)⟩
    have hx' : l[((i : Int) + 1).toNat]? = some x := by rw [show ((i : Int) + 1).toNat = i + 1 by omega]; exact hx
    have hnx := nm_at hx
    have hzx := hz x (List.mem_of_getElem? hx)
    have hB3 := bk_lt l (i + 1)
    have hh := hashN_lt x
    repeat' (first
      | ((with_reducible apply g_op); first
        | ((with_reducible apply g_load); first
          | ((with_reducible apply w_fl (v := .string _)); exact rfl; exact (fun _ => rfl); assumption; exact rfl))
        | ((with_reducible apply g_move); first
          | ((with_reducible apply w_pure (v := .int _ _)); exact rfl; exact rfl)
          | ((with_reducible apply w_pure (v := .func _ _ _)); exact rfl; exact rfl))
        | ((with_reducible apply g_bin); first
          | ((with_reducible apply w_wrap); exact rfl; exact rfl; first | exact i64_in _ (by omega) | exact u64_in _ (by omega) | exact u8_in _ (by omega))
          | ((with_reducible apply w_teq); exact rfl; exact rfl; exact rfl; exact rfl; exact rfl)
          | ((with_reducible apply w_pure (v := .bool _)); exact rfl; exact rfl))
        | ((with_reducible apply g_assign); first
          | ((with_reducible apply w_pure (v := .int _ _)); exact rfl; exact rfl))
        | ((with_reducible apply g_ix); first
          | ((with_reducible apply w_fx (sz := 1)); exact rfl; exact rfl; exact rfl; exact rfl; exact rfl; exact (fun _ => rfl); assumption; exact rfl)))
      | with_reducible refine w_seq ?_
      | with_reducible refine w_nil ?_
      | with_reducible refine w_region ?_
      | with_reducible refine w_skip ?_
      | with_reducible refine w_block ?_
      | ((with_reducible apply w_exit); exact rfl)
      | ((with_reducible apply w_ifd); exact rfl; all_goals (intro hc; first | (exfalso; omega) | skip)))
    · obtain ⟨e1, e2⟩ := skip_step l (i + 1) (.inr (by rw [hnx]; assumption))
      exact ih () _ _ _ (by repeat' (first | with_reducible exact Fr.mix | with_reducible exact Fr.rfl' | with_reducible refine Fr.put ?_ ?_ | with_reducible refine Fr.mix2 ?_ ?_ | with_reducible refine Fr.put0 ?_ | exact rfl)) ⟨rfl, by rw [e1]; exact hg1, by rw [e2]; exact hg2, hn⟩
    · obtain ⟨e1, e2⟩ := put_step l (i + 1) (by omega) (by omega) (by rw [hnx]; assumption)
      have hbk : hashN x % bks l = bk l (i + 1) := by unfold bk; rw [hnx]
      refine w_rq (rhash_run x hzx _ _ _) (fun _ => rfl) ?_
      rintro _ rfl
      repeat' (first
        | ((with_reducible apply g_op); first
          | ((with_reducible apply g_move); first
            | ((with_reducible apply w_pure (v := .int _ _)); exact rfl; exact rfl)
            | ((with_reducible apply w_pure (v := .slice _ _ _)); exact rfl; exact rfl))
          | ((with_reducible apply g_bin); first
            | ((with_reducible apply w_mod); exact rfl; exact rfl; exact rfl; exact rfl; exact rfl; omega; omega))
          | ((with_reducible apply g_assign); first
            | ((with_reducible apply w_pure (v := .int _ _)); exact rfl; exact rfl))
          | ((with_reducible apply w_conv); exact rfl; exact rfl; exact rfl; first | exact i64_in _ (by omega) | exact u64_in _ (by omega) | exact u8_in _ (by omega) | exact u32_in _ (by omega))
          | ((with_reducible apply g_ix); first
            | ((with_reducible apply w_ixr (sz := 1)); exact rfl; exact rfl; exact rfl; exact rfl; omega; omega)))
        | with_reducible refine w_seq ?_
        | with_reducible refine w_nil ?_
        | with_reducible refine w_region ?_)
      have hoff : 0 + ((hashN x : Int) % (bks l : Int)).toNat * 1 = bk l (i + 1) := by rw [← Int.natCast_emod, Int.toNat_natCast, hbk]; omega
      have hofi : 0 + ((i : Int) + 1).toNat * 1 = i + 1 := by omega
      refine w_load (v := .int .i64 (pv (inB l (bk l (i + 1))) (i + 1) : Nat)) rfl hg1 (by rw [part_one (by kernel_rfl), hoff]; exact iis_at (first_at l (i + 1) _ hB3)) ?_
      repeat' (first
        | ((with_reducible apply g_op); first
          | ((with_reducible apply g_ix); first
            | ((with_reducible apply w_ixr (sz := 1)); exact rfl; exact rfl; exact rfl; exact rfl; omega; omega))))
      refine w_st1 (v := .int .i64 (pv (inB l (bk l (i + 1))) (i + 1) : Nat)) rfl rfl rfl rfl hg2 (by omega) rfl (by rw [hofi, iis_len, next_len]; omega) ?_
      repeat' (first
        | ((with_reducible apply g_op); first
          | ((with_reducible apply g_move); first
            | ((with_reducible apply w_pure (v := .int _ _)); exact rfl; exact rfl)
            | ((with_reducible apply w_pure (v := .slice _ _ _)); exact rfl; exact rfl))
          | ((with_reducible apply g_ix); first
            | ((with_reducible apply w_ixr (sz := 1)); exact rfl; exact rfl; exact rfl; exact rfl; omega; omega)))
        | with_reducible refine w_nil ?_
        | with_reducible refine w_region ?_)
      refine w_st1 (v := .int .i64 ((i : Nat) + 1)) rfl rfl rfl rfl (by rw [upd_ne (by omega)]; exact hg1) (by omega) rfl (by rw [hoff, iis_len, first_len]; exact hB3) ?_
      rw [hofi, hoff, iis_set, show (i : Int) + 1 = ((i + 1 : Nat) : Int) by omega, iis_set, ← e1, ← e2]
      repeat' (first
        | ((with_reducible apply g_op); first
          | ((with_reducible apply g_move); first
            | ((with_reducible apply w_pure (v := .int _ _)); exact rfl; exact rfl))
          | ((with_reducible apply g_bin); first
            | ((with_reducible apply w_wrap); exact rfl; exact rfl; first | exact i64_in _ (by omega) | exact u64_in _ (by omega) | exact u8_in _ (by omega)))
          | ((with_reducible apply g_assign); first
            | ((with_reducible apply w_pure (v := .int _ _)); exact rfl; exact rfl)))
        | with_reducible refine w_nil ?_
        | with_reducible refine w_region ?_
        | with_reducible refine w_blk ?_)
      exact ih () _ _ _ (by repeat' (first | with_reducible exact Fr.mix | with_reducible exact Fr.rfl' | with_reducible refine Fr.put ?_ ?_ | with_reducible refine Fr.mix2 ?_ ?_ | with_reducible refine Fr.put0 ?_ | exact rfl)) ⟨rfl, upd_same, by rw [upd_ne (by omega), upd_same], hn⟩
  · rintro _ σ gl nl ⟨k8, hg1, hg2, hn⟩
    rw [x1] at hg1
    rw [x2] at hg2
    refine w_keep (i := 8) k8 ?_
    have z1 := putV_size (bks l : Nat) 4
    have z2 := putV_size (l.length : Nat) 4
    have w4 : wid 4 = 4 := rfl
    rw [w4] at z1 z2
    have hp1 := putV_pos (bks l : Nat) (Int.natCast_nonneg _)
    have hp2 := putV_pos (l.length : Nat) (Int.natCast_nonneg _)
    have hR := table_pos l hl
    repeat' (first
      | ((with_reducible apply g_op); first
        | ((with_reducible apply g_move); first
          | ((with_reducible apply w_pure (v := .int _ _)); exact rfl; exact rfl))
        | ((with_reducible apply g_bin); first
          | ((with_reducible apply w_pure (v := .bool _)); exact rfl; exact rfl)))
      | with_reducible refine w_seq ?_
      | with_reducible refine w_nil ?_
      | with_reducible refine w_region ?_
      | ((with_reducible apply w_exit); exact rfl)
      | ((with_reducible apply w_ifd); exact rfl; all_goals (intro hc; first | (exfalso; omega) | skip)))
    refine w_rq (rput_run _ 4 (by omega) _ _ _) (fun _ => rfl) ?_
    rintro _ rfl
    repeat' (first
      | ((with_reducible apply g_op); first
        | ((with_reducible apply g_move); first
          | ((with_reducible apply w_pure (v := .int _ _)); exact rfl; exact rfl))))
    refine w_rq (rput_run _ 4 (by omega) _ _ _) (fun _ => rfl) ?_
    rintro _ rfl
    repeat' (first
      | ((with_reducible apply g_op); first
        | ((with_reducible apply g_bin); first
          | ((with_reducible apply w_cat); exact rfl; exact rfl; exact rfl; exact rfl; exact rfl; omega))
        | ((with_reducible apply g_assign); first
          | ((with_reducible apply w_pure (v := .int _ _)); exact rfl; exact rfl)
          | ((with_reducible apply w_pure (v := .string _)); exact rfl; exact rfl)))
      | with_reducible refine w_seq ?_
      | with_reducible refine w_nil ?_
      | with_reducible refine w_region ?_
      | with_reducible refine w_block ?_)
    refine w_rngK [(10, 11), (58, 69)] (firstL l l.length) (fun i rest (p : List Int) σ g' n' => σ 11 = .int .i64 (i : Nat) ∧ σ 10 = .string (quads p) ∧ gl = g' ∧ nl = n' ∧ p ++ rest = (bks l : Int) :: (l.length : Int) :: firstL l l.length ∧ p.length = i + 2) ?_ ?_ [(bks l : Nat), (l.length : Nat)] ⟨rfl, congrArg Value.string (by rw [hp1, hp2, quads_two]), rfl, rfl, rfl, rfl⟩
    · rintro i x rest p σ _ _ hx hlt ⟨k11, k10, rfl, rfl, hp, hpl⟩ ih
      have hlt' := hlt
      rw [first_len] at hlt'
      obtain ⟨x0, x1'⟩ := hR x (List.mem_append_left _ (List.mem_of_getElem? hx))
      have hqs := quads_size p
      have z3 := putB_size x 4
      refine w_keep (i := 10) k10 (w_keep (i := 11) k11 ?_)
      repeat' (first
        | ((with_reducible apply g_op); first
          | ((with_reducible apply g_move); first
            | ((with_reducible apply w_pure (v := .int _ _)); exact rfl; exact rfl)
            | ((with_reducible apply w_pure (v := .slice _ _ _)); exact rfl; exact rfl)
            | ((with_reducible apply w_pure (v := .string _)); exact rfl; exact rfl))
          | ((with_reducible apply g_bin); first
            | ((with_reducible apply w_pure (v := .bool _)); exact rfl; exact rfl))
          | ((with_reducible apply g_ix); first
            | ((with_reducible apply w_ixr (sz := 1)); exact rfl; exact rfl; exact rfl; exact rfl; omega; omega)))
        | with_reducible refine w_seq ?_
        | with_reducible refine w_nil ?_
        | with_reducible refine w_region ?_
        | with_reducible refine w_skip ?_
        | with_reducible refine w_block ?_
        | ((with_reducible apply w_ifd); exact rfl; all_goals (intro hc; first | (exfalso; omega) | skip)))
      refine w_load (v := .int .i64 x) rfl hg1 (by rw [part_one (by kernel_rfl), show 0 + ((i : Int)).toNat * 1 = i by omega]; exact iis_at hx) ?_
      repeat' (first
        | fail)
      refine w_rq (rput_run x 4 (by omega) _ _ _) (fun _ => rfl) ?_
      rintro _ rfl
      rw [putV_pos _ x0]
      repeat' (first
        | ((with_reducible apply g_op); first
          | ((with_reducible apply g_move); first
            | ((with_reducible apply w_pure (v := .int _ _)); exact rfl; exact rfl))
          | ((with_reducible apply g_bin); first
            | ((with_reducible apply w_cat); exact rfl; exact rfl; exact rfl; exact rfl; exact rfl; omega)
            | ((with_reducible apply w_wrap); exact rfl; exact rfl; first | exact i64_in _ (by omega) | exact u64_in _ (by omega) | exact u8_in _ (by omega)))
          | ((with_reducible apply g_assign); first
            | ((with_reducible apply w_pure (v := .int _ _)); exact rfl; exact rfl)
            | ((with_reducible apply w_pure (v := .string _)); exact rfl; exact rfl)))
        | with_reducible refine w_nil ?_
        | with_reducible refine w_region ?_
        | with_reducible refine w_blk ?_)
      exact ih (p ++ [x]) _ _ _ (by repeat' (first | with_reducible exact Fr.mix | with_reducible exact Fr.rfl' | with_reducible refine Fr.put ?_ ?_ | with_reducible refine Fr.mix2 ?_ ?_ | with_reducible refine Fr.put0 ?_ | exact rfl)) ⟨rfl, congrArg Value.string (by rw [quads_snoc]), rfl, rfl, by rw [← hp]; simp, by simp; omega⟩
    · rintro p σ _ _ ⟨k11, k10, rfl, rfl, hp, hpl⟩
      rw [first_len] at k11 hpl
      rw [List.append_nil] at hp
      subst hp
      refine w_keep (i := 10) k10 (w_keep (i := 11) k11 ?_)
      repeat' (first
        | ((with_reducible apply g_op); first
          | ((with_reducible apply g_move); first
            | ((with_reducible apply w_pure (v := .int _ _)); exact rfl; exact rfl))
          | ((with_reducible apply g_bin); first
            | ((with_reducible apply w_pure (v := .bool _)); exact rfl; exact rfl))
          | ((with_reducible apply g_assign); first
            | ((with_reducible apply w_pure (v := .int _ _)); exact rfl; exact rfl)))
        | with_reducible refine w_seq ?_
        | with_reducible refine w_nil ?_
        | with_reducible refine w_region ?_
        | with_reducible refine w_block ?_
        | ((with_reducible apply w_exit); exact rfl)
        | ((with_reducible apply w_ifd); exact rfl; all_goals (intro hc; first | (exfalso; omega) | skip)))
      refine w_rngK [(10, 10), (12, 12), (70, 81)] (nextL l l.length) (fun i rest (p : List Int) σ g' n' => σ 12 = .int .i64 (i : Nat) ∧ σ 10 = .string (quads p) ∧ gl = g' ∧ nl = n' ∧ p ++ rest = tableN l ∧ p.length = i + (bks l + 2)) ?_ ?_ ((bks l : Int) :: (l.length : Int) :: firstL l l.length) ⟨rfl, rfl, rfl, rfl, rfl, by omega⟩
      · rintro i x rest p σ _ _ hx hlt ⟨k12, k10, rfl, rfl, hp, hpl⟩ ih
        have hlt' := hlt
        rw [next_len] at hlt'
        obtain ⟨x0, x1'⟩ := hR x (List.mem_append_right _ (List.mem_of_getElem? hx))
        have hqs := quads_size p
        have z3 := putB_size x 4
        refine w_keep (i := 10) k10 (w_keep (i := 12) k12 ?_)
        repeat' (first
          | ((with_reducible apply g_op); first
            | ((with_reducible apply g_move); first
              | ((with_reducible apply w_pure (v := .int _ _)); exact rfl; exact rfl)
              | ((with_reducible apply w_pure (v := .slice _ _ _)); exact rfl; exact rfl)
              | ((with_reducible apply w_pure (v := .string _)); exact rfl; exact rfl))
            | ((with_reducible apply g_bin); first
              | ((with_reducible apply w_pure (v := .bool _)); exact rfl; exact rfl))
            | ((with_reducible apply g_ix); first
              | ((with_reducible apply w_ixr (sz := 1)); exact rfl; exact rfl; exact rfl; exact rfl; omega; omega)))
          | with_reducible refine w_seq ?_
          | with_reducible refine w_nil ?_
          | with_reducible refine w_region ?_
          | with_reducible refine w_skip ?_
          | with_reducible refine w_block ?_
          | ((with_reducible apply w_ifd); exact rfl; all_goals (intro hc; first | (exfalso; omega) | skip)))
        refine w_load (v := .int .i64 x) rfl hg2 (by rw [part_one (by kernel_rfl), show 0 + ((i : Int)).toNat * 1 = i by omega]; exact iis_at hx) ?_
        repeat' (first
          | fail)
        refine w_rq (rput_run x 4 (by omega) _ _ _) (fun _ => rfl) ?_
        rintro _ rfl
        rw [putV_pos _ x0]
        repeat' (first
          | ((with_reducible apply g_op); first
            | ((with_reducible apply g_move); first
              | ((with_reducible apply w_pure (v := .int _ _)); exact rfl; exact rfl))
            | ((with_reducible apply g_bin); first
              | ((with_reducible apply w_cat); exact rfl; exact rfl; exact rfl; exact rfl; exact rfl; omega)
              | ((with_reducible apply w_wrap); exact rfl; exact rfl; first | exact i64_in _ (by omega) | exact u64_in _ (by omega) | exact u8_in _ (by omega)))
            | ((with_reducible apply g_assign); first
              | ((with_reducible apply w_pure (v := .int _ _)); exact rfl; exact rfl)
              | ((with_reducible apply w_pure (v := .string _)); exact rfl; exact rfl)))
          | with_reducible refine w_nil ?_
          | with_reducible refine w_region ?_
          | with_reducible refine w_blk ?_)
        exact ih (p ++ [x]) _ _ _ (by repeat' (first | with_reducible exact Fr.mix | with_reducible exact Fr.rfl' | with_reducible refine Fr.put ?_ ?_ | with_reducible refine Fr.mix2 ?_ ?_ | with_reducible refine Fr.put0 ?_ | exact rfl)) ⟨rfl, congrArg Value.string (by rw [quads_snoc]), rfl, rfl, by rw [← hp]; simp, by simp; omega⟩
      · rintro p σ _ _ ⟨k12, k10, rfl, rfl, hp, hpl⟩
        rw [next_len] at k12 hpl
        rw [List.append_nil] at hp
        subst hp
        refine w_keep (i := 10) k10 (w_keep (i := 12) k12 ?_)
        repeat' (first
          | ((with_reducible apply g_op); first
            | ((with_reducible apply g_move); first
              | ((with_reducible apply w_pure (v := .int _ _)); exact rfl; exact rfl)
              | ((with_reducible apply w_pure (v := .string _)); exact rfl; exact rfl))
            | ((with_reducible apply g_bin); first
              | ((with_reducible apply w_pure (v := .bool _)); exact rfl; exact rfl))
            | ((with_reducible apply g_assign); first
              | ((with_reducible apply w_pure (v := .int _ _)); exact rfl; exact rfl)
              | ((with_reducible apply w_pure (v := .string _)); exact rfl; exact rfl)))
          | with_reducible refine w_seq ?_
          | with_reducible refine w_nil ?_
          | with_reducible refine w_region ?_
          | ((with_reducible apply w_exit); exact rfl)
          | ((with_reducible apply w_ifd); exact rfl; all_goals (intro hc; first | (exfalso; omega) | skip))
          | ((with_reducible apply w_ret (v := .tuple #[.string _, .int _ _])); exact rfl))
        exact fr_plain rfl rfl
end Sym
end Go.Proofs.Ytoknnbjkjhigbaa.L

