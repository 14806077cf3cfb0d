/- A file, turned: a text that is not much longer. -/
import Derived.Test.Ytohfbnpmhlpkhaac08O
namespace Go.Proofs.Ytohfbnpmhlpkhaa.L
open Go.L1 Go.IntWalk Oct
set_option linter.unusedVariables false
set_option linter.unusedSimpArgs false
set_option maxHeartbeats 4000000
set_option maxRecDepth 20000
theorem tmod_in (a : Int) {c : Int} (h : 0 < c) : -c < a.tmod c ∧ a.tmod c < c := by
  have h1 := Int.tmod_lt_of_pos a h
  have h2 := Int.tmod_lt_of_pos (-a) h
  rw [Int.neg_tmod] at h2
  omega
theorem rd_take (ls : List Int) (k : Nat) (h : k ≤ ls.length) : rdCells (ls.map (Value.int .u8)) (0 + 0 * 1) (k - 0) = some ((ls.take k).map (Value.int .u8)) := by
  unfold rdCells
  rw [if_pos (by rw [List.length_map]; omega)]
  simp
theorem nums_take (ls : List Int) (k : Nat) : (nums (ls.take k)).size ≤ ls.length := by rw [nums_size, List.length_take]; omega
theorem of_run (a b c d : Int) (s : ByteArray) (hs : s.size ≤ 100000) (g : Nat → Option Ob) (n m : Nat) : Rn Try.prog T 11 [.agg #[.int .i64 a, .int .i64 b, .int .i64 c, .int .i64 d], .string s] g n m (fun v g' n' => (∃ s' : ByteArray, v = .string s' ∧ s'.size ≤ s.size + 300) ∧ g' = g ∧ n' = n) := by
  refine c_quiet Try.func11 rfl rfl rfl rfl rfl ?_
  have ht := tmod_in d (c := 300) (by decide)
  repeat' (first
    | ((with_reducible apply g_op); first
      | ((with_reducible apply g_load); first
        | ((with_reducible apply w_load (v := .int _ _)); exact rfl; (first | assumption | (simp (disch := omega) only [upd_same, upd_ne]; first | done | assumption | exact rfl) | exact rfl); exact rfl))
      | ((with_reducible apply g_move); first
        | ((with_reducible apply w_pure (v := .int _ _)); exact rfl; exact rfl)
        | ((with_reducible apply w_pure (v := .string _)); exact rfl; exact rfl))
      | ((with_reducible apply g_bin); first
        | ((with_reducible apply w_mod); exact rfl; exact rfl; exact rfl; exact rfl; exact rfl; omega; omega)
        | ((with_reducible apply w_wrap); exact rfl; exact rfl; first | exact i64_in _ (by omega) | exact u64_in _ (by omega) | exact u8_in _ (by omega))
        | ((with_reducible apply w_pure (v := .int _ _)); exact rfl; exact rfl))
      | ((with_reducible apply g_fld); first
        | ((with_reducible apply w_fldp (o := 3)); exact rfl; exact rfl; exact rfl; exact (by decide)))
      | ((with_reducible apply g_assign); first
        | ((with_reducible apply w_pure (v := .int _ _)); exact rfl; exact rfl)
        | ((with_reducible apply w_pure (v := .string _)); exact rfl; exact rfl))
      | ((with_reducible apply g_box); first
        | ((with_reducible apply w_box (vs := [_, _, _, _])); exact rfl; exact rfl)))
    | with_reducible refine w_seq ?_
    | with_reducible refine w_nil ?_
    | with_reducible refine w_region ?_)
  obtain ⟨mm, hmm, hm3⟩ : ∃ mm : Nat, (d.tmod 300 + 300) % 300 = (mm : Int) ∧ mm < 300 := ⟨((d.tmod 300 + 300) % 300).toNat, by omega, by omega⟩
  rw [hmm]
  refine w_rq (rfill_run ⟨#[]⟩ mm (by decide) (by omega) _ _ _) (fun _ => rfl) ?_
  rintro _ rfl
  have hf := fillV_size (mm : Int) (by omega)
  generalize fillV ⟨#[]⟩ (mm : Int) = F at hf ⊢
  have hq := ByteArray.size_append (a := s) (b := F)
  repeat' (first
    | ((with_reducible apply g_op); first
      | ((with_reducible apply g_bin); first
        | ((with_reducible apply w_cat); exact rfl; exact rfl; exact rfl; exact rfl; exact rfl; omega))))
  generalize s ++ F = q at hq ⊢
  refine w_s2b rfl rfl rfl rfl rfl ?_
  obtain ⟨ls, hls⟩ : ∃ ls : List Int, ls = q.data.toList.map fun c => (c.toNat : Int) := ⟨_, rfl⟩
  have hll : ls.length = q.size := by rw [hls, List.length_map, size_list]
  rw [show (q.data.toList.map fun c => Value.int .u8 c.toNat) = ls.map (Value.int .u8) by rw [hls, List.map_map]; rfl]
  have fin : ∀ (ks : List Int) (k : Nat), ks.length = q.size → (nums (ks.take k)).size ≤ s.size + 300 := fun ks k hk => by have := nums_take ks k; omega
  have hff : F.size ≤ 300 := by omega
  by_cases h0 : 0 < q.size
  · repeat' (first
      | ((with_reducible apply g_op); first
        | ((with_reducible apply g_load); first
          | ((with_reducible apply w_load (v := .int _ _)); exact rfl; (first | assumption | (simp (disch := omega) only [upd_same, upd_ne]; first | done | assumption | exact rfl) | exact rfl); exact rfl))
        | ((with_reducible apply g_move); first
          | ((with_reducible apply w_pure (v := .slice _ _ _)); exact rfl; exact rfl))
        | ((with_reducible apply g_bin); first
          | ((with_reducible apply w_pure (v := .bool _)); exact rfl; exact rfl))
        | ((with_reducible apply g_fld); first
          | ((with_reducible apply w_fldp (o := 0)); exact rfl; exact rfl; exact rfl; exact (by decide)))
        | ((with_reducible apply g_assign); first
          | ((with_reducible apply w_pure (v := .slice _ _ _)); exact rfl; exact rfl))
        | ((with_reducible apply g_call); first
          | ((with_reducible apply w_call (v := .int _ _)); exact rfl)))
      | with_reducible refine w_seq ?_
      | with_reducible refine w_nil ?_
      | with_reducible refine w_region ?_
      | ((with_reducible apply w_ifd); exact rfl; all_goals (intro hc; first | (exfalso; omega) | skip)))
    have hta := tmod_in a (c := (q.size : Int)) (by omega)
    refine w_tmod rfl rfl rfl rfl rfl (by omega) ?_
    repeat' (first
      | ((with_reducible apply g_op); first
        | ((with_reducible apply g_move); first
          | ((with_reducible apply w_pure (v := .int _ _)); exact rfl; exact rfl)
          | ((with_reducible apply w_pure (v := .slice _ _ _)); exact rfl; exact rfl))
        | ((with_reducible apply g_bin); first
          | ((with_reducible apply w_mod); exact rfl; exact rfl; exact rfl; exact rfl; exact rfl; omega; omega)
          | ((with_reducible apply w_wrap); exact rfl; exact rfl; first | exact i64_in _ (by omega) | exact u64_in _ (by omega) | exact u8_in _ (by omega)))
        | ((with_reducible apply g_assign); first
          | ((with_reducible apply w_pure (v := .int _ _)); exact rfl; exact rfl))
        | ((with_reducible apply g_call); first
          | ((with_reducible apply w_call (v := .int _ _)); exact rfl)))
      | with_reducible refine w_nil ?_
      | ((with_reducible apply w_draw); kernel_rfl; kernel_rfl))
    obtain ⟨kk, hkk, hk3⟩ : ∃ kk : Nat, (a.tmod (q.size : Int) + q.size) % (q.size : Int) = (kk : Int) ∧ kk < q.size := ⟨((a.tmod (q.size : Int) + q.size) % (q.size : Int)).toNat, by have := Int.emod_nonneg (a.tmod (q.size : Int) + q.size) (show (q.size : Int) ≠ 0 by omega); omega, by have := Int.emod_lt_of_pos (a.tmod (q.size : Int) + q.size) (show (0 : Int) < q.size by omega); have := Int.emod_nonneg (a.tmod (q.size : Int) + q.size) (show (q.size : Int) ≠ 0 by omega); omega⟩
    rw [hkk]
    repeat' (first
      | ((with_reducible apply g_op); first
        | ((with_reducible apply g_ix); first
          | ((with_reducible apply w_ixr (sz := 1)); exact rfl; exact rfl; exact rfl; exact rfl; omega; omega))))
    obtain ⟨z, hz⟩ : ∃ z, ls[kk]? = some z := ⟨_, List.getElem?_eq_getElem (by omega)⟩
    have hidx : 0 + ((kk : Int)).toNat * 1 = kk := by omega
    rw [hidx]
    refine w_load (v := .int .u8 z) rfl upd_same (by rw [part_one (by kernel_rfl), List.getElem?_map, hz]; rfl) ?_
    repeat' (first
      | ((with_reducible apply g_op); first
        | ((with_reducible apply g_load); first
          | ((with_reducible apply w_load (v := .int _ _)); exact rfl; (first | assumption | (simp (disch := omega) only [upd_same, upd_ne]; first | done | assumption | exact rfl) | exact rfl); exact rfl))
        | ((with_reducible apply g_bin); first
          | ((with_reducible apply w_pure (v := .int _ _)); exact rfl; exact rfl))
        | ((with_reducible apply g_fld); first
          | ((with_reducible apply w_fldp (o := 1)); exact rfl; exact rfl; exact rfl; exact (by decide)))
        | ((with_reducible apply w_convw); exact rfl; exact rfl; exact rfl)
        | ((with_reducible apply g_ix); first
          | ((with_reducible apply w_ixr (sz := 1)); exact rfl; exact rfl; exact rfl; exact rfl; omega; omega))))
    rw [hidx]
    refine w_st1 (i := n + 1) (off := kk) (v := .int .u8 _) rfl rfl rfl rfl upd_same (by omega) rfl (by rw [List.length_map]; omega) ?_
    rw [← List.map_set]
    have hkl : ∀ z2 : Int, (ls.set kk z2).length = q.size := fun z2 => by rw [List.length_set]; exact hll
    repeat' (first
      | ((with_reducible apply g_op); first
        | ((with_reducible apply g_load); first
          | ((with_reducible apply w_load (v := .int _ _)); exact rfl; (first | assumption | (simp (disch := omega) only [upd_same, upd_ne]; first | done | assumption | exact rfl) | exact rfl); exact rfl))
        | ((with_reducible apply g_move); first
          | ((with_reducible apply w_pure (v := .int _ _)); exact rfl; exact rfl)
          | ((with_reducible apply w_pure (v := .slice _ _ _)); exact rfl; exact rfl))
        | ((with_reducible apply g_bin); first
          | ((with_reducible apply w_and (j := 6) (c1 := 64)); exact rfl; exact rfl; exact rfl; exact rfl; exact rfl; exact (by decide); exact (by decide); exact (by decide))
          | ((with_reducible apply w_wrap); exact rfl; exact rfl; first | exact i64_in _ (by omega) | exact u64_in _ (by omega) | exact u8_in _ (by omega))
          | ((with_reducible apply w_pure (v := .bool _)); exact rfl; exact rfl))
        | ((with_reducible apply g_fld); first
          | ((with_reducible apply w_fldp (o := 2)); exact rfl; exact rfl; exact rfl; exact (by decide)))
        | ((with_reducible apply g_assign); first
          | ((with_reducible apply w_pure (v := .int _ _)); exact rfl; exact rfl))
        | ((with_reducible apply g_call); first
          | ((with_reducible apply w_call (v := .int _ _)); exact rfl)))
      | with_reducible refine w_seq ?_
      | with_reducible refine w_nil ?_
      | with_reducible refine w_region ?_
      | with_reducible refine w_skip ?_
      | ((with_reducible apply w_ifd); exact rfl; all_goals (intro hc; first | (exfalso; omega) | skip)))
    all_goals refine w_sl (p := 0) (sz := 1) rfl rfl rfl rfl (num_of (by omega)) rfl (fun h => by cases h) ⟨by omega, by omega⟩ upd_same ?_
    all_goals refine w_b2s (ns := (ls.set kk _).take _) rfl rfl rfl rfl upd_same (rd_take _ _ (by rw [hkl]; omega)) ?_
    all_goals repeat' (first
                | ((with_reducible apply g_op); first
                  | ((with_reducible apply g_assign); first
                    | ((with_reducible apply w_pure (v := .string _)); exact rfl; exact rfl)))
                | with_reducible refine w_nil ?_
                | ((with_reducible apply w_ret (v := .string _)); exact rfl))
    all_goals exact ⟨rfl, _, rfl, fin _ _ (hkl _)⟩
  · repeat' (first
      | ((with_reducible apply g_op); first
        | ((with_reducible apply g_load); first
          | ((with_reducible apply w_load (v := .int _ _)); exact rfl; (first | assumption | (simp (disch := omega) only [upd_same, upd_ne]; first | done | assumption | exact rfl) | exact rfl); exact rfl))
        | ((with_reducible apply g_move); first
          | ((with_reducible apply w_pure (v := .int _ _)); exact rfl; exact rfl)
          | ((with_reducible apply w_pure (v := .slice _ _ _)); exact rfl; exact rfl))
        | ((with_reducible apply g_bin); first
          | ((with_reducible apply w_and (j := 6) (c1 := 64)); exact rfl; exact rfl; exact rfl; exact rfl; exact rfl; exact (by decide); exact (by decide); exact (by decide))
          | ((with_reducible apply w_wrap); exact rfl; exact rfl; first | exact i64_in _ (by omega) | exact u64_in _ (by omega) | exact u8_in _ (by omega))
          | ((with_reducible apply w_pure (v := .bool _)); exact rfl; exact rfl))
        | ((with_reducible apply g_fld); first
          | ((with_reducible apply w_fldp (o := 2)); exact rfl; exact rfl; exact rfl; exact (by decide)))
        | ((with_reducible apply g_assign); first
          | ((with_reducible apply w_pure (v := .int _ _)); exact rfl; exact rfl)
          | ((with_reducible apply w_pure (v := .slice _ _ _)); exact rfl; exact rfl))
        | ((with_reducible apply g_call); first
          | ((with_reducible apply w_call (v := .int _ _)); exact rfl)))
      | with_reducible refine w_seq ?_
      | with_reducible refine w_nil ?_
      | with_reducible refine w_region ?_
      | with_reducible refine w_skip ?_
      | ((with_reducible apply w_ifd); exact rfl; all_goals (intro hc; first | (exfalso; omega) | skip)))
    all_goals refine w_sl (p := 0) (sz := 1) rfl rfl rfl rfl (num_of (by omega)) rfl (fun h => by cases h) ⟨by omega, by omega⟩ upd_same ?_
    all_goals refine w_b2s (ns := ls.take _) rfl rfl rfl rfl upd_same (rd_take ls _ (by omega)) ?_
    all_goals repeat' (first
                | ((with_reducible apply g_op); first
                  | ((with_reducible apply g_assign); first
                    | ((with_reducible apply w_pure (v := .string _)); exact rfl; exact rfl)))
                | with_reducible refine w_nil ?_
                | ((with_reducible apply w_ret (v := .string _)); exact rfl))
    all_goals exact ⟨rfl, _, rfl, fin _ _ hll⟩
end Go.Proofs.Ytohfbnpmhlpkhaa.L

