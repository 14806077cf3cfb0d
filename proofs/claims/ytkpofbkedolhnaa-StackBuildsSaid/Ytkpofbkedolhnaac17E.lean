/- Ten texts of 40 bytes at most. -/
import Derived.Test.Ytkpofbkedolhnaac17C
import Derived.Test.YtkpofbkedolhnaaL1W
namespace Go.Proofs.Ytkpofbkedolhnaa.L
open Go.L1 Go.IntWalk
set_option linter.unusedVariables false
set_option linter.unusedSimpArgs false
set_option maxHeartbeats 4000000
set_option maxRecDepth 20000
namespace Stk
open Oct
def cut40 (s : ByteArray) : ByteArray := if s.size > 40 then s.extract 0 40 else s
def fewT (l : List ByteArray) : List ByteArray := (l.take 10).map cut40
theorem cut40_size (s : ByteArray) : (cut40 s).size ≤ 40 := by
  unfold cut40
  split
  · rw [ByteArray.size_extract]; omega
  · omega
theorem cut_tx : ∀ l : List ByteArray, txN (l.map cut40) ≤ 41 * l.length
  | [] => Nat.le_refl _
  | s :: r => by have := cut_tx r; have := cut40_size s; rw [List.map_cons, txN, List.length_cons]; omega
theorem few_tx (l : List ByteArray) : txN (fewT l) ≤ 410 := by
  have := cut_tx (l.take 10)
  rw [List.length_take] at this
  unfold fewT
  omega
theorem few_take (l : List ByteArray) (i : Nat) (s : ByteArray) (h : l[i]? = some s) : (l.take (i + 1)).map cut40 = (l.take i).map cut40 ++ [cut40 s] := by
  rw [List.take_add_one, h, List.map_append]; rfl
theorem cut_len (l : List ByteArray) (i : Nat) (h : i ≤ l.length) : ((l.take i).map cut40).length = i := by rw [List.length_map, List.length_take]; omega
theorem few_run (l : List ByteArray) : Rf Try.prog T 20 [tv tg l] (fun v => v = tv #[] (fewT l)) := by
  refine c_froz Try.func20 rfl rfl rfl rfl rfl rfl ?_
  intro g n
  repeat' (first
    | ((with_reducible apply g_op); first
      | ((with_reducible apply g_assign); first
        | ((with_reducible apply w_pure (v := .int _ _)); exact rfl; exact rfl)
        | ((with_reducible apply w_pure (v := .slice _ _ _)); exact rfl; exact rfl)))
    | with_reducible refine w_seq ?_
    | with_reducible refine w_nil ?_
    | with_reducible refine w_region ?_)
  refine w_block ?_
  refine w_cntK [(3, 28)] (min l.length 10) (fun i (o : Option Nat) σ g' n' => σ 3 = ov o i ∧ σ 4 = .int .i64 (i : Nat) ∧ Own g' n n' 9 ts o ((l.take i).map cut40) ∧ n ≤ n') ?_ ?_ none ⟨rfl, rfl, rfl, Nat.le_refl _⟩
  · rintro i o σ gl nl hlt ⟨k3, k4, ho, hn⟩ ih
    have hil : i < l.length := by omega
    obtain ⟨s, hs⟩ : ∃ s, l[i]? = some s := ⟨_, List.getElem?_eq_getElem hil⟩
    have hs' : l[((i : Int)).toNat]? = some s := hs
    have hcl := cut_len l i (by omega)
    have htk := few_take l i s hs
    cases o with
    | none =>
      have hi0 : i = 0 := by have := own_none ho; rw [this] at hcl; exact hcl.symm
      subst hi0
      have hl0 : ((l.take (0 + 1)).map cut40) = [cut40 s] := by rw [htk]; rfl
      simp only [ov] at k3
      refine w_keep (i := 3) k3 (w_keep (i := 4) k4 ?_)
      by_cases h40 : s.size > 40
      · have hcu : cut40 s = s.extract 0 40 := by unfold cut40; rw [if_pos h40]
        repeat' (first
          | ((with_reducible apply g_op); first
            | ((with_reducible apply g_load); first
              | ((with_reducible apply w_fl (v := .string _)); exact rfl; exact (fun _ => rfl); assumption; exact rfl))
            | ((with_reducible apply g_move); first
              | ((with_reducible apply w_pure (v := .int _ _)); exact rfl; exact rfl)
              | ((with_reducible apply w_pure (v := .bool _)); exact rfl; exact rfl)
              | ((with_reducible apply w_pure (v := .slice _ _ _)); exact rfl; exact rfl)
              | ((with_reducible apply w_pure (v := .string _)); exact rfl; exact rfl)
              | ((with_reducible apply w_pure (v := .func _ _ _)); exact rfl; exact rfl))
            | ((with_reducible apply g_bin); first
              | ((with_reducible apply w_wrap); exact rfl; exact rfl; first | exact i64_in _ (by omega) | exact u64_in _ (by omega) | exact u8_in _ (by omega))
              | ((with_reducible apply w_pure (v := .bool _)); exact rfl; exact rfl))
            | ((with_reducible apply g_pick); first
              | ((with_reducible apply w_pk1 (v := .bool _)); exact rfl; exact rfl; (first | assumption | exact decide_eq_true (by assumption) | exact decide_eq_false (by assumption) | exact decide_eq_true (by omega) | exact decide_eq_false (by omega) | exact beq_iff_eq.2 (by omega) | exact beq_eq_false_iff_ne.2 (by omega) | exact bne_iff_ne.2 (by omega) | exact bne_eq_false_iff_eq.2 (by omega))))
            | ((with_reducible apply g_assign); first
              | ((with_reducible apply w_pure (v := .int _ _)); exact rfl; exact rfl)
              | ((with_reducible apply w_pure (v := .slice _ _ _)); exact rfl; exact rfl)
              | ((with_reducible apply w_pure (v := .string _)); exact rfl; exact rfl))
            | ((with_reducible apply g_call); first
              | ((with_reducible apply w_call (v := .int _ _)); exact rfl)
              | ((with_reducible apply w_app0 (ns := [_])); exact rfl; exact rfl; exact rfl; exact rfl; exact rfl; exact rfl; (first | assumption | (simp (disch := omega) only [upd_same, upd_ne]; first | done | assumption | exact rfl) | exact rfl); exact rfl; exact rfl; exact (by decide); exact ⟨by decide, by decide⟩))
            | ((with_reducible apply w_ssl); exact rfl; exact rfl; (first | exact num_of (by omega) | exact rfl); (first | exact num_of (by omega) | exact rfl); omega)
            | ((with_reducible apply g_ix); first
              | ((with_reducible apply w_fx (sz := 1)); exact rfl; exact rfl; exact rfl; exact rfl; exact rfl; exact (fun _ => rfl); assumption; exact rfl))
            | ((with_reducible apply w_bsl (ls := [_])); exact rfl; exact rfl; exact rfl; exact ⟨by decide, rfl⟩; exact rfl))
          | ((with_reducible apply g_gd); first
            | ((with_reducible apply w_gd_t); exact rfl; all_goals (intro hc; first | (exfalso; omega) | skip)))
          | with_reducible refine w_seq ?_
          | with_reducible refine w_nil ?_
          | with_reducible refine w_region ?_
          | with_reducible refine w_skip ?_
          | with_reducible refine w_block ?_
          | with_reducible refine w_blk ?_
          | ((with_reducible apply w_yes); exact rfl)
          | ((with_reducible apply w_ifd); exact rfl; all_goals (intro hc; first | (exfalso; omega) | skip)))
        all_goals first | (exfalso; omega) | skip
        refine ih (some (nl + 1)) _ _ _ (by repeat' (first | with_reducible exact Fr.mix | with_reducible exact Fr.rfl' | with_reducible refine Fr.put ?_ ?_ | with_reducible refine Fr.mix2 ?_ ?_ | with_reducible refine Fr.put0 ?_ | exact rfl)) ⟨rfl, rfl, ?_, by omega⟩
        rw [hl0, hcu]
        refine ⟨by simp, by omega, by omega, ?_⟩
        simp (disch := omega) only [upd_same, upd_ne]
        rfl
      · have hcu : cut40 s = s := by unfold cut40; rw [if_neg h40]
        repeat' (first
          | ((with_reducible apply g_op); first
            | ((with_reducible apply g_load); first
              | ((with_reducible apply w_fl (v := .string _)); exact rfl; exact (fun _ => rfl); assumption; exact rfl))
            | ((with_reducible apply g_move); first
              | ((with_reducible apply w_pure (v := .int _ _)); exact rfl; exact rfl)
              | ((with_reducible apply w_pure (v := .bool _)); exact rfl; exact rfl)
              | ((with_reducible apply w_pure (v := .slice _ _ _)); exact rfl; exact rfl)
              | ((with_reducible apply w_pure (v := .string _)); exact rfl; exact rfl)
              | ((with_reducible apply w_pure (v := .func _ _ _)); exact rfl; exact rfl))
            | ((with_reducible apply g_bin); first
              | ((with_reducible apply w_wrap); exact rfl; exact rfl; first | exact i64_in _ (by omega) | exact u64_in _ (by omega) | exact u8_in _ (by omega))
              | ((with_reducible apply w_pure (v := .bool _)); exact rfl; exact rfl))
            | ((with_reducible apply g_pick); first
              | ((with_reducible apply w_pk1 (v := .bool _)); exact rfl; exact rfl; (first | assumption | exact decide_eq_true (by assumption) | exact decide_eq_false (by assumption) | exact decide_eq_true (by omega) | exact decide_eq_false (by omega) | exact beq_iff_eq.2 (by omega) | exact beq_eq_false_iff_ne.2 (by omega) | exact bne_iff_ne.2 (by omega) | exact bne_eq_false_iff_eq.2 (by omega))))
            | ((with_reducible apply g_assign); first
              | ((with_reducible apply w_pure (v := .int _ _)); exact rfl; exact rfl)
              | ((with_reducible apply w_pure (v := .slice _ _ _)); exact rfl; exact rfl)
              | ((with_reducible apply w_pure (v := .string _)); exact rfl; exact rfl))
            | ((with_reducible apply g_call); first
              | ((with_reducible apply w_call (v := .int _ _)); exact rfl)
              | ((with_reducible apply w_app0 (ns := [_])); exact rfl; exact rfl; exact rfl; exact rfl; exact rfl; exact rfl; (first | assumption | (simp (disch := omega) only [upd_same, upd_ne]; first | done | assumption | exact rfl) | exact rfl); exact rfl; exact rfl; exact (by decide); exact ⟨by decide, by decide⟩))
            | ((with_reducible apply g_ix); first
              | ((with_reducible apply w_fx (sz := 1)); exact rfl; exact rfl; exact rfl; exact rfl; exact rfl; exact (fun _ => rfl); assumption; exact rfl))
            | ((with_reducible apply w_bsl (ls := [_])); exact rfl; exact rfl; exact rfl; exact ⟨by decide, rfl⟩; exact rfl))
          | ((with_reducible apply g_gd); first
            | ((with_reducible apply w_gd_t); exact rfl; all_goals (intro hc; first | (exfalso; omega) | skip)))
          | with_reducible refine w_seq ?_
          | with_reducible refine w_nil ?_
          | with_reducible refine w_region ?_
          | with_reducible refine w_skip ?_
          | with_reducible refine w_block ?_
          | with_reducible refine w_blk ?_
          | ((with_reducible apply w_yes); exact rfl)
          | ((with_reducible apply w_ifd); exact rfl; all_goals (intro hc; first | (exfalso; omega) | skip)))
        all_goals first | (exfalso; omega) | skip
        refine ih (some (nl + 1)) _ _ _ (by repeat' (first | with_reducible exact Fr.mix | with_reducible exact Fr.rfl' | with_reducible refine Fr.put ?_ ?_ | with_reducible refine Fr.mix2 ?_ ?_ | with_reducible refine Fr.put0 ?_ | exact rfl)) ⟨rfl, rfl, ?_, by omega⟩
        rw [hl0, hcu]
        refine ⟨by simp, by omega, by omega, ?_⟩
        simp (disch := omega) only [upd_same, upd_ne]
        rfl
    | some o =>
      simp only [ov] at k3
      refine w_keep (i := 3) k3 (w_keep (i := 4) k4 ?_)
      by_cases h40 : s.size > 40
      · have hcu : cut40 s = s.extract 0 40 := by unfold cut40; rw [if_pos h40]
        repeat' (first
          | ((with_reducible apply g_op); first
            | ((with_reducible apply g_load); first
              | ((with_reducible apply w_fl (v := .string _)); exact rfl; exact (fun _ => rfl); assumption; exact rfl))
            | ((with_reducible apply g_move); first
              | ((with_reducible apply w_pure (v := .int _ _)); exact rfl; exact rfl)
              | ((with_reducible apply w_pure (v := .bool _)); exact rfl; exact rfl)
              | ((with_reducible apply w_pure (v := .slice _ _ _)); exact rfl; exact rfl)
              | ((with_reducible apply w_pure (v := .string _)); exact rfl; exact rfl)
              | ((with_reducible apply w_pure (v := .func _ _ _)); exact rfl; exact rfl))
            | ((with_reducible apply g_bin); first
              | ((with_reducible apply w_pure (v := .bool _)); exact rfl; exact rfl))
            | ((with_reducible apply g_pick); first
              | ((with_reducible apply w_pk1 (v := .bool _)); exact rfl; exact rfl; (first | assumption | exact decide_eq_true (by assumption) | exact decide_eq_false (by assumption) | exact decide_eq_true (by omega) | exact decide_eq_false (by omega) | exact beq_iff_eq.2 (by omega) | exact beq_eq_false_iff_ne.2 (by omega) | exact bne_iff_ne.2 (by omega) | exact bne_eq_false_iff_eq.2 (by omega))))
            | ((with_reducible apply g_assign); first
              | ((with_reducible apply w_pure (v := .string _)); exact rfl; exact rfl))
            | ((with_reducible apply g_call); first
              | ((with_reducible apply w_call (v := .int _ _)); exact rfl))
            | ((with_reducible apply w_ssl); exact rfl; exact rfl; (first | exact num_of (by omega) | exact rfl); (first | exact num_of (by omega) | exact rfl); omega)
            | ((with_reducible apply g_ix); first
              | ((with_reducible apply w_fx (sz := 1)); exact rfl; exact rfl; exact rfl; exact rfl; exact rfl; exact (fun _ => rfl); assumption; exact rfl))
            | ((with_reducible apply w_bsl (ls := [_])); exact rfl; exact rfl; exact rfl; exact ⟨by decide, rfl⟩; exact rfl))
          | ((with_reducible apply g_gd); first
            | ((with_reducible apply w_gd_t); exact rfl; all_goals (intro hc; first | (exfalso; omega) | skip)))
          | with_reducible refine w_seq ?_
          | with_reducible refine w_nil ?_
          | with_reducible refine w_region ?_
          | with_reducible refine w_skip ?_
          | with_reducible refine w_block ?_
          | ((with_reducible apply w_ifd); exact rfl; all_goals (intro hc; first | (exfalso; omega) | skip)))
        all_goals first | (exfalso; omega) | skip
        refine w_own1 (enc := ts) (y := (s.extract 0 40)) (by_ := 16) (sz := 1) (lo := n) (o := some o) (xs := (l.take i).map cut40) (ho.later (by omega) (fun j h1 h2 => upd_ne (by omega))) (by rw [hcl]; rfl) rfl rfl rfl rfl rfl (fun _ => rfl) upd_same rfl rfl rfl (by rw [hcl]; omega) (by omega) ?_
        intro g' h1 h2 h3
        have hl1 : ((l.take i).map cut40 ++ [(s.extract 0 40)]).length = i + 1 := by rw [List.length_append, hcl]; rfl
        repeat' (first
          | ((with_reducible apply g_op); first
            | ((with_reducible apply g_move); first
              | ((with_reducible apply w_pure (v := .int _ _)); exact rfl; exact rfl))
            | ((with_reducible apply g_bin); first
              | ((with_reducible apply w_wrap); exact rfl; exact rfl; first | exact i64_in _ (by omega) | exact u64_in _ (by omega) | exact u8_in _ (by omega)))
            | ((with_reducible apply g_assign); first
              | ((with_reducible apply w_pure (v := .int _ _)); exact rfl; exact rfl)
              | ((with_reducible apply w_pure (v := .slice _ _ _)); exact rfl; exact rfl)))
          | with_reducible refine w_nil ?_
          | with_reducible refine w_region ?_
          | with_reducible refine w_blk ?_)
        refine ih (some (nl + 1)) _ _ _ (by repeat' (first | with_reducible exact Fr.mix | with_reducible exact Fr.rfl' | with_reducible refine Fr.put ?_ ?_ | with_reducible refine Fr.mix2 ?_ ?_ | with_reducible refine Fr.put0 ?_ | exact rfl)) ⟨congrArg (fun q => slc (nl + 1) 0 q) hl1, rfl, by rw [htk, hcu]; exact h3, by omega⟩
      · have hcu : cut40 s = s := by unfold cut40; rw [if_neg h40]
        repeat' (first
          | ((with_reducible apply g_op); first
            | ((with_reducible apply g_load); first
              | ((with_reducible apply w_fl (v := .string _)); exact rfl; exact (fun _ => rfl); assumption; exact rfl))
            | ((with_reducible apply g_move); first
              | ((with_reducible apply w_pure (v := .int _ _)); exact rfl; exact rfl)
              | ((with_reducible apply w_pure (v := .bool _)); exact rfl; exact rfl)
              | ((with_reducible apply w_pure (v := .slice _ _ _)); exact rfl; exact rfl)
              | ((with_reducible apply w_pure (v := .string _)); exact rfl; exact rfl)
              | ((with_reducible apply w_pure (v := .func _ _ _)); exact rfl; exact rfl))
            | ((with_reducible apply g_bin); first
              | ((with_reducible apply w_pure (v := .bool _)); exact rfl; exact rfl))
            | ((with_reducible apply g_pick); first
              | ((with_reducible apply w_pk1 (v := .bool _)); exact rfl; exact rfl; (first | assumption | exact decide_eq_true (by assumption) | exact decide_eq_false (by assumption) | exact decide_eq_true (by omega) | exact decide_eq_false (by omega) | exact beq_iff_eq.2 (by omega) | exact beq_eq_false_iff_ne.2 (by omega) | exact bne_iff_ne.2 (by omega) | exact bne_eq_false_iff_eq.2 (by omega))))
            | ((with_reducible apply g_assign); first
              | ((with_reducible apply w_pure (v := .string _)); exact rfl; exact rfl))
            | ((with_reducible apply g_call); first
              | ((with_reducible apply w_call (v := .int _ _)); exact rfl))
            | ((with_reducible apply g_ix); first
              | ((with_reducible apply w_fx (sz := 1)); exact rfl; exact rfl; exact rfl; exact rfl; exact rfl; exact (fun _ => rfl); assumption; exact rfl))
            | ((with_reducible apply w_bsl (ls := [_])); exact rfl; exact rfl; exact rfl; exact ⟨by decide, rfl⟩; exact rfl))
          | ((with_reducible apply g_gd); first
            | ((with_reducible apply w_gd_t); exact rfl; all_goals (intro hc; first | (exfalso; omega) | skip)))
          | with_reducible refine w_seq ?_
          | with_reducible refine w_nil ?_
          | with_reducible refine w_region ?_
          | with_reducible refine w_skip ?_
          | with_reducible refine w_block ?_
          | ((with_reducible apply w_ifd); exact rfl; all_goals (intro hc; first | (exfalso; omega) | skip)))
        all_goals first | (exfalso; omega) | skip
        refine w_own1 (enc := ts) (y := s) (by_ := 16) (sz := 1) (lo := n) (o := some o) (xs := (l.take i).map cut40) (ho.later (by omega) (fun j h1 h2 => upd_ne (by omega))) (by rw [hcl]; rfl) rfl rfl rfl rfl rfl (fun _ => rfl) upd_same rfl rfl rfl (by rw [hcl]; omega) (by omega) ?_
        intro g' h1 h2 h3
        have hl1 : ((l.take i).map cut40 ++ [s]).length = i + 1 := by rw [List.length_append, hcl]; rfl
        repeat' (first
          | ((with_reducible apply g_op); first
            | ((with_reducible apply g_move); first
              | ((with_reducible apply w_pure (v := .int _ _)); exact rfl; exact rfl))
            | ((with_reducible apply g_bin); first
              | ((with_reducible apply w_wrap); exact rfl; exact rfl; first | exact i64_in _ (by omega) | exact u64_in _ (by omega) | exact u8_in _ (by omega)))
            | ((with_reducible apply g_assign); first
              | ((with_reducible apply w_pure (v := .int _ _)); exact rfl; exact rfl)
              | ((with_reducible apply w_pure (v := .slice _ _ _)); exact rfl; exact rfl)))
          | with_reducible refine w_nil ?_
          | with_reducible refine w_region ?_
          | with_reducible refine w_blk ?_)
        refine ih (some (nl + 1)) _ _ _ (by repeat' (first | with_reducible exact Fr.mix | with_reducible exact Fr.rfl' | with_reducible refine Fr.put ?_ ?_ | with_reducible refine Fr.mix2 ?_ ?_ | with_reducible refine Fr.put0 ?_ | exact rfl)) ⟨congrArg (fun q => slc (nl + 1) 0 q) hl1, rfl, by rw [htk, hcu]; exact h3, by omega⟩
  · rintro o σ gl nl ⟨k3, k4, ho, hn⟩
    have hcl := cut_len l (min l.length 10) (by omega)
    have hfin : (l.take (min l.length 10)).map cut40 = fewT l := by
      unfold fewT
      rcases Nat.le_total l.length 10 with h | h
      · rw [Nat.min_eq_left h, List.take_length, List.take_of_length_le h]
      · rw [Nat.min_eq_right h]
    have hex : ¬ (((min l.length 10 : Nat) : Int) < l.length ∧ ((min l.length 10 : Nat) : Int) < 10) := by omega
    have hfz := ho.fz (P := Try.prog) (k := 7) (tg := #[]) (lo' := n) (Nat.le_refl _) rfl (by decide) (fun _ => rfl) (sn_plains (all_flat (fun _ => rfl) _))
    rw [hcl] at hfz
    have hlen : min l.length 10 = (fewT l).length := by rw [← hfin, hcl]
    rw [hfin] at hfz
    generalize min l.length 10 = M at *
    subst hlen
    cases o with
    | none =>
      simp only [ov] at k3 hfz
      refine w_keep (i := 3) k3 (w_keep (i := 4) k4 ?_)
      repeat' (first
        | ((with_reducible apply g_op); first
          | ((with_reducible apply g_move); first
            | ((with_reducible apply w_pure (v := .int _ _)); exact rfl; exact rfl)
            | ((with_reducible apply w_pure (v := .bool _)); exact rfl; exact rfl)
            | ((with_reducible apply w_pure (v := .slice _ _ _)); exact rfl; exact rfl)
            | ((with_reducible apply w_pure (v := .func _ _ _)); exact rfl; exact rfl))
          | ((with_reducible apply g_bin); first
            | ((with_reducible apply w_pure (v := .bool _)); exact rfl; exact rfl))
          | ((with_reducible apply g_pick); first
            | ((with_reducible apply w_pk1 (v := .bool _)); exact rfl; exact rfl; (first | assumption | exact decide_eq_true (by assumption) | exact decide_eq_false (by assumption) | exact decide_eq_true (by omega) | exact decide_eq_false (by omega) | exact beq_iff_eq.2 (by omega) | exact beq_eq_false_iff_ne.2 (by omega) | exact bne_iff_ne.2 (by omega) | exact bne_eq_false_iff_eq.2 (by omega)))
            | ((with_reducible apply w_pk0 (v := .bool _)); exact rfl; exact rfl; (first | assumption | exact decide_eq_true (by assumption) | exact decide_eq_false (by assumption) | exact decide_eq_true (by omega) | exact decide_eq_false (by omega) | exact beq_iff_eq.2 (by omega) | exact beq_eq_false_iff_ne.2 (by omega) | exact bne_iff_ne.2 (by omega) | exact bne_eq_false_iff_eq.2 (by omega))))
          | ((with_reducible apply g_assign); first
            | ((with_reducible apply w_pure (v := .slice _ _ _)); exact rfl; exact rfl))
          | ((with_reducible apply g_call); first
            | ((with_reducible apply w_call (v := .int _ _)); exact rfl)))
        | ((with_reducible apply g_gd); first
          | ((with_reducible apply w_gd_t); exact rfl; all_goals (intro hc; first | (exfalso; omega) | skip)))
        | with_reducible refine w_seq ?_
        | with_reducible refine w_nil ?_
        | with_reducible refine w_region ?_
        | ((with_reducible apply w_exit); exact rfl)
        | ((with_reducible apply w_no); exact rfl)
        | ((with_reducible apply w_ifd); exact rfl; all_goals (intro hc; first | (exfalso; omega) | skip))
        | ((with_reducible apply w_ret (v := .slice _ _ _)); exact rfl))
      all_goals first | (exfalso; omega) | skip
      all_goals exact ⟨_, hfz, rfl⟩
    | some o =>
      simp only [ov] at k3 hfz
      refine w_keep (i := 3) k3 (w_keep (i := 4) k4 ?_)
      repeat' (first
        | ((with_reducible apply g_op); first
          | ((with_reducible apply g_move); first
            | ((with_reducible apply w_pure (v := .int _ _)); exact rfl; exact rfl)
            | ((with_reducible apply w_pure (v := .bool _)); exact rfl; exact rfl)
            | ((with_reducible apply w_pure (v := .slice _ _ _)); exact rfl; exact rfl)
            | ((with_reducible apply w_pure (v := .func _ _ _)); exact rfl; exact rfl))
          | ((with_reducible apply g_bin); first
            | ((with_reducible apply w_pure (v := .bool _)); exact rfl; exact rfl))
          | ((with_reducible apply g_pick); first
            | ((with_reducible apply w_pk1 (v := .bool _)); exact rfl; exact rfl; (first | assumption | exact decide_eq_true (by assumption) | exact decide_eq_false (by assumption) | exact decide_eq_true (by omega) | exact decide_eq_false (by omega) | exact beq_iff_eq.2 (by omega) | exact beq_eq_false_iff_ne.2 (by omega) | exact bne_iff_ne.2 (by omega) | exact bne_eq_false_iff_eq.2 (by omega)))
            | ((with_reducible apply w_pk0 (v := .bool _)); exact rfl; exact rfl; (first | assumption | exact decide_eq_true (by assumption) | exact decide_eq_false (by assumption) | exact decide_eq_true (by omega) | exact decide_eq_false (by omega) | exact beq_iff_eq.2 (by omega) | exact beq_eq_false_iff_ne.2 (by omega) | exact bne_iff_ne.2 (by omega) | exact bne_eq_false_iff_eq.2 (by omega))))
          | ((with_reducible apply g_assign); first
            | ((with_reducible apply w_pure (v := .slice _ _ _)); exact rfl; exact rfl))
          | ((with_reducible apply g_call); first
            | ((with_reducible apply w_call (v := .int _ _)); exact rfl)))
        | ((with_reducible apply g_gd); first
          | ((with_reducible apply w_gd_t); exact rfl; all_goals (intro hc; first | (exfalso; omega) | skip)))
        | with_reducible refine w_seq ?_
        | with_reducible refine w_nil ?_
        | with_reducible refine w_region ?_
        | ((with_reducible apply w_exit); exact rfl)
        | ((with_reducible apply w_no); exact rfl)
        | ((with_reducible apply w_ifd); exact rfl; all_goals (intro hc; first | (exfalso; omega) | skip))
        | ((with_reducible apply w_ret (v := .slice _ _ _)); exact rfl))
      all_goals first | (exfalso; omega) | skip
      all_goals exact ⟨_, hfz, rfl⟩
theorem small_run (a e : List ByteArray) (x : List (Int × Int)) (g : Nat → Option Ob) (n m : Nat) : Rn Try.prog T 9 [.agg #[tv tg a, tv tg e, pv tg x]] g n m (fun v g' n' => v = .agg #[tv #[] (fewT a), tv #[] (fewT e), pv tg (x.take 10)] ∧ (∀ j, j < n → g' j = g j) ∧ n ≤ n') := by
  refine c_clean Try.func9 rfl rfl rfl rfl rfl rfl ?_
  have fzT : ∀ {g : Nat → Option Ob} (l : List ByteArray), L1.freeze Try.prog g tg 0 9 (tv tg l) = some (tv tg l) := fun l => sn_fzp (.inr (by simp)) (all_flat (fun _ => rfl) _)
  repeat' (first
    | ((with_reducible apply g_op); first
      | ((with_reducible apply g_load); first
        | ((with_reducible apply w_load (v := .func _ _ _)); exact rfl; (first | assumption | (simp (disch := omega) only [upd_same, upd_ne]; first | done | assumption | exact rfl) | exact rfl); exact rfl))
      | ((with_reducible apply g_fld); first
        | ((with_reducible apply w_fldp (o := 0)); exact rfl; exact rfl; exact rfl; exact (by decide)))
      | ((with_reducible apply g_box); first
        | ((with_reducible apply w_box (vs := [_, _, _])); exact rfl; exact rfl))
      | ((with_reducible apply w_alloc (ls := [_, _, _])); exact rfl; exact rfl))
    | with_reducible refine w_seq ?_
    | with_reducible refine w_nil ?_
    | with_reducible refine w_region ?_)
  refine w_rf (few_run a) (fun _ => rfl) (sn_cons (fzT a) sn_nil) ?_
  rintro _ rfl
  repeat' (first
    | ((with_reducible apply g_op); first
      | ((with_reducible apply g_load); first
        | ((with_reducible apply w_load (v := .func _ _ _)); exact rfl; (first | assumption | (simp (disch := omega) only [upd_same, upd_ne]; first | done | assumption | exact rfl) | exact rfl); exact rfl))
      | ((with_reducible apply g_fld); first
        | ((with_reducible apply w_fldp (o := 0)); exact rfl; exact rfl; exact rfl; exact (by decide))
        | ((with_reducible apply w_fldp (o := 1)); exact rfl; exact rfl; exact rfl; exact (by decide)))
      | ((with_reducible apply g_store); first
        | ((with_reducible apply w_store (us := [.func _ _ _]) (ws := [_, _, _])); exact rfl; exact rfl; (first | assumption | (simp (disch := omega) only [upd_same, upd_ne]; first | done | assumption | exact rfl) | exact rfl); omega; exact rfl; exact rfl; exact rfl)))
    | with_reducible refine w_seq ?_
    | with_reducible refine w_nil ?_
    | with_reducible refine w_region ?_)
  refine w_rf (few_run e) (fun _ => rfl) (sn_cons (fzT e) sn_nil) ?_
  rintro _ rfl
  by_cases hl : x.length > 10
  · repeat' (first
      | ((with_reducible apply g_op); first
        | ((with_reducible apply g_load); first
          | ((with_reducible apply w_load (v := .func _ _ _)); exact rfl; (first | assumption | (simp (disch := omega) only [upd_same, upd_ne]; first | done | assumption | exact rfl) | exact rfl); exact rfl))
        | ((with_reducible apply g_bin); first
          | ((with_reducible apply w_pure (v := .bool _)); exact rfl; exact rfl))
        | ((with_reducible apply g_fld); first
          | ((with_reducible apply w_fldp (o := 1)); exact rfl; exact rfl; exact rfl; exact (by decide))
          | ((with_reducible apply w_fldp (o := 2)); exact rfl; exact rfl; exact rfl; exact (by decide)))
        | ((with_reducible apply g_call); first
          | ((with_reducible apply w_call (v := .int _ _)); exact rfl))
        | ((with_reducible apply g_store); first
          | ((with_reducible apply w_store (us := [.func _ _ _]) (ws := [_, _, _])); exact rfl; exact rfl; (first | assumption | (simp (disch := omega) only [upd_same, upd_ne]; first | done | assumption | exact rfl) | exact rfl); omega; exact rfl; exact rfl; exact rfl)))
      | with_reducible refine w_seq ?_
      | with_reducible refine w_nil ?_
      | with_reducible refine w_region ?_
      | ((with_reducible apply w_ifd); exact rfl; all_goals (intro hc; first | (exfalso; omega) | skip)))
    refine w_fsl (enc := pc) (ls := x) (sz := 2) rfl rfl rfl rfl rfl rfl (fun h => by cases h) (fun _ => rfl) rfl ⟨by omega, by omega⟩ ?_
    repeat' (first
      | ((with_reducible apply g_op); first
        | ((with_reducible apply g_load); first
          | ((with_reducible apply w_load (v := .agg #[_, _, _])); exact rfl; (first | assumption | (simp (disch := omega) only [upd_same, upd_ne]; first | done | assumption | exact rfl) | exact rfl); exact rfl))
        | ((with_reducible apply g_fld); first
          | ((with_reducible apply w_fldp (o := 2)); exact rfl; exact rfl; exact rfl; exact (by decide)))
        | ((with_reducible apply g_store); first
          | ((with_reducible apply w_store (us := [.func _ _ _]) (ws := [_, _, _])); exact rfl; exact rfl; (first | assumption | (simp (disch := omega) only [upd_same, upd_ne]; first | done | assumption | exact rfl) | exact rfl); omega; exact rfl; exact rfl; exact rfl)
          | ((with_reducible apply w_store (us := [_, _, _]) (ws := [_, _, _])); exact rfl; exact rfl; (first | assumption | (simp (disch := omega) only [upd_same, upd_ne]; first | done | assumption | exact rfl) | exact rfl); omega; exact rfl; exact rfl; exact rfl)))
      | with_reducible refine w_seq ?_
      | with_reducible refine w_nil ?_
      | with_reducible refine w_region ?_
      | ((with_reducible apply w_retc (v := .agg #[_, _, _])); exact rfl; exact rfl; (first | assumption | (simp (disch := omega) only [upd_same, upd_ne]; first | done | assumption | exact rfl) | exact rfl); exact rfl))
    have e1 : fz tg (10 - 0) (((x.drop 0).take (10 - 0)).flatMap pc) = pv tg (x.take 10) := by
      unfold pv
      rw [List.length_take, show min 10 x.length = 10 - 0 by omega]
      rfl
    split
    · exact ⟨by exact congrArg (fun w => Value.agg #[tv #[] (fewT a), tv #[] (fewT e), w]) e1, fun _ _ => rfl, Nat.le_refl _⟩
    · exact ⟨by exact congrArg (fun w => Value.agg #[tv #[] (fewT a), tv #[] (fewT e), w]) e1, fun j hj => by simp (disch := omega) only [upd_ne], by omega⟩
  · repeat' (first
      | ((with_reducible apply g_op); first
        | ((with_reducible apply g_load); first
          | ((with_reducible apply w_load (v := .func _ _ _)); exact rfl; (first | assumption | (simp (disch := omega) only [upd_same, upd_ne]; first | done | assumption | exact rfl) | exact rfl); exact rfl)
          | ((with_reducible apply w_load (v := .agg #[_, _, _])); exact rfl; (first | assumption | (simp (disch := omega) only [upd_same, upd_ne]; first | done | assumption | exact rfl) | exact rfl); exact rfl))
        | ((with_reducible apply g_bin); first
          | ((with_reducible apply w_pure (v := .bool _)); exact rfl; exact rfl))
        | ((with_reducible apply g_fld); first
          | ((with_reducible apply w_fldp (o := 1)); exact rfl; exact rfl; exact rfl; exact (by decide))
          | ((with_reducible apply w_fldp (o := 2)); exact rfl; exact rfl; exact rfl; exact (by decide)))
        | ((with_reducible apply g_call); first
          | ((with_reducible apply w_call (v := .int _ _)); exact rfl))
        | ((with_reducible apply g_store); first
          | ((with_reducible apply w_store (us := [.func _ _ _]) (ws := [_, _, _])); exact rfl; exact rfl; (first | assumption | (simp (disch := omega) only [upd_same, upd_ne]; first | done | assumption | exact rfl) | exact rfl); omega; exact rfl; exact rfl; exact rfl)
          | ((with_reducible apply w_store (us := [_, _, _]) (ws := [_, _, _])); exact rfl; exact rfl; (first | assumption | (simp (disch := omega) only [upd_same, upd_ne]; first | done | assumption | exact rfl) | exact rfl); omega; exact rfl; exact rfl; exact rfl)))
      | with_reducible refine w_seq ?_
      | with_reducible refine w_nil ?_
      | with_reducible refine w_region ?_
      | with_reducible refine w_skip ?_
      | ((with_reducible apply w_ifd); exact rfl; all_goals (intro hc; first | (exfalso; omega) | skip))
      | ((with_reducible apply w_retc (v := .agg #[_, _, _])); exact rfl; exact rfl; (first | assumption | (simp (disch := omega) only [upd_same, upd_ne]; first | done | assumption | exact rfl) | exact rfl); exact rfl))
    rw [List.take_of_length_le (by omega)]
    split
    · exact ⟨rfl, fun _ _ => rfl, Nat.le_refl _⟩
    · exact ⟨rfl, fun j hj => by simp (disch := omega) only [upd_ne], by omega⟩
end Stk
end Go.Proofs.Ytkpofbkedolhnaa.L

