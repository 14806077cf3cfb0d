/- StackSizes: walked, and its plain law. -/
import Derived.Test.Ytkpofbkedolhnaac17C
import Derived.Test.YtkpofbkedolhnaaL1W
namespace Go.Proofs.Ytkpofbkedolhnaa.L.StackSizes
open Go.L1 Go.IntWalk Go.Proofs.Ytkpofbkedolhnaa.L Stk Oct
set_option linter.unusedVariables false
set_option linter.unusedSimpArgs false
set_option maxHeartbeats 4000000
set_option maxRecDepth 20000
def tab : Tb := L.T
theorem tabok : ∀ C : Cx, C.P = Try.prog → TbOk C tab := L.tabok
def sB : Nat → ByteArray | 0 => ⟨#[]⟩ | k + 1 => sB k ++ ⟨#[115]⟩
theorem sB_size : ∀ k, (sB k).size = k
  | 0 => rfl
  | k + 1 => by rw [sB, ByteArray.size_append, sB_size k]; rfl
theorem has_app (a b : ByteArray) (c : UInt8) : has (a ++ b) c = (has a c || has b c) := by unfold has; rw [data_app, List.any_append]
theorem sB_has : ∀ k, has (sB k) 0 = false
  | 0 => rfl
  | k + 1 => by rw [sB, has_app, sB_has k]; rfl
theorem tx_rep (s : ByteArray) : ∀ m, txN (List.replicate m s) = m * (s.size + 1)
  | 0 => by simp [txN]
  | m + 1 => by rw [List.replicate_succ, txN, tx_rep s m, Nat.add_mul]; omega
set_option maxHeartbeats 0 in
theorem walk (x y : Int) (g : Nat → Option Ob) (s0 : Nat) : Rn Try.prog T 4 [.int .i64 x, .int .i64 y] g s0 s0 (fun v _ _ => v = .bool true) := by
  refine c_open Try.func4 rfl rfl rfl rfl rfl rfl ?_
  repeat' (first
    | ((with_reducible apply g_op); first
      | ((with_reducible apply g_assign); first
        | ((with_reducible apply w_pure (v := .bool _)); exact rfl; exact rfl)))
    | with_reducible refine w_seq ?_
    | with_reducible refine w_nil ?_
    | with_reducible refine w_region ?_)
  refine w_rf awake_run (fun _ => rfl) sn_nil ?_
  rintro v rfl
  repeat' (first
    | ((with_reducible apply g_op); first
      | ((with_reducible apply g_move); first
        | ((with_reducible apply w_pure (v := .int _ _)); exact rfl; exact rfl))
      | ((with_reducible apply g_bin); first
        | ((with_reducible apply w_pure (v := .int _ _)); exact rfl; exact rfl))
      | ((with_reducible apply g_assign); first
        | ((with_reducible apply w_pure (v := .int _ _)); exact rfl; exact rfl)
        | ((with_reducible apply w_pure (v := .bool _)); exact rfl; exact rfl)
        | ((with_reducible apply w_pure (v := .string _)); exact rfl; exact rfl)))
    | with_reducible refine w_seq ?_
    | with_reducible refine w_nil ?_
    | with_reducible refine w_region ?_)
  obtain ⟨M, hM, hM9⟩ := rest x 10 (by decide) (by decide)
  obtain ⟨k, hk, hk9⟩ := rest y 21 (by decide) (by decide)
  rw [hM, hk]
  refine w_meetK [(8, 9), (26, 32)] (fun σ' g' n' => σ' 8 = .string (sB k) ∧ s0 = n') ?_ ?_
  · intro K R hK
    repeat' (first
      | with_reducible refine w_block ?_)
    refine w_cntK [(8, 9), (26, 32)] k (fun i (_ : Unit) σ g' n' => σ 8 = .string (sB i) ∧ σ 9 = .int .i64 (i : Nat) ∧ s0 = n') ?_ ?_ () ⟨rfl, rfl, rfl⟩
    · rintro i _ σ g2 _ hlt ⟨k8, k9, rfl⟩ ih
      refine w_keep (i := 8) k8 (w_keep (i := 9) k9 ?_)
      have hz := sB_size i
      have l1 : (⟨#[115]⟩ : ByteArray).size = 1 := rfl
      repeat' (first
        | ((with_reducible apply g_op); first
          | ((with_reducible apply g_move); first
            | ((with_reducible apply w_pure (v := .int _ _)); exact rfl; exact rfl)
            | ((with_reducible apply w_pure (v := .string _)); exact rfl; exact rfl))
          | ((with_reducible apply g_bin); first
            | ((with_reducible apply w_cat); exact rfl; exact rfl; exact rfl; exact rfl; exact rfl; omega)
            | ((with_reducible apply w_wrap); exact rfl; exact rfl; first | exact i64_in _ (by omega) | exact u64_in _ (by omega) | exact u8_in _ (by omega))
            | ((with_reducible apply w_pure (v := .bool _)); exact rfl; exact rfl))
          | ((with_reducible apply g_assign); first
            | ((with_reducible apply w_pure (v := .int _ _)); exact rfl; exact rfl)
            | ((with_reducible apply w_pure (v := .string _)); exact rfl; exact rfl)))
        | with_reducible refine w_seq ?_
        | with_reducible refine w_nil ?_
        | with_reducible refine w_region ?_
        | with_reducible refine w_skip ?_
        | with_reducible refine w_block ?_
        | with_reducible refine w_blk ?_
        | ((with_reducible apply w_ifd); exact rfl; all_goals (intro hc; first | (exfalso; omega) | skip)))
      exact ih () _ _ _ (by repeat' (first | with_reducible exact Fr.mix | with_reducible exact Fr.rfl' | with_reducible refine Fr.put ?_ ?_ | with_reducible refine Fr.mix2 ?_ ?_ | with_reducible refine Fr.put0 ?_ | exact rfl)) ⟨rfl, rfl, rfl⟩
    · rintro _ σ g2 _ ⟨k8, k9, rfl⟩
      refine w_keep (i := 8) k8 (w_keep (i := 9) k9 ?_)
      repeat' (first
        | ((with_reducible apply g_op); first
          | ((with_reducible apply g_move); first
            | ((with_reducible apply w_pure (v := .int _ _)); exact rfl; exact rfl))
          | ((with_reducible apply g_bin); first
            | ((with_reducible apply w_pure (v := .bool _)); exact rfl; exact rfl)))
        | with_reducible refine w_seq ?_
        | with_reducible refine w_nil ?_
        | with_reducible refine w_region ?_
        | ((with_reducible apply w_exit); exact rfl)
        | ((with_reducible apply w_ifd); exact rfl; all_goals (intro hc; first | (exfalso; omega) | skip)))
      exact hK _ _ _ (by repeat' (first | with_reducible exact Fr.mix | with_reducible exact Fr.rfl' | with_reducible refine Fr.put ?_ ?_ | with_reducible refine Fr.mix2 ?_ ?_ | with_reducible refine Fr.put0 ?_ | exact rfl)) ⟨rfl, rfl⟩
  rintro σ1 g1 _ ⟨k8, rfl⟩
  refine w_keep (i := 8) k8 ?_
  repeat' (first
    | ((with_reducible apply g_op); first
      | ((with_reducible apply g_assign); first
        | ((with_reducible apply w_pure (v := .int _ _)); exact rfl; exact rfl)
        | ((with_reducible apply w_pure (v := .slice _ _ _)); exact rfl; exact rfl)))
    | with_reducible refine w_seq ?_
    | with_reducible refine w_nil ?_
    | with_reducible refine w_region ?_)
  have hsz := sB_size k
  have hsh := sB_has k
  generalize sB k = s at *
  refine w_meetK [(10, 11), (33, 41)] (fun σ' g' n' => ∃ o, σ' 10 = .slice (raOf o) M M ∧ Own g' s0 n' 9 ts o (List.replicate M s) ∧ s0 ≤ n') ?_ ?_
  · intro K R hK
    repeat' (first
      | with_reducible refine w_block ?_)
    refine w_cntK [(10, 11), (33, 41)] M (fun i (o : Option Nat) σ g' n' => σ 10 = ov o i ∧ σ 11 = .int .i64 (i : Nat) ∧ Own g' s0 n' 9 ts o (List.replicate i s) ∧ s0 ≤ n') ?_ ?_ none ⟨rfl, rfl, rfl, Nat.le_refl _⟩
    · rintro i o σ gl nl hlt ⟨k10, k11, ho, hn⟩ ih
      have hrep : List.replicate (i + 1) s = List.replicate i s ++ [s] := List.replicate_succ'
      cases o with
      | none =>
        have hi0 : i = 0 := by have := own_none ho; cases i with | zero => rfl | succ i => rw [List.replicate_succ] at this; cases this
        subst hi0
        simp only [ov] at k10
        refine w_keep (i := 10) k10 (w_keep (i := 11) k11 ?_)
        repeat' (first
          | ((with_reducible apply g_op); first
            | ((with_reducible apply g_move); first
              | ((with_reducible apply w_pure (v := .int _ _)); exact rfl; exact rfl)
              | ((with_reducible apply w_pure (v := .slice _ _ _)); exact rfl; exact rfl)
              | ((with_reducible apply w_pure (v := .string _)); exact rfl; exact rfl))
            | ((with_reducible apply g_bin); first
              | ((with_reducible apply w_wrap); exact rfl; exact rfl; first | exact i64_in _ (by omega) | exact u64_in _ (by omega) | exact u8_in _ (by omega))
              | ((with_reducible apply w_pure (v := .bool _)); exact rfl; exact rfl))
            | ((with_reducible apply g_assign); first
              | ((with_reducible apply w_pure (v := .int _ _)); exact rfl; exact rfl)
              | ((with_reducible apply w_pure (v := .slice _ _ _)); exact rfl; exact rfl))
            | ((with_reducible apply g_call); first
              | ((with_reducible apply w_app0 (ns := [_])); exact rfl; exact rfl; exact rfl; exact rfl; exact rfl; exact rfl; (first | assumption | (simp (disch := omega) only [upd_same, upd_ne]; first | done | assumption | exact rfl) | exact rfl); exact rfl; exact rfl; exact (by decide); exact ⟨by decide, by decide⟩))
            | ((with_reducible apply w_bsl (ls := [_])); exact rfl; exact rfl; exact rfl; exact ⟨by decide, rfl⟩; exact rfl))
          | with_reducible refine w_seq ?_
          | with_reducible refine w_nil ?_
          | with_reducible refine w_region ?_
          | with_reducible refine w_skip ?_
          | with_reducible refine w_block ?_
          | with_reducible refine w_blk ?_
          | ((with_reducible apply w_ifd); exact rfl; all_goals (intro hc; first | (exfalso; omega) | skip)))
        refine ih (some (nl + 1)) _ _ _ (by repeat' (first | with_reducible exact Fr.mix | with_reducible exact Fr.rfl' | with_reducible refine Fr.put ?_ ?_ | with_reducible refine Fr.mix2 ?_ ?_ | with_reducible refine Fr.put0 ?_ | exact rfl)) ⟨rfl, rfl, ⟨by simp, by omega, by omega, ?_⟩, by omega⟩
        simp (disch := omega) only [upd_same, upd_ne]
        rfl
      | some o =>
        simp only [ov] at k10
        refine w_keep (i := 10) k10 (w_keep (i := 11) k11 ?_)
        repeat' (first
          | ((with_reducible apply g_op); first
            | ((with_reducible apply g_move); first
              | ((with_reducible apply w_pure (v := .int _ _)); exact rfl; exact rfl)
              | ((with_reducible apply w_pure (v := .slice _ _ _)); exact rfl; exact rfl)
              | ((with_reducible apply w_pure (v := .string _)); exact rfl; exact rfl))
            | ((with_reducible apply g_bin); first
              | ((with_reducible apply w_pure (v := .bool _)); exact rfl; exact rfl))
            | ((with_reducible apply w_bsl (ls := [_])); exact rfl; exact rfl; exact rfl; exact ⟨by decide, rfl⟩; exact rfl))
          | with_reducible refine w_seq ?_
          | with_reducible refine w_nil ?_
          | with_reducible refine w_region ?_
          | with_reducible refine w_skip ?_
          | with_reducible refine w_block ?_
          | ((with_reducible apply w_ifd); exact rfl; all_goals (intro hc; first | (exfalso; omega) | skip)))
        refine w_own1 (enc := ts) (y := s) (by_ := 16) (sz := 1) (lo := s0) (o := some o) (xs := List.replicate i s) (ho.later (by omega) (fun j h1 h2 => upd_ne (by omega))) (by rw [List.length_replicate]; rfl) rfl rfl rfl rfl rfl (fun _ => rfl) upd_same rfl rfl rfl (by rw [List.length_replicate]; omega) (by omega) ?_
        intro g' h1 h2 h3
        have hl1 : (List.replicate i s ++ [s]).length = i + 1 := by simp
        rw [← hrep] at h3
        repeat' (first
          | ((with_reducible apply g_op); first
            | ((with_reducible apply g_move); first
              | ((with_reducible apply w_pure (v := .int _ _)); exact rfl; exact rfl))
            | ((with_reducible apply g_bin); first
              | ((with_reducible apply w_wrap); exact rfl; exact rfl; first | exact i64_in _ (by omega) | exact u64_in _ (by omega) | exact u8_in _ (by omega)))
            | ((with_reducible apply g_assign); first
              | ((with_reducible apply w_pure (v := .int _ _)); exact rfl; exact rfl)
              | ((with_reducible apply w_pure (v := .slice _ _ _)); exact rfl; exact rfl)))
          | with_reducible refine w_nil ?_
          | with_reducible refine w_region ?_
          | with_reducible refine w_blk ?_)
        exact ih (some (nl + 1)) _ _ _ (by repeat' (first | with_reducible exact Fr.mix | with_reducible exact Fr.rfl' | with_reducible refine Fr.put ?_ ?_ | with_reducible refine Fr.mix2 ?_ ?_ | with_reducible refine Fr.put0 ?_ | exact rfl)) ⟨congrArg (fun q => slc (nl + 1) 0 q) hl1, rfl, h3, by omega⟩
    · rintro o σ gl nl ⟨k10, k11, ho, hn⟩
      have h10 := own_ov ho
      rw [List.length_replicate] at h10
      rw [h10] at k10
      refine w_keep (i := 10) k10 (w_keep (i := 11) k11 ?_)
      repeat' (first
        | ((with_reducible apply g_op); first
          | ((with_reducible apply g_move); first
            | ((with_reducible apply w_pure (v := .int _ _)); exact rfl; exact rfl))
          | ((with_reducible apply g_bin); first
            | ((with_reducible apply w_pure (v := .bool _)); exact rfl; exact rfl)))
        | with_reducible refine w_seq ?_
        | with_reducible refine w_nil ?_
        | with_reducible refine w_region ?_
        | ((with_reducible apply w_exit); exact rfl)
        | ((with_reducible apply w_ifd); exact rfl; all_goals (intro hc; first | (exfalso; omega) | skip)))
      exact hK _ _ _ (by repeat' (first | with_reducible exact Fr.mix | with_reducible exact Fr.rfl' | with_reducible refine Fr.put ?_ ?_ | with_reducible refine Fr.mix2 ?_ ?_ | with_reducible refine Fr.put0 ?_ | exact rfl)) ⟨o, rfl, ho, hn⟩
  rintro σ2 gl nl ⟨o, k10, ho, hn⟩
  have hfz := own_tv ho
  rw [List.length_replicate] at hfz
  obtain ⟨V0, hV0⟩ : ∃ V0, V0 = Value.slice (raOf o) M M := ⟨_, rfl⟩
  rw [← hV0] at k10 hfz
  have htx := tx_rep s M
  rw [hsz] at htx
  have hmk : M * (k + 1) ≤ 9 * 21 := Nat.mul_le_mul (by omega) (by omega)
  have hmay := may_texts (List.replicate M s) (fun t ht => by rw [List.eq_of_mem_replicate ht]; exact hsh)
  have hz : szN (List.replicate M s) [] [] = (8 * (5 + M) + M * (k + 1) + 15) / 16 * 16 := by unfold szN; rw [List.length_replicate, htx]; simp [txN]
  obtain ⟨E, hE⟩ : ∃ E, M * (k + 1) = E := ⟨_, rfl⟩
  rw [hE] at hz hmk htx
  have hmul : IntKind.i64.wrap ((M : Int) * (8 + (k : Int) + 1)) = 8 * M + E := by
    have h1 : (M : Int) * (8 + (k : Int) + 1) = 8 * M + E := by
      rw [show (8 : Int) + (k : Int) + 1 = 8 + ((k + 1 : Nat) : Int) by omega, Int.mul_add, ← Int.natCast_mul, hE, Int.mul_comm]
    rw [h1, i64_in _ (by omega)]
  have hexa : IntKind.i64.wrap (40 + (8 * (M : Int) + E)) = 40 + (8 * M + E) := i64_in _ (by omega)
  obtain ⟨S, hS1, hS2, -⟩ := buildV_ok 2048 (List.replicate M s) [] [] (by decide) hmay (by omega)
  generalize hZ : szN (List.replicate M s) [] [] = Z at *
  refine w_keep (i := 10) k10 ?_
  repeat' (first
    | with_reducible refine w_seq ?_
    | with_reducible refine w_region ?_)
  refine w_pure (v := V0) rfl rfl ?_
  refine w_rf (size_run (List.replicate M s) [] [] (by omega) (by decide) (by decide)) (fun _ => rfl) (sn_cons hfz (sn_cons sn_none (sn_cons sn_none sn_nil))) ?_
  rintro _ rfl
  rw [hZ]
  repeat' (first
    | ((with_reducible apply g_op); first
      | ((with_reducible apply g_move); first
        | ((with_reducible apply w_pure (v := .int _ _)); exact rfl; exact rfl))
      | ((with_reducible apply g_bin); first
        | ((with_reducible apply w_wrap); exact rfl; exact rfl; first | exact i64_in _ (by omega) | exact u64_in _ (by omega) | exact u8_in _ (by omega))
        | ((with_reducible apply w_pure (v := .int _ _)); exact rfl; exact rfl))
      | ((with_reducible apply g_assign); first
        | ((with_reducible apply w_pure (v := .int _ _)); exact rfl; exact rfl)))
    | with_reducible refine w_seq ?_
    | with_reducible refine w_nil ?_
    | with_reducible refine w_region ?_)
  refine w_pure (v := V0) rfl rfl ?_
  refine w_rf (build_run 2048 (List.replicate M s) [] [] (by omega) (by decide) (by decide)) (fun _ => rfl) (sn_cons (sn_plain rfl) (sn_cons hfz (sn_cons sn_none (sn_cons sn_none sn_nil)))) ?_
  rintro _ rfl
  rw [hS2, hmul]
  dsimp only
  repeat' (first
    | ((with_reducible apply g_op); first
      | ((with_reducible apply g_move); first
        | ((with_reducible apply w_pure (v := .int _ _)); exact rfl; exact rfl)
        | ((with_reducible apply w_pure (v := .bool _)); exact rfl; exact rfl)
        | ((with_reducible apply w_pure (v := .string _)); exact rfl; exact rfl)
        | ((with_reducible apply w_pure (v := .tuple _)); exact rfl; exact rfl))
      | ((with_reducible apply g_bin); first
        | ((with_reducible apply w_mod); exact rfl; exact rfl; exact rfl; exact rfl; exact rfl; omega; omega)
        | ((with_reducible apply w_wrap); exact rfl; exact rfl; first | exact i64_in _ (by omega) | exact u64_in _ (by omega) | exact u8_in _ (by omega))
        | ((with_reducible apply w_pure (v := .bool _)); exact rfl; exact rfl))
      | ((with_reducible apply g_pick); first
        | ((with_reducible apply w_pk1 (v := .bool _)); exact rfl; exact rfl; (first | assumption | exact decide_eq_true (by assumption) | exact decide_eq_false (by assumption) | exact decide_eq_true (by omega) | exact decide_eq_false (by omega) | exact beq_iff_eq.2 (by omega) | exact beq_eq_false_iff_ne.2 (by omega) | exact bne_iff_ne.2 (by omega) | exact bne_eq_false_iff_eq.2 (by omega))))
      | ((with_reducible apply g_assign); first
        | ((with_reducible apply w_pure (v := .int _ _)); exact rfl; exact rfl)
        | ((with_reducible apply w_pure (v := .bool _)); exact rfl; exact rfl)
        | ((with_reducible apply w_pure (v := .string _)); exact rfl; exact rfl))
      | ((with_reducible apply g_call); first
        | ((with_reducible apply w_call (v := .int _ _)); exact rfl))
      | ((with_reducible apply w_pure (v := .int _ _)); exact rfl; exact rfl)
      | ((with_reducible apply w_pure (v := .bool _)); exact rfl; exact rfl)
      | ((with_reducible apply w_pure (v := .string _)); exact rfl; exact rfl))
    | ((with_reducible apply g_gd); first
      | ((with_reducible apply w_want); exact rfl)
      | ((with_reducible apply w_gd_t); exact rfl; all_goals (intro hc; first | (exfalso; omega) | skip)))
    | with_reducible refine w_seq ?_
    | with_reducible refine w_nil ?_
    | with_reducible refine w_region ?_
    | ((with_reducible apply w_ret (v := .bool _)); exact rfl))
  all_goals first | (exfalso; omega) | skip
  all_goals first | rfl | exact congrArg Value.bool (beq_self_eq_true _)
theorem proved (x0 x1 : Int) {p q : Prop} (w0 : p) (w1 : q) : Rn Try.prog tab 4 [.int .i64 x0, .int .i64 x1] (fun _ => none) 0 0 (fun v _ _ => v = .bool true) := walk x0 x1 _ 0
end Go.Proofs.Ytkpofbkedolhnaa.L.StackSizes

