/- dynamic.Same; short; the chapter's examples. -/
import Derived.Test.Ytffgdfoeeaoonaac09C
namespace Go.Proofs.Ytffgdfoeeaoonaa.L
open Go.L1 Go.IntWalk
set_option linter.unusedVariables false
set_option linter.unusedSimpArgs false
set_option maxHeartbeats 4000000
def Dyn.same (a b : Dyn) : Bool := tags.foldl (fun r t => r && (a.get t == b.get t)) (decide (a.nd = b.nd))
theorem Dyn.same_iff (a b : Dyn) : a.same b = true ↔ a = b := by
  obtain ⟨a0, a1, a2, a3, a4, a5, a6, a7, a8⟩ := a
  obtain ⟨b0, b1, b2, b3, b4, b5, b6, b7, b8⟩ := b
  simp [Dyn.same, tags, Dyn.get]
  constructor
  · rintro ⟨⟨⟨⟨⟨⟨⟨⟨h0, h1⟩, h2⟩, h3⟩, h4⟩, h5⟩, h6⟩, h7⟩, h8⟩
    exact ⟨h0, h2, h6, h3, h1, h4, h5, h7, h8⟩
  · rintro ⟨h0, h2, h6, h3, h1, h4, h5, h7, h8⟩
    exact ⟨⟨⟨⟨⟨⟨⟨⟨h0, h1⟩, h2⟩, h3⟩, h4⟩, h5⟩, h6⟩, h7⟩, h8⟩
instance : DecidableEq Dyn := fun a b => decidable_of_iff _ (Dyn.same_iff a b)
theorem same_run (a b : Dyn) (ha : a.nd.length ≤ 1000) (hb : b.nd.length ≤ 1000) : Rf Try.prog T 11 [a.v tg, b.v tg] (fun v => v = .bool (decide (a = b))) := by
  refine c_froz Try.func11 rfl rfl rfl rfl rfl rfl ?_
  intro g n
  obtain ⟨R, hR⟩ : ∃ R, R = a.same b := ⟨_, rfl⟩
  have hd : decide (a = b) = R := by rw [hR, Bool.eq_iff_iff, decide_eq_true_eq]; exact (Dyn.same_iff a b).symm
  rw [hd]
  repeat' (first
    | ((with_reducible apply g_op); first
      | ((with_reducible apply g_load); first
        | ((with_reducible apply w_load (v := .func _ _ _)); exact rfl; (first | assumption | (simp (disch := omega) only [upd_same, upd_ne]; first | done | assumption | exact rfl) | exact rfl); exact rfl))
      | ((with_reducible apply g_fld); first
        | ((with_reducible apply w_fldp (o := 0)); exact rfl; exact rfl; exact rfl; exact (by decide)))
      | ((with_reducible apply g_assign); first
        | ((with_reducible apply w_pure (v := .bool _)); exact rfl; exact rfl))
      | ((with_reducible apply g_box); first
        | ((with_reducible apply w_box (vs := [_, _, _, _, _, _, _, _, _])); exact rfl; exact rfl)))
    | with_reducible refine w_seq ?_
    | with_reducible refine w_nil ?_
    | with_reducible refine w_region ?_)
  refine w_rf (equal_run a.nd b.nd (by omega) (by omega)) (fun _ => rfl) (sn_cons iv_sn (sn_cons iv_sn sn_nil)) ?_
  rintro _ rfl
  repeat' (first
    | ((with_reducible apply g_op); first
      | ((with_reducible apply g_move); first
        | ((with_reducible apply w_pure (v := .int _ _)); exact rfl; exact rfl))
      | ((with_reducible apply g_assign); first
        | ((with_reducible apply w_pure (v := .bool _)); exact rfl; exact rfl))
      | ((with_reducible apply g_build); first
        | ((with_reducible apply w_pure (v := .agg #[_, _, _, _, _, _, _, _])); exact rfl; exact rfl)))
    | with_reducible refine w_seq ?_
    | with_reducible refine w_nil ?_
    | with_reducible refine w_region ?_
    | with_reducible refine w_block ?_)
  refine w_rng tags (fun i rest (r : Bool) σ g' n' => σ 13 = .agg #[.int .u64 4, .int .u64 5, .int .u64 6, .int .u64 7, .int .u64 8, .int .u64 10, .int .u64 14, .int .u64 1879047669] ∧ σ 14 = .int .i64 (i : Nat) ∧ σ 2 = ptr n 0 ∧ σ 3 = ptr (n + 1) 0 ∧ σ 5 = .bool r
    ∧ g' n = some (.cells 26 (a.c tg)) ∧ g' (n + 1) = some (.cells 26 (b.c tg)) ∧ rest.foldl (fun r t => r && (a.get t == b.get t)) r = R ∧ n + 2 ≤ n') ?_ ?_ (decide (a.nd = b.nd)) ⟨rfl, rfl, rfl, rfl, rfl, by simp (disch := omega) only [upd_same, upd_ne]; rfl, by simp (disch := omega) only [upd_same, upd_ne]; rfl, hR.symm, by omega⟩
  · intro i x rest e σ gl nl hx hlt hI ih
    obtain ⟨k13, k14, k2, k3, k5, hga, hgb, he, hn⟩ := hI
    have h8 : i < 8 := hlt
    refine w_keep (i := 13) k13 (w_keep (i := 14) k14 (w_keep (i := 2) k2 (w_keep (i := 3) k3 (w_keep (i := 5) k5 ?_))))
    obtain ⟨hx0, o, ho1, ho2⟩ := get_at a (iv tg a.nd) x (List.mem_of_getElem? hx)
    obtain ⟨_, o', ho1', ho2'⟩ := get_at b (iv tg b.nd) x (List.mem_of_getElem? hx)
    have hfa : ∀ i, fieldV i x = ptr i o := fun i => by unfold fieldV; rw [ho1]
    cases (Option.some.inj (ho1.symm.trans ho1'))
    rw [List.foldl_cons] at he
    repeat' (first
      | ((with_reducible apply g_op); first
        | ((with_reducible apply g_bin); first
          | ((with_reducible apply w_pure (v := .bool _)); exact rfl; exact rfl)))
      | with_reducible refine w_seq ?_
      | with_reducible refine w_nil ?_
      | with_reducible refine w_region ?_
      | with_reducible refine w_skip ?_
      | with_reducible refine w_block ?_
      | ((with_reducible apply w_ifd); exact rfl; all_goals (intro hc; first | (exfalso; omega) | skip)))
    refine w_aix (enc := uu) (ls := tags) (sz := 1) (v := .int .u64 x) rfl rfl rfl rfl rfl rfl (fun _ => rfl) hx h8 rfl ?_
    cases e with
    | false =>
      repeat' (first
        | ((with_reducible apply g_op); first
          | ((with_reducible apply g_move); first
            | ((with_reducible apply w_pure (v := .int _ _)); exact rfl; exact rfl)
            | ((with_reducible apply w_pure (v := .bool _)); exact rfl; exact rfl))
          | ((with_reducible apply g_bin); first
            | ((with_reducible apply w_wrap); exact rfl; exact rfl; first | exact i64_in _ (by omega) | exact u64_in _ (by omega) | exact u8_in _ (by omega)))
          | ((with_reducible apply g_assign); first
            | ((with_reducible apply w_pure (v := .int _ _)); exact rfl; exact rfl)
            | ((with_reducible apply w_pure (v := .bool _)); exact rfl; exact rfl))
          | ((with_reducible apply w_pure (v := .bool _)); exact rfl; exact rfl))
        | ((with_reducible apply g_gd); first
          | ((with_reducible apply w_pass); exact rfl))
        | with_reducible refine w_nil ?_
        | with_reducible refine w_region ?_
        | with_reducible refine w_blk ?_
        | ((with_reducible apply w_draw); kernel_rfl; kernel_rfl))
      exact ih false _ _ _ ⟨rfl, rfl, rfl, rfl, rfl, hga, hgb, he, hn⟩
    | true =>
      repeat' (first
        | ((with_reducible apply g_op); first
          | ((with_reducible apply g_move); first
            | ((with_reducible apply w_pure (v := .int _ _)); exact rfl; exact rfl)
            | ((with_reducible apply w_pure (v := .bool _)); exact rfl; exact rfl))
          | ((with_reducible apply g_assign); first
            | ((with_reducible apply w_pure (v := .int _ _)); exact rfl; exact rfl)))
        | ((with_reducible apply g_gd); first
          | ((with_reducible apply w_want); exact rfl))
        | with_reducible refine w_nil ?_
        | ((with_reducible apply w_draw); kernel_rfl; kernel_rfl))
      refine w_rq (field_run n x _ _ _ (by omega)) (fun _ => rfl) ?_
      rintro _ rfl
      rw [hfa]
      repeat' (first
        | ((with_reducible apply g_op); first
          | ((with_reducible apply w_pure (v := .pointer _)); exact rfl; exact rfl))
        | ((with_reducible apply g_gd); first
          | ((with_reducible apply w_want); exact rfl)))
      refine w_load (v := .int .i64 (a.get x)) rfl hga (by rw [part_one (by kernel_rfl)]; exact ho2) ?_
      repeat' (first
        | ((with_reducible apply g_op); first
          | ((with_reducible apply g_move); first
            | ((with_reducible apply w_pure (v := .int _ _)); exact rfl; exact rfl)))
        | ((with_reducible apply g_gd); first
          | ((with_reducible apply w_want); exact rfl)))
      refine w_rq (field_run (n + 1) x _ _ _ (by omega)) (fun _ => rfl) ?_
      rintro _ rfl
      rw [hfa]
      repeat' (first
        | ((with_reducible apply g_op); first
          | ((with_reducible apply w_pure (v := .pointer _)); exact rfl; exact rfl))
        | ((with_reducible apply g_gd); first
          | ((with_reducible apply w_want); exact rfl)))
      refine w_load (v := .int .i64 (b.get x)) rfl hgb (by rw [part_one (by kernel_rfl)]; exact ho2') ?_
      repeat' (first
        | ((with_reducible apply g_op); first
          | ((with_reducible apply g_move); first
            | ((with_reducible apply w_pure (v := .int _ _)); exact rfl; exact rfl))
          | ((with_reducible apply g_bin); first
            | ((with_reducible apply w_wrap); exact rfl; exact rfl; first | exact i64_in _ (by omega) | exact u64_in _ (by omega) | exact u8_in _ (by omega))
            | ((with_reducible apply w_pure (v := .bool _)); exact rfl; exact rfl))
          | ((with_reducible apply g_assign); first
            | ((with_reducible apply w_pure (v := .bool _)); exact rfl; exact rfl))
          | ((with_reducible apply w_pure (v := .bool _)); exact rfl; exact rfl))
        | ((with_reducible apply g_gd); first
          | ((with_reducible apply w_want); exact rfl))
        | with_reducible refine w_nil ?_
        | with_reducible refine w_region ?_
        | with_reducible refine w_blk ?_)
      refine ih (a.get x == b.get x) _ _ _ ⟨rfl, rfl, rfl, rfl, ?_, hga, hgb, he, hn⟩
      first | rfl | (congr 1; simp)
  · intro e σ gl nl hI
    obtain ⟨k13, k14, k2, k3, k5, hga, hgb, he, hn⟩ := hI
    have h8 : tags.length = 8 := rfl
    rw [h8] at k14
    refine w_keep (i := 13) k13 (w_keep (i := 14) k14 (w_keep (i := 2) k2 (w_keep (i := 3) k3 (w_keep (i := 5) k5 ?_))))
    have he : e = R := he
    subst he
    repeat' (first
      | ((with_reducible apply g_op); first
        | ((with_reducible apply g_move); first
          | ((with_reducible apply w_pure (v := .bool _)); exact rfl; exact rfl))
        | ((with_reducible apply g_bin); first
          | ((with_reducible apply w_pure (v := .bool _)); exact rfl; exact rfl))
        | ((with_reducible apply g_assign); first
          | ((with_reducible apply w_pure (v := .bool _)); exact rfl; exact rfl)))
      | with_reducible refine w_seq ?_
      | with_reducible refine w_nil ?_
      | with_reducible refine w_region ?_
      | ((with_reducible apply w_exit); exact rfl)
      | ((with_reducible apply w_no); exact rfl)
      | ((with_reducible apply w_ret (v := .bool _)); exact rfl))
    exact fr_plain rfl rfl
def shortS (s : ByteArray) (k : Int) : ByteArray := if (s.size : Int) > k then s.extract 0 k.toNat else s
theorem short_run (s : ByteArray) (k : Int) (hk : 0 ≤ k) (g n m) : Rn Try.prog T 10 [.string s, .int .i64 k] g n m (fun v g' n' => v = .string (shortS s k) ∧ g' = g ∧ n' = n) := by
  refine c_quiet Try.func10 rfl rfl rfl rfl rfl ?_
  repeat' (first
    | ((with_reducible apply g_op); first
      | ((with_reducible apply g_move); first
        | ((with_reducible apply w_pure (v := .int _ _)); exact rfl; exact rfl)
        | ((with_reducible apply w_pure (v := .string _)); exact rfl; exact rfl))
      | ((with_reducible apply g_bin); first
        | ((with_reducible apply w_pure (v := .bool _)); exact rfl; exact rfl))
      | ((with_reducible apply g_assign); first
        | ((with_reducible apply w_pure (v := .string _)); exact rfl; exact rfl))
      | ((with_reducible apply g_call); first
        | ((with_reducible apply w_call (v := .int _ _)); exact rfl))
      | ((with_reducible apply w_ssl); exact rfl; exact rfl; (first | exact rfl | exact num_of (by omega)); (first | exact rfl | exact num_of (by omega)); omega))
    | with_reducible refine w_seq ?_
    | with_reducible refine w_nil ?_
    | with_reducible refine w_region ?_
    | with_reducible refine w_skip ?_
    | ((with_reducible apply w_ifd); exact rfl; all_goals (intro hc; first | (exfalso; omega) | skip))
    | ((with_reducible apply w_ret (v := .string _)); exact rfl))
  · unfold shortS; rw [if_pos (by assumption)]; exact ⟨rfl, rfl⟩
  · unfold shortS; rw [if_neg (by assumption)]; exact ⟨rfl, rfl⟩
def dyn3 : Dyn := ⟨[3], 0, 0, 0, 0, 0, 0, 0, 0⟩
theorem read3 : readS (bytesE (entsD dyn3)) = (dyn3, 0) := by decide +kernel
theorem read0 : readS ⟨#[]⟩ = (.zero, 17) := by decide +kernel
theorem awake_run : Rf Try.prog T 7 [] (fun v => v = .bool true) := by
  refine c_froz Try.func7 rfl rfl rfl rfl rfl rfl ?_
  intro g n
  repeat' (first
    | ((with_reducible apply g_op); first
      | ((with_reducible apply g_assign); first
        | ((with_reducible apply w_pure (v := .bool _)); exact rfl; exact rfl))
      | ((with_reducible apply g_build); first
        | ((with_reducible apply w_pure (v := .agg #[_, _, _, _, _, _, _, _, _])); exact rfl; exact rfl))
      | ((with_reducible apply w_bsl (ls := [_])); exact rfl; exact rfl; exact rfl; exact ⟨by decide, rfl⟩; exact rfl))
    | with_reducible refine w_seq ?_
    | with_reducible refine w_nil ?_
    | with_reducible refine w_region ?_)
  refine w_rf (bytes_run dyn3 ⟨by decide, by intro t; unfold Dyn.get dyn3; repeat' split <;> try decide⟩ (by decide)) (fun _ => rfl) (sn_cons (sn_agg (l := [_, _, _, _, _, _, _, _, _]) (sn_cons (sn_row (sz := 1) (l := [_]) upd_same (Nat.zero_le _) (by kernel_rfl) (by decide) rfl (sn_plains rfl)) (sn_plains rfl))) sn_nil) ?_
  rintro _ rfl
  repeat' (first
    | fail)
  refine w_rf (read_run _ (by rw [bytesE_size]; decide)) (fun _ => rfl) (sn_cons (sn_plain rfl) sn_nil) ?_
  rintro _ rfl
  rw [read3]
  repeat' (first
    | ((with_reducible apply g_op); first
      | ((with_reducible apply g_move); first
        | ((with_reducible apply w_pure (v := .tuple _)); exact rfl; exact rfl))
      | ((with_reducible apply g_assign); first
        | ((with_reducible apply w_pure (v := .int _ _)); exact rfl; exact rfl))
      | ((with_reducible apply g_store); first
        | ((with_reducible apply w_store (us := [_, _, _, _, _, _, _, _, _]) (ws := [_, _, _, _, _, _, _, _, _])); exact rfl; exact rfl; (first | assumption | (simp (disch := omega) only [upd_same, upd_ne]; first | done | assumption | exact rfl) | exact rfl); omega; exact rfl; exact rfl; exact rfl))
      | ((with_reducible apply w_alloc (ls := [_, _, _, _, _, _, _, _, _])); exact rfl; exact rfl)
      | ((with_reducible apply w_pure (v := .int _ _)); exact rfl; exact rfl)
      | ((with_reducible apply w_pure (v := .agg _)); exact rfl; exact rfl))
    | with_reducible refine w_seq ?_
    | with_reducible refine w_nil ?_
    | with_reducible refine w_region ?_)
  refine w_rf (read_run ⟨#[]⟩ (by decide)) (fun _ => rfl) (sn_cons (sn_plain rfl) sn_nil) ?_
  rintro _ rfl
  rw [read0]
  repeat' (first
    | ((with_reducible apply g_op); first
      | ((with_reducible apply g_load); first
        | ((with_reducible apply w_load (v := .func _ _ _)); exact rfl; (first | assumption | (simp (disch := omega) only [upd_same, upd_ne]; first | done | assumption | exact rfl) | exact rfl); exact rfl))
      | ((with_reducible apply g_move); first
        | ((with_reducible apply w_pure (v := .int _ _)); exact rfl; exact rfl)
        | ((with_reducible apply w_pure (v := .bool _)); exact rfl; exact rfl)
        | ((with_reducible apply w_pure (v := .tuple _)); exact rfl; exact rfl))
      | ((with_reducible apply g_bin); first
        | ((with_reducible apply w_pure (v := .bool _)); exact rfl; exact rfl))
      | ((with_reducible apply g_fld); first
        | ((with_reducible apply w_fldp (o := 0)); exact rfl; exact rfl; exact rfl; exact (by decide)))
      | ((with_reducible apply g_pick); first
        | ((with_reducible apply w_pk1 (v := .bool _)); exact rfl; exact rfl; (first | assumption | exact decide_eq_true (by assumption) | exact decide_eq_false (by assumption) | exact decide_eq_true (by omega) | exact decide_eq_false (by omega) | exact beq_iff_eq.2 (by omega) | exact beq_eq_false_iff_ne.2 (by omega) | exact bne_iff_ne.2 (by omega) | exact bne_eq_false_iff_eq.2 (by omega))))
      | ((with_reducible apply g_assign); first
        | ((with_reducible apply w_pure (v := .int _ _)); exact rfl; exact rfl))
      | ((with_reducible apply g_call); first
        | ((with_reducible apply w_call (v := .int _ _)); exact rfl))
      | ((with_reducible apply g_store); first
        | ((with_reducible apply w_store (us := [_, _, _, _, _, _, _, _, _]) (ws := [_, _, _, _, _, _, _, _, _])); exact rfl; exact rfl; (first | assumption | (simp (disch := omega) only [upd_same, upd_ne]; first | done | assumption | exact rfl) | exact rfl); omega; exact rfl; exact rfl; exact rfl))
      | ((with_reducible apply w_alloc (ls := [_, _, _, _, _, _, _, _, _])); exact rfl; exact rfl)
      | ((with_reducible apply w_pure (v := .int _ _)); exact rfl; exact rfl)
      | ((with_reducible apply w_pure (v := .agg _)); exact rfl; exact rfl)
      | ((with_reducible apply w_pure (v := .func _ _ _)); exact rfl; exact rfl))
    | ((with_reducible apply g_gd); first
      | ((with_reducible apply w_want); exact rfl))
    | with_reducible refine w_seq ?_
    | with_reducible refine w_nil ?_
    | with_reducible refine w_region ?_)
  refine w_fl (enc := ii) (ls := [3]) (y := 3) (i := 0) (sz := 1) (c := 0) (v := .int .i64 3) rfl (fun _ => rfl) rfl rfl ?_
  repeat' (first
    | ((with_reducible apply g_op); first
      | ((with_reducible apply g_bin); first
        | ((with_reducible apply w_pure (v := .bool _)); exact rfl; exact rfl))
      | ((with_reducible apply g_assign); first
        | ((with_reducible apply w_pure (v := .bool _)); exact rfl; exact rfl))
      | ((with_reducible apply w_pure (v := .bool _)); exact rfl; exact rfl))
    | ((with_reducible apply g_gd); first
      | ((with_reducible apply w_want); exact rfl))
    | with_reducible refine w_nil ?_
    | ((with_reducible apply w_ret (v := .bool _)); exact rfl))
  exact fr_plain rfl rfl
end Go.Proofs.Ytffgdfoeeaoonaa.L

