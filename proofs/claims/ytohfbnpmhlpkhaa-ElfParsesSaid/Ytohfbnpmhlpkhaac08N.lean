/- The reference reads a file. -/
import Derived.Test.Ytohfbnpmhlpkhaac08M
namespace Go.Proofs.Ytohfbnpmhlpkhaa.L
open Go.L1 Go.IntWalk Oct
set_option linter.unusedVariables false
set_option linter.unusedSimpArgs false
set_option maxHeartbeats 4000000
set_option maxRecDepth 20000
set_option maxHeartbeats 0
def plain0 (s : ByteArray) (N : Nat) : ByteArray := s.extract 0 40 ++ fillV ⟨#[]⟩ 12 ++ s.extract 52 58 ++ fillV ⟨#[]⟩ 6 ++ s.extract 64 (64 + 56 * N)
def plainF (s : ByteArray) (N : Nat) : Nat → ByteArray
  | 0 => plain0 s N
  | i + 1 => (plainF s N i).extract 0 (64 + 56 * i + 24) ++ putV (segAt s (64 + 56 * (i : Int))).ad 8 ++ (plainF s N i).extract (64 + 56 * i + 32) (plainF s N i).size
theorem plain0_size (s : ByteArray) (N : Nat) (h : 64 + 56 * N ≤ s.size) : (plain0 s N).size = 64 + 56 * N := by
  unfold plain0
  simp only [ByteArray.size_append, ByteArray.size_extract, fillV_size 12 (by decide), fillV_size 6 (by decide)]
  omega
theorem plainF_size (s : ByteArray) (N : Nat) (h : 64 + 56 * N ≤ s.size) : ∀ i, i ≤ N → (plainF s N i).size = 64 + 56 * N
  | 0, _ => plain0_size s N h
  | i + 1, hi => by
    have ih := plainF_size s N h i (by omega)
    rw [plainF]
    simp only [ByteArray.size_append, ByteArray.size_extract, putV_size, ih]
    rw [show wid 8 = 8 from rfl]
    omega
def rparseS (s : ByteArray) : Im × Int := if 1 ≤ manyN s ∧ manyN s ≤ 16 then (if (s.size : Int) < 64 + 56 * manyN s then (.zero, 16) else if okS (readI s) s.size = true ∧ headS (readI s) = plainF s (manyN s).toNat (manyN s).toNat then (readI s, 0) else (.zero, 16)) else (.zero, 16)
theorem rparse_run (s : ByteArray) (hs : s.size ≤ 1000000) : Rf Try.prog T 15 [.string s] (fun v => v = .tuple #[(rparseS s).1.v #[], .int .i64 (rparseS s).2]) := by
  refine c_froz Try.func15 rfl rfl rfl rfl rfl rfl ?_
  intro g n
  repeat' (first
    | ((with_reducible apply g_op); first
      | ((with_reducible apply g_move); first
        | ((with_reducible apply w_pure (v := .string _)); exact rfl; exact rfl))
      | ((with_reducible apply g_assign); first
        | ((with_reducible apply w_pure (v := .int _ _)); exact rfl; exact rfl))
      | ((with_reducible apply w_alloc (ls := [_, _, _])); exact rfl; exact rfl))
    | with_reducible refine w_seq ?_
    | with_reducible refine w_nil ?_
    | with_reducible refine w_region ?_)
  refine w_rq (erget_run s 16 2 (by omega) _ _ _) (fun _ => rfl) ?_
  rintro _ rfl
  repeat' (first
    | ((with_reducible apply g_op); first
      | ((with_reducible apply g_move); first
        | ((with_reducible apply w_pure (v := .string _)); exact rfl; exact rfl))))
  refine w_rq (erget_run s 24 8 (by omega) _ _ _) (fun _ => rfl) ?_
  rintro _ rfl
  repeat' (first
    | ((with_reducible apply g_op); first
      | ((with_reducible apply g_move); first
        | ((with_reducible apply w_pure (v := .string _)); exact rfl; exact rfl))
      | ((with_reducible apply g_store); first
        | ((with_reducible apply w_store (us := [_, _, _]) (ws := [_, _, _])); exact rfl; exact rfl; (first | assumption | (simp (disch := omega) only [upd_same, upd_ne]; first | done | assumption | exact rfl) | exact rfl); omega; exact rfl; exact rfl; exact rfl))
      | ((with_reducible apply g_build); first
        | ((with_reducible apply w_pure (v := .agg #[_, _, _])); exact rfl; exact rfl))
      | ((with_reducible apply w_alloc (ls := [_, _, _])); exact rfl; exact rfl))
    | with_reducible refine w_seq ?_
    | with_reducible refine w_nil ?_
    | with_reducible refine w_region ?_)
  refine w_rq (erget_run s 56 2 (by omega) _ _ _) (fun _ => rfl) ?_
  rintro _ rfl
  have hr := getN_range s 56 2
  by_cases hN : 1 ≤ manyN s ∧ manyN s ≤ 16
  · have hP : rparseS s = if (s.size : Int) < 64 + 56 * manyN s then (.zero, 16) else if okS (readI s) s.size = true ∧ headS (readI s) = plainF s (manyN s).toNat (manyN s).toNat then (readI s, 0) else (.zero, 16) := if_pos hN
    rw [hP]
    unfold readI
    obtain ⟨N, hNe⟩ : ∃ N : Nat, manyN s = (N : Int) := ⟨(manyN s).toNat, by omega⟩
    rw [hNe, Int.toNat_natCast]
    rw [hNe] at hN
    unfold manyN at hNe
    rw [hNe]
    by_cases hsz : (s.size : Int) < 64 + 56 * N
    · rw [if_pos hsz]
      repeat' (first
        | ((with_reducible apply g_op); first
          | ((with_reducible apply g_move); first
            | ((with_reducible apply w_pure (v := .int _ _)); exact rfl; exact rfl)
            | ((with_reducible apply w_pure (v := .bool _)); exact rfl; exact rfl)
            | ((with_reducible apply w_pure (v := .string _)); exact rfl; exact rfl))
          | ((with_reducible apply g_bin); first
            | ((with_reducible apply w_wrap); exact rfl; exact rfl; first | exact i64_in _ (by omega) | exact u64_in _ (by omega) | exact u8_in _ (by omega))
            | ((with_reducible apply w_pure (v := .bool _)); exact rfl; exact rfl))
          | ((with_reducible apply g_pick); first
            | ((with_reducible apply w_pk0 (v := .bool _)); exact rfl; exact rfl; (first | assumption | exact decide_eq_true (by assumption) | exact decide_eq_false (by assumption) | exact decide_eq_true (by omega) | exact decide_eq_false (by omega) | exact beq_iff_eq.2 (by omega) | exact beq_eq_false_iff_ne.2 (by omega) | exact bne_iff_ne.2 (by omega) | exact bne_eq_false_iff_eq.2 (by omega))))
          | ((with_reducible apply g_assign); first
            | ((with_reducible apply w_pure (v := .int _ _)); exact rfl; exact rfl)
            | ((with_reducible apply w_pure (v := .string _)); exact rfl; exact rfl))
          | ((with_reducible apply g_call); first
            | ((with_reducible apply w_call (v := .int _ _)); exact rfl))
          | ((with_reducible apply g_store); first
            | ((with_reducible apply w_store (us := [_, _, _]) (ws := [_, _, _])); exact rfl; exact rfl; (first | assumption | (simp (disch := omega) only [upd_same, upd_ne]; first | done | assumption | exact rfl) | exact rfl); omega; exact rfl; exact rfl; exact rfl))
          | ((with_reducible apply g_build); first
            | ((with_reducible apply w_pure (v := .agg #[_, _, _])); exact rfl; exact rfl)))
        | ((with_reducible apply g_gd); first
          | ((with_reducible apply w_gd_f); exact rfl; all_goals (intro hc; first | (exfalso; omega) | skip)))
        | with_reducible refine w_seq ?_
        | with_reducible refine w_nil ?_
        | with_reducible refine w_region ?_
        | with_reducible refine w_skip ?_
        | ((with_reducible apply w_ifd); exact rfl; all_goals (intro hc; first | (exfalso; omega) | skip))
        | ((with_reducible apply w_retct (v := .agg #[_, _, _]) (u := .int _ _)); exact rfl; exact rfl; (first | assumption | (simp (disch := omega) only [upd_same, upd_ne]; first | done | assumption | exact rfl) | exact rfl); exact rfl; exact rfl))
      exact fr_zero _ _
    rw [if_neg hsz]
    have hps := plainF_size s N (by omega)
    obtain ⟨R, hR⟩ : ∃ R, R = (if okS ⟨getN s 16 2, getN s 24 8, readL s N⟩ s.size = true ∧ headS ⟨getN s 16 2, getN s 24 8, readL s N⟩ = plainF s N N then ((⟨getN s 16 2, getN s 24 8, readL s N⟩, 0) : Im × Int) else (.zero, 16)) := ⟨_, rfl⟩
    rw [← hR]
    repeat' (first
      | ((with_reducible apply g_op); first
        | ((with_reducible apply g_move); first
          | ((with_reducible apply w_pure (v := .int _ _)); exact rfl; exact rfl)
          | ((with_reducible apply w_pure (v := .bool _)); exact rfl; exact rfl)
          | ((with_reducible apply w_pure (v := .string _)); exact rfl; exact rfl))
        | ((with_reducible apply g_bin); first
          | ((with_reducible apply w_wrap); exact rfl; exact rfl; first | exact i64_in _ (by omega) | exact u64_in _ (by omega) | exact u8_in _ (by omega))
          | ((with_reducible apply w_pure (v := .bool _)); exact rfl; exact rfl))
        | ((with_reducible apply g_pick); first
          | ((with_reducible apply w_pk0 (v := .bool _)); exact rfl; exact rfl; (first | assumption | exact decide_eq_true (by assumption) | exact decide_eq_false (by assumption) | exact decide_eq_true (by omega) | exact decide_eq_false (by omega) | exact beq_iff_eq.2 (by omega) | exact beq_eq_false_iff_ne.2 (by omega) | exact bne_iff_ne.2 (by omega) | exact bne_eq_false_iff_eq.2 (by omega))))
        | ((with_reducible apply g_assign); first
          | ((with_reducible apply w_pure (v := .int _ _)); exact rfl; exact rfl)
          | ((with_reducible apply w_pure (v := .string _)); exact rfl; exact rfl))
        | ((with_reducible apply g_call); first
          | ((with_reducible apply w_call (v := .int _ _)); exact rfl))
        | ((with_reducible apply w_ssl); exact rfl; exact rfl; (first | exact num_of (by omega) | exact rfl); (first | exact num_of (by omega) | exact rfl); omega))
      | ((with_reducible apply g_gd); first
        | ((with_reducible apply w_gd_f); exact rfl; all_goals (intro hc; first | (exfalso; omega) | skip)))
      | with_reducible refine w_seq ?_
      | with_reducible refine w_nil ?_
      | with_reducible refine w_region ?_
      | with_reducible refine w_skip ?_
      | ((with_reducible apply w_draw); kernel_rfl; kernel_rfl)
      | ((with_reducible apply w_ifd); exact rfl; all_goals (intro hc; first | (exfalso; omega) | skip)))
    refine w_rq (rfill_run ⟨#[]⟩ 12 (by decide) (by decide) _ _ _) (fun _ => rfl) ?_
    rintro _ rfl
    repeat' (first
      | fail)
    have f1 := fillV_size 12 (by decide)
    have f2 := fillV_size 6 (by decide)
    rw [show Int.toNat 12 = 12 from rfl] at f1
    rw [show Int.toNat 6 = 6 from rfl] at f2
    have e1 : (s.extract 0 (Int.toNat 40)).size = 40 := by rw [ByteArray.size_extract]; omega
    have e2 : (s.extract 0 (Int.toNat 40) ++ fillV ⟨#[]⟩ 12).size = 52 := by rw [ByteArray.size_append]; omega
    have e3 : (s.extract (Int.toNat 52) (Int.toNat 58)).size = 6 := by rw [ByteArray.size_extract]; omega
    have e4 : (s.extract 0 (Int.toNat 40) ++ fillV ⟨#[]⟩ 12 ++ s.extract (Int.toNat 52) (Int.toNat 58)).size = 58 := by rw [ByteArray.size_append]; omega
    have e5 : (s.extract 0 (Int.toNat 40) ++ fillV ⟨#[]⟩ 12 ++ s.extract (Int.toNat 52) (Int.toNat 58) ++ fillV ⟨#[]⟩ 6).size = 64 := by rw [ByteArray.size_append]; omega
    have e6 : (s.extract (Int.toNat 64) (Int.toNat (64 + 56 * (N : Int)))).size = 56 * N := by rw [ByteArray.size_extract]; omega
    repeat' (first
      | ((with_reducible apply g_op); first
        | ((with_reducible apply g_move); first
          | ((with_reducible apply w_pure (v := .string _)); exact rfl; exact rfl))
        | ((with_reducible apply g_bin); first
          | ((with_reducible apply w_cat); exact rfl; exact rfl; exact rfl; exact rfl; exact rfl; omega))
        | ((with_reducible apply w_ssl); exact rfl; exact rfl; (first | exact num_of (by omega) | exact rfl); (first | exact num_of (by omega) | exact rfl); omega)))
    refine w_rq (rfill_run ⟨#[]⟩ 6 (by decide) (by decide) _ _ _) (fun _ => rfl) ?_
    rintro _ rfl
    repeat' (first
      | ((with_reducible apply g_op); first
        | ((with_reducible apply g_move); first
          | ((with_reducible apply w_pure (v := .int _ _)); exact rfl; exact rfl)
          | ((with_reducible apply w_pure (v := .string _)); exact rfl; exact rfl))
        | ((with_reducible apply g_bin); first
          | ((with_reducible apply w_cat); exact rfl; exact rfl; exact rfl; exact rfl; exact rfl; omega)
          | ((with_reducible apply w_wrap); exact rfl; exact rfl; first | exact i64_in _ (by omega) | exact u64_in _ (by omega) | exact u8_in _ (by omega)))
        | ((with_reducible apply g_assign); first
          | ((with_reducible apply w_pure (v := .int _ _)); exact rfl; exact rfl)
          | ((with_reducible apply w_pure (v := .string _)); exact rfl; exact rfl))
        | ((with_reducible apply w_ssl); exact rfl; exact rfl; (first | exact num_of (by omega) | exact rfl); (first | exact num_of (by omega) | exact rfl); omega))
      | with_reducible refine w_seq ?_
      | with_reducible refine w_nil ?_
      | with_reducible refine w_region ?_
      | with_reducible refine w_block ?_)
    rw [show Int.toNat (64 + 56 * (N : Int)) = 64 + 56 * N by omega]
    refine w_cntK [(6, 9), (47, 101)] N (fun i (o : Option Nat) σ g' n' => σ 7 = .int .i64 (i : Nat) ∧ σ 6 = .string (plainF s N i) ∧ g' n = some (.cells 24 [.int .i64 0, .int .i64 0, .slice none 0 0]) ∧ g' (n + 1) = some (.cells 24 [.int .i64 (getN s 16 2), .int .i64 (getN s 24 8), ov o (readL s i).length]) ∧ Own g' (n + 2) n' 43 Sg.c o (readL s i) ∧ n + 2 ≤ n') ?_ ?_ none ⟨rfl, rfl, by simp (disch := omega) only [upd_ne, upd_same], by simp (disch := omega) only [upd_ne, upd_same]; rfl, Own.nil, by omega⟩
    · rintro i o σ g2 n2 hlt ⟨k7, k6, hg0, hg1, ho, hn⟩ ih
      have hPs := hps i (by omega)
      have hnext : plainF s N (i + 1) = (plainF s N i).extract 0 (64 + 56 * i + 24) ++ putV (segAt s (64 + 56 * (i : Int))).ad 8 ++ (plainF s N i).extract (64 + 56 * i + 32) (plainF s N i).size := rfl
      rw [hnext] at ih
      generalize plainF s N i = P at k6 hPs ih hnext
      refine w_keep (i := 7) k7 (w_keep (i := 6) k6 ?_)
      have hl := readL_len s i
      cases o with
      | none =>
        have hi0 : readL s i = [] := ho
        simp only [ov] at hg1
        repeat' (first
          | ((with_reducible apply g_op); first
            | ((with_reducible apply g_move); first
              | ((with_reducible apply w_pure (v := .int _ _)); exact rfl; exact rfl)
              | ((with_reducible apply w_pure (v := .string _)); exact rfl; exact rfl))
            | ((with_reducible apply g_bin); first
              | ((with_reducible apply w_wrap); exact rfl; exact rfl; first | exact i64_in _ (by omega) | exact u64_in _ (by omega) | exact u8_in _ (by omega))
              | ((with_reducible apply w_pure (v := .bool _)); exact rfl; exact rfl))
            | ((with_reducible apply g_assign); first
              | ((with_reducible apply w_pure (v := .int _ _)); exact rfl; exact rfl)))
          | with_reducible refine w_seq ?_
          | with_reducible refine w_nil ?_
          | with_reducible refine w_region ?_
          | with_reducible refine w_skip ?_
          | with_reducible refine w_block ?_
          | ((with_reducible apply w_ifd); exact rfl; all_goals (intro hc; first | (exfalso; omega) | skip)))
        refine w_rq (erget_run s (64+56*i:Int) 4 (by omega) _ _ _) (fun _ => rfl) ?_
        rintro _ rfl
        repeat' (first
          | ((with_reducible apply g_op); first
            | ((with_reducible apply g_move); first
              | ((with_reducible apply w_pure (v := .int _ _)); exact rfl; exact rfl)
              | ((with_reducible apply w_pure (v := .string _)); exact rfl; exact rfl))
            | ((with_reducible apply g_bin); first
              | ((with_reducible apply w_wrap); exact rfl; exact rfl; first | exact i64_in _ (by omega) | exact u64_in _ (by omega) | exact u8_in _ (by omega)))))
        refine w_rq (erget_run s (64+56*i+4:Int) 4 (by omega) _ _ _) (fun _ => rfl) ?_
        rintro _ rfl
        repeat' (first
          | ((with_reducible apply g_op); first
            | ((with_reducible apply g_move); first
              | ((with_reducible apply w_pure (v := .int _ _)); exact rfl; exact rfl)
              | ((with_reducible apply w_pure (v := .string _)); exact rfl; exact rfl))
            | ((with_reducible apply g_bin); first
              | ((with_reducible apply w_wrap); exact rfl; exact rfl; first | exact i64_in _ (by omega) | exact u64_in _ (by omega) | exact u8_in _ (by omega)))))
        refine w_rq (erget_run s (64+56*i+8:Int) 8 (by omega) _ _ _) (fun _ => rfl) ?_
        rintro _ rfl
        repeat' (first
          | ((with_reducible apply g_op); first
            | ((with_reducible apply g_move); first
              | ((with_reducible apply w_pure (v := .int _ _)); exact rfl; exact rfl)
              | ((with_reducible apply w_pure (v := .string _)); exact rfl; exact rfl))
            | ((with_reducible apply g_bin); first
              | ((with_reducible apply w_wrap); exact rfl; exact rfl; first | exact i64_in _ (by omega) | exact u64_in _ (by omega) | exact u8_in _ (by omega)))))
        refine w_rq (erget_run s (64+56*i+16:Int) 8 (by omega) _ _ _) (fun _ => rfl) ?_
        rintro _ rfl
        repeat' (first
          | ((with_reducible apply g_op); first
            | ((with_reducible apply g_move); first
              | ((with_reducible apply w_pure (v := .int _ _)); exact rfl; exact rfl)
              | ((with_reducible apply w_pure (v := .string _)); exact rfl; exact rfl))
            | ((with_reducible apply g_bin); first
              | ((with_reducible apply w_wrap); exact rfl; exact rfl; first | exact i64_in _ (by omega) | exact u64_in _ (by omega) | exact u8_in _ (by omega)))))
        refine w_rq (erget_run s (64+56*i+32:Int) 8 (by omega) _ _ _) (fun _ => rfl) ?_
        rintro _ rfl
        repeat' (first
          | ((with_reducible apply g_op); first
            | ((with_reducible apply g_move); first
              | ((with_reducible apply w_pure (v := .int _ _)); exact rfl; exact rfl)
              | ((with_reducible apply w_pure (v := .string _)); exact rfl; exact rfl))
            | ((with_reducible apply g_bin); first
              | ((with_reducible apply w_wrap); exact rfl; exact rfl; first | exact i64_in _ (by omega) | exact u64_in _ (by omega) | exact u8_in _ (by omega)))))
        refine w_rq (erget_run s (64+56*i+40:Int) 8 (by omega) _ _ _) (fun _ => rfl) ?_
        rintro _ rfl
        repeat' (first
          | ((with_reducible apply g_op); first
            | ((with_reducible apply g_move); first
              | ((with_reducible apply w_pure (v := .int _ _)); exact rfl; exact rfl)
              | ((with_reducible apply w_pure (v := .string _)); exact rfl; exact rfl))
            | ((with_reducible apply g_bin); first
              | ((with_reducible apply w_wrap); exact rfl; exact rfl; first | exact i64_in _ (by omega) | exact u64_in _ (by omega) | exact u8_in _ (by omega)))))
        refine w_rq (erget_run s (64+56*i+48:Int) 8 (by omega) _ _ _) (fun _ => rfl) ?_
        rintro _ rfl
        repeat' (first
          | ((with_reducible apply g_op); first
            | ((with_reducible apply g_fld); first
              | ((with_reducible apply w_fldp (o := 2)); exact rfl; exact rfl; exact rfl; exact (by decide)))
            | ((with_reducible apply g_store); first
              | ((with_reducible apply w_store (us := [_, _, _, _, _, _, _]) (ws := [_, _, _, _, _, _, _])); exact rfl; exact rfl; (first | assumption | (simp (disch := omega) only [upd_same, upd_ne]; first | done | assumption | exact rfl) | exact rfl); omega; exact rfl; exact rfl; exact rfl))
            | ((with_reducible apply g_build); first
              | ((with_reducible apply w_pure (v := .agg #[_, _, _, _, _, _, _])); exact rfl; exact rfl))
            | ((with_reducible apply w_alloc (ls := [_, _, _, _, _, _, _])); exact rfl; exact rfl))
          | with_reducible refine w_seq ?_
          | with_reducible refine w_nil ?_
          | with_reducible refine w_region ?_)
        refine w_load (v := .slice none 0 0) rfl (by simp (disch := omega) only [upd_same, upd_ne]; first | done | assumption | exact rfl) rfl ?_
        repeat' (first
          | fail)
        refine w_load (v := .agg #[_, _, _, _, _, _, _]) rfl (by simp (disch := omega) only [upd_same, upd_ne]; first | done | assumption | exact rfl) rfl ?_
        repeat' (first
          | ((with_reducible apply g_op); first
            | ((with_reducible apply g_move); first
              | ((with_reducible apply w_pure (v := .int _ _)); exact rfl; exact rfl)
              | ((with_reducible apply w_pure (v := .string _)); exact rfl; exact rfl))
            | ((with_reducible apply g_bin); first
              | ((with_reducible apply w_wrap); exact rfl; exact rfl; first | exact i64_in _ (by omega) | exact u64_in _ (by omega) | exact u8_in _ (by omega)))
            | ((with_reducible apply g_fld); first
              | ((with_reducible apply w_fldp (o := 2)); exact rfl; exact rfl; exact rfl; exact (by decide))
              | ((with_reducible apply w_fldp (o := 3)); exact rfl; exact rfl; exact rfl; exact (by decide)))
            | ((with_reducible apply g_call); first
              | ((with_reducible apply w_app0 (ns := [_, _, _, _, _, _, _])); exact rfl; exact rfl; exact rfl; exact rfl; exact rfl; exact rfl; (first | assumption | (simp (disch := omega) only [upd_same, upd_ne]; first | done | assumption | exact rfl) | exact rfl); exact rfl; exact rfl; exact (by decide); exact ⟨by decide, by decide⟩))
            | ((with_reducible apply g_store); first
              | ((with_reducible apply w_store (us := [.slice _ _ _]) (ws := [_, _, _])); exact rfl; exact rfl; (first | assumption | (simp (disch := omega) only [upd_same, upd_ne]; first | done | assumption | exact rfl) | exact rfl); omega; exact rfl; exact rfl; exact rfl))
            | ((with_reducible apply w_ssl); exact rfl; exact rfl; (first | exact num_of (by omega) | exact rfl); (first | exact num_of (by omega) | exact rfl); omega)
            | ((with_reducible apply w_bsl (ls := [_, _, _, _, _, _, _])); exact rfl; exact rfl; exact rfl; exact ⟨by decide, rfl⟩; exact rfl))
          | with_reducible refine w_nil ?_
          | ((with_reducible apply w_draw); kernel_rfl; kernel_rfl))
        refine w_load (v := .int .i64 (getN s (64 + 56 * (i : Int) + 16) 8)) rfl (by simp (disch := omega) only [upd_same, upd_ne]; first | done | assumption | exact rfl) rfl ?_
        repeat' (first
          | fail)
        have hrg := getN_range s (64 + 56 * (i : Int) + 16) 8
        refine w_rq (erput_run (getN s (64 + 56 * (i : Int) + 16) 8) 8 (by omega) _ _ _) (fun _ => rfl) ?_
        rintro _ rfl
        have y1 : (P.extract 0 (Int.toNat (64 + 56 * (i : Int) + 24))).size = 64 + 56 * i + 24 := by rw [ByteArray.size_extract]; omega
        have y2 := putV_n (getN s (64 + 56 * (i : Int) + 16) 8) 8 8 rfl
        have y3 : (P.extract 0 (Int.toNat (64 + 56 * (i : Int) + 24)) ++ putV (getN s (64 + 56 * (i : Int) + 16) 8) 8).size = 64 + 56 * i + 32 := by rw [ByteArray.size_append]; omega
        have y4 : (P.extract (Int.toNat (64 + 56 * (i : Int) + 32)) P.size).size = P.size - (64 + 56 * i + 32) := by rw [ByteArray.size_extract]; omega
        repeat' (first
          | ((with_reducible apply g_op); first
            | ((with_reducible apply g_move); first
              | ((with_reducible apply w_pure (v := .int _ _)); exact rfl; exact rfl)
              | ((with_reducible apply w_pure (v := .string _)); exact rfl; exact rfl))
            | ((with_reducible apply g_bin); first
              | ((with_reducible apply w_cat); exact rfl; exact rfl; exact rfl; exact rfl; exact rfl; omega)
              | ((with_reducible apply w_wrap); exact rfl; exact rfl; first | exact i64_in _ (by omega) | exact u64_in _ (by omega) | exact u8_in _ (by omega)))
            | ((with_reducible apply g_assign); first
              | ((with_reducible apply w_pure (v := .int _ _)); exact rfl; exact rfl)
              | ((with_reducible apply w_pure (v := .string _)); exact rfl; exact rfl))
            | ((with_reducible apply w_ssl); exact rfl; exact rfl; (first | exact num_of (by omega) | exact rfl); (first | exact num_of (by omega) | exact rfl); omega))
          | with_reducible refine w_nil ?_
          | with_reducible refine w_region ?_
          | with_reducible refine w_blk ?_)
        refine ih (some (n2 + 2)) _ _ _ (by repeat' (first | with_reducible exact Fr.mix | with_reducible exact Fr.rfl' | with_reducible refine Fr.put ?_ ?_ | with_reducible refine Fr.mix2 ?_ ?_ | with_reducible refine Fr.put0 ?_ | exact rfl)) ⟨by push_cast; rfl, congrArg Value.string (by rw [show Int.toNat (64 + 56 * (i : Int) + 24) = 64 + 56 * i + 24 by omega, show Int.toNat (64 + 56 * (i : Int) + 32) = 64 + 56 * i + 32 by omega]; rfl),  by simp (disch := omega) only [upd_ne]; exact hg0, by simp (disch := omega) only [upd_ne, upd_same]; simp [readL, hi0, ov] <;> rfl, ⟨by simp [readL], by omega, by omega, by simp (disch := omega) only [upd_ne, upd_same]; simp [readL, hi0] <;> rfl⟩, by omega⟩
      | some o =>
        simp only [ov] at hg1
        repeat' (first
          | ((with_reducible apply g_op); first
            | ((with_reducible apply g_move); first
              | ((with_reducible apply w_pure (v := .int _ _)); exact rfl; exact rfl)
              | ((with_reducible apply w_pure (v := .string _)); exact rfl; exact rfl))
            | ((with_reducible apply g_bin); first
              | ((with_reducible apply w_wrap); exact rfl; exact rfl; first | exact i64_in _ (by omega) | exact u64_in _ (by omega) | exact u8_in _ (by omega))
              | ((with_reducible apply w_pure (v := .bool _)); exact rfl; exact rfl))
            | ((with_reducible apply g_assign); first
              | ((with_reducible apply w_pure (v := .int _ _)); exact rfl; exact rfl)))
          | with_reducible refine w_seq ?_
          | with_reducible refine w_nil ?_
          | with_reducible refine w_region ?_
          | with_reducible refine w_skip ?_
          | with_reducible refine w_block ?_
          | ((with_reducible apply w_ifd); exact rfl; all_goals (intro hc; first | (exfalso; omega) | skip)))
        refine w_rq (erget_run s (64+56*i:Int) 4 (by omega) _ _ _) (fun _ => rfl) ?_
        rintro _ rfl
        repeat' (first
          | ((with_reducible apply g_op); first
            | ((with_reducible apply g_move); first
              | ((with_reducible apply w_pure (v := .int _ _)); exact rfl; exact rfl)
              | ((with_reducible apply w_pure (v := .string _)); exact rfl; exact rfl))
            | ((with_reducible apply g_bin); first
              | ((with_reducible apply w_wrap); exact rfl; exact rfl; first | exact i64_in _ (by omega) | exact u64_in _ (by omega) | exact u8_in _ (by omega)))))
        refine w_rq (erget_run s (64+56*i+4:Int) 4 (by omega) _ _ _) (fun _ => rfl) ?_
        rintro _ rfl
        repeat' (first
          | ((with_reducible apply g_op); first
            | ((with_reducible apply g_move); first
              | ((with_reducible apply w_pure (v := .int _ _)); exact rfl; exact rfl)
              | ((with_reducible apply w_pure (v := .string _)); exact rfl; exact rfl))
            | ((with_reducible apply g_bin); first
              | ((with_reducible apply w_wrap); exact rfl; exact rfl; first | exact i64_in _ (by omega) | exact u64_in _ (by omega) | exact u8_in _ (by omega)))))
        refine w_rq (erget_run s (64+56*i+8:Int) 8 (by omega) _ _ _) (fun _ => rfl) ?_
        rintro _ rfl
        repeat' (first
          | ((with_reducible apply g_op); first
            | ((with_reducible apply g_move); first
              | ((with_reducible apply w_pure (v := .int _ _)); exact rfl; exact rfl)
              | ((with_reducible apply w_pure (v := .string _)); exact rfl; exact rfl))
            | ((with_reducible apply g_bin); first
              | ((with_reducible apply w_wrap); exact rfl; exact rfl; first | exact i64_in _ (by omega) | exact u64_in _ (by omega) | exact u8_in _ (by omega)))))
        refine w_rq (erget_run s (64+56*i+16:Int) 8 (by omega) _ _ _) (fun _ => rfl) ?_
        rintro _ rfl
        repeat' (first
          | ((with_reducible apply g_op); first
            | ((with_reducible apply g_move); first
              | ((with_reducible apply w_pure (v := .int _ _)); exact rfl; exact rfl)
              | ((with_reducible apply w_pure (v := .string _)); exact rfl; exact rfl))
            | ((with_reducible apply g_bin); first
              | ((with_reducible apply w_wrap); exact rfl; exact rfl; first | exact i64_in _ (by omega) | exact u64_in _ (by omega) | exact u8_in _ (by omega)))))
        refine w_rq (erget_run s (64+56*i+32:Int) 8 (by omega) _ _ _) (fun _ => rfl) ?_
        rintro _ rfl
        repeat' (first
          | ((with_reducible apply g_op); first
            | ((with_reducible apply g_move); first
              | ((with_reducible apply w_pure (v := .int _ _)); exact rfl; exact rfl)
              | ((with_reducible apply w_pure (v := .string _)); exact rfl; exact rfl))
            | ((with_reducible apply g_bin); first
              | ((with_reducible apply w_wrap); exact rfl; exact rfl; first | exact i64_in _ (by omega) | exact u64_in _ (by omega) | exact u8_in _ (by omega)))))
        refine w_rq (erget_run s (64+56*i+40:Int) 8 (by omega) _ _ _) (fun _ => rfl) ?_
        rintro _ rfl
        repeat' (first
          | ((with_reducible apply g_op); first
            | ((with_reducible apply g_move); first
              | ((with_reducible apply w_pure (v := .int _ _)); exact rfl; exact rfl)
              | ((with_reducible apply w_pure (v := .string _)); exact rfl; exact rfl))
            | ((with_reducible apply g_bin); first
              | ((with_reducible apply w_wrap); exact rfl; exact rfl; first | exact i64_in _ (by omega) | exact u64_in _ (by omega) | exact u8_in _ (by omega)))))
        refine w_rq (erget_run s (64+56*i+48:Int) 8 (by omega) _ _ _) (fun _ => rfl) ?_
        rintro _ rfl
        repeat' (first
          | ((with_reducible apply g_op); first
            | ((with_reducible apply g_fld); first
              | ((with_reducible apply w_fldp (o := 2)); exact rfl; exact rfl; exact rfl; exact (by decide)))
            | ((with_reducible apply g_store); first
              | ((with_reducible apply w_store (us := [_, _, _, _, _, _, _]) (ws := [_, _, _, _, _, _, _])); exact rfl; exact rfl; (first | assumption | (simp (disch := omega) only [upd_same, upd_ne]; first | done | assumption | exact rfl) | exact rfl); omega; exact rfl; exact rfl; exact rfl))
            | ((with_reducible apply g_build); first
              | ((with_reducible apply w_pure (v := .agg #[_, _, _, _, _, _, _])); exact rfl; exact rfl))
            | ((with_reducible apply w_alloc (ls := [_, _, _, _, _, _, _])); exact rfl; exact rfl))
          | with_reducible refine w_seq ?_
          | with_reducible refine w_nil ?_
          | with_reducible refine w_region ?_)
        refine w_load (v := slc o 0 (readL s i).length) rfl (by simp (disch := omega) only [upd_same, upd_ne]; first | done | assumption | exact rfl) rfl ?_
        repeat' (first
          | fail)
        refine w_load (v := .agg #[_, _, _, _, _, _, _]) rfl (by simp (disch := omega) only [upd_same, upd_ne]; first | done | assumption | exact rfl) rfl ?_
        repeat' (first
          | ((with_reducible apply g_op); first
            | ((with_reducible apply w_bsl (ls := [_, _, _, _, _, _, _])); exact rfl; exact rfl; exact rfl; exact ⟨by decide, rfl⟩; exact rfl)))
        refine w_own2 (enc := Sg.c) (y := segAt s (64 + 56 * (i : Int))) (by_ := 56) (sz := 7) (lo := n + 2) (o := some o) (xs := readL s i) (ho.later (by omega) (fun j h1 h2 => by simp (disch := omega) only [upd_ne])) rfl rfl rfl rfl rfl rfl (fun _ => rfl) upd_same rfl rfl rfl (by omega) (by omega) ?_
        intro g' h1 h2 h3
        have hoo := ho.2.2.1
        have hoo2 := ho.2.1
        have hb0 : g' n = some (.cells 24 [.int .i64 0, .int .i64 0, .slice none 0 0]) := by
          rw [h1 n (by omega) (by simp; omega)]
          simp (disch := omega) only [upd_ne]; exact hg0
        have hb1 : g' (n + 1) = some (.cells 24 [.int .i64 (getN s 16 2), .int .i64 (getN s 24 8), slc o 0 (readL s i).length]) := by
          rw [h1 (n + 1) (by omega) (by simp; omega)]
          simp (disch := omega) only [upd_ne]; exact hg1
        have hb2 : g' n2 = some (.cells 43 (segAt s (64 + 56 * (i : Int))).c) := by
          rw [h1 n2 (by omega) (by simp; omega)]
          simp (disch := omega) only [upd_ne, upd_same]; rfl
        simp only [segAt, Sg.c] at hb2
        repeat' (first
          | ((with_reducible apply g_op); first
            | ((with_reducible apply g_move); first
              | ((with_reducible apply w_pure (v := .int _ _)); exact rfl; exact rfl)
              | ((with_reducible apply w_pure (v := .string _)); exact rfl; exact rfl))
            | ((with_reducible apply g_bin); first
              | ((with_reducible apply w_wrap); exact rfl; exact rfl; first | exact i64_in _ (by omega) | exact u64_in _ (by omega) | exact u8_in _ (by omega)))
            | ((with_reducible apply g_fld); first
              | ((with_reducible apply w_fldp (o := 2)); exact rfl; exact rfl; exact rfl; exact (by decide))
              | ((with_reducible apply w_fldp (o := 3)); exact rfl; exact rfl; exact rfl; exact (by decide)))
            | ((with_reducible apply g_store); first
              | ((with_reducible apply w_store (us := [.slice _ _ _]) (ws := [_, _, _])); exact rfl; exact rfl; (first | assumption | (simp (disch := omega) only [upd_same, upd_ne]; first | done | assumption | exact rfl) | exact rfl); omega; exact rfl; exact rfl; exact rfl))
            | ((with_reducible apply w_ssl); exact rfl; exact rfl; (first | exact num_of (by omega) | exact rfl); (first | exact num_of (by omega) | exact rfl); omega))
          | with_reducible refine w_nil ?_
          | ((with_reducible apply w_draw); kernel_rfl; kernel_rfl))
        refine w_load (v := .int .i64 (getN s (64 + 56 * (i : Int) + 16) 8)) rfl (by simp (disch := omega) only [upd_same, upd_ne]; first | done | assumption | exact rfl) rfl ?_
        repeat' (first
          | fail)
        have hrg := getN_range s (64 + 56 * (i : Int) + 16) 8
        refine w_rq (erput_run (getN s (64 + 56 * (i : Int) + 16) 8) 8 (by omega) _ _ _) (fun _ => rfl) ?_
        rintro _ rfl
        have y1 : (P.extract 0 (Int.toNat (64 + 56 * (i : Int) + 24))).size = 64 + 56 * i + 24 := by rw [ByteArray.size_extract]; omega
        have y2 := putV_n (getN s (64 + 56 * (i : Int) + 16) 8) 8 8 rfl
        have y3 : (P.extract 0 (Int.toNat (64 + 56 * (i : Int) + 24)) ++ putV (getN s (64 + 56 * (i : Int) + 16) 8) 8).size = 64 + 56 * i + 32 := by rw [ByteArray.size_append]; omega
        have y4 : (P.extract (Int.toNat (64 + 56 * (i : Int) + 32)) P.size).size = P.size - (64 + 56 * i + 32) := by rw [ByteArray.size_extract]; omega
        repeat' (first
          | ((with_reducible apply g_op); first
            | ((with_reducible apply g_move); first
              | ((with_reducible apply w_pure (v := .int _ _)); exact rfl; exact rfl)
              | ((with_reducible apply w_pure (v := .string _)); exact rfl; exact rfl))
            | ((with_reducible apply g_bin); first
              | ((with_reducible apply w_cat); exact rfl; exact rfl; exact rfl; exact rfl; exact rfl; omega)
              | ((with_reducible apply w_wrap); exact rfl; exact rfl; first | exact i64_in _ (by omega) | exact u64_in _ (by omega) | exact u8_in _ (by omega)))
            | ((with_reducible apply g_assign); first
              | ((with_reducible apply w_pure (v := .int _ _)); exact rfl; exact rfl)
              | ((with_reducible apply w_pure (v := .string _)); exact rfl; exact rfl))
            | ((with_reducible apply w_ssl); exact rfl; exact rfl; (first | exact num_of (by omega) | exact rfl); (first | exact num_of (by omega) | exact rfl); omega))
          | with_reducible refine w_nil ?_
          | with_reducible refine w_region ?_
          | with_reducible refine w_blk ?_)
        refine ih (some (n2 + 2)) _ _ _ (by repeat' (first | with_reducible exact Fr.mix | with_reducible exact Fr.rfl' | with_reducible refine Fr.put ?_ ?_ | with_reducible refine Fr.mix2 ?_ ?_ | with_reducible refine Fr.put0 ?_ | exact rfl)) ⟨by push_cast; rfl, congrArg Value.string (by rw [show Int.toNat (64 + 56 * (i : Int) + 24) = 64 + 56 * i + 24 by omega, show Int.toNat (64 + 56 * (i : Int) + 32) = 64 + 56 * i + 32 by omega]; rfl),  by simp (disch := omega) only [upd_ne]; exact hb0, by simp (disch := omega) only [upd_ne, upd_same]; simp [readL, ov] <;> rfl, h3.later (by omega) (fun j h1 h2 => by simp (disch := omega) only [upd_ne]), by omega⟩
    · rintro o σ g2 n2 ⟨k7, k6, hg0, hg1, ho, hn⟩
      generalize plainF s N N = P at k6 hR
      refine w_keep (i := 7) k7 (w_keep (i := 6) k6 ?_)
      have hl := readL_len s N
      cases o with
      | none =>
        have hi0 : readL s N = [] := ho
        rw [hi0] at hl
        simp at hl
        omega
      | some o =>
        simp only [ov] at hg1
        have hfz := ho.fz (k := 6) (lo' := 0) (tg := tg) (P := Try.prog) (by omega) rfl (by decide) (fun _ => rfl) (sn_plains (Sg.plains _))
        have hfr := ho.fz (k := 5) (lo' := n) (tg := #[]) (P := Try.prog) (by omega) rfl (by decide) (fun _ => rfl) (sn_plains (Sg.plains _))
        simp only [ov] at hfz hfr
        repeat' (first
          | ((with_reducible apply g_op); first
            | ((with_reducible apply g_load); first
              | ((with_reducible apply w_load (v := .agg #[_, _, _])); exact rfl; (first | assumption | (simp (disch := omega) only [upd_same, upd_ne]; first | done | assumption | exact rfl) | exact rfl); exact rfl))
            | ((with_reducible apply g_move); first
              | ((with_reducible apply w_pure (v := .int _ _)); exact rfl; exact rfl)
              | ((with_reducible apply w_pure (v := .string _)); exact rfl; exact rfl))
            | ((with_reducible apply g_bin); first
              | ((with_reducible apply w_pure (v := .bool _)); exact rfl; exact rfl))
            | ((with_reducible apply g_call); first
              | ((with_reducible apply w_call (v := .int _ _)); exact rfl)))
          | with_reducible refine w_seq ?_
          | with_reducible refine w_nil ?_
          | with_reducible refine w_region ?_
          | ((with_reducible apply w_exit); exact rfl)
          | ((with_reducible apply w_ifd); exact rfl; all_goals (intro hc; first | (exfalso; omega) | skip)))
        refine w_rf (rcheck_run ⟨getN s 16 2, getN s 24 8, readL s N⟩ s.size) (fun _ => rfl) (sn_cons (sn_agg (l := [_, _, _]) (sn_cons (sn_plain rfl) (sn_cons (sn_plain rfl) (sn_cons hfz sn_nil)))) (sn_plains rfl)) ?_
        rintro _ rfl
        cases hok : okS ⟨getN s 16 2, getN s 24 8, readL s N⟩ s.size with
        | false =>
          rw [hok, if_neg (by simp)] at hR
          subst hR
          repeat' (first
            | ((with_reducible apply g_op); first
              | ((with_reducible apply g_move); first
                | ((with_reducible apply w_pure (v := .bool _)); exact rfl; exact rfl))
              | ((with_reducible apply g_bin); first
                | ((with_reducible apply w_pure (v := .bool _)); exact rfl; exact rfl))
              | ((with_reducible apply g_assign); first
                | ((with_reducible apply w_pure (v := .int _ _)); exact rfl; exact rfl))
              | ((with_reducible apply g_store); first
                | ((with_reducible apply w_store (us := [_, _, _]) (ws := [_, _, _])); exact rfl; exact rfl; (first | assumption | (simp (disch := omega) only [upd_same, upd_ne]; first | done | assumption | exact rfl) | exact rfl); omega; exact rfl; exact rfl; exact rfl))
              | ((with_reducible apply g_build); first
                | ((with_reducible apply w_pure (v := .agg #[_, _, _])); exact rfl; exact rfl))
              | ((with_reducible apply w_pure (v := .bool _)); exact rfl; exact rfl))
            | ((with_reducible apply g_gd); first
              | ((with_reducible apply w_pass); exact rfl))
            | with_reducible refine w_seq ?_
            | with_reducible refine w_nil ?_
            | with_reducible refine w_region ?_
            | ((with_reducible apply w_yes); exact rfl)
            | ((with_reducible apply w_retct (v := .agg #[_, _, _]) (u := .int _ _)); exact rfl; exact rfl; (first | assumption | (simp (disch := omega) only [upd_same, upd_ne]; first | done | assumption | exact rfl) | exact rfl); exact rfl; exact rfl))
          exact fr_zero _ _
        | true =>
          have hrg := readI_rg s
          unfold readI at hrg
          unfold manyN at hrg
          rw [hNe, Int.toNat_natCast] at hrg
          repeat' (first
            | ((with_reducible apply g_op); first
              | ((with_reducible apply g_load); first
                | ((with_reducible apply w_load (v := .agg #[_, _, _])); exact rfl; (first | assumption | (simp (disch := omega) only [upd_same, upd_ne]; first | done | assumption | exact rfl) | exact rfl); exact rfl))
              | ((with_reducible apply g_move); first
                | ((with_reducible apply w_pure (v := .bool _)); exact rfl; exact rfl))
              | ((with_reducible apply g_bin); first
                | ((with_reducible apply w_pure (v := .bool _)); exact rfl; exact rfl)))
            | ((with_reducible apply g_gd); first
              | ((with_reducible apply w_want); exact rfl)))
          refine w_rf (rhead_run ⟨getN s 16 2, getN s 24 8, readL s N⟩ hrg (by dsimp only; omega)) (fun _ => rfl) (sn_cons (sn_agg (l := [_, _, _]) (sn_cons (sn_plain rfl) (sn_cons (sn_plain rfl) (sn_cons hfz sn_nil)))) sn_nil) ?_
          rintro _ rfl
          have hhz := headS_size ⟨getN s 16 2, getN s 24 8, readL s N⟩
          dsimp only at hhz
          by_cases hpl : headS ⟨getN s 16 2, getN s 24 8, readL s N⟩ = P
          · rw [if_pos ⟨hok, hpl⟩] at hR
            subst hR
            repeat' (first
              | ((with_reducible apply g_op); first
                | ((with_reducible apply g_load); first
                  | ((with_reducible apply w_load (v := .agg #[_, _, _])); exact rfl; (first | assumption | (simp (disch := omega) only [upd_same, upd_ne]; first | done | assumption | exact rfl) | exact rfl); exact rfl))
                | ((with_reducible apply g_move); first
                  | ((with_reducible apply w_pure (v := .string _)); exact rfl; exact rfl))
                | ((with_reducible apply g_bin); first
                  | ((with_reducible apply w_tne); exact rfl; exact rfl; exact rfl; exact rfl; exact rfl))
                | ((with_reducible apply g_assign); first
                  | ((with_reducible apply w_pure (v := .int _ _)); exact rfl; exact rfl))
                | ((with_reducible apply g_store); first
                  | ((with_reducible apply w_store (us := [_, _, _]) (ws := [_, _, _])); exact rfl; exact rfl; (first | assumption | (simp (disch := omega) only [upd_same, upd_ne]; first | done | assumption | exact rfl) | exact rfl); omega; exact rfl; exact rfl; exact rfl))
                | ((with_reducible apply g_build); first
                  | ((with_reducible apply w_pure (v := .agg #[_, _, _])); exact rfl; exact rfl))
                | ((with_reducible apply w_pure (v := .bool _)); exact rfl; exact rfl))
              | ((with_reducible apply g_gd); first
                | ((with_reducible apply w_want); exact rfl))
              | with_reducible refine w_seq ?_
              | with_reducible refine w_nil ?_
              | with_reducible refine w_region ?_
              | with_reducible refine w_skip ?_
              | ((with_reducible apply w_ifd); exact rfl; all_goals (intro hc; first | (exfalso; omega) | skip))
              | ((with_reducible apply w_retct (v := .agg #[_, _, _]) (u := .int _ _)); exact rfl; exact rfl; (first | assumption | (simp (disch := omega) only [upd_same, upd_ne]; first | done | assumption | exact rfl) | exact rfl); exact rfl; exact rfl))
            all_goals first | (exfalso; exact absurd hpl (by assumption)) | skip
            refine ⟨_, sn_tuple (l := [_, _]) (sn_cons (sn_agg (l := [_, _, _]) (sn_cons (sn_plain rfl) (sn_cons (sn_plain rfl) (sn_cons ?_ sn_nil)))) (sn_cons (sn_plain rfl) sn_nil)), rfl⟩
            first | exact hfr | exact (ho.later (Nat.le_refl _) (fun j h1 h2 => by simp (disch := omega) only [upd_ne])).fz (by omega) rfl (by decide) (fun _ => rfl) (sn_plains (Sg.plains _))
          · rw [if_neg (fun e => hpl e.2)] at hR
            subst hR
            repeat' (first
              | ((with_reducible apply g_op); first
                | ((with_reducible apply g_load); first
                  | ((with_reducible apply w_load (v := .agg #[_, _, _])); exact rfl; (first | assumption | (simp (disch := omega) only [upd_same, upd_ne]; first | done | assumption | exact rfl) | exact rfl); exact rfl))
                | ((with_reducible apply g_move); first
                  | ((with_reducible apply w_pure (v := .string _)); exact rfl; exact rfl))
                | ((with_reducible apply g_bin); first
                  | ((with_reducible apply w_tne); exact rfl; exact rfl; exact rfl; exact rfl; exact rfl))
                | ((with_reducible apply g_assign); first
                  | ((with_reducible apply w_pure (v := .int _ _)); exact rfl; exact rfl))
                | ((with_reducible apply g_store); first
                  | ((with_reducible apply w_store (us := [_, _, _]) (ws := [_, _, _])); exact rfl; exact rfl; (first | assumption | (simp (disch := omega) only [upd_same, upd_ne]; first | done | assumption | exact rfl) | exact rfl); omega; exact rfl; exact rfl; exact rfl))
                | ((with_reducible apply g_build); first
                  | ((with_reducible apply w_pure (v := .agg #[_, _, _])); exact rfl; exact rfl))
                | ((with_reducible apply w_pure (v := .bool _)); exact rfl; exact rfl))
              | ((with_reducible apply g_gd); first
                | ((with_reducible apply w_want); exact rfl))
              | with_reducible refine w_seq ?_
              | with_reducible refine w_nil ?_
              | with_reducible refine w_region ?_
              | with_reducible refine w_skip ?_
              | ((with_reducible apply w_ifd); exact rfl; all_goals (intro hc; first | (exfalso; omega) | skip))
              | ((with_reducible apply w_retct (v := .agg #[_, _, _]) (u := .int _ _)); exact rfl; exact rfl; (first | assumption | (simp (disch := omega) only [upd_same, upd_ne]; first | done | assumption | exact rfl) | exact rfl); exact rfl; exact rfl))
            all_goals first | (exfalso; exact absurd hpl (by assumption)) | exact fr_zero _ _
  · have hP : rparseS s = (.zero, 16) := if_neg hN
    rw [hP]
    unfold manyN at hN
    repeat' (first
      | ((with_reducible apply g_op); first
        | ((with_reducible apply g_move); first
          | ((with_reducible apply w_pure (v := .int _ _)); exact rfl; exact rfl)
          | ((with_reducible apply w_pure (v := .bool _)); exact rfl; exact rfl))
        | ((with_reducible apply g_bin); first
          | ((with_reducible apply w_pure (v := .bool _)); exact rfl; exact rfl))
        | ((with_reducible apply g_pick); first
          | ((with_reducible apply w_pk1 (v := .bool _)); exact rfl; exact rfl; (first | assumption | exact decide_eq_true (by assumption) | exact decide_eq_false (by assumption) | exact decide_eq_true (by omega) | exact decide_eq_false (by omega) | exact beq_iff_eq.2 (by omega) | exact beq_eq_false_iff_ne.2 (by omega) | exact bne_iff_ne.2 (by omega) | exact bne_eq_false_iff_eq.2 (by omega)))
          | ((with_reducible apply w_pk0 (v := .bool _)); exact rfl; exact rfl; (first | assumption | exact decide_eq_true (by assumption) | exact decide_eq_false (by assumption) | exact decide_eq_true (by omega) | exact decide_eq_false (by omega) | exact beq_iff_eq.2 (by omega) | exact beq_eq_false_iff_ne.2 (by omega) | exact bne_iff_ne.2 (by omega) | exact bne_eq_false_iff_eq.2 (by omega))))
        | ((with_reducible apply g_assign); first
          | ((with_reducible apply w_pure (v := .int _ _)); exact rfl; exact rfl))
        | ((with_reducible apply g_store); first
          | ((with_reducible apply w_store (us := [_, _, _]) (ws := [_, _, _])); exact rfl; exact rfl; (first | assumption | (simp (disch := omega) only [upd_same, upd_ne]; first | done | assumption | exact rfl) | exact rfl); omega; exact rfl; exact rfl; exact rfl))
        | ((with_reducible apply g_build); first
          | ((with_reducible apply w_pure (v := .agg #[_, _, _])); exact rfl; exact rfl)))
      | ((with_reducible apply g_gd); first
        | ((with_reducible apply w_gd_f); exact rfl; all_goals (intro hc; first | (exfalso; omega) | skip)))
      | with_reducible refine w_seq ?_
      | with_reducible refine w_nil ?_
      | with_reducible refine w_region ?_
      | ((with_reducible apply w_yes); exact rfl)
      | ((with_reducible apply w_ifd); exact rfl; all_goals (intro hc; first | (exfalso; omega) | skip))
      | ((with_reducible apply w_retct (v := .agg #[_, _, _]) (u := .int _ _)); exact rfl; exact rfl; (first | assumption | (simp (disch := omega) only [upd_same, upd_ne]; first | done | assumption | exact rfl) | exact rfl); exact rfl; exact rfl))
    all_goals first | (exfalso; omega) | exact fr_zero _ _
end Go.Proofs.Ytohfbnpmhlpkhaa.L

