/- The program reads a file. -/
import Derived.Test.Ytohfbnpmhlpkhaac08L
namespace Go.Proofs.Ytohfbnpmhlpkhaa.L
open Go.L1 Go.IntWalk Oct
set_option linter.unusedVariables false
set_option linter.unusedSimpArgs false
set_option maxHeartbeats 4000000
set_option maxRecDepth 20000
theorem getN_range (s : ByteArray) (a w : Int) : -1 ≤ getN s a w ∧ getN s a w ≤ 1099511627776 := by
  unfold getN
  have := getV_range s a w
  split
  · omega
  · omega
def segAt (s : ByteArray) (a : Int) : Sg := ⟨getN s a 4, getN s (a + 4) 4, getN s (a + 8) 8, getN s (a + 16) 8, getN s (a + 32) 8, getN s (a + 40) 8, getN s (a + 48) 8⟩
theorem segAt_rg (s : ByteArray) (a : Int) : (segAt s a).rg := by
  unfold segAt Sg.rg
  have := fun b w => getN_range s b w
  have h0 := this a 4; have h1 := this (a + 4) 4; have h2 := this (a + 8) 8; have h3 := this (a + 16) 8; have h4 := this (a + 32) 8; have h5 := this (a + 40) 8; have h6 := this (a + 48) 8
  dsimp only
  omega
def readL (s : ByteArray) : Nat → List Sg
  | 0 => []
  | i + 1 => readL s i ++ [segAt s (64 + 56 * (i : Int))]
theorem readL_len (s : ByteArray) (i : Nat) : (readL s i).length = i := by
  induction i with
  | zero => rfl
  | succ i ih => rw [readL, List.length_append, ih]; rfl
theorem readL_mem (s : ByteArray) (i : Nat) : ∀ x ∈ readL s i, x.rg := by
  induction i with
  | zero => intro x hx; cases hx
  | succ i ih =>
    intro x hx
    rw [readL] at hx
    rcases List.mem_append.1 hx with hx | hx
    · exact ih x hx
    · cases List.mem_singleton.1 hx; exact segAt_rg _ _
def manyN (s : ByteArray) : Int := getN s 56 2
def readI (s : ByteArray) : Im := ⟨getN s 16 2, getN s 24 8, readL s (manyN s).toNat⟩
theorem readI_rg (s : ByteArray) : (readI s).rg := ⟨by have := getN_range s 16 2; unfold readI; dsimp only; omega, by have := getN_range s 24 8; unfold readI; dsimp only; omega, readL_mem s _⟩
def Im.zero : Im := ⟨0, 0, []⟩
def parseS (s : ByteArray) : Im × Int := if 1 ≤ manyN s ∧ manyN s ≤ 16 then (if okS (readI s) s.size = true ∧ likeS s (headS (readI s)) = true then (readI s, 0) else (.zero, 16)) else (.zero, 16)
theorem fr_zero (g : Nat → Option Ob) (lo : Nat) : ∃ u, L1.freeze Try.prog g #[] lo 9 (.tuple #[.agg #[.int .i64 0, .int .i64 0, .slice none 0 0], .int .i64 16]) = some u ∧ u = .tuple #[Im.zero.v #[], .int .i64 16] :=
  ⟨_, sn_tuple (l := [_, _]) (sn_cons (sn_agg (l := [_, _, _]) (sn_cons (sn_plain rfl) (sn_cons (sn_plain rfl) (sn_cons sn_none sn_nil)))) (sn_cons (sn_plain rfl) sn_nil)), rfl⟩
theorem parse_run (s : ByteArray) (hs : s.size ≤ 1000000) : Rf Try.prog T 14 [.string s] (fun v => v = .tuple #[(parseS s).1.v #[], .int .i64 (parseS s).2]) := by
  refine c_froz Try.func14 rfl rfl rfl rfl rfl rfl ?_
  intro g n
  repeat' (first
    | ((with_reducible apply g_op); first
      | ((with_reducible apply g_move); first
        | ((with_reducible apply w_pure (v := .string _)); exact rfl; exact rfl))
      | ((with_reducible apply g_assign); first
        | ((with_reducible apply w_pure (v := .int _ _)); exact rfl; exact rfl))
      | ((with_reducible apply w_alloc (ls := [_, _, _])); exact rfl; exact rfl))
    | with_reducible refine w_seq ?_
    | with_reducible refine w_nil ?_
    | with_reducible refine w_region ?_)
  refine w_rq (eget_run s 16 2 (by omega) _ _ _) (fun _ => rfl) ?_
  rintro _ rfl
  repeat' (first
    | ((with_reducible apply g_op); first
      | ((with_reducible apply g_move); first
        | ((with_reducible apply w_pure (v := .string _)); exact rfl; exact rfl))))
  refine w_rq (eget_run s 24 8 (by omega) _ _ _) (fun _ => rfl) ?_
  rintro _ rfl
  repeat' (first
    | ((with_reducible apply g_op); first
      | ((with_reducible apply g_move); first
        | ((with_reducible apply w_pure (v := .string _)); exact rfl; exact rfl))
      | ((with_reducible apply g_store); first
        | ((with_reducible apply w_store (us := [_, _, _]) (ws := [_, _, _])); exact rfl; exact rfl; (first | assumption | (simp (disch := omega) only [upd_same, upd_ne]; first | done | assumption | exact rfl) | exact rfl); omega; exact rfl; exact rfl; exact rfl))
      | ((with_reducible apply g_build); first
        | ((with_reducible apply w_pure (v := .agg #[_, _, _])); exact rfl; exact rfl))
      | ((with_reducible apply w_alloc (ls := [_, _, _])); exact rfl; exact rfl))
    | with_reducible refine w_seq ?_
    | with_reducible refine w_nil ?_
    | with_reducible refine w_region ?_)
  refine w_rq (eget_run s 56 2 (by omega) _ _ _) (fun _ => rfl) ?_
  rintro _ rfl
  have hr := getN_range s 56 2
  by_cases hN : 1 ≤ manyN s ∧ manyN s ≤ 16
  · have hP : parseS s = if okS (readI s) s.size = true ∧ likeS s (headS (readI s)) = true then (readI s, 0) else (.zero, 16) := if_pos hN
    rw [hP]
    unfold readI
    obtain ⟨N, hNe⟩ : ∃ N : Nat, manyN s = (N : Int) := ⟨(manyN s).toNat, by omega⟩
    rw [hNe, Int.toNat_natCast]
    rw [hNe] at hN
    unfold manyN at hNe
    rw [hNe]
    obtain ⟨R, hR⟩ : ∃ R, R = (if okS ⟨getN s 16 2, getN s 24 8, readL s N⟩ s.size = true ∧ likeS s (headS ⟨getN s 16 2, getN s 24 8, readL s N⟩) = true then ((⟨getN s 16 2, getN s 24 8, readL s N⟩, 0) : Im × Int) else (.zero, 16)) := ⟨_, rfl⟩
    rw [← hR]
    repeat' (first
      | ((with_reducible apply g_op); first
        | ((with_reducible apply g_move); first
          | ((with_reducible apply w_pure (v := .int _ _)); exact rfl; exact rfl)
          | ((with_reducible apply w_pure (v := .bool _)); exact rfl; exact rfl))
        | ((with_reducible apply g_bin); first
          | ((with_reducible apply w_pure (v := .bool _)); exact rfl; exact rfl))
        | ((with_reducible apply g_pick); first
          | ((with_reducible apply w_pk0 (v := .bool _)); exact rfl; exact rfl; (first | assumption | exact decide_eq_true (by assumption) | exact decide_eq_false (by assumption) | exact decide_eq_true (by omega) | exact decide_eq_false (by omega) | exact beq_iff_eq.2 (by omega) | exact beq_eq_false_iff_ne.2 (by omega) | exact bne_iff_ne.2 (by omega) | exact bne_eq_false_iff_eq.2 (by omega))))
        | ((with_reducible apply g_assign); first
          | ((with_reducible apply w_pure (v := .int _ _)); exact rfl; exact rfl)))
      | ((with_reducible apply g_gd); first
        | ((with_reducible apply w_gd_f); exact rfl; all_goals (intro hc; first | (exfalso; omega) | skip)))
      | with_reducible refine w_seq ?_
      | with_reducible refine w_nil ?_
      | with_reducible refine w_region ?_
      | with_reducible refine w_skip ?_
      | with_reducible refine w_block ?_
      | ((with_reducible apply w_ifd); exact rfl; all_goals (intro hc; first | (exfalso; omega) | skip)))
    refine w_cntK [(6, 7), (23, 62)] N (fun i (o : Option Nat) σ g' n' => σ 23 = .int .i64 (i : Nat) ∧ g' n = some (.cells 24 [.int .i64 0, .int .i64 0, .slice none 0 0]) ∧ g' (n + 1) = some (.cells 24 [.int .i64 (getN s 16 2), .int .i64 (getN s 24 8), ov o (readL s i).length]) ∧ Own g' (n + 2) n' 43 Sg.c o (readL s i) ∧ n + 2 ≤ n') ?_ ?_ none ⟨rfl, by simp (disch := omega) only [upd_ne, upd_same], by simp (disch := omega) only [upd_ne, upd_same]; rfl, Own.nil, by omega⟩
    · rintro i o σ g2 n2 hlt ⟨k23, hg0, hg1, ho, hn⟩ ih
      refine w_keep (i := 23) k23 ?_
      have hl := readL_len s i
      cases o with
      | none =>
        have hi0 : readL s i = [] := ho
        simp only [ov] at hg1
        repeat' (first
          | ((with_reducible apply g_op); first
            | ((with_reducible apply g_load); first
              | ((with_reducible apply w_load (v := .slice _ _ _)); exact rfl; (first | assumption | (simp (disch := omega) only [upd_same, upd_ne]; first | done | assumption | exact rfl) | exact rfl); exact rfl))
            | ((with_reducible apply g_move); first
              | ((with_reducible apply w_pure (v := .int _ _)); exact rfl; exact rfl)
              | ((with_reducible apply w_pure (v := .string _)); exact rfl; exact rfl))
            | ((with_reducible apply g_bin); first
              | ((with_reducible apply w_wrap); exact rfl; exact rfl; first | exact i64_in _ (by omega) | exact u64_in _ (by omega) | exact u8_in _ (by omega))
              | ((with_reducible apply w_pure (v := .bool _)); exact rfl; exact rfl))
            | ((with_reducible apply g_fld); first
              | ((with_reducible apply w_fldp (o := 2)); exact rfl; exact rfl; exact rfl; exact (by decide)))
            | ((with_reducible apply g_assign); first
              | ((with_reducible apply w_pure (v := .int _ _)); exact rfl; exact rfl)))
          | with_reducible refine w_seq ?_
          | with_reducible refine w_nil ?_
          | with_reducible refine w_region ?_
          | with_reducible refine w_skip ?_
          | with_reducible refine w_block ?_
          | ((with_reducible apply w_draw); kernel_rfl; kernel_rfl)
          | ((with_reducible apply w_ifd); exact rfl; all_goals (intro hc; first | (exfalso; omega) | skip)))
        refine w_rq (eget_run s (64+56*i:Int) 4 (by omega) _ _ _) (fun _ => rfl) ?_
        rintro _ rfl
        repeat' (first
          | ((with_reducible apply g_op); first
            | ((with_reducible apply g_move); first
              | ((with_reducible apply w_pure (v := .int _ _)); exact rfl; exact rfl)
              | ((with_reducible apply w_pure (v := .string _)); exact rfl; exact rfl))
            | ((with_reducible apply g_bin); first
              | ((with_reducible apply w_wrap); exact rfl; exact rfl; first | exact i64_in _ (by omega) | exact u64_in _ (by omega) | exact u8_in _ (by omega)))))
        refine w_rq (eget_run s (64+56*i+4:Int) 4 (by omega) _ _ _) (fun _ => rfl) ?_
        rintro _ rfl
        repeat' (first
          | ((with_reducible apply g_op); first
            | ((with_reducible apply g_move); first
              | ((with_reducible apply w_pure (v := .int _ _)); exact rfl; exact rfl)
              | ((with_reducible apply w_pure (v := .string _)); exact rfl; exact rfl))
            | ((with_reducible apply g_bin); first
              | ((with_reducible apply w_wrap); exact rfl; exact rfl; first | exact i64_in _ (by omega) | exact u64_in _ (by omega) | exact u8_in _ (by omega)))))
        refine w_rq (eget_run s (64+56*i+8:Int) 8 (by omega) _ _ _) (fun _ => rfl) ?_
        rintro _ rfl
        repeat' (first
          | ((with_reducible apply g_op); first
            | ((with_reducible apply g_move); first
              | ((with_reducible apply w_pure (v := .int _ _)); exact rfl; exact rfl)
              | ((with_reducible apply w_pure (v := .string _)); exact rfl; exact rfl))
            | ((with_reducible apply g_bin); first
              | ((with_reducible apply w_wrap); exact rfl; exact rfl; first | exact i64_in _ (by omega) | exact u64_in _ (by omega) | exact u8_in _ (by omega)))))
        refine w_rq (eget_run s (64+56*i+16:Int) 8 (by omega) _ _ _) (fun _ => rfl) ?_
        rintro _ rfl
        repeat' (first
          | ((with_reducible apply g_op); first
            | ((with_reducible apply g_move); first
              | ((with_reducible apply w_pure (v := .int _ _)); exact rfl; exact rfl)
              | ((with_reducible apply w_pure (v := .string _)); exact rfl; exact rfl))
            | ((with_reducible apply g_bin); first
              | ((with_reducible apply w_wrap); exact rfl; exact rfl; first | exact i64_in _ (by omega) | exact u64_in _ (by omega) | exact u8_in _ (by omega)))))
        refine w_rq (eget_run s (64+56*i+32:Int) 8 (by omega) _ _ _) (fun _ => rfl) ?_
        rintro _ rfl
        repeat' (first
          | ((with_reducible apply g_op); first
            | ((with_reducible apply g_move); first
              | ((with_reducible apply w_pure (v := .int _ _)); exact rfl; exact rfl)
              | ((with_reducible apply w_pure (v := .string _)); exact rfl; exact rfl))
            | ((with_reducible apply g_bin); first
              | ((with_reducible apply w_wrap); exact rfl; exact rfl; first | exact i64_in _ (by omega) | exact u64_in _ (by omega) | exact u8_in _ (by omega)))))
        refine w_rq (eget_run s (64+56*i+40:Int) 8 (by omega) _ _ _) (fun _ => rfl) ?_
        rintro _ rfl
        repeat' (first
          | ((with_reducible apply g_op); first
            | ((with_reducible apply g_move); first
              | ((with_reducible apply w_pure (v := .int _ _)); exact rfl; exact rfl)
              | ((with_reducible apply w_pure (v := .string _)); exact rfl; exact rfl))
            | ((with_reducible apply g_bin); first
              | ((with_reducible apply w_wrap); exact rfl; exact rfl; first | exact i64_in _ (by omega) | exact u64_in _ (by omega) | exact u8_in _ (by omega)))))
        refine w_rq (eget_run s (64+56*i+48:Int) 8 (by omega) _ _ _) (fun _ => rfl) ?_
        rintro _ rfl
        repeat' (first
          | ((with_reducible apply g_op); first
            | ((with_reducible apply g_build); first
              | ((with_reducible apply w_pure (v := .agg #[_, _, _, _, _, _, _])); exact rfl; exact rfl))))
        refine w_bsl (ls := [_, _, _, _, _, _, _]) rfl rfl rfl ⟨by decide, rfl⟩ rfl ?_
        repeat' (first
          | fail)
        refine w_app0 (ns := [_, _, _, _, _, _, _]) rfl rfl rfl rfl rfl rfl upd_same rfl rfl (by decide) ⟨by decide, by decide⟩ ?_
        repeat' (first
          | ((with_reducible apply g_op); first
            | ((with_reducible apply g_move); first
              | ((with_reducible apply w_pure (v := .int _ _)); exact rfl; exact rfl))
            | ((with_reducible apply g_bin); first
              | ((with_reducible apply w_wrap); exact rfl; exact rfl; first | exact i64_in _ (by omega) | exact u64_in _ (by omega) | exact u8_in _ (by omega)))
            | ((with_reducible apply g_fld); first
              | ((with_reducible apply w_fldp (o := 2)); exact rfl; exact rfl; exact rfl; exact (by decide)))
            | ((with_reducible apply g_store); first
              | ((with_reducible apply w_store (us := [.slice _ _ _]) (ws := [_, _, _])); exact rfl; exact rfl; (first | assumption | (simp (disch := omega) only [upd_same, upd_ne]; first | done | assumption | exact rfl) | exact rfl); omega; exact rfl; exact rfl; exact rfl)))
          | with_reducible refine w_nil ?_
          | with_reducible refine w_region ?_
          | with_reducible refine w_blk ?_)
        refine ih (some (n2 + 1)) _ _ _ (by repeat' (first | with_reducible exact Fr.mix | with_reducible exact Fr.rfl' | with_reducible refine Fr.put ?_ ?_ | with_reducible refine Fr.mix2 ?_ ?_ | with_reducible refine Fr.put0 ?_ | exact rfl)) ⟨by push_cast; rfl, by simp (disch := omega) only [upd_ne]; exact hg0, by simp (disch := omega) only [upd_ne, upd_same]; simp [readL, hi0, ov] <;> rfl, ⟨by simp [readL], by omega, by omega, by simp (disch := omega) only [upd_ne, upd_same]; simp [readL, hi0] <;> rfl⟩, by omega⟩
      | some o =>
        simp only [ov] at hg1
        repeat' (first
          | ((with_reducible apply g_op); first
            | ((with_reducible apply g_load); first
              | ((with_reducible apply w_load (v := .slice _ _ _)); exact rfl; (first | assumption | (simp (disch := omega) only [upd_same, upd_ne]; first | done | assumption | exact rfl) | exact rfl); exact rfl))
            | ((with_reducible apply g_move); first
              | ((with_reducible apply w_pure (v := .int _ _)); exact rfl; exact rfl)
              | ((with_reducible apply w_pure (v := .string _)); exact rfl; exact rfl))
            | ((with_reducible apply g_bin); first
              | ((with_reducible apply w_wrap); exact rfl; exact rfl; first | exact i64_in _ (by omega) | exact u64_in _ (by omega) | exact u8_in _ (by omega))
              | ((with_reducible apply w_pure (v := .bool _)); exact rfl; exact rfl))
            | ((with_reducible apply g_fld); first
              | ((with_reducible apply w_fldp (o := 2)); exact rfl; exact rfl; exact rfl; exact (by decide)))
            | ((with_reducible apply g_assign); first
              | ((with_reducible apply w_pure (v := .int _ _)); exact rfl; exact rfl)))
          | with_reducible refine w_seq ?_
          | with_reducible refine w_nil ?_
          | with_reducible refine w_region ?_
          | with_reducible refine w_skip ?_
          | with_reducible refine w_block ?_
          | ((with_reducible apply w_draw); kernel_rfl; kernel_rfl)
          | ((with_reducible apply w_ifd); exact rfl; all_goals (intro hc; first | (exfalso; omega) | skip)))
        refine w_rq (eget_run s (64+56*i:Int) 4 (by omega) _ _ _) (fun _ => rfl) ?_
        rintro _ rfl
        repeat' (first
          | ((with_reducible apply g_op); first
            | ((with_reducible apply g_move); first
              | ((with_reducible apply w_pure (v := .int _ _)); exact rfl; exact rfl)
              | ((with_reducible apply w_pure (v := .string _)); exact rfl; exact rfl))
            | ((with_reducible apply g_bin); first
              | ((with_reducible apply w_wrap); exact rfl; exact rfl; first | exact i64_in _ (by omega) | exact u64_in _ (by omega) | exact u8_in _ (by omega)))))
        refine w_rq (eget_run s (64+56*i+4:Int) 4 (by omega) _ _ _) (fun _ => rfl) ?_
        rintro _ rfl
        repeat' (first
          | ((with_reducible apply g_op); first
            | ((with_reducible apply g_move); first
              | ((with_reducible apply w_pure (v := .int _ _)); exact rfl; exact rfl)
              | ((with_reducible apply w_pure (v := .string _)); exact rfl; exact rfl))
            | ((with_reducible apply g_bin); first
              | ((with_reducible apply w_wrap); exact rfl; exact rfl; first | exact i64_in _ (by omega) | exact u64_in _ (by omega) | exact u8_in _ (by omega)))))
        refine w_rq (eget_run s (64+56*i+8:Int) 8 (by omega) _ _ _) (fun _ => rfl) ?_
        rintro _ rfl
        repeat' (first
          | ((with_reducible apply g_op); first
            | ((with_reducible apply g_move); first
              | ((with_reducible apply w_pure (v := .int _ _)); exact rfl; exact rfl)
              | ((with_reducible apply w_pure (v := .string _)); exact rfl; exact rfl))
            | ((with_reducible apply g_bin); first
              | ((with_reducible apply w_wrap); exact rfl; exact rfl; first | exact i64_in _ (by omega) | exact u64_in _ (by omega) | exact u8_in _ (by omega)))))
        refine w_rq (eget_run s (64+56*i+16:Int) 8 (by omega) _ _ _) (fun _ => rfl) ?_
        rintro _ rfl
        repeat' (first
          | ((with_reducible apply g_op); first
            | ((with_reducible apply g_move); first
              | ((with_reducible apply w_pure (v := .int _ _)); exact rfl; exact rfl)
              | ((with_reducible apply w_pure (v := .string _)); exact rfl; exact rfl))
            | ((with_reducible apply g_bin); first
              | ((with_reducible apply w_wrap); exact rfl; exact rfl; first | exact i64_in _ (by omega) | exact u64_in _ (by omega) | exact u8_in _ (by omega)))))
        refine w_rq (eget_run s (64+56*i+32:Int) 8 (by omega) _ _ _) (fun _ => rfl) ?_
        rintro _ rfl
        repeat' (first
          | ((with_reducible apply g_op); first
            | ((with_reducible apply g_move); first
              | ((with_reducible apply w_pure (v := .int _ _)); exact rfl; exact rfl)
              | ((with_reducible apply w_pure (v := .string _)); exact rfl; exact rfl))
            | ((with_reducible apply g_bin); first
              | ((with_reducible apply w_wrap); exact rfl; exact rfl; first | exact i64_in _ (by omega) | exact u64_in _ (by omega) | exact u8_in _ (by omega)))))
        refine w_rq (eget_run s (64+56*i+40:Int) 8 (by omega) _ _ _) (fun _ => rfl) ?_
        rintro _ rfl
        repeat' (first
          | ((with_reducible apply g_op); first
            | ((with_reducible apply g_move); first
              | ((with_reducible apply w_pure (v := .int _ _)); exact rfl; exact rfl)
              | ((with_reducible apply w_pure (v := .string _)); exact rfl; exact rfl))
            | ((with_reducible apply g_bin); first
              | ((with_reducible apply w_wrap); exact rfl; exact rfl; first | exact i64_in _ (by omega) | exact u64_in _ (by omega) | exact u8_in _ (by omega)))))
        refine w_rq (eget_run s (64+56*i+48:Int) 8 (by omega) _ _ _) (fun _ => rfl) ?_
        rintro _ rfl
        repeat' (first
          | ((with_reducible apply g_op); first
            | ((with_reducible apply g_build); first
              | ((with_reducible apply w_pure (v := .agg #[_, _, _, _, _, _, _])); exact rfl; exact rfl))))
        refine w_bsl (ls := [_, _, _, _, _, _, _]) rfl rfl rfl ⟨by decide, rfl⟩ rfl ?_
        repeat' (first
          | fail)
        refine w_own2 (enc := Sg.c) (y := segAt s (64 + 56 * (i : Int))) (by_ := 56) (sz := 7) (lo := n + 2) (o := some o) (xs := readL s i) (ho.later (by omega) (fun j h1 h2 => by simp (disch := omega) only [upd_ne])) rfl rfl rfl rfl rfl rfl (fun _ => rfl) upd_same rfl rfl rfl (by omega) (by omega) ?_
        intro g' h1 h2 h3
        have hoo := ho.2.2.1
        have hoo2 := ho.2.1
        have hb0 : g' n = some (.cells 24 [.int .i64 0, .int .i64 0, .slice none 0 0]) := by
          rw [h1 n (by omega) (by simp; omega)]
          simp (disch := omega) only [upd_ne]; exact hg0
        have hb1 : g' (n + 1) = some (.cells 24 [.int .i64 (getN s 16 2), .int .i64 (getN s 24 8), slc o 0 (readL s i).length]) := by
          rw [h1 (n + 1) (by omega) (by simp; omega)]
          simp (disch := omega) only [upd_ne]; exact hg1
        repeat' (first
          | ((with_reducible apply g_op); first
            | ((with_reducible apply g_move); first
              | ((with_reducible apply w_pure (v := .int _ _)); exact rfl; exact rfl))
            | ((with_reducible apply g_bin); first
              | ((with_reducible apply w_wrap); exact rfl; exact rfl; first | exact i64_in _ (by omega) | exact u64_in _ (by omega) | exact u8_in _ (by omega)))
            | ((with_reducible apply g_fld); first
              | ((with_reducible apply w_fldp (o := 2)); exact rfl; exact rfl; exact rfl; exact (by decide)))
            | ((with_reducible apply g_store); first
              | ((with_reducible apply w_store (us := [.slice _ _ _]) (ws := [_, _, _])); exact rfl; exact rfl; (first | assumption | (simp (disch := omega) only [upd_same, upd_ne]; first | done | assumption | exact rfl) | exact rfl); omega; exact rfl; exact rfl; exact rfl)))
          | with_reducible refine w_nil ?_
          | with_reducible refine w_region ?_
          | with_reducible refine w_blk ?_)
        refine ih (some (n2 + 1)) _ _ _ (by repeat' (first | with_reducible exact Fr.mix | with_reducible exact Fr.rfl' | with_reducible refine Fr.put ?_ ?_ | with_reducible refine Fr.mix2 ?_ ?_ | with_reducible refine Fr.put0 ?_ | exact rfl)) ⟨by push_cast; rfl, by simp (disch := omega) only [upd_ne]; exact hb0, by simp (disch := omega) only [upd_ne, upd_same]; simp [readL, ov] <;> rfl, h3.later (by omega) (fun j h1 h2 => by simp (disch := omega) only [upd_ne]), by omega⟩
    · rintro o σ g2 n2 ⟨k23, hg0, hg1, ho, hn⟩
      refine w_keep (i := 23) k23 ?_
      have hl := readL_len s N
      cases o with
      | none =>
        have hi0 : readL s N = [] := ho
        rw [hi0] at hl
        simp at hl
        omega
      | some o =>
        simp only [ov] at hg1
        have hfz := ho.fz (k := 6) (lo' := 0) (tg := tg) (P := Try.prog) (by omega) rfl (by decide) (fun _ => rfl) (sn_plains (Sg.plains _))
        have hfr := ho.fz (k := 5) (lo' := n) (tg := #[]) (P := Try.prog) (by omega) rfl (by decide) (fun _ => rfl) (sn_plains (Sg.plains _))
        simp only [ov] at hfz hfr
        repeat' (first
          | ((with_reducible apply g_op); first
            | ((with_reducible apply g_load); first
              | ((with_reducible apply w_load (v := .agg #[_, _, _])); exact rfl; (first | assumption | (simp (disch := omega) only [upd_same, upd_ne]; first | done | assumption | exact rfl) | exact rfl); exact rfl))
            | ((with_reducible apply g_move); first
              | ((with_reducible apply w_pure (v := .string _)); exact rfl; exact rfl))
            | ((with_reducible apply g_bin); first
              | ((with_reducible apply w_pure (v := .bool _)); exact rfl; exact rfl))
            | ((with_reducible apply g_call); first
              | ((with_reducible apply w_call (v := .int _ _)); exact rfl)))
          | with_reducible refine w_seq ?_
          | with_reducible refine w_nil ?_
          | with_reducible refine w_region ?_
          | ((with_reducible apply w_exit); exact rfl)
          | ((with_reducible apply w_ifd); exact rfl; all_goals (intro hc; first | (exfalso; omega) | skip)))
        refine w_rf (check_run ⟨getN s 16 2, getN s 24 8, readL s N⟩ s.size) (fun _ => rfl) (sn_cons (sn_agg (l := [_, _, _]) (sn_cons (sn_plain rfl) (sn_cons (sn_plain rfl) (sn_cons hfz sn_nil)))) (sn_plains rfl)) ?_
        rintro _ rfl
        cases hok : okS ⟨getN s 16 2, getN s 24 8, readL s N⟩ s.size with
        | false =>
          rw [hok, if_neg (by simp)] at hR
          subst hR
          repeat' (first
            | ((with_reducible apply g_op); first
              | ((with_reducible apply g_move); first
                | ((with_reducible apply w_pure (v := .bool _)); exact rfl; exact rfl))
              | ((with_reducible apply g_bin); first
                | ((with_reducible apply w_pure (v := .bool _)); exact rfl; exact rfl))
              | ((with_reducible apply g_assign); first
                | ((with_reducible apply w_pure (v := .int _ _)); exact rfl; exact rfl))
              | ((with_reducible apply g_store); first
                | ((with_reducible apply w_store (us := [_, _, _]) (ws := [_, _, _])); exact rfl; exact rfl; (first | assumption | (simp (disch := omega) only [upd_same, upd_ne]; first | done | assumption | exact rfl) | exact rfl); omega; exact rfl; exact rfl; exact rfl))
              | ((with_reducible apply g_build); first
                | ((with_reducible apply w_pure (v := .agg #[_, _, _])); exact rfl; exact rfl))
              | ((with_reducible apply w_pure (v := .bool _)); exact rfl; exact rfl))
            | ((with_reducible apply g_gd); first
              | ((with_reducible apply w_pass); exact rfl))
            | with_reducible refine w_seq ?_
            | with_reducible refine w_nil ?_
            | with_reducible refine w_region ?_
            | ((with_reducible apply w_yes); exact rfl)
            | ((with_reducible apply w_retct (v := .agg #[_, _, _]) (u := .int _ _)); exact rfl; exact rfl; (first | assumption | (simp (disch := omega) only [upd_same, upd_ne]; first | done | assumption | exact rfl) | exact rfl); exact rfl; exact rfl))
          exact fr_zero _ _
        | true =>
          have hrg := readI_rg s
          unfold readI at hrg
          unfold manyN at hrg
          rw [hNe, Int.toNat_natCast] at hrg
          repeat' (first
            | ((with_reducible apply g_op); first
              | ((with_reducible apply g_load); first
                | ((with_reducible apply w_load (v := .agg #[_, _, _])); exact rfl; (first | assumption | (simp (disch := omega) only [upd_same, upd_ne]; first | done | assumption | exact rfl) | exact rfl); exact rfl))
              | ((with_reducible apply g_move); first
                | ((with_reducible apply w_pure (v := .bool _)); exact rfl; exact rfl)
                | ((with_reducible apply w_pure (v := .string _)); exact rfl; exact rfl))
              | ((with_reducible apply g_bin); first
                | ((with_reducible apply w_pure (v := .bool _)); exact rfl; exact rfl)))
            | ((with_reducible apply g_gd); first
              | ((with_reducible apply w_want); exact rfl)))
          refine w_rf (head_run ⟨getN s 16 2, getN s 24 8, readL s N⟩ hrg (by dsimp only; omega)) (fun _ => rfl) (sn_cons (sn_agg (l := [_, _, _]) (sn_cons (sn_plain rfl) (sn_cons (sn_plain rfl) (sn_cons hfz sn_nil)))) sn_nil) ?_
          rintro _ rfl
          have hhz := headS_size ⟨getN s 16 2, getN s 24 8, readL s N⟩
          dsimp only at hhz
          repeat' (first
            | ((with_reducible apply g_gd); first
              | ((with_reducible apply w_want); exact rfl)))
          refine w_rq (alike_run s _ (by omega) (by omega) _ _ _) (fun _ => rfl) ?_
          rintro _ rfl
          cases hlk : likeS s (headS ⟨getN s 16 2, getN s 24 8, readL s N⟩) with
          | false =>
            rw [hlk, if_neg (by simp)] at hR
            subst hR
            repeat' (first
              | ((with_reducible apply g_op); first
                | ((with_reducible apply g_assign); first
                  | ((with_reducible apply w_pure (v := .int _ _)); exact rfl; exact rfl))
                | ((with_reducible apply g_store); first
                  | ((with_reducible apply w_store (us := [_, _, _]) (ws := [_, _, _])); exact rfl; exact rfl; (first | assumption | (simp (disch := omega) only [upd_same, upd_ne]; first | done | assumption | exact rfl) | exact rfl); omega; exact rfl; exact rfl; exact rfl))
                | ((with_reducible apply g_build); first
                  | ((with_reducible apply w_pure (v := .agg #[_, _, _])); exact rfl; exact rfl))
                | ((with_reducible apply w_pure (v := .bool _)); exact rfl; exact rfl))
              | ((with_reducible apply g_gd); first
                | ((with_reducible apply w_want); exact rfl))
              | with_reducible refine w_seq ?_
              | with_reducible refine w_nil ?_
              | with_reducible refine w_region ?_
              | ((with_reducible apply w_yes); exact rfl)
              | ((with_reducible apply w_retct (v := .agg #[_, _, _]) (u := .int _ _)); exact rfl; exact rfl; (first | assumption | (simp (disch := omega) only [upd_same, upd_ne]; first | done | assumption | exact rfl) | exact rfl); exact rfl; exact rfl))
            exact fr_zero _ _
          | true =>
            rw [if_pos ⟨hok, hlk⟩] at hR
            subst hR
            repeat' (first
              | ((with_reducible apply g_op); first
                | ((with_reducible apply g_load); first
                  | ((with_reducible apply w_load (v := .agg #[_, _, _])); exact rfl; (first | assumption | (simp (disch := omega) only [upd_same, upd_ne]; first | done | assumption | exact rfl) | exact rfl); exact rfl))
                | ((with_reducible apply g_assign); first
                  | ((with_reducible apply w_pure (v := .int _ _)); exact rfl; exact rfl))
                | ((with_reducible apply g_store); first
                  | ((with_reducible apply w_store (us := [_, _, _]) (ws := [_, _, _])); exact rfl; exact rfl; (first | assumption | (simp (disch := omega) only [upd_same, upd_ne]; first | done | assumption | exact rfl) | exact rfl); omega; exact rfl; exact rfl; exact rfl))
                | ((with_reducible apply w_pure (v := .bool _)); exact rfl; exact rfl))
              | ((with_reducible apply g_gd); first
                | ((with_reducible apply w_want); exact rfl))
              | with_reducible refine w_seq ?_
              | with_reducible refine w_nil ?_
              | with_reducible refine w_region ?_
              | with_reducible refine w_skip ?_
              | ((with_reducible apply w_no); exact rfl)
              | ((with_reducible apply w_retct (v := .agg #[_, _, _]) (u := .int _ _)); exact rfl; exact rfl; (first | assumption | (simp (disch := omega) only [upd_same, upd_ne]; first | done | assumption | exact rfl) | exact rfl); exact rfl; exact rfl))
            refine ⟨_, sn_tuple (l := [_, _]) (sn_cons (sn_agg (l := [_, _, _]) (sn_cons (sn_plain rfl) (sn_cons (sn_plain rfl) (sn_cons ?_ sn_nil)))) (sn_cons (sn_plain rfl) sn_nil)), rfl⟩
            first | exact hfr | exact (ho.later (Nat.le_refl _) (fun j h1 h2 => by simp (disch := omega) only [upd_ne])).fz (by omega) rfl (by decide) (fun _ => rfl) (sn_plains (Sg.plains _))
  · have hP : parseS s = (.zero, 16) := if_neg hN
    rw [hP]
    unfold manyN at hN
    repeat' (first
      | ((with_reducible apply g_op); first
        | ((with_reducible apply g_move); first
          | ((with_reducible apply w_pure (v := .int _ _)); exact rfl; exact rfl)
          | ((with_reducible apply w_pure (v := .bool _)); exact rfl; exact rfl))
        | ((with_reducible apply g_bin); first
          | ((with_reducible apply w_pure (v := .bool _)); exact rfl; exact rfl))
        | ((with_reducible apply g_pick); first
          | ((with_reducible apply w_pk1 (v := .bool _)); exact rfl; exact rfl; (first | assumption | exact decide_eq_true (by assumption) | exact decide_eq_false (by assumption) | exact decide_eq_true (by omega) | exact decide_eq_false (by omega) | exact beq_iff_eq.2 (by omega) | exact beq_eq_false_iff_ne.2 (by omega) | exact bne_iff_ne.2 (by omega) | exact bne_eq_false_iff_eq.2 (by omega)))
          | ((with_reducible apply w_pk0 (v := .bool _)); exact rfl; exact rfl; (first | assumption | exact decide_eq_true (by assumption) | exact decide_eq_false (by assumption) | exact decide_eq_true (by omega) | exact decide_eq_false (by omega) | exact beq_iff_eq.2 (by omega) | exact beq_eq_false_iff_ne.2 (by omega) | exact bne_iff_ne.2 (by omega) | exact bne_eq_false_iff_eq.2 (by omega))))
        | ((with_reducible apply g_assign); first
          | ((with_reducible apply w_pure (v := .int _ _)); exact rfl; exact rfl))
        | ((with_reducible apply g_store); first
          | ((with_reducible apply w_store (us := [_, _, _]) (ws := [_, _, _])); exact rfl; exact rfl; (first | assumption | (simp (disch := omega) only [upd_same, upd_ne]; first | done | assumption | exact rfl) | exact rfl); omega; exact rfl; exact rfl; exact rfl))
        | ((with_reducible apply g_build); first
          | ((with_reducible apply w_pure (v := .agg #[_, _, _])); exact rfl; exact rfl)))
      | ((with_reducible apply g_gd); first
        | ((with_reducible apply w_gd_f); exact rfl; all_goals (intro hc; first | (exfalso; omega) | skip)))
      | with_reducible refine w_seq ?_
      | with_reducible refine w_nil ?_
      | with_reducible refine w_region ?_
      | ((with_reducible apply w_yes); exact rfl)
      | ((with_reducible apply w_ifd); exact rfl; all_goals (intro hc; first | (exfalso; omega) | skip))
      | ((with_reducible apply w_retct (v := .agg #[_, _, _]) (u := .int _ _)); exact rfl; exact rfl; (first | assumption | (simp (disch := omega) only [upd_same, upd_ne]; first | done | assumption | exact rfl) | exact rfl); exact rfl; exact rfl))
    all_goals first | (exfalso; omega) | exact fr_zero _ _
end Go.Proofs.Ytohfbnpmhlpkhaa.L

