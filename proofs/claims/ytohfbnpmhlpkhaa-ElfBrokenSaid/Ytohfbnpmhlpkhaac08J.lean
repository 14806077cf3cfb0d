/- What an image's headers are, and that the reference writes them. -/
import Derived.Test.Ytohfbnpmhlpkhaac08H
import Derived.Test.Ytohfbnpmhlpkhaabld
namespace Go.Proofs.Ytohfbnpmhlpkhaa.L
open Go.L1 Go.IntWalk Oct
set_option linter.unusedVariables false
set_option linter.unusedSimpArgs false
set_option maxHeartbeats 4000000
set_option maxRecDepth 20000
def Sg.rg (s : Sg) : Prop := s.ty ≤ 9223372036854775807 ∧ s.fl ≤ 9223372036854775807 ∧ s.off ≤ 9223372036854775807 ∧ s.ad ≤ 9223372036854775807 ∧ s.sz ≤ 9223372036854775807 ∧ s.me ≤ 9223372036854775807 ∧ s.al ≤ 9223372036854775807
def Im.rg (x : Im) : Prop := x.k ≤ 9223372036854775807 ∧ x.e ≤ 9223372036854775807 ∧ ∀ s ∈ x.l, s.rg
def magicB : ByteArray := ⟨#[127, 69, 76, 70, 2, 1, 1, 0, 0, 0, 0, 0, 0, 0, 0, 0]⟩
def headB (k e n : Int) : ByteArray := magicB ++ putV k 2 ++ putV 62 2 ++ putV 1 4 ++ putV e 8 ++ putV 64 8 ++ fillV ⟨#[]⟩ 12 ++ putV 64 2 ++ putV 56 2 ++ putV n 2 ++ fillV ⟨#[]⟩ 6
def segB (s : Sg) : ByteArray := putV s.ty 4 ++ putV s.fl 4 ++ putV s.off 8 ++ putV s.ad 8 ++ putV s.ad 8 ++ putV s.sz 8 ++ putV s.me 8 ++ putV s.al 8
def addB (b : ByteArray) (l : List Sg) : ByteArray := l.foldl (fun b s => b ++ segB s) b
def headS (x : Im) : ByteArray := addB (headB x.k x.e x.l.length) x.l
theorem putV_size (n w : Int) : (putV n w).size = wid w := putB_size _ _
theorem fillV_size (z : Int) (h : 0 ≤ z) : (fillV ⟨#[]⟩ z).size = z.toNat := by
  unfold fillV
  have e0 : (⟨#[]⟩ : ByteArray).size = 0 := rfl
  rw [e0, show (max z 0).toNat = z.toNat by omega]
  split
  · rw [ByteArray.size_extract, e0]; omega
  · rw [ByteArray.size_append, e0, zeroB_size]; omega
theorem headB_size (k e n : Int) : (headB k e n).size = 64 := by
  unfold headB
  simp only [ByteArray.size_append, putV_size, fillV_size 12 (by decide), fillV_size 6 (by decide)]
  rfl
theorem segB_size (s : Sg) : (segB s).size = 56 := by
  unfold segB
  simp only [ByteArray.size_append, putV_size]
  rfl
theorem addB_size (l : List Sg) (b : ByteArray) : (addB b l).size = b.size + 56 * l.length := by
  induction l generalizing b with
  | nil => rfl
  | cons s r ih => rw [show addB b (s :: r) = addB (b ++ segB s) r from rfl, ih, ByteArray.size_append, segB_size, List.length_cons]; omega
theorem headS_size (x : Im) : (headS x).size = 64 + 56 * x.l.length := by unfold headS; rw [addB_size, headB_size]
theorem magic_eq : (⟨#[127, 69, 76, 70, 2, 1, 1]⟩ : ByteArray) ++ fillV ⟨#[]⟩ 9 = magicB := by decide
theorem putV_n (a w : Int) (k : Nat) (h : wid w = k) : (putV a w).size = k := by rw [putV_size, h]
theorem cat_n (b : ByteArray) (a w : Int) (k : Nat) (h : wid w = k) : (b ++ putV a w).size = b.size + k := by rw [ByteArray.size_append, putV_n a w k h]
theorem rhead_run (x : Im) (hx : x.rg) (hl : x.l.length ≤ 100) : Rf Try.prog T 12 [x.v tg] (fun v => v = .string (headS x)) := by
  refine c_froz Try.func12 rfl rfl rfl rfl rfl rfl ?_
  intro g n
  obtain ⟨k, e, l⟩ := x
  obtain ⟨hk, he, hr⟩ := hx
  dsimp only at hk he hr hl
  repeat' (first
    | ((with_reducible apply g_op); first
      | ((with_reducible apply g_assign); first
        | ((with_reducible apply w_pure (v := .string _)); exact rfl; exact rfl))
      | ((with_reducible apply g_box); first
        | ((with_reducible apply w_box (vs := [_, _, _])); exact rfl; exact rfl)))
    | with_reducible refine w_seq ?_
    | with_reducible refine w_nil ?_
    | with_reducible refine w_region ?_
    | ((with_reducible apply w_draw); kernel_rfl; kernel_rfl))
  refine w_rq (rfill_run ⟨#[]⟩ 9 (by decide) (by decide) _ _ _) (fun _ => rfl) ?_
  rintro _ rfl
  repeat' (first
    | ((with_reducible apply g_op); first
      | ((with_reducible apply g_load); first
        | ((with_reducible apply w_load (v := .int _ _)); exact rfl; (first | assumption | (simp (disch := omega) only [upd_same, upd_ne]; first | done | assumption | exact rfl) | exact rfl); exact rfl))
      | ((with_reducible apply g_bin); first
        | ((with_reducible apply w_pure (v := .string _)); exact rfl; exact rfl))
      | ((with_reducible apply g_fld); first
        | ((with_reducible apply w_fldp (o := 0)); exact rfl; exact rfl; exact rfl; exact (by decide)))))
  refine w_rq (erput_run k 2 (by first | decide | omega) _ _ _) (fun _ => rfl) ?_
  rintro _ rfl
  repeat' (first
    | ((with_reducible apply g_op); first
      | ((with_reducible apply g_bin); first
        | ((with_reducible apply w_pure (v := .string _)); exact rfl; exact rfl))))
  refine w_rq (erput_run 62 2 (by first | decide | omega) _ _ _) (fun _ => rfl) ?_
  rintro _ rfl
  repeat' (first
    | ((with_reducible apply g_op); first
      | ((with_reducible apply g_bin); first
        | ((with_reducible apply w_pure (v := .string _)); exact rfl; exact rfl))))
  refine w_rq (erput_run 1 4 (by first | decide | omega) _ _ _) (fun _ => rfl) ?_
  rintro _ rfl
  repeat' (first
    | ((with_reducible apply g_op); first
      | ((with_reducible apply g_load); first
        | ((with_reducible apply w_load (v := .int _ _)); exact rfl; (first | assumption | (simp (disch := omega) only [upd_same, upd_ne]; first | done | assumption | exact rfl) | exact rfl); exact rfl))
      | ((with_reducible apply g_bin); first
        | ((with_reducible apply w_pure (v := .string _)); exact rfl; exact rfl))
      | ((with_reducible apply g_fld); first
        | ((with_reducible apply w_fldp (o := 1)); exact rfl; exact rfl; exact rfl; exact (by decide)))))
  refine w_rq (erput_run e 8 (by first | decide | omega) _ _ _) (fun _ => rfl) ?_
  rintro _ rfl
  repeat' (first
    | ((with_reducible apply g_op); first
      | ((with_reducible apply g_bin); first
        | ((with_reducible apply w_pure (v := .string _)); exact rfl; exact rfl))))
  refine w_rq (erput_run 64 8 (by first | decide | omega) _ _ _) (fun _ => rfl) ?_
  rintro _ rfl
  repeat' (first
    | ((with_reducible apply g_op); first
      | ((with_reducible apply g_bin); first
        | ((with_reducible apply w_pure (v := .string _)); exact rfl; exact rfl))))
  refine w_rq (rfill_run ⟨#[]⟩ 12 (by decide) (by decide) _ _ _) (fun _ => rfl) ?_
  rintro _ rfl
  repeat' (first
    | ((with_reducible apply g_op); first
      | ((with_reducible apply g_bin); first
        | ((with_reducible apply w_pure (v := .string _)); exact rfl; exact rfl))))
  refine w_rq (erput_run 64 2 (by first | decide | omega) _ _ _) (fun _ => rfl) ?_
  rintro _ rfl
  repeat' (first
    | ((with_reducible apply g_op); first
      | ((with_reducible apply g_bin); first
        | ((with_reducible apply w_pure (v := .string _)); exact rfl; exact rfl))))
  refine w_rq (erput_run 56 2 (by first | decide | omega) _ _ _) (fun _ => rfl) ?_
  rintro _ rfl
  repeat' (first
    | ((with_reducible apply g_op); first
      | ((with_reducible apply g_load); first
        | ((with_reducible apply w_load (v := .func _ _ _)); exact rfl; (first | assumption | (simp (disch := omega) only [upd_same, upd_ne]; first | done | assumption | exact rfl) | exact rfl); exact rfl))
      | ((with_reducible apply g_bin); first
        | ((with_reducible apply w_pure (v := .string _)); exact rfl; exact rfl))
      | ((with_reducible apply g_fld); first
        | ((with_reducible apply w_fldp (o := 2)); exact rfl; exact rfl; exact rfl; exact (by decide)))
      | ((with_reducible apply g_call); first
        | ((with_reducible apply w_call (v := .int _ _)); exact rfl))))
  refine w_rq (erput_run (l.length:Int) 2 (by first | decide | omega) _ _ _) (fun _ => rfl) ?_
  rintro _ rfl
  repeat' (first
    | ((with_reducible apply g_op); first
      | ((with_reducible apply g_bin); first
        | ((with_reducible apply w_pure (v := .string _)); exact rfl; exact rfl))))
  refine w_rq (rfill_run ⟨#[]⟩ 6 (by decide) (by decide) _ _ _) (fun _ => rfl) ?_
  rintro _ rfl
  repeat' (first
    | ((with_reducible apply g_op); first
      | ((with_reducible apply g_bin); first
        | ((with_reducible apply w_pure (v := .string _)); exact rfl; exact rfl))
      | ((with_reducible apply g_assign); first
        | ((with_reducible apply w_pure (v := .int _ _)); exact rfl; exact rfl)
        | ((with_reducible apply w_pure (v := .string _)); exact rfl; exact rfl)))
    | with_reducible refine w_seq ?_
    | with_reducible refine w_nil ?_
    | with_reducible refine w_region ?_
    | with_reducible refine w_block ?_)
  refine w_rngK [(3, 5), (35, 79)] l (fun i rest (b : ByteArray) σ g' n' => σ 4 = .int .i64 (i : Nat) ∧ σ 3 = .string b ∧ g' n = some (.cells 24 [.int .i64 k, .int .i64 e, rv tg l]) ∧ n < n' ∧ b.size ≤ 64 + 56 * i ∧ addB b rest = headS ⟨k, e, l⟩) ?_ ?_ (headB k e l.length) ⟨rfl, congrArg Value.string (by unfold headB; rw [← magic_eq]), upd_same, by omega, by rw [headB_size]; omega, rfl⟩
  · rintro i x rest b σ g2 n2 hx hlt ⟨k4, k3, hg, hn, hb, hgo⟩ ih
    refine w_keep (i := 4) k4 (w_keep (i := 3) k3 ?_)
    obtain ⟨r0, r1, r2, r3, r4, r5, r6⟩ := hr x (List.mem_of_getElem? hx)
    have y0 := putV_n x.ty 4 4 rfl
    have z0 := cat_n (b) x.ty 4 4 rfl
    have y1 := putV_n x.fl 4 4 rfl
    have z1 := cat_n (b ++ putV x.ty 4) x.fl 4 4 rfl
    have y2 := putV_n x.off 8 8 rfl
    have z2 := cat_n (b ++ putV x.ty 4 ++ putV x.fl 4) x.off 8 8 rfl
    have y3 := putV_n x.ad 8 8 rfl
    have z3 := cat_n (b ++ putV x.ty 4 ++ putV x.fl 4 ++ putV x.off 8) x.ad 8 8 rfl
    have y4 := putV_n x.ad 8 8 rfl
    have z4 := cat_n (b ++ putV x.ty 4 ++ putV x.fl 4 ++ putV x.off 8 ++ putV x.ad 8) x.ad 8 8 rfl
    have y5 := putV_n x.sz 8 8 rfl
    have z5 := cat_n (b ++ putV x.ty 4 ++ putV x.fl 4 ++ putV x.off 8 ++ putV x.ad 8 ++ putV x.ad 8) x.sz 8 8 rfl
    have y6 := putV_n x.me 8 8 rfl
    have z6 := cat_n (b ++ putV x.ty 4 ++ putV x.fl 4 ++ putV x.off 8 ++ putV x.ad 8 ++ putV x.ad 8 ++ putV x.sz 8) x.me 8 8 rfl
    have y7 := putV_n x.al 8 8 rfl
    have z7 := cat_n (b ++ putV x.ty 4 ++ putV x.fl 4 ++ putV x.off 8 ++ putV x.ad 8 ++ putV x.ad 8 ++ putV x.sz 8 ++ putV x.me 8) x.al 8 8 rfl
    repeat' (first
      | ((with_reducible apply g_op); first
        | ((with_reducible apply g_load); first
          | ((with_reducible apply w_fl (v := .agg #[_, _, _, _, _, _, _])); exact rfl; exact (fun _ => rfl); assumption; exact rfl)
          | ((with_reducible apply w_load (v := .int _ _)); exact rfl; (first | assumption | (simp (disch := omega) only [upd_same, upd_ne]; first | done | assumption | exact rfl) | exact rfl); exact rfl)
          | ((with_reducible apply w_load (v := .func _ _ _)); exact rfl; (first | assumption | (simp (disch := omega) only [upd_same, upd_ne]; first | done | assumption | exact rfl) | exact rfl); exact rfl))
        | ((with_reducible apply g_move); first
          | ((with_reducible apply w_pure (v := .int _ _)); exact rfl; exact rfl)
          | ((with_reducible apply w_pure (v := .string _)); exact rfl; exact rfl))
        | ((with_reducible apply g_bin); first
          | ((with_reducible apply w_pure (v := .bool _)); exact rfl; exact rfl))
        | ((with_reducible apply g_fld); first
          | ((with_reducible apply w_fldp (o := 0)); exact rfl; exact rfl; exact rfl; exact (by decide))
          | ((with_reducible apply w_fldp (o := 2)); exact rfl; exact rfl; exact rfl; exact (by decide)))
        | ((with_reducible apply g_call); first
          | ((with_reducible apply w_call (v := .int _ _)); exact rfl))
        | ((with_reducible apply g_store); first
          | ((with_reducible apply w_store (us := [_, _, _, _, _, _, _]) (ws := [_, _, _, _, _, _, _])); exact rfl; exact rfl; (first | assumption | (simp (disch := omega) only [upd_same, upd_ne]; first | done | assumption | exact rfl) | exact rfl); omega; exact rfl; exact rfl; exact rfl))
        | ((with_reducible apply g_ix); first
          | ((with_reducible apply w_fx (sz := 7)); exact rfl; exact rfl; exact rfl; exact rfl; exact rfl; exact (fun _ => rfl); assumption; exact rfl))
        | ((with_reducible apply w_alloc (ls := [_, _, _, _, _, _, _])); exact rfl; exact rfl))
      | with_reducible refine w_seq ?_
      | with_reducible refine w_nil ?_
      | with_reducible refine w_region ?_
      | with_reducible refine w_skip ?_
      | with_reducible refine w_block ?_
      | ((with_reducible apply w_draw); kernel_rfl; kernel_rfl)
      | ((with_reducible apply w_ifd); exact rfl; all_goals (intro hc; first | (exfalso; omega) | skip)))
    refine w_rq (erput_run x.ty 4 (by first | decide | omega) _ _ _) (fun _ => rfl) ?_
    rintro _ rfl
    repeat' (first
      | ((with_reducible apply g_op); first
        | ((with_reducible apply g_load); first
          | ((with_reducible apply w_load (v := .int _ _)); exact rfl; (first | assumption | (simp (disch := omega) only [upd_same, upd_ne]; first | done | assumption | exact rfl) | exact rfl); exact rfl))
        | ((with_reducible apply g_bin); first
          | ((with_reducible apply w_cat); exact rfl; exact rfl; exact rfl; exact rfl; exact rfl; omega))
        | ((with_reducible apply g_fld); first
          | ((with_reducible apply w_fldp (o := 1)); exact rfl; exact rfl; exact rfl; exact (by decide)))))
    refine w_rq (erput_run x.fl 4 (by first | decide | omega) _ _ _) (fun _ => rfl) ?_
    rintro _ rfl
    repeat' (first
      | ((with_reducible apply g_op); first
        | ((with_reducible apply g_load); first
          | ((with_reducible apply w_load (v := .int _ _)); exact rfl; (first | assumption | (simp (disch := omega) only [upd_same, upd_ne]; first | done | assumption | exact rfl) | exact rfl); exact rfl))
        | ((with_reducible apply g_bin); first
          | ((with_reducible apply w_cat); exact rfl; exact rfl; exact rfl; exact rfl; exact rfl; omega))
        | ((with_reducible apply g_fld); first
          | ((with_reducible apply w_fldp (o := 2)); exact rfl; exact rfl; exact rfl; exact (by decide)))))
    refine w_rq (erput_run x.off 8 (by first | decide | omega) _ _ _) (fun _ => rfl) ?_
    rintro _ rfl
    repeat' (first
      | ((with_reducible apply g_op); first
        | ((with_reducible apply g_load); first
          | ((with_reducible apply w_load (v := .int _ _)); exact rfl; (first | assumption | (simp (disch := omega) only [upd_same, upd_ne]; first | done | assumption | exact rfl) | exact rfl); exact rfl))
        | ((with_reducible apply g_bin); first
          | ((with_reducible apply w_cat); exact rfl; exact rfl; exact rfl; exact rfl; exact rfl; omega))
        | ((with_reducible apply g_fld); first
          | ((with_reducible apply w_fldp (o := 3)); exact rfl; exact rfl; exact rfl; exact (by decide)))))
    refine w_rq (erput_run x.ad 8 (by first | decide | omega) _ _ _) (fun _ => rfl) ?_
    rintro _ rfl
    repeat' (first
      | ((with_reducible apply g_op); first
        | ((with_reducible apply g_load); first
          | ((with_reducible apply w_load (v := .int _ _)); exact rfl; (first | assumption | (simp (disch := omega) only [upd_same, upd_ne]; first | done | assumption | exact rfl) | exact rfl); exact rfl))
        | ((with_reducible apply g_bin); first
          | ((with_reducible apply w_cat); exact rfl; exact rfl; exact rfl; exact rfl; exact rfl; omega))
        | ((with_reducible apply g_fld); first
          | ((with_reducible apply w_fldp (o := 3)); exact rfl; exact rfl; exact rfl; exact (by decide)))))
    refine w_rq (erput_run x.ad 8 (by first | decide | omega) _ _ _) (fun _ => rfl) ?_
    rintro _ rfl
    repeat' (first
      | ((with_reducible apply g_op); first
        | ((with_reducible apply g_load); first
          | ((with_reducible apply w_load (v := .int _ _)); exact rfl; (first | assumption | (simp (disch := omega) only [upd_same, upd_ne]; first | done | assumption | exact rfl) | exact rfl); exact rfl))
        | ((with_reducible apply g_bin); first
          | ((with_reducible apply w_cat); exact rfl; exact rfl; exact rfl; exact rfl; exact rfl; omega))
        | ((with_reducible apply g_fld); first
          | ((with_reducible apply w_fldp (o := 4)); exact rfl; exact rfl; exact rfl; exact (by decide)))))
    refine w_rq (erput_run x.sz 8 (by first | decide | omega) _ _ _) (fun _ => rfl) ?_
    rintro _ rfl
    repeat' (first
      | ((with_reducible apply g_op); first
        | ((with_reducible apply g_load); first
          | ((with_reducible apply w_load (v := .int _ _)); exact rfl; (first | assumption | (simp (disch := omega) only [upd_same, upd_ne]; first | done | assumption | exact rfl) | exact rfl); exact rfl))
        | ((with_reducible apply g_bin); first
          | ((with_reducible apply w_cat); exact rfl; exact rfl; exact rfl; exact rfl; exact rfl; omega))
        | ((with_reducible apply g_fld); first
          | ((with_reducible apply w_fldp (o := 5)); exact rfl; exact rfl; exact rfl; exact (by decide)))))
    refine w_rq (erput_run x.me 8 (by first | decide | omega) _ _ _) (fun _ => rfl) ?_
    rintro _ rfl
    repeat' (first
      | ((with_reducible apply g_op); first
        | ((with_reducible apply g_load); first
          | ((with_reducible apply w_load (v := .int _ _)); exact rfl; (first | assumption | (simp (disch := omega) only [upd_same, upd_ne]; first | done | assumption | exact rfl) | exact rfl); exact rfl))
        | ((with_reducible apply g_bin); first
          | ((with_reducible apply w_cat); exact rfl; exact rfl; exact rfl; exact rfl; exact rfl; omega))
        | ((with_reducible apply g_fld); first
          | ((with_reducible apply w_fldp (o := 6)); exact rfl; exact rfl; exact rfl; exact (by decide)))))
    refine w_rq (erput_run x.al 8 (by first | decide | omega) _ _ _) (fun _ => rfl) ?_
    rintro _ rfl
    repeat' (first
      | ((with_reducible apply g_op); first
        | ((with_reducible apply g_move); first
          | ((with_reducible apply w_pure (v := .int _ _)); exact rfl; exact rfl))
        | ((with_reducible apply g_bin); first
          | ((with_reducible apply w_wrap); exact rfl; exact rfl; first | exact i64_in _ (by omega) | exact u64_in _ (by omega) | exact u8_in _ (by omega))
          | ((with_reducible apply w_cat); exact rfl; exact rfl; exact rfl; exact rfl; exact rfl; omega))
        | ((with_reducible apply g_assign); first
          | ((with_reducible apply w_pure (v := .int _ _)); exact rfl; exact rfl)
          | ((with_reducible apply w_pure (v := .string _)); exact rfl; exact rfl)))
      | with_reducible refine w_nil ?_
      | with_reducible refine w_region ?_
      | with_reducible refine w_blk ?_)
    refine ih (b ++ segB x) _ _ _ (by repeat' (first | with_reducible exact Fr.mix | with_reducible exact Fr.rfl' | with_reducible refine Fr.put ?_ ?_ | with_reducible refine Fr.mix2 ?_ ?_ | with_reducible refine Fr.put0 ?_ | exact rfl)) ⟨by push_cast; rfl, congrArg Value.string (by unfold segB; simp only [ByteArray.append_assoc]), by simp (disch := omega) only [upd_ne]; exact hg, by omega, by rw [ByteArray.size_append, segB_size]; omega, hgo⟩
  · rintro b σ g2 n2 ⟨k4, k3, hg, hn, hb, hgo⟩
    refine w_keep (i := 4) k4 (w_keep (i := 3) k3 ?_)
    repeat' (first
      | ((with_reducible apply g_op); first
        | ((with_reducible apply g_load); first
          | ((with_reducible apply w_load (v := .func _ _ _)); exact rfl; (first | assumption | (simp (disch := omega) only [upd_same, upd_ne]; first | done | assumption | exact rfl) | exact rfl); exact rfl))
        | ((with_reducible apply g_move); first
          | ((with_reducible apply w_pure (v := .int _ _)); exact rfl; exact rfl)
          | ((with_reducible apply w_pure (v := .string _)); exact rfl; exact rfl))
        | ((with_reducible apply g_bin); first
          | ((with_reducible apply w_pure (v := .bool _)); exact rfl; exact rfl))
        | ((with_reducible apply g_fld); first
          | ((with_reducible apply w_fldp (o := 2)); exact rfl; exact rfl; exact rfl; exact (by decide)))
        | ((with_reducible apply g_assign); first
          | ((with_reducible apply w_pure (v := .string _)); exact rfl; exact rfl))
        | ((with_reducible apply g_call); first
          | ((with_reducible apply w_call (v := .int _ _)); exact rfl)))
      | with_reducible refine w_seq ?_
      | with_reducible refine w_nil ?_
      | with_reducible refine w_region ?_
      | ((with_reducible apply w_exit); exact rfl)
      | ((with_reducible apply w_ifd); exact rfl; all_goals (intro hc; first | (exfalso; omega) | skip))
      | ((with_reducible apply w_ret (v := .string _)); exact rfl))
    exact fr_plain rfl (congrArg Value.string hgo)
end Go.Proofs.Ytohfbnpmhlpkhaa.L

