/- The program writes an image's headers. -/
import Derived.Test.Ytohfbnpmhlpkhaac08J
namespace Go.Proofs.Ytohfbnpmhlpkhaa.L
open Go.L1 Go.IntWalk Oct
set_option linter.unusedVariables false
set_option linter.unusedSimpArgs false
set_option maxHeartbeats 4000000
set_option maxRecDepth 20000
open Bl
/-- A builder, and something beside it. -/
def Bx (g : Nat → Option Ob) (c n m : Nat) (b : ByteArray) (q : Nat) (ob : Ob) : Prop := ∃ o, BS g c n m o b ∧ o ≠ some q ∧ q ≠ c ∧ q < n ∧ g q = some ob
def By (g : Nat → Option Ob) (c n m : Nat) (b : ByteArray) : Prop := ∃ o, BS g c n m o b
theorem Bx.write {s b : ByteArray} {g : Nat → Option Ob} {c n m q : Nat} {ob : Ob} (h : Bx g c n m b q ob) (hl : b.size + s.size ≤ 140737488355328) : Rn Try.prog T 30 [ptr c 0, .string s] g n m (fun v g' n' => v = .tuple #[.int .i64 s.size, .nilIface] ∧ Bx g' c n' m (b ++ s) q ob ∧ n ≤ n') := by
  obtain ⟨o, h1, h2, h3, h4, h5⟩ := h
  refine (write_run s b o g c n m h1 hl).mono ?_
  rintro v g' n' ⟨o', q1, q2, q3, q4, q5⟩
  refine ⟨q1, ⟨o', q2, ?_, h3, by omega, ?_⟩, q4⟩
  · rcases q3 with rfl | ⟨k, rfl, hk⟩
    · exact h2
    · intro e; cases e; omega
  · rw [q5 q h4 h3 (fun e => h2 e.symm)]; exact h5
theorem Bx.forget {b : ByteArray} {g : Nat → Option Ob} {c n m q : Nat} {ob : Ob} (h : Bx g c n m b q ob) : By g c n m b := ⟨_, h.choose_spec.1⟩
theorem By.lt {b : ByteArray} {g : Nat → Option Ob} {c n m : Nat} (h : By g c n m b) : c < n := by obtain ⟨o, h1⟩ := h; exact h1.1
theorem By.beside {b : ByteArray} {g g' : Nat → Option Ob} {c n m : Nat} {ob : Ob} (h : By g c n m b) (hg : ∀ j, j < n → g' j = g j) (h1 : g' n = some ob) : Bx g' c (n + 1) m b n ob := by
  obtain ⟨o, h2⟩ := h
  refine ⟨o, h2.later (by omega) hg, ?_, by have := h2.1; omega, by omega, h1⟩
  intro e
  subst e
  have := h2.2.2.2.2.2.1
  omega
theorem head_run (x : Im) (hx : x.rg) (hl : x.l.length ≤ 100) : Rf Try.prog T 19 [x.v tg] (fun v => v = .string (headS x)) := by
  refine c_froz Try.func19 rfl rfl rfl rfl rfl rfl ?_
  intro g n
  obtain ⟨k, e, l⟩ := x
  obtain ⟨hk, he, hr⟩ := hx
  dsimp only at hk he hr hl
  repeat' (first
    | ((with_reducible apply g_op); first
      | ((with_reducible apply g_load); first
        | ((with_reducible apply w_load (v := .int _ _)); exact rfl; (first | assumption | (simp (disch := omega) only [upd_same, upd_ne]; first | done | assumption | exact rfl) | exact rfl); exact rfl))
      | ((with_reducible apply g_fld); first
        | ((with_reducible apply w_fldp (o := 0)); exact rfl; exact rfl; exact rfl; exact (by decide)))
      | ((with_reducible apply g_assign); first
        | ((with_reducible apply w_pure (v := .string _)); exact rfl; exact rfl))
      | ((with_reducible apply g_box); first
        | ((with_reducible apply w_box (vs := [_, _, _])); exact rfl; exact rfl))
      | ((with_reducible apply w_alloc (ls := [_, _])); exact rfl; exact rfl))
    | with_reducible refine w_seq ?_
    | with_reducible refine w_nil ?_
    | with_reducible refine w_region ?_
    | ((with_reducible apply w_draw); kernel_rfl; kernel_rfl))
  refine w_rq (eput_run k 2 (by first | decide | omega) _ _ _) (fun _ => rfl) ?_
  rintro _ rfl
  repeat' (first
    | ((with_reducible apply g_op); first
      | ((with_reducible apply g_bin); first
        | ((with_reducible apply w_pure (v := .string _)); exact rfl; exact rfl))))
  refine w_rq (eput_run 62 2 (by first | decide | omega) _ _ _) (fun _ => rfl) ?_
  rintro _ rfl
  repeat' (first
    | ((with_reducible apply g_op); first
      | ((with_reducible apply g_bin); first
        | ((with_reducible apply w_pure (v := .string _)); exact rfl; exact rfl))))
  refine w_rq (eput_run 1 4 (by first | decide | omega) _ _ _) (fun _ => rfl) ?_
  rintro _ rfl
  repeat' (first
    | ((with_reducible apply g_op); first
      | ((with_reducible apply g_load); first
        | ((with_reducible apply w_load (v := .int _ _)); exact rfl; (first | assumption | (simp (disch := omega) only [upd_same, upd_ne]; first | done | assumption | exact rfl) | exact rfl); exact rfl))
      | ((with_reducible apply g_bin); first
        | ((with_reducible apply w_pure (v := .string _)); exact rfl; exact rfl))
      | ((with_reducible apply g_fld); first
        | ((with_reducible apply w_fldp (o := 1)); exact rfl; exact rfl; exact rfl; exact (by decide)))))
  refine w_rq (eput_run e 8 (by first | decide | omega) _ _ _) (fun _ => rfl) ?_
  rintro _ rfl
  repeat' (first
    | ((with_reducible apply g_op); first
      | ((with_reducible apply g_bin); first
        | ((with_reducible apply w_pure (v := .string _)); exact rfl; exact rfl))))
  refine w_rq (eput_run 64 8 (by first | decide | omega) _ _ _) (fun _ => rfl) ?_
  rintro _ rfl
  repeat' (first
    | ((with_reducible apply g_op); first
      | ((with_reducible apply g_bin); first
        | ((with_reducible apply w_pure (v := .string _)); exact rfl; exact rfl))))
  refine w_rq (fill_run ⟨#[]⟩ 12 (by decide) (by decide) _ _ _) (fun _ => rfl) ?_
  rintro _ rfl
  repeat' (first
    | ((with_reducible apply g_op); first
      | ((with_reducible apply g_bin); first
        | ((with_reducible apply w_pure (v := .string _)); exact rfl; exact rfl))))
  have hb0 : Bx (upd (upd g n (some (Ob.cells 24 [Value.int IntKind.i64 k, Value.int IntKind.i64 e, rv tg l]))) (n + 1) (some (Ob.cells 62 [Value.pointer none, Value.slice none 0 0]))) (n + 1) (n + 1 + 1) n ⟨#[]⟩ n (Ob.cells 24 [Value.int IntKind.i64 k, Value.int IntKind.i64 e, rv tg l]) := ⟨none, BS.new (by omega), by simp, by omega, by omega, by simp (disch := omega) only [upd_ne, upd_same]⟩
  refine w_rn (hb0.write (s := magicB ++ putV k 2 ++ putV 62 2 ++ putV 1 4 ++ putV e 8 ++ putV 64 8 ++ fillV ⟨#[]⟩ 12) (by simp only [ByteArray.size_append, putV_size, fillV_size 12 (by decide)]; decide)) (fun _ => rfl) ?_
  rintro _ g1 n1 ⟨rfl, hb1, hn1⟩
  have hg1 := hb1.choose_spec.2.2.2.2
  repeat' (first
    | with_reducible refine w_seq ?_
    | with_reducible refine w_nil ?_
    | ((with_reducible apply w_draw); kernel_rfl; kernel_rfl))
  refine w_rq (eput_run 64 2 (by first | decide | omega) _ _ _) (fun _ => rfl) ?_
  rintro _ rfl
  repeat' (first
    | fail)
  refine w_rq (eput_run 56 2 (by first | decide | omega) _ _ _) (fun _ => rfl) ?_
  rintro _ rfl
  repeat' (first
    | ((with_reducible apply g_op); first
      | ((with_reducible apply g_load); first
        | ((with_reducible apply w_load (v := .func _ _ _)); exact rfl; (first | assumption | (simp (disch := omega) only [upd_same, upd_ne]; first | done | assumption | exact rfl) | exact rfl); exact rfl))
      | ((with_reducible apply g_bin); first
        | ((with_reducible apply w_pure (v := .string _)); exact rfl; exact rfl))
      | ((with_reducible apply g_fld); first
        | ((with_reducible apply w_fldp (o := 2)); exact rfl; exact rfl; exact rfl; exact (by decide)))
      | ((with_reducible apply g_call); first
        | ((with_reducible apply w_call (v := .int _ _)); exact rfl))))
  refine w_rq (eput_run (l.length:Int) 2 (by first | decide | omega) _ _ _) (fun _ => rfl) ?_
  rintro _ rfl
  repeat' (first
    | ((with_reducible apply g_op); first
      | ((with_reducible apply g_bin); first
        | ((with_reducible apply w_pure (v := .string _)); exact rfl; exact rfl))))
  refine w_rn (hb1.write (s := putV 64 2 ++ putV 56 2 ++ putV l.length 2) (by simp only [ByteArray.size_append, putV_size, fillV_size 12 (by decide)]; decide)) (fun _ => rfl) ?_
  rintro _ g2 n2 ⟨rfl, hb2, hn2⟩
  repeat' (first
    | with_reducible refine w_seq ?_
    | with_reducible refine w_nil ?_
    | with_reducible refine w_region ?_)
  refine w_rq (fill_run ⟨#[]⟩ 6 (by decide) (by decide) _ _ _) (fun _ => rfl) ?_
  rintro _ rfl
  repeat' (first
    | fail)
  refine w_rn (hb2.write (s := fillV ⟨#[]⟩ 6) (by simp only [ByteArray.size_append, putV_size, fillV_size 12 (by decide), fillV_size 6 (by decide)]; decide)) (fun _ => rfl) ?_
  rintro _ g3 n3 ⟨rfl, hb3, hn3⟩
  have hg3 := hb3.choose_spec.2.2.2.2
  rw [show (⟨#[]⟩ : ByteArray) ++ (magicB ++ putV k 2 ++ putV 62 2 ++ putV 1 4 ++ putV e 8 ++ putV 64 8 ++ fillV ⟨#[]⟩ 12) ++ (putV 64 2 ++ putV 56 2 ++ putV l.length 2) ++ fillV ⟨#[]⟩ 6 = headB k e l.length by rw [empty_app]; unfold headB; simp only [ByteArray.append_assoc]] at hb3
  repeat' (first
    | ((with_reducible apply g_op); first
      | ((with_reducible apply g_load); first
        | ((with_reducible apply w_load (v := .func _ _ _)); exact rfl; (first | assumption | (simp (disch := omega) only [upd_same, upd_ne]; first | done | assumption | exact rfl) | exact rfl); exact rfl))
      | ((with_reducible apply g_move); first
        | ((with_reducible apply w_pure (v := .int _ _)); exact rfl; exact rfl))
      | ((with_reducible apply g_fld); first
        | ((with_reducible apply w_fldp (o := 2)); exact rfl; exact rfl; exact rfl; exact (by decide)))
      | ((with_reducible apply g_call); first
        | ((with_reducible apply w_call (v := .int _ _)); exact rfl)))
    | with_reducible refine w_seq ?_
    | with_reducible refine w_nil ?_
    | with_reducible refine w_region ?_
    | with_reducible refine w_block ?_)
  refine w_rngK [(5, 5), (7, 7), (39, 71)] l (fun i rest (b : ByteArray) σ g' n' => σ 39 = .int .i64 (i : Nat) ∧ By g' (n + 1) n' n b ∧ b.size ≤ 64 + 56 * i ∧ addB b rest = headS ⟨k, e, l⟩) ?_ ?_ (headB k e l.length) ⟨rfl, hb3.forget, by rw [headB_size]; omega, rfl⟩
  · rintro i x rest b σ g4 n4 hx hlt ⟨k39, hb4, hbz, hgo⟩ ih
    refine w_keep (i := 39) k39 ?_
    obtain ⟨r0, r1, r2, r3, r4, r5, r6⟩ := hr x (List.mem_of_getElem? hx)
    have hlt4 := hb4.lt
    repeat' (first
      | ((with_reducible apply g_op); first
        | ((with_reducible apply g_load); first
          | ((with_reducible apply w_fl (v := .agg #[_, _, _, _, _, _, _])); exact rfl; exact (fun _ => rfl); assumption; exact rfl)
          | ((with_reducible apply w_load (v := .int _ _)); exact rfl; (first | assumption | (simp (disch := omega) only [upd_same, upd_ne]; first | done | assumption | exact rfl) | exact rfl); exact rfl))
        | ((with_reducible apply g_bin); first
          | ((with_reducible apply w_pure (v := .bool _)); exact rfl; exact rfl))
        | ((with_reducible apply g_fld); first
          | ((with_reducible apply w_fldp (o := 0)); exact rfl; exact rfl; exact rfl; exact (by decide)))
        | ((with_reducible apply g_store); first
          | ((with_reducible apply w_store (us := [_, _, _, _, _, _, _]) (ws := [_, _, _, _, _, _, _])); exact rfl; exact rfl; (first | assumption | (simp (disch := omega) only [upd_same, upd_ne]; first | done | assumption | exact rfl) | exact rfl); omega; exact rfl; exact rfl; exact rfl))
        | ((with_reducible apply g_ix); first
          | ((with_reducible apply w_fx (sz := 7)); exact rfl; exact rfl; exact rfl; exact rfl; exact rfl; exact (fun _ => rfl); assumption; exact rfl))
        | ((with_reducible apply w_alloc (ls := [_, _, _, _, _, _, _])); exact rfl; exact rfl))
      | with_reducible refine w_seq ?_
      | with_reducible refine w_nil ?_
      | with_reducible refine w_region ?_
      | with_reducible refine w_skip ?_
      | with_reducible refine w_block ?_
      | ((with_reducible apply w_draw); kernel_rfl; kernel_rfl)
      | ((with_reducible apply w_ifd); exact rfl; all_goals (intro hc; first | (exfalso; omega) | skip)))
    refine w_rq (eput_run x.ty 4 r0 _ _ _) (fun _ => rfl) ?_
    rintro _ rfl
    repeat' (first
      | ((with_reducible apply g_op); first
        | ((with_reducible apply g_load); first
          | ((with_reducible apply w_load (v := .int _ _)); exact rfl; (first | assumption | (simp (disch := omega) only [upd_same, upd_ne]; first | done | assumption | exact rfl) | exact rfl); exact rfl))
        | ((with_reducible apply g_fld); first
          | ((with_reducible apply w_fldp (o := 1)); exact rfl; exact rfl; exact rfl; exact (by decide)))))
    refine w_rq (eput_run x.fl 4 r1 _ _ _) (fun _ => rfl) ?_
    rintro _ rfl
    have y0 := putV_n x.ty 4 4 rfl
    have y1 := putV_n x.fl 4 4 rfl
    repeat' (first
      | ((with_reducible apply g_op); first
        | ((with_reducible apply g_bin); first
          | ((with_reducible apply w_cat); exact rfl; exact rfl; exact rfl; exact rfl; exact rfl; omega))))
    have hc4 := hb4.beside (g' := upd (upd g4 n4 (some (Ob.cells 43 [Value.int IntKind.i64 0, Value.int IntKind.i64 0, Value.int IntKind.i64 0, Value.int IntKind.i64 0, Value.int IntKind.i64 0, Value.int IntKind.i64 0, Value.int IntKind.i64 0]))) n4 (some (Ob.cells 43 [Value.int IntKind.i64 x.ty, Value.int IntKind.i64 x.fl, Value.int IntKind.i64 x.off, Value.int IntKind.i64 x.ad, Value.int IntKind.i64 x.sz, Value.int IntKind.i64 x.me, Value.int IntKind.i64 x.al]))) (fun j hj => by simp (disch := omega) only [upd_ne]) upd_same
    refine w_rn (hc4.write (s := putV x.ty 4 ++ putV x.fl 4) (by rw [ByteArray.size_append]; omega)) (fun _ => rfl) ?_
    rintro _ g5 n5 ⟨rfl, hc5, hn5⟩
    have hq5 := hc5.choose_spec.2.2.2.2
    have w5 : (b ++ (putV x.ty 4 ++ putV x.fl 4)).size = b.size + 8 := by rw [ByteArray.size_append, ByteArray.size_append]; omega
    repeat' (first
      | ((with_reducible apply g_op); first
        | ((with_reducible apply g_load); first
          | ((with_reducible apply w_load (v := .int _ _)); exact rfl; (first | assumption | (simp (disch := omega) only [upd_same, upd_ne]; first | done | assumption | exact rfl) | exact rfl); exact rfl))
        | ((with_reducible apply g_move); first
          | ((with_reducible apply w_pure (v := .int _ _)); exact rfl; exact rfl))
        | ((with_reducible apply g_fld); first
          | ((with_reducible apply w_fldp (o := 2)); exact rfl; exact rfl; exact rfl; exact (by decide))
          | ((with_reducible apply w_fldp (o := 3)); exact rfl; exact rfl; exact rfl; exact (by decide))
          | ((with_reducible apply w_fldp (o := 4)); exact rfl; exact rfl; exact rfl; exact (by decide))
          | ((with_reducible apply w_fldp (o := 5)); exact rfl; exact rfl; exact rfl; exact (by decide))
          | ((with_reducible apply w_fldp (o := 6)); exact rfl; exact rfl; exact rfl; exact (by decide)))
        | ((with_reducible apply g_build); first
          | ((with_reducible apply w_pure (v := .agg #[.int _ _, .int _ _, .int _ _, .int _ _, .int _ _, .int _ _])); exact rfl; exact rfl)))
      | with_reducible refine w_seq ?_
      | with_reducible refine w_nil ?_
      | with_reducible refine w_region ?_
      | with_reducible refine w_block ?_)
    refine w_unroll ?_
    repeat' (first
      | ((with_reducible apply g_op); first
        | ((with_reducible apply g_move); first
          | ((with_reducible apply w_pure (v := .int _ _)); exact rfl; exact rfl))
        | ((with_reducible apply g_bin); first
          | ((with_reducible apply w_pure (v := .bool _)); exact rfl; exact rfl))
        | ((with_reducible apply g_assign); first
          | ((with_reducible apply w_pure (v := .int _ _)); exact rfl; exact rfl))
        | ((with_reducible apply w_pure (v := .int _ _)); exact rfl; exact rfl))
      | with_reducible refine w_seq ?_
      | with_reducible refine w_nil ?_
      | with_reducible refine w_region ?_
      | with_reducible refine w_skip ?_
      | with_reducible refine w_block ?_
      | ((with_reducible apply w_yes); exact rfl))
    refine w_rq (eput_run x.off 8 (by assumption) _ _ _) (fun _ => rfl) ?_
    rintro _ rfl
    have y2 := putV_n x.off 8 8 rfl
    repeat' (first
      | fail)
    refine w_rn (hc5.write (s := putV x.off 8) (by omega)) (fun _ => rfl) ?_
    rintro _ g6 n6 ⟨rfl, hc6, hn6⟩
    have w6 := cat_n ((b ++ (putV x.ty 4 ++ putV x.fl 4))) x.off 8 8 rfl
    repeat' (first
      | ((with_reducible apply g_op); first
        | ((with_reducible apply g_move); first
          | ((with_reducible apply w_pure (v := .int _ _)); exact rfl; exact rfl))
        | ((with_reducible apply g_bin); first
          | ((with_reducible apply w_wrap); exact rfl; exact rfl; first | exact i64_in _ (by omega) | exact u64_in _ (by omega) | exact u8_in _ (by omega))))
      | with_reducible refine w_nil ?_
      | with_reducible refine w_region ?_
      | with_reducible refine w_blk ?_)
    refine w_unroll ?_
    repeat' (first
      | ((with_reducible apply g_op); first
        | ((with_reducible apply g_move); first
          | ((with_reducible apply w_pure (v := .int _ _)); exact rfl; exact rfl))
        | ((with_reducible apply g_bin); first
          | ((with_reducible apply w_pure (v := .bool _)); exact rfl; exact rfl))
        | ((with_reducible apply g_assign); first
          | ((with_reducible apply w_pure (v := .int _ _)); exact rfl; exact rfl))
        | ((with_reducible apply w_pure (v := .int _ _)); exact rfl; exact rfl))
      | with_reducible refine w_seq ?_
      | with_reducible refine w_nil ?_
      | with_reducible refine w_region ?_
      | with_reducible refine w_skip ?_
      | with_reducible refine w_block ?_
      | ((with_reducible apply w_yes); exact rfl))
    refine w_rq (eput_run x.ad 8 (by assumption) _ _ _) (fun _ => rfl) ?_
    rintro _ rfl
    have y3 := putV_n x.ad 8 8 rfl
    repeat' (first
      | fail)
    refine w_rn (hc6.write (s := putV x.ad 8) (by omega)) (fun _ => rfl) ?_
    rintro _ g7 n7 ⟨rfl, hc7, hn7⟩
    have w7 := cat_n ((b ++ (putV x.ty 4 ++ putV x.fl 4)) ++ putV x.off 8) x.ad 8 8 rfl
    repeat' (first
      | ((with_reducible apply g_op); first
        | ((with_reducible apply g_move); first
          | ((with_reducible apply w_pure (v := .int _ _)); exact rfl; exact rfl))
        | ((with_reducible apply g_bin); first
          | ((with_reducible apply w_wrap); exact rfl; exact rfl; first | exact i64_in _ (by omega) | exact u64_in _ (by omega) | exact u8_in _ (by omega))))
      | with_reducible refine w_nil ?_
      | with_reducible refine w_region ?_
      | with_reducible refine w_blk ?_)
    refine w_unroll ?_
    repeat' (first
      | ((with_reducible apply g_op); first
        | ((with_reducible apply g_move); first
          | ((with_reducible apply w_pure (v := .int _ _)); exact rfl; exact rfl))
        | ((with_reducible apply g_bin); first
          | ((with_reducible apply w_pure (v := .bool _)); exact rfl; exact rfl))
        | ((with_reducible apply g_assign); first
          | ((with_reducible apply w_pure (v := .int _ _)); exact rfl; exact rfl))
        | ((with_reducible apply w_pure (v := .int _ _)); exact rfl; exact rfl))
      | with_reducible refine w_seq ?_
      | with_reducible refine w_nil ?_
      | with_reducible refine w_region ?_
      | with_reducible refine w_skip ?_
      | with_reducible refine w_block ?_
      | ((with_reducible apply w_yes); exact rfl))
    refine w_rq (eput_run x.ad 8 (by assumption) _ _ _) (fun _ => rfl) ?_
    rintro _ rfl
    have y4 := putV_n x.ad 8 8 rfl
    repeat' (first
      | fail)
    refine w_rn (hc7.write (s := putV x.ad 8) (by omega)) (fun _ => rfl) ?_
    rintro _ g8 n8 ⟨rfl, hc8, hn8⟩
    have w8 := cat_n ((b ++ (putV x.ty 4 ++ putV x.fl 4)) ++ putV x.off 8 ++ putV x.ad 8) x.ad 8 8 rfl
    repeat' (first
      | ((with_reducible apply g_op); first
        | ((with_reducible apply g_move); first
          | ((with_reducible apply w_pure (v := .int _ _)); exact rfl; exact rfl))
        | ((with_reducible apply g_bin); first
          | ((with_reducible apply w_wrap); exact rfl; exact rfl; first | exact i64_in _ (by omega) | exact u64_in _ (by omega) | exact u8_in _ (by omega))))
      | with_reducible refine w_nil ?_
      | with_reducible refine w_region ?_
      | with_reducible refine w_blk ?_)
    refine w_unroll ?_
    repeat' (first
      | ((with_reducible apply g_op); first
        | ((with_reducible apply g_move); first
          | ((with_reducible apply w_pure (v := .int _ _)); exact rfl; exact rfl))
        | ((with_reducible apply g_bin); first
          | ((with_reducible apply w_pure (v := .bool _)); exact rfl; exact rfl))
        | ((with_reducible apply g_assign); first
          | ((with_reducible apply w_pure (v := .int _ _)); exact rfl; exact rfl))
        | ((with_reducible apply w_pure (v := .int _ _)); exact rfl; exact rfl))
      | with_reducible refine w_seq ?_
      | with_reducible refine w_nil ?_
      | with_reducible refine w_region ?_
      | with_reducible refine w_skip ?_
      | with_reducible refine w_block ?_
      | ((with_reducible apply w_yes); exact rfl))
    refine w_rq (eput_run x.sz 8 (by assumption) _ _ _) (fun _ => rfl) ?_
    rintro _ rfl
    have y5 := putV_n x.sz 8 8 rfl
    repeat' (first
      | fail)
    refine w_rn (hc8.write (s := putV x.sz 8) (by omega)) (fun _ => rfl) ?_
    rintro _ g9 n9 ⟨rfl, hc9, hn9⟩
    have w9 := cat_n ((b ++ (putV x.ty 4 ++ putV x.fl 4)) ++ putV x.off 8 ++ putV x.ad 8 ++ putV x.ad 8) x.sz 8 8 rfl
    repeat' (first
      | ((with_reducible apply g_op); first
        | ((with_reducible apply g_move); first
          | ((with_reducible apply w_pure (v := .int _ _)); exact rfl; exact rfl))
        | ((with_reducible apply g_bin); first
          | ((with_reducible apply w_wrap); exact rfl; exact rfl; first | exact i64_in _ (by omega) | exact u64_in _ (by omega) | exact u8_in _ (by omega))))
      | with_reducible refine w_nil ?_
      | with_reducible refine w_region ?_
      | with_reducible refine w_blk ?_)
    refine w_unroll ?_
    repeat' (first
      | ((with_reducible apply g_op); first
        | ((with_reducible apply g_move); first
          | ((with_reducible apply w_pure (v := .int _ _)); exact rfl; exact rfl))
        | ((with_reducible apply g_bin); first
          | ((with_reducible apply w_pure (v := .bool _)); exact rfl; exact rfl))
        | ((with_reducible apply g_assign); first
          | ((with_reducible apply w_pure (v := .int _ _)); exact rfl; exact rfl))
        | ((with_reducible apply w_pure (v := .int _ _)); exact rfl; exact rfl))
      | with_reducible refine w_seq ?_
      | with_reducible refine w_nil ?_
      | with_reducible refine w_region ?_
      | with_reducible refine w_skip ?_
      | with_reducible refine w_block ?_
      | ((with_reducible apply w_yes); exact rfl))
    refine w_rq (eput_run x.me 8 (by assumption) _ _ _) (fun _ => rfl) ?_
    rintro _ rfl
    have y6 := putV_n x.me 8 8 rfl
    repeat' (first
      | fail)
    refine w_rn (hc9.write (s := putV x.me 8) (by omega)) (fun _ => rfl) ?_
    rintro _ g10 n10 ⟨rfl, hc10, hn10⟩
    have w10 := cat_n ((b ++ (putV x.ty 4 ++ putV x.fl 4)) ++ putV x.off 8 ++ putV x.ad 8 ++ putV x.ad 8 ++ putV x.sz 8) x.me 8 8 rfl
    repeat' (first
      | ((with_reducible apply g_op); first
        | ((with_reducible apply g_move); first
          | ((with_reducible apply w_pure (v := .int _ _)); exact rfl; exact rfl))
        | ((with_reducible apply g_bin); first
          | ((with_reducible apply w_wrap); exact rfl; exact rfl; first | exact i64_in _ (by omega) | exact u64_in _ (by omega) | exact u8_in _ (by omega))))
      | with_reducible refine w_nil ?_
      | with_reducible refine w_region ?_
      | with_reducible refine w_blk ?_)
    refine w_unroll ?_
    repeat' (first
      | ((with_reducible apply g_op); first
        | ((with_reducible apply g_move); first
          | ((with_reducible apply w_pure (v := .int _ _)); exact rfl; exact rfl))
        | ((with_reducible apply g_bin); first
          | ((with_reducible apply w_pure (v := .bool _)); exact rfl; exact rfl))
        | ((with_reducible apply g_assign); first
          | ((with_reducible apply w_pure (v := .int _ _)); exact rfl; exact rfl))
        | ((with_reducible apply w_pure (v := .int _ _)); exact rfl; exact rfl))
      | with_reducible refine w_seq ?_
      | with_reducible refine w_nil ?_
      | with_reducible refine w_region ?_
      | with_reducible refine w_skip ?_
      | with_reducible refine w_block ?_
      | ((with_reducible apply w_yes); exact rfl))
    refine w_rq (eput_run x.al 8 (by assumption) _ _ _) (fun _ => rfl) ?_
    rintro _ rfl
    have y7 := putV_n x.al 8 8 rfl
    repeat' (first
      | fail)
    refine w_rn (hc10.write (s := putV x.al 8) (by omega)) (fun _ => rfl) ?_
    rintro _ g11 n11 ⟨rfl, hc11, hn11⟩
    have w11 := cat_n ((b ++ (putV x.ty 4 ++ putV x.fl 4)) ++ putV x.off 8 ++ putV x.ad 8 ++ putV x.ad 8 ++ putV x.sz 8 ++ putV x.me 8) x.al 8 8 rfl
    repeat' (first
      | ((with_reducible apply g_op); first
        | ((with_reducible apply g_move); first
          | ((with_reducible apply w_pure (v := .int _ _)); exact rfl; exact rfl))
        | ((with_reducible apply g_bin); first
          | ((with_reducible apply w_wrap); exact rfl; exact rfl; first | exact i64_in _ (by omega) | exact u64_in _ (by omega) | exact u8_in _ (by omega))))
      | with_reducible refine w_nil ?_
      | with_reducible refine w_region ?_
      | with_reducible refine w_blk ?_)
    refine w_unroll ?_
    repeat' (first
      | ((with_reducible apply g_op); first
        | ((with_reducible apply g_move); first
          | ((with_reducible apply w_pure (v := .int _ _)); exact rfl; exact rfl))
        | ((with_reducible apply g_bin); first
          | ((with_reducible apply w_wrap); exact rfl; exact rfl; first | exact i64_in _ (by omega) | exact u64_in _ (by omega) | exact u8_in _ (by omega))
          | ((with_reducible apply w_pure (v := .bool _)); exact rfl; exact rfl)))
      | with_reducible refine w_seq ?_
      | with_reducible refine w_nil ?_
      | with_reducible refine w_region ?_
      | with_reducible refine w_blk ?_
      | ((with_reducible apply w_exit); exact rfl)
      | ((with_reducible apply w_no); exact rfl))
    have hfin : (b ++ (putV x.ty 4 ++ putV x.fl 4)) ++ putV x.off 8 ++ putV x.ad 8 ++ putV x.ad 8 ++ putV x.sz 8 ++ putV x.me 8 ++ putV x.al 8 = b ++ segB x := by unfold segB; simp only [ByteArray.append_assoc]
    rw [hfin] at hc11
    exact ih (b ++ segB x) _ _ _ (by repeat' (first | with_reducible exact Fr.mix | with_reducible exact Fr.rfl' | with_reducible refine Fr.put ?_ ?_ | with_reducible refine Fr.mix2 ?_ ?_ | with_reducible refine Fr.put0 ?_ | exact rfl)) ⟨by push_cast; rfl, hc11.forget, by rw [ByteArray.size_append, segB_size]; omega, hgo⟩
  · rintro b σ g4 n4 ⟨k39, hb4, hbz, hgo⟩
    refine w_keep (i := 39) k39 ?_
    obtain ⟨o, ho⟩ := hb4
    repeat' (first
      | ((with_reducible apply g_op); first
        | ((with_reducible apply g_bin); first
          | ((with_reducible apply w_pure (v := .bool _)); exact rfl; exact rfl)))
      | with_reducible refine w_seq ?_
      | with_reducible refine w_nil ?_
      | with_reducible refine w_region ?_
      | ((with_reducible apply w_exit); exact rfl)
      | ((with_reducible apply w_ifd); exact rfl; all_goals (intro hc; first | (exfalso; omega) | skip)))
    refine w_rn (string_run b o _ _ _ _ ho (by omega)) (fun _ => rfl) ?_
    rintro _ g5 n5 ⟨rfl, rfl, _⟩
    repeat' (first
      | ((with_reducible apply g_op); first
        | ((with_reducible apply g_assign); first
          | ((with_reducible apply w_pure (v := .string _)); exact rfl; exact rfl)))
      | with_reducible refine w_nil ?_
      | ((with_reducible apply w_ret (v := .string _)); exact rfl))
    exact fr_plain rfl (congrArg Value.string hgo)
end Go.Proofs.Ytohfbnpmhlpkhaa.L

