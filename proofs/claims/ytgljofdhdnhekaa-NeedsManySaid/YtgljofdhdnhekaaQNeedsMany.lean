/- NeedsMany: walked, and its plain law. -/
import Derived.Test.Ytgljofdhdnhekaac12N
namespace Go.Proofs.Ytgljofdhdnhekaa.L.NeedsMany
open Go.L1 Go.IntWalk Go.Proofs.Ytgljofdhdnhekaa.L
set_option linter.unusedVariables false
set_option linter.unusedSimpArgs false
set_option maxHeartbeats 4000000
def tab : Tb := L.T
theorem tabok : ∀ C : Cx, C.P = Try.prog → TbOk C tab := L.tabok
def nmL (i : Int) : ByteArray := ⟨#[108]⟩ ++ nums [i]
def nm (i : Nat) : ByteArray := ⟨#[108, UInt8.ofNat i]⟩
theorem nm_eq (i : Nat) : nmL i = nm i := by
  apply ByteArray.ext
  unfold nmL nm nums
  rw [ByteArray.data_append]
  rfl
def rowAt (N i : Nat) : Lib := ⟨nmL i, if i + 1 < N then [nmL ((i : Int) + 1)] else []⟩
def rowS (N : Nat) : List Lib := (List.range N).map (rowAt N)
def rowAt' (N i : Nat) : Lib := ⟨nm i, if i + 1 < N then [nm (i + 1)] else []⟩
theorem rowS_eq (N : Nat) : rowS N = (List.range N).map (rowAt' N) := by
  unfold rowS
  congr 1
def rowS' (N : Nat) : List Lib := (List.range N).map (rowAt' N)
def chk (N : Nat) : Bool := (decide ((orderS (rowS' N) (nm 0)).1.length ≤ 67)) && (if N > 64 then decide (orderS (rowS' N) (nm 0) = ([], 17)) else decide ((orderS (rowS' N) (nm 0)).1.length = N) && decide ((orderS (rowS' N) (nm 0)).2 = 0) && decide (roundS' (rowS' N) (nm 0) N = some false) && decide ((mget (wk (rowS' N) (nm 0)).depth (nm (N - 1))).getD (-1) = ((N - 1 : Nat) : Int)))
theorem chk60 : chk 60 = true := by decide +kernel
theorem chk61 : chk 61 = true := by decide +kernel
theorem chk62 : chk 62 = true := by decide +kernel
theorem chk63 : chk 63 = true := by decide +kernel
theorem chk64 : chk 64 = true := by decide +kernel
theorem chk65 : chk 65 = true := by decide +kernel
theorem chk66 : chk 66 = true := by decide +kernel
theorem chk67 : chk 67 = true := by decide +kernel
theorem row_fits (N : Nat) (h : N ≤ 67) : Fits (rowS N) := by
  refine ⟨by simp [rowS]; omega, fun x hx => ?_⟩
  obtain ⟨y, _, rfl⟩ := List.mem_map.1 hx
  unfold rowAt
  simp only
  split <;> simp
theorem walk (x0 : Int) (N : Nat) (hN : (N : Int) = 60 + x0 % 8) (A : List ByteArray × Int) (hA : orderS (rowS N) (nm 0) = A) (hA1 : A.1.length ≤ 67)
    (h1 : N > 64 → A = ([], 17)) (h2 : N ≤ 64 → A.1.length = N ∧ A.2 = 0 ∧ roundS' (rowS N) (nm 0) N = some false ∧ (mget (wk (rowS N) (nm 0)).depth (nmL ((N - 1 : Nat) : Int))).getD (-1) = ((N - 1 : Nat) : Int)) (g : Nat → Option Ob) (n : Nat) : Rn Try.prog T 3 [.int .i64 x0] g n n (fun v _ _ => v = .bool true) := by
  have hN8 : 60 ≤ N ∧ N ≤ 67 := by omega
  refine c_open Try.func3 rfl rfl rfl rfl rfl rfl ?_
  repeat' (first
    | ((with_reducible apply g_op); first
      | ((with_reducible apply g_assign); first
        | ((with_reducible apply w_pure (v := .bool _)); exact rfl; exact rfl)))
    | with_reducible refine w_seq ?_
    | with_reducible refine w_nil ?_
    | with_reducible refine w_region ?_)
  refine w_rf awake_run (fun _ => rfl) sn_nil ?_
  rintro _ rfl
  repeat' (first
    | ((with_reducible apply g_op); first
      | ((with_reducible apply g_move); first
        | ((with_reducible apply w_pure (v := .int _ _)); exact rfl; exact rfl))
      | ((with_reducible apply g_bin); first
        | ((with_reducible apply w_and (j := 3) (c1 := 8)); exact rfl; exact rfl; exact rfl; exact rfl; exact rfl; exact (by decide); exact (by decide); exact (by decide))
        | ((with_reducible apply w_wrap); exact rfl; exact rfl; first | exact i64_in _ (by omega) | exact u64_in _ (by omega) | exact u8_in _ (by omega)))
      | ((with_reducible apply g_assign); first
        | ((with_reducible apply w_pure (v := .int _ _)); exact rfl; exact rfl)
        | ((with_reducible apply w_pure (v := .bool _)); exact rfl; exact rfl)
        | ((with_reducible apply w_pure (v := .slice _ _ _)); exact rfl; exact rfl)))
    | with_reducible refine w_seq ?_
    | with_reducible refine w_nil ?_
    | with_reducible refine w_region ?_
    | with_reducible refine w_block ?_)
  refine w_cntK [(5, 7), (14, 40)] N (fun i (b : List PL × Option Nat) σ g' n' => σ 5 = ov b.2 b.1.length ∧ σ 6 = .int .i64 (i : Nat)
    ∧ Nest g' n n' b.2 b.1 ∧ b.1.map Prod.fst = (List.range i).map (rowAt N) ∧ n ≤ n') ?_ ?_ ([], none) ⟨rfl, rfl, ⟨rfl, fun p hp => by cases hp⟩, rfl, by omega⟩
  · rintro i ⟨ps, o⟩ σ gl nl hi ⟨k5, k6, hs, hm, hn1⟩ ih
    dsimp only at k5 hs hm
    refine w_keep (i := 5) k5 (w_keep (i := 6) k6 ?_)
    have hpl : ps.length = i := by have := congrArg List.length hm; simpa using this
    have hm' : ∀ q, (ps ++ [(rowAt N i, q)]).map Prod.fst = (List.range (i + 1)).map (rowAt N) := fun q => by rw [List.map_append, hm, List.range_succ, List.map_append]; rfl
    have hi67 : (i : Int) < 67 := by omega
    have hol : ∀ a, o = some a → a < nl ∧ n ≤ a := fun a ha => by subst ha; exact ⟨hs.out.2.2.1, hs.out.2.1⟩
    by_cases hlast : i + 1 < N
    · have hat : rowAt N i = ⟨nmL i, [nmL ((i : Int) + 1)]⟩ := by unfold rowAt; rw [if_pos hlast]
      cases o with
      | none =>
        have e0 : ps = [] := hs.out
        subst e0
        simp only [ov_none] at k5
        repeat' (first
          | ((with_reducible apply g_op); first
            | ((with_reducible apply g_move); first
              | ((with_reducible apply w_pure (v := .int _ _)); exact rfl; exact rfl))
            | ((with_reducible apply g_bin); first
              | ((with_reducible apply w_pure (v := .bool _)); exact rfl; exact rfl))
            | ((with_reducible apply w_conv); exact rfl; exact rfl; exact rfl; first | exact i64_in _ (by omega) | exact u64_in _ (by omega) | exact u8_in _ (by omega) | exact u32_in _ (by omega))
            | ((with_reducible apply w_bsl (ls := [_])); exact rfl; exact rfl; exact rfl; exact ⟨by decide, rfl⟩; exact rfl))
          | with_reducible refine w_seq ?_
          | with_reducible refine w_nil ?_
          | with_reducible refine w_region ?_
          | with_reducible refine w_skip ?_
          | with_reducible refine w_block ?_
          | ((with_reducible apply w_ifd); exact rfl; all_goals (intro hc; first | (exfalso; omega) | skip)))
        refine w_b2s (ns := [(i : Int)]) rfl rfl rfl rfl upd_same rfl ?_
        repeat' (first
          | ((with_reducible apply g_op); first
            | ((with_reducible apply g_move); first
              | ((with_reducible apply w_pure (v := .int _ _)); exact rfl; exact rfl))
            | ((with_reducible apply g_bin); first
              | ((with_reducible apply w_wrap); exact rfl; exact rfl; first | exact i64_in _ (by omega) | exact u64_in _ (by omega) | exact u8_in _ (by omega))
              | ((with_reducible apply w_pure (v := .bool _)); exact rfl; exact rfl)
              | ((with_reducible apply w_pure (v := .string _)); exact rfl; exact rfl))
            | ((with_reducible apply g_store); first
              | ((with_reducible apply w_store (us := [_, _]) (ws := [_, _])); exact rfl; exact rfl; (first | assumption | (simp (disch := omega) only [upd_same, upd_ne]; first | done | assumption | exact rfl) | exact rfl); omega; exact rfl; exact rfl; exact rfl))
            | ((with_reducible apply w_conv); exact rfl; exact rfl; exact rfl; first | exact i64_in _ (by omega) | exact u64_in _ (by omega) | exact u8_in _ (by omega) | exact u32_in _ (by omega))
            | ((with_reducible apply g_build); first
              | ((with_reducible apply w_pure (v := .agg #[_, _])); exact rfl; exact rfl))
            | ((with_reducible apply w_alloc (ls := [_, _])); exact rfl; exact rfl)
            | ((with_reducible apply w_bsl (ls := [_])); exact rfl; exact rfl; exact rfl; exact ⟨by decide, rfl⟩; exact rfl))
          | with_reducible refine w_seq ?_
          | with_reducible refine w_nil ?_
          | with_reducible refine w_region ?_
          | ((with_reducible apply w_ifd); exact rfl; all_goals (intro hc; first | (exfalso; omega) | skip)))
        refine w_b2s (ns := [(i : Int) + 1]) rfl rfl rfl rfl upd_same rfl ?_
        repeat' (first
          | ((with_reducible apply g_op); first
            | ((with_reducible apply g_load); first
              | ((with_reducible apply w_load (v := .agg #[_, _])); exact rfl; (first | assumption | (simp (disch := omega) only [upd_same, upd_ne]; first | done | assumption | exact rfl) | exact rfl); exact rfl))
            | ((with_reducible apply g_move); first
              | ((with_reducible apply w_pure (v := .int _ _)); exact rfl; exact rfl)
              | ((with_reducible apply w_pure (v := .slice _ _ _)); exact rfl; exact rfl))
            | ((with_reducible apply g_bin); first
              | ((with_reducible apply w_wrap); exact rfl; exact rfl; first | exact i64_in _ (by omega) | exact u64_in _ (by omega) | exact u8_in _ (by omega))
              | ((with_reducible apply w_pure (v := .string _)); exact rfl; exact rfl))
            | ((with_reducible apply g_fld); first
              | ((with_reducible apply w_fldp (o := 1)); exact rfl; exact rfl; exact rfl; exact (by decide)))
            | ((with_reducible apply g_assign); first
              | ((with_reducible apply w_pure (v := .int _ _)); exact rfl; exact rfl)
              | ((with_reducible apply w_pure (v := .slice _ _ _)); exact rfl; exact rfl))
            | ((with_reducible apply g_call); first
              | ((with_reducible apply w_app0 (ns := [_, _])); exact rfl; exact rfl; exact rfl; exact rfl; exact rfl; exact rfl; (first | assumption | (simp (disch := omega) only [upd_same, upd_ne]; first | done | assumption | exact rfl) | exact rfl); exact rfl; exact rfl; exact (by decide); exact ⟨by decide, by decide⟩))
            | ((with_reducible apply g_store); first
              | ((with_reducible apply w_store (us := [.slice _ _ _]) (ws := [_, _])); exact rfl; exact rfl; (first | assumption | (simp (disch := omega) only [upd_same, upd_ne]; first | done | assumption | exact rfl) | exact rfl); omega; exact rfl; exact rfl; exact rfl))
            | ((with_reducible apply w_bsl (ls := [_])); exact rfl; exact rfl; exact rfl; exact ⟨by decide, rfl⟩; exact rfl)
            | ((with_reducible apply w_bsl (ls := [_, _])); exact rfl; exact rfl; exact rfl; exact ⟨by decide, rfl⟩; exact rfl))
          | with_reducible refine w_nil ?_
          | with_reducible refine w_region ?_
          | with_reducible refine w_blk ?_)
        refine ih ([(rowAt N i, some (nl + 3))], some (nl + 5)) _ _ _ (by repeat' (first | with_reducible exact Fr.mix | with_reducible exact Fr.rfl' | with_reducible refine Fr.put ?_ ?_ | with_reducible refine Fr.mix2 ?_ ?_ | with_reducible refine Fr.put0 ?_ | exact rfl)) ⟨rfl, by push_cast; rfl, ⟨⟨by simp, by omega, by omega, ?_⟩, fun p hp => ?_⟩, hm' _, by omega⟩
        · simp (disch := omega) only [upd_same, upd_ne]; rw [List.flatMap_cons, List.flatMap_nil, List.append_nil, encP, hat]; rfl
        · rw [List.mem_singleton] at hp
          subst hp
          rw [hat]
          exact ⟨by simp, by omega, by omega, by simp (disch := omega) only [upd_same, upd_ne] <;> rfl⟩
      | some o =>
        simp only [ov_some] at k5
        have := hol o rfl
        repeat' (first
          | ((with_reducible apply g_op); first
            | ((with_reducible apply g_move); first
              | ((with_reducible apply w_pure (v := .int _ _)); exact rfl; exact rfl))
            | ((with_reducible apply g_bin); first
              | ((with_reducible apply w_pure (v := .bool _)); exact rfl; exact rfl))
            | ((with_reducible apply w_conv); exact rfl; exact rfl; exact rfl; first | exact i64_in _ (by omega) | exact u64_in _ (by omega) | exact u8_in _ (by omega) | exact u32_in _ (by omega))
            | ((with_reducible apply w_bsl (ls := [_])); exact rfl; exact rfl; exact rfl; exact ⟨by decide, rfl⟩; exact rfl))
          | with_reducible refine w_seq ?_
          | with_reducible refine w_nil ?_
          | with_reducible refine w_region ?_
          | with_reducible refine w_skip ?_
          | with_reducible refine w_block ?_
          | ((with_reducible apply w_ifd); exact rfl; all_goals (intro hc; first | (exfalso; omega) | skip)))
        refine w_b2s (ns := [(i : Int)]) rfl rfl rfl rfl upd_same rfl ?_
        repeat' (first
          | ((with_reducible apply g_op); first
            | ((with_reducible apply g_move); first
              | ((with_reducible apply w_pure (v := .int _ _)); exact rfl; exact rfl))
            | ((with_reducible apply g_bin); first
              | ((with_reducible apply w_wrap); exact rfl; exact rfl; first | exact i64_in _ (by omega) | exact u64_in _ (by omega) | exact u8_in _ (by omega))
              | ((with_reducible apply w_pure (v := .bool _)); exact rfl; exact rfl)
              | ((with_reducible apply w_pure (v := .string _)); exact rfl; exact rfl))
            | ((with_reducible apply g_store); first
              | ((with_reducible apply w_store (us := [_, _]) (ws := [_, _])); exact rfl; exact rfl; (first | assumption | (simp (disch := omega) only [upd_same, upd_ne]; first | done | assumption | exact rfl) | exact rfl); omega; exact rfl; exact rfl; exact rfl))
            | ((with_reducible apply w_conv); exact rfl; exact rfl; exact rfl; first | exact i64_in _ (by omega) | exact u64_in _ (by omega) | exact u8_in _ (by omega) | exact u32_in _ (by omega))
            | ((with_reducible apply g_build); first
              | ((with_reducible apply w_pure (v := .agg #[_, _])); exact rfl; exact rfl))
            | ((with_reducible apply w_alloc (ls := [_, _])); exact rfl; exact rfl)
            | ((with_reducible apply w_bsl (ls := [_])); exact rfl; exact rfl; exact rfl; exact ⟨by decide, rfl⟩; exact rfl))
          | with_reducible refine w_seq ?_
          | with_reducible refine w_nil ?_
          | with_reducible refine w_region ?_
          | ((with_reducible apply w_ifd); exact rfl; all_goals (intro hc; first | (exfalso; omega) | skip)))
        refine w_b2s (ns := [(i : Int) + 1]) rfl rfl rfl rfl upd_same rfl ?_
        repeat' (first
          | ((with_reducible apply g_op); first
            | ((with_reducible apply g_load); first
              | ((with_reducible apply w_load (v := .agg #[_, _])); exact rfl; (first | assumption | (simp (disch := omega) only [upd_same, upd_ne]; first | done | assumption | exact rfl) | exact rfl); exact rfl))
            | ((with_reducible apply g_move); first
              | ((with_reducible apply w_pure (v := .slice _ _ _)); exact rfl; exact rfl))
            | ((with_reducible apply g_bin); first
              | ((with_reducible apply w_pure (v := .string _)); exact rfl; exact rfl))
            | ((with_reducible apply g_fld); first
              | ((with_reducible apply w_fldp (o := 1)); exact rfl; exact rfl; exact rfl; exact (by decide)))
            | ((with_reducible apply g_store); first
              | ((with_reducible apply w_store (us := [.slice _ _ _]) (ws := [_, _])); exact rfl; exact rfl; (first | assumption | (simp (disch := omega) only [upd_same, upd_ne]; first | done | assumption | exact rfl) | exact rfl); omega; exact rfl; exact rfl; exact rfl))
            | ((with_reducible apply w_bsl (ls := [_])); exact rfl; exact rfl; exact rfl; exact ⟨by decide, rfl⟩; exact rfl)
            | ((with_reducible apply w_bsl (ls := [_, _])); exact rfl; exact rfl; exact rfl; exact ⟨by decide, rfl⟩; exact rfl))
          | with_reducible refine w_nil ?_
          | with_reducible refine w_region ?_)
        refine w_own2 (enc := encP) (y := (rowAt N i, some (nl + 3))) (by_ := 40) (sz := 2) (lo := n) (o := some o) (xs := ps) (own_at hs.out (by omega) fun a ha => by cases ha; simp (disch := omega) only [upd_ne]) rfl rfl rfl rfl rfl rfl (fun _ => rfl) upd_same rfl (by rw [hat]; rfl) rfl (by omega) (by omega) ?_
        intro g' h1 h2 h3
        repeat' (first
          | ((with_reducible apply g_op); first
            | ((with_reducible apply g_move); first
              | ((with_reducible apply w_pure (v := .int _ _)); exact rfl; exact rfl))
            | ((with_reducible apply g_bin); first
              | ((with_reducible apply w_wrap); exact rfl; exact rfl; first | exact i64_in _ (by omega) | exact u64_in _ (by omega) | exact u8_in _ (by omega)))
            | ((with_reducible apply g_assign); first
              | ((with_reducible apply w_pure (v := .int _ _)); exact rfl; exact rfl)
              | ((with_reducible apply w_pure (v := .slice _ _ _)); exact rfl; exact rfl)))
          | with_reducible refine w_nil ?_
          | with_reducible refine w_region ?_
          | with_reducible refine w_blk ?_)
        refine ih (ps ++ [(rowAt N i, some (nl + 3))], some (nl + 5)) _ _ _ (by repeat' (first | with_reducible exact Fr.mix | with_reducible exact Fr.rfl' | with_reducible refine Fr.put ?_ ?_ | with_reducible refine Fr.mix2 ?_ ?_ | with_reducible refine Fr.put0 ?_ | exact rfl)) ⟨rfl, by push_cast; rfl, ⟨h3.later (by omega) (fun j h1 h2 => rfl), fun p hp => ?_⟩, hm' _, by omega⟩
        rcases List.mem_append.1 hp with hp | hp
        · have hip := hs.ins p hp
          refine own_at hip (by omega) fun a ha => ?_
          rw [ha] at hip
          have hne := own_ne hip hs.out (by decide)
          have := hip.2.2.1
          rw [h1 a (by omega) (by simpa using hne)]
          simp (disch := omega) only [upd_ne]
        · rw [List.mem_singleton] at hp
          subst hp
          rw [hat]
          exact ⟨by simp, by omega, by omega, by rw [h1 _ (by omega) (by simp; omega)]; simp (disch := omega) only [upd_same, upd_ne] <;> rfl⟩
    · have hat : rowAt N i = ⟨nmL i, []⟩ := by unfold rowAt; rw [if_neg hlast]
      cases o with
      | none =>
        have e0 : ps = [] := hs.out
        subst e0
        simp only [ov_none] at k5
        repeat' (first
          | ((with_reducible apply g_op); first
            | ((with_reducible apply g_move); first
              | ((with_reducible apply w_pure (v := .int _ _)); exact rfl; exact rfl))
            | ((with_reducible apply g_bin); first
              | ((with_reducible apply w_pure (v := .bool _)); exact rfl; exact rfl))
            | ((with_reducible apply w_conv); exact rfl; exact rfl; exact rfl; first | exact i64_in _ (by omega) | exact u64_in _ (by omega) | exact u8_in _ (by omega) | exact u32_in _ (by omega))
            | ((with_reducible apply w_bsl (ls := [_])); exact rfl; exact rfl; exact rfl; exact ⟨by decide, rfl⟩; exact rfl))
          | with_reducible refine w_seq ?_
          | with_reducible refine w_nil ?_
          | with_reducible refine w_region ?_
          | with_reducible refine w_skip ?_
          | with_reducible refine w_block ?_
          | ((with_reducible apply w_ifd); exact rfl; all_goals (intro hc; first | (exfalso; omega) | skip)))
        refine w_b2s (ns := [(i : Int)]) rfl rfl rfl rfl upd_same rfl ?_
        repeat' (first
          | ((with_reducible apply g_op); first
            | ((with_reducible apply g_load); first
              | ((with_reducible apply w_load (v := .agg #[_, _])); exact rfl; (first | assumption | (simp (disch := omega) only [upd_same, upd_ne]; first | done | assumption | exact rfl) | exact rfl); exact rfl))
            | ((with_reducible apply g_move); first
              | ((with_reducible apply w_pure (v := .int _ _)); exact rfl; exact rfl)
              | ((with_reducible apply w_pure (v := .slice _ _ _)); exact rfl; exact rfl))
            | ((with_reducible apply g_bin); first
              | ((with_reducible apply w_wrap); exact rfl; exact rfl; first | exact i64_in _ (by omega) | exact u64_in _ (by omega) | exact u8_in _ (by omega))
              | ((with_reducible apply w_pure (v := .bool _)); exact rfl; exact rfl)
              | ((with_reducible apply w_pure (v := .string _)); exact rfl; exact rfl))
            | ((with_reducible apply g_assign); first
              | ((with_reducible apply w_pure (v := .int _ _)); exact rfl; exact rfl)
              | ((with_reducible apply w_pure (v := .slice _ _ _)); exact rfl; exact rfl))
            | ((with_reducible apply g_call); first
              | ((with_reducible apply w_app0 (ns := [_, _])); exact rfl; exact rfl; exact rfl; exact rfl; exact rfl; exact rfl; (first | assumption | (simp (disch := omega) only [upd_same, upd_ne]; first | done | assumption | exact rfl) | exact rfl); exact rfl; exact rfl; exact (by decide); exact ⟨by decide, by decide⟩))
            | ((with_reducible apply g_store); first
              | ((with_reducible apply w_store (us := [_, _]) (ws := [_, _])); exact rfl; exact rfl; (first | assumption | (simp (disch := omega) only [upd_same, upd_ne]; first | done | assumption | exact rfl) | exact rfl); omega; exact rfl; exact rfl; exact rfl))
            | ((with_reducible apply g_build); first
              | ((with_reducible apply w_pure (v := .agg #[_, _])); exact rfl; exact rfl))
            | ((with_reducible apply w_alloc (ls := [_, _])); exact rfl; exact rfl)
            | ((with_reducible apply w_bsl (ls := [_, _])); exact rfl; exact rfl; exact rfl; exact ⟨by decide, rfl⟩; exact rfl))
          | with_reducible refine w_seq ?_
          | with_reducible refine w_nil ?_
          | with_reducible refine w_region ?_
          | with_reducible refine w_skip ?_
          | with_reducible refine w_blk ?_
          | ((with_reducible apply w_ifd); exact rfl; all_goals (intro hc; first | (exfalso; omega) | skip)))
        refine ih ([(rowAt N i, none)], some (nl + 3)) _ _ _ (by repeat' (first | with_reducible exact Fr.mix | with_reducible exact Fr.rfl' | with_reducible refine Fr.put ?_ ?_ | with_reducible refine Fr.mix2 ?_ ?_ | with_reducible refine Fr.put0 ?_ | exact rfl)) ⟨rfl, by push_cast; rfl, ⟨⟨by simp, by omega, by omega, ?_⟩, fun p hp => ?_⟩, hm' _, by omega⟩
        · simp (disch := omega) only [upd_same, upd_ne]; rw [List.flatMap_cons, List.flatMap_nil, List.append_nil, encP, hat]; rfl
        · rw [List.mem_singleton] at hp
          subst hp
          rw [hat]
          exact rfl
      | some o =>
        simp only [ov_some] at k5
        have := hol o rfl
        repeat' (first
          | ((with_reducible apply g_op); first
            | ((with_reducible apply g_move); first
              | ((with_reducible apply w_pure (v := .int _ _)); exact rfl; exact rfl))
            | ((with_reducible apply g_bin); first
              | ((with_reducible apply w_pure (v := .bool _)); exact rfl; exact rfl))
            | ((with_reducible apply w_conv); exact rfl; exact rfl; exact rfl; first | exact i64_in _ (by omega) | exact u64_in _ (by omega) | exact u8_in _ (by omega) | exact u32_in _ (by omega))
            | ((with_reducible apply w_bsl (ls := [_])); exact rfl; exact rfl; exact rfl; exact ⟨by decide, rfl⟩; exact rfl))
          | with_reducible refine w_seq ?_
          | with_reducible refine w_nil ?_
          | with_reducible refine w_region ?_
          | with_reducible refine w_skip ?_
          | with_reducible refine w_block ?_
          | ((with_reducible apply w_ifd); exact rfl; all_goals (intro hc; first | (exfalso; omega) | skip)))
        refine w_b2s (ns := [(i : Int)]) rfl rfl rfl rfl upd_same rfl ?_
        repeat' (first
          | ((with_reducible apply g_op); first
            | ((with_reducible apply g_load); first
              | ((with_reducible apply w_load (v := .agg #[_, _])); exact rfl; (first | assumption | (simp (disch := omega) only [upd_same, upd_ne]; first | done | assumption | exact rfl) | exact rfl); exact rfl))
            | ((with_reducible apply g_move); first
              | ((with_reducible apply w_pure (v := .int _ _)); exact rfl; exact rfl)
              | ((with_reducible apply w_pure (v := .slice _ _ _)); exact rfl; exact rfl))
            | ((with_reducible apply g_bin); first
              | ((with_reducible apply w_wrap); exact rfl; exact rfl; first | exact i64_in _ (by omega) | exact u64_in _ (by omega) | exact u8_in _ (by omega))
              | ((with_reducible apply w_pure (v := .bool _)); exact rfl; exact rfl)
              | ((with_reducible apply w_pure (v := .string _)); exact rfl; exact rfl))
            | ((with_reducible apply g_store); first
              | ((with_reducible apply w_store (us := [_, _]) (ws := [_, _])); exact rfl; exact rfl; (first | assumption | (simp (disch := omega) only [upd_same, upd_ne]; first | done | assumption | exact rfl) | exact rfl); omega; exact rfl; exact rfl; exact rfl))
            | ((with_reducible apply g_build); first
              | ((with_reducible apply w_pure (v := .agg #[_, _])); exact rfl; exact rfl))
            | ((with_reducible apply w_alloc (ls := [_, _])); exact rfl; exact rfl)
            | ((with_reducible apply w_bsl (ls := [_, _])); exact rfl; exact rfl; exact rfl; exact ⟨by decide, rfl⟩; exact rfl))
          | with_reducible refine w_seq ?_
          | with_reducible refine w_nil ?_
          | with_reducible refine w_region ?_
          | with_reducible refine w_skip ?_
          | ((with_reducible apply w_ifd); exact rfl; all_goals (intro hc; first | (exfalso; omega) | skip)))
        refine w_own2 (enc := encP) (y := (rowAt N i, none)) (by_ := 40) (sz := 2) (lo := n) (o := some o) (xs := ps) (own_at hs.out (by omega) fun a ha => by cases ha; simp (disch := omega) only [upd_ne]) rfl rfl rfl rfl rfl rfl (fun _ => rfl) upd_same rfl (by rw [hat]; rfl) rfl (by omega) (by omega) ?_
        intro g' h1 h2 h3
        repeat' (first
          | ((with_reducible apply g_op); first
            | ((with_reducible apply g_move); first
              | ((with_reducible apply w_pure (v := .int _ _)); exact rfl; exact rfl))
            | ((with_reducible apply g_bin); first
              | ((with_reducible apply w_wrap); exact rfl; exact rfl; first | exact i64_in _ (by omega) | exact u64_in _ (by omega) | exact u8_in _ (by omega)))
            | ((with_reducible apply g_assign); first
              | ((with_reducible apply w_pure (v := .int _ _)); exact rfl; exact rfl)
              | ((with_reducible apply w_pure (v := .slice _ _ _)); exact rfl; exact rfl)))
          | with_reducible refine w_nil ?_
          | with_reducible refine w_region ?_
          | with_reducible refine w_blk ?_)
        refine ih (ps ++ [(rowAt N i, none)], some (nl + 3)) _ _ _ (by repeat' (first | with_reducible exact Fr.mix | with_reducible exact Fr.rfl' | with_reducible refine Fr.put ?_ ?_ | with_reducible refine Fr.mix2 ?_ ?_ | with_reducible refine Fr.put0 ?_ | exact rfl)) ⟨rfl, by push_cast; rfl, ⟨h3.later (by omega) (fun j h1 h2 => rfl), fun p hp => ?_⟩, hm' _, by omega⟩
        rcases List.mem_append.1 hp with hp | hp
        · have hip := hs.ins p hp
          refine own_at hip (by omega) fun a ha => ?_
          rw [ha] at hip
          have hne := own_ne hip hs.out (by decide)
          have := hip.2.2.1
          rw [h1 a (by omega) (by simpa using hne)]
          simp (disch := omega) only [upd_ne]
        · rw [List.mem_singleton] at hp
          subst hp
          rw [hat]
          exact rfl
  · rintro ⟨ps, o⟩ σ gl nl ⟨k5, k6, hs, hm, hn1⟩
    dsimp only at k5 hs hm
    refine w_keep (i := 5) k5 (w_keep (i := 6) k6 ?_)
    have hfin : rowS N = ps.map Prod.fst := hm.symm
    have hfit := row_fits N hN8.2
    have hsn := nest_fz (lo' := 0) hs hfin (by omega) tg
    have hpl : ps.length = N := by have := congrArg List.length hm; simpa using this
    cases o with
    | none =>
      have e0 : ps = [] := hs.out
      rw [e0] at hpl
      simp at hpl; omega
    | some o =>
    simp only [ov_some] at k5
    repeat' (first
      | ((with_reducible apply g_op); first
        | ((with_reducible apply g_move); first
          | ((with_reducible apply w_pure (v := .int _ _)); exact rfl; exact rfl)
          | ((with_reducible apply w_pure (v := .slice _ _ _)); exact rfl; exact rfl))
        | ((with_reducible apply g_bin); first
          | ((with_reducible apply w_pure (v := .bool _)); exact rfl; exact rfl)))
      | with_reducible refine w_seq ?_
      | with_reducible refine w_nil ?_
      | with_reducible refine w_region ?_
      | ((with_reducible apply w_exit); exact rfl)
      | ((with_reducible apply w_ifd); exact rfl; all_goals (intro hc; first | (exfalso; omega) | skip)))
    refine w_rf (order_run (rowS N) (nm 0) hfit) (fun _ => rfl) (sn_cons hsn (sn_cons (sn_plain rfl) sn_nil)) ?_
    rintro _ rfl
    rw [hA]
    by_cases hbig : N > 64
    · have := h1 hbig
      subst this
      repeat' (first
        | ((with_reducible apply g_op); first
          | ((with_reducible apply g_move); first
            | ((with_reducible apply w_pure (v := .int _ _)); exact rfl; exact rfl)
            | ((with_reducible apply w_pure (v := .bool _)); exact rfl; exact rfl)
            | ((with_reducible apply w_pure (v := .tuple _)); exact rfl; exact rfl)
            | ((with_reducible apply w_pure (v := .func _ _ _)); exact rfl; exact rfl))
          | ((with_reducible apply g_bin); first
            | ((with_reducible apply w_pure (v := .bool _)); exact rfl; exact rfl))
          | ((with_reducible apply g_pick); first
            | ((with_reducible apply w_pk1 (v := .bool _)); exact rfl; exact rfl; (first | assumption | exact decide_eq_true (by assumption) | exact decide_eq_false (by assumption) | exact decide_eq_true (by omega) | exact decide_eq_false (by omega) | exact beq_iff_eq.2 (by omega) | exact beq_eq_false_iff_ne.2 (by omega) | exact bne_iff_ne.2 (by omega) | exact bne_eq_false_iff_eq.2 (by omega))))
          | ((with_reducible apply g_assign); first
            | ((with_reducible apply w_pure (v := .int _ _)); exact rfl; exact rfl)
            | ((with_reducible apply w_pure (v := .bool _)); exact rfl; exact rfl)
            | ((with_reducible apply w_pure (v := .func _ _ _)); exact rfl; exact rfl))
          | ((with_reducible apply g_call); first
            | ((with_reducible apply w_call (v := .int _ _)); exact rfl))
          | ((with_reducible apply w_pure (v := .int _ _)); exact rfl; exact rfl)
          | ((with_reducible apply w_pure (v := .bool _)); exact rfl; exact rfl)
          | ((with_reducible apply w_pure (v := .func _ _ _)); exact rfl; exact rfl))
        | ((with_reducible apply g_gd); first
          | ((with_reducible apply w_want); exact rfl))
        | with_reducible refine w_seq ?_
        | with_reducible refine w_nil ?_
        | with_reducible refine w_region ?_
        | ((with_reducible apply w_ifd); exact rfl; all_goals (intro hc; first | (exfalso; omega) | skip))
        | ((with_reducible apply w_ret (v := .bool _)); exact rfl))
      rfl
    · obtain ⟨q1, q2, q3, q4⟩ := h2 (by omega)
      rw [q2]
      repeat' (first
        | ((with_reducible apply g_op); first
          | ((with_reducible apply g_move); first
            | ((with_reducible apply w_pure (v := .int _ _)); exact rfl; exact rfl)
            | ((with_reducible apply w_pure (v := .bool _)); exact rfl; exact rfl)
            | ((with_reducible apply w_pure (v := .slice _ _ _)); exact rfl; exact rfl)
            | ((with_reducible apply w_pure (v := .tuple _)); exact rfl; exact rfl)
            | ((with_reducible apply w_pure (v := .func _ _ _)); exact rfl; exact rfl))
          | ((with_reducible apply g_bin); first
            | ((with_reducible apply w_pure (v := .bool _)); exact rfl; exact rfl))
          | ((with_reducible apply g_pick); first
            | ((with_reducible apply w_pk1 (v := .bool _)); exact rfl; exact rfl; (first | assumption | exact decide_eq_true (by assumption) | exact decide_eq_false (by assumption) | exact decide_eq_true (by omega) | exact decide_eq_false (by omega) | exact beq_iff_eq.2 (by omega) | exact beq_eq_false_iff_ne.2 (by omega) | exact bne_iff_ne.2 (by omega) | exact bne_eq_false_iff_eq.2 (by omega))))
          | ((with_reducible apply g_assign); first
            | ((with_reducible apply w_pure (v := .int _ _)); exact rfl; exact rfl)
            | ((with_reducible apply w_pure (v := .func _ _ _)); exact rfl; exact rfl))
          | ((with_reducible apply g_call); first
            | ((with_reducible apply w_call (v := .int _ _)); exact rfl))
          | ((with_reducible apply w_pure (v := .int _ _)); exact rfl; exact rfl)
          | ((with_reducible apply w_pure (v := .bool _)); exact rfl; exact rfl)
          | ((with_reducible apply w_pure (v := .func _ _ _)); exact rfl; exact rfl))
        | ((with_reducible apply g_gd); first
          | ((with_reducible apply w_want); exact rfl)
          | ((with_reducible apply w_gd_t); exact rfl; all_goals (intro hc; first | (exfalso; omega) | skip)))
        | with_reducible refine w_seq ?_
        | with_reducible refine w_nil ?_
        | with_reducible refine w_region ?_
        | with_reducible refine w_skip ?_
        | ((with_reducible apply w_ifd); exact rfl; all_goals (intro hc; first | (exfalso; omega) | skip)))
      refine w_rf (round_run (rowS N) (nm 0) hfit N false q3) (fun _ => rfl) (sn_cons hsn (sn_cons (sn_plain rfl) sn_nil)) ?_
      rintro _ rfl
      repeat' (first
        | ((with_reducible apply g_op); first
          | ((with_reducible apply g_move); first
            | ((with_reducible apply w_pure (v := .int _ _)); exact rfl; exact rfl)
            | ((with_reducible apply w_pure (v := .bool _)); exact rfl; exact rfl)
            | ((with_reducible apply w_pure (v := .slice _ _ _)); exact rfl; exact rfl))
          | ((with_reducible apply g_bin); first
            | ((with_reducible apply w_wrap); exact rfl; exact rfl; first | exact i64_in _ (by omega) | exact u64_in _ (by omega) | exact u8_in _ (by omega)))
          | ((with_reducible apply g_fld); first
            | ((with_reducible apply w_fldp (o := 0)); exact rfl; exact rfl; exact rfl; exact (by decide)))
          | ((with_reducible apply g_pick); first
            | ((with_reducible apply w_pk1 (v := .bool _)); exact rfl; exact rfl; (first | assumption | exact decide_eq_true (by assumption) | exact decide_eq_false (by assumption) | exact decide_eq_true (by omega) | exact decide_eq_false (by omega) | exact beq_iff_eq.2 (by omega) | exact beq_eq_false_iff_ne.2 (by omega) | exact bne_iff_ne.2 (by omega) | exact bne_eq_false_iff_eq.2 (by omega))))
          | ((with_reducible apply g_ix); first
            | ((with_reducible apply w_ixr (sz := 2)); exact rfl; exact rfl; exact rfl; exact rfl; omega; omega))
          | ((with_reducible apply w_pure (v := .bool _)); exact rfl; exact rfl))
        | ((with_reducible apply g_gd); first
          | ((with_reducible apply w_want); exact rfl)
          | ((with_reducible apply w_gd_t); exact rfl; all_goals (intro hc; first | (exfalso; omega) | skip))))
      obtain ⟨p, hp⟩ : ∃ p, ps[N - 1]? = some p := ⟨_, List.getElem?_eq_getElem (by omega)⟩
      have hp1 : p.1 = rowAt N (N - 1) := by
        have := congrArg (fun l => l[N - 1]?) hm
        simp only [List.getElem?_map, hp, Option.map_some, List.getElem?_range (show N - 1 < N by omega)] at this
        exact Option.some.inj this
      have hidx : (60 + x0 % 8 - 1).toNat = N - 1 := by omega
      refine w_load (v := .string (nmL ((N - 1 : Nat) : Int))) rfl hs.out.2.2.2 (by rw [hidx, Nat.zero_add]; refine part_flat (fun _ => rfl) hp ?_; rw [part_one (by kernel_rfl), encP, hp1]; rfl) ?_
      repeat' (first
        | ((with_reducible apply g_gd); first
          | ((with_reducible apply w_want); exact rfl)))
      refine w_rf (depth_run (rowS N) (nm 0) _ hfit) (fun _ => rfl) (sn_cons hsn (sn_cons (sn_plain rfl) (sn_cons (sn_plain rfl) sn_nil))) ?_
      rintro _ rfl
      rw [q4]
      repeat' (first
        | ((with_reducible apply g_op); first
          | ((with_reducible apply g_move); first
            | ((with_reducible apply w_pure (v := .int _ _)); exact rfl; exact rfl))
          | ((with_reducible apply g_bin); first
            | ((with_reducible apply w_wrap); exact rfl; exact rfl; first | exact i64_in _ (by omega) | exact u64_in _ (by omega) | exact u8_in _ (by omega))
            | ((with_reducible apply w_pure (v := .bool _)); exact rfl; exact rfl))
          | ((with_reducible apply g_assign); first
            | ((with_reducible apply w_pure (v := .bool _)); exact rfl; exact rfl))
          | ((with_reducible apply w_pure (v := .bool _)); exact rfl; exact rfl))
        | ((with_reducible apply g_gd); first
          | ((with_reducible apply w_want); exact rfl))
        | with_reducible refine w_nil ?_
        | ((with_reducible apply w_ret (v := .bool _)); exact rfl))
      exact congrArg Value.bool (beq_iff_eq.2 (by omega))
theorem use {x0 : Int} {N : Nat} (hN : (N : Int) = 60 + x0 % 8) (h : chk N = true) (g : Nat → Option Ob) (n : Nat) : Rn Try.prog T 3 [.int .i64 x0] g n n (fun v _ _ => v = .bool true) := by
  unfold chk at h
  rw [show rowS' N = rowS N from (rowS_eq N).symm] at h
  simp only [Bool.and_eq_true, decide_eq_true_eq] at h
  obtain ⟨h1, h2⟩ := h
  refine walk x0 N hN _ rfl h1 (fun hb => ?_) (fun hb => ?_) g n
  · rw [if_pos hb] at h2; exact of_decide_eq_true h2
  · rw [if_neg (by omega)] at h2
    simp only [Bool.and_eq_true, decide_eq_true_eq] at h2
    obtain ⟨⟨⟨a, b⟩, c⟩, d⟩ := h2
    exact ⟨a, b, c, by rw [nm_eq]; exact d⟩
theorem proved (x0 : Int) {p : Prop} (w0 : p) : Rn Try.prog tab 3 [.int .i64 x0] (fun _ => none) 0 0 (fun v _ _ => v = .bool true) := by
  have : x0 % 8 = 0 ∨ x0 % 8 = 1 ∨ x0 % 8 = 2 ∨ x0 % 8 = 3 ∨ x0 % 8 = 4 ∨ x0 % 8 = 5 ∨ x0 % 8 = 6 ∨ x0 % 8 = 7 := by omega
  rcases this with h | h | h | h | h | h | h | h
  · exact use (N := 60) (by omega) chk60 _ _
  · exact use (N := 61) (by omega) chk61 _ _
  · exact use (N := 62) (by omega) chk62 _ _
  · exact use (N := 63) (by omega) chk63 _ _
  · exact use (N := 64) (by omega) chk64 _ _
  · exact use (N := 65) (by omega) chk65 _ _
  · exact use (N := 66) (by omega) chk66 _ _
  · exact use (N := 67) (by omega) chk67 _ _
end Go.Proofs.Ytgljofdhdnhekaa.L.NeedsMany

