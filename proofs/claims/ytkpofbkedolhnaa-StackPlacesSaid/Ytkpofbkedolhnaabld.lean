/- strings.Builder: what was written. -/
import Derived.Test.Ytkpofbkedolhnaac17Tab
import Derived.Test.Ytkpofbkedolhnaaoct0
namespace Go.Proofs.Ytkpofbkedolhnaa.L
open Go.L1 Go.IntWalk
set_option linter.unusedVariables false
set_option linter.unusedSimpArgs false
set_option maxHeartbeats 4000000
set_option maxRecDepth 20000
namespace Bl
/-- A builder at c, and where its row lies. -/
def BS (g : Nat → Option Ob) (c n m : Nat) (o : Option Nat) (s : ByteArray) : Prop := c < n ∧ m ≤ c ∧ match o with
  | none => s = ⟨#[]⟩ ∧ ∃ a, (a = .pointer none ∨ a = ptr c 0) ∧ g c = some (.cells 60 [a, .slice none 0 0])
  | some i => 0 < s.size ∧ i ≠ c ∧ m ≤ i ∧ i < n ∧ g c = some (.cells 60 [ptr c 0, slc i 0 s.size]) ∧ g i = some (.cells 5 (bc s))
theorem BS.new {g : Nat → Option Ob} {n m : Nat} (hm : m ≤ n) : BS (upd g n (some (.cells 60 [.pointer none, .slice none 0 0]))) n (n + 1) m none ⟨#[]⟩ := ⟨by omega, hm, rfl, _, .inl rfl, upd_same⟩
theorem BS.same {g g' : Nat → Option Ob} {c n n' m : Nat} {o : Option Nat} {s : ByteArray} (h : BS g c n m o s) (hn : n ≤ n') (hg : ∀ j, j = c ∨ some j = o → g' j = g j) : BS g' c n' m o s := by
  cases o with
  | none => obtain ⟨h1, h2, h3, a, h4, h5⟩ := h; exact ⟨by omega, h2, h3, a, h4, by rw [hg c (.inl rfl)]; exact h5⟩
  | some i => obtain ⟨h1, h2, h3, h4, h5, h6, h7, h8⟩ := h; exact ⟨by omega, h2, h3, h4, h5, by omega, by rw [hg c (.inl rfl)]; exact h7, by rw [hg i (.inr rfl)]; exact h8⟩
theorem BS.later {g g' : Nat → Option Ob} {c n n' m : Nat} {o : Option Nat} {s : ByteArray} (h : BS g c n m o s) (hn : n ≤ n') (hg : ∀ j, j < n → g' j = g j) : BS g' c n' m o s := by
  refine h.same hn fun j hj => hg j ?_
  rcases hj with rfl | hj
  · exact h.1
  · subst hj; exact h.2.2.2.2.2.1
theorem cc0 (sl : Value) (g : Nat → Option Ob) (c n m : Nat) (hm : m ≤ c) (hg : g c = some (.cells 60 [.pointer none, sl])) : Rn Try.prog T 41 [ptr c 0] g n m (fun v g' n' => v = .tuple #[] ∧ g' = upd g c (some (.cells 60 [ptr c 0, sl])) ∧ n' = n) := by
  refine c_open Try.func41 rfl rfl rfl rfl rfl rfl ?_
  repeat' (first
    | ((with_reducible apply g_op); first
      | ((with_reducible apply g_load); first
        | ((with_reducible apply w_load (v := .pointer _)); exact rfl; (first | assumption | (simp (disch := omega) only [upd_same, upd_ne]; first | done | assumption | exact rfl) | exact rfl); exact rfl))
      | ((with_reducible apply g_move); first
        | ((with_reducible apply w_pure (v := .pointer _)); exact rfl; exact rfl))
      | ((with_reducible apply g_bin); first
        | ((with_reducible apply w_pure (v := .bool _)); exact rfl; exact rfl))
      | ((with_reducible apply g_fld); first
        | ((with_reducible apply w_fldp (o := 0)); exact rfl; exact rfl; exact rfl; exact (by decide)))
      | ((with_reducible apply w_pure (v := .pointer _)); exact rfl; exact rfl))
    | with_reducible refine w_seq ?_
    | with_reducible refine w_nil ?_
    | with_reducible refine w_region ?_
    | ((with_reducible apply w_yes); exact rfl))
  refine w_p2u (z := 1) (t0 := 60) rfl rfl rfl rfl hg ?_
  repeat' (first
    | fail)
  refine w_ext (gx := idExt) (fun _ => rfl) rfl rfl ?_
  repeat' (first
    | fail)
  refine w_u2p (z := 1) (t0 := 60) rfl rfl rfl rfl hg hm (by kernel_rfl) (by kernel_rfl) ?_
  repeat' (first
    | ((with_reducible apply g_op); first
      | ((with_reducible apply g_fld); first
        | ((with_reducible apply w_fldp (o := 0)); exact rfl; exact rfl; exact rfl; exact (by decide)))
      | ((with_reducible apply g_store); first
        | ((with_reducible apply w_store (us := [.pointer _]) (ws := [_, _])); exact rfl; exact rfl; (first | assumption | (simp (disch := omega) only [upd_same, upd_ne]; first | done | assumption | exact rfl) | exact rfl); omega; exact rfl; exact rfl; exact rfl))
      | ((with_reducible apply w_pure (v := .pointer _)); exact rfl; exact rfl))
    | with_reducible refine w_nil ?_
    | ((with_reducible apply w_end (v := .tuple #[])); exact rfl))
  exact ⟨rfl, rfl, rfl⟩
theorem cc1 (sl : Value) (g : Nat → Option Ob) (c n m : Nat) (hm : m ≤ c) (hg : g c = some (.cells 60 [ptr c 0, sl])) : Rn Try.prog T 41 [ptr c 0] g n m (fun v g' n' => v = .tuple #[] ∧ g' = g ∧ n' = n) := by
  refine c_open Try.func41 rfl rfl rfl rfl rfl rfl ?_
  repeat' (first
    | ((with_reducible apply g_op); first
      | ((with_reducible apply g_load); first
        | ((with_reducible apply w_load (v := .pointer _)); exact rfl; (first | assumption | (simp (disch := omega) only [upd_same, upd_ne]; first | done | assumption | exact rfl) | exact rfl); exact rfl))
      | ((with_reducible apply g_move); first
        | ((with_reducible apply w_pure (v := .pointer _)); exact rfl; exact rfl))
      | ((with_reducible apply g_bin); first
        | ((with_reducible apply w_pure (v := .bool _)); exact rfl; exact rfl))
      | ((with_reducible apply g_fld); first
        | ((with_reducible apply w_fldp (o := 0)); exact rfl; exact rfl; exact rfl; exact (by decide)))
      | ((with_reducible apply w_pure (v := .pointer _)); exact rfl; exact rfl))
    | with_reducible refine w_seq ?_
    | with_reducible refine w_nil ?_
    | with_reducible refine w_region ?_
    | ((with_reducible apply w_no); exact rfl))
  refine w_pne (z := 1) (i := c) (off := 0) (el := 60) rfl rfl rfl rfl rfl rfl ?_
  repeat' (first
    | with_reducible refine w_nil ?_
    | with_reducible refine w_skip ?_
    | ((with_reducible apply w_no); exact rfl)
    | ((with_reducible apply w_end (v := .tuple #[])); exact rfl))
  exact ⟨rfl, rfl, rfl⟩
theorem ap_ok (s : ByteArray) (h : s.size = 0) : s = ⟨#[]⟩ := Oct.ba_ext (by have := Oct.size_list s; rw [h] at this; rw [List.length_eq_zero_iff.1 this])
theorem empty_app (s : ByteArray) : (⟨#[]⟩ : ByteArray) ++ s = s := Oct.ba_ext (by rw [Oct.data_app]; rfl)
theorem app_empty (s : ByteArray) : s ++ (⟨#[]⟩ : ByteArray) = s := Oct.ba_ext (by rw [Oct.data_app]; simp)
theorem appendable_str (s : ByteArray) : appendable Try.prog (#[37, 9] : Array TypeId)[1]? 5 1 (.string s) (bc s) = true := by
  unfold appendable
  rw [bc_one]
  kernel_rfl
theorem write_run (s b : ByteArray) (o : Option Nat) (g : Nat → Option Ob) (c n m : Nat) (h : BS g c n m o b) (hl : b.size + s.size ≤ 140737488355328) : Rn Try.prog T 23 [ptr c 0, .string s] g n m (fun v g' n' => ∃ o', v = .tuple #[.int .i64 s.size, .nilIface] ∧ BS g' c n' m o' (b ++ s) ∧ (o' = o ∨ ∃ k, o' = some k ∧ n ≤ k) ∧ n ≤ n' ∧ ∀ j, j < n → j ≠ c → some j ≠ o → g' j = g j) := by
  refine c_open Try.func23 rfl rfl rfl rfl rfl rfl ?_
  cases o with
  | none =>
    obtain ⟨hcn, hmc, rfl, a, ha, hg⟩ := h
    have hcc : Rn Try.prog T 41 [ptr c 0] g n m (fun v g' n' => v = .tuple #[] ∧ (g' c = some (.cells 60 [ptr c 0, .slice none 0 0]) ∧ ∀ j, j ≠ c → g' j = g j) ∧ n' = n) := by
      rcases ha with rfl | rfl
      · exact (cc0 _ g c n m hmc hg).mono (by rintro v g' n' ⟨h1, rfl, h3⟩; exact ⟨h1, ⟨upd_same, fun j hj => upd_ne hj⟩, h3⟩)
      · exact (cc1 _ g c n m hmc hg).mono (by rintro v g' n' ⟨h1, rfl, h3⟩; exact ⟨h1, ⟨hg, fun j hj => rfl⟩, h3⟩)
    repeat' (first
      | ((with_reducible apply g_op); first
        | ((with_reducible apply g_move); first
          | ((with_reducible apply w_pure (v := .pointer _)); exact rfl; exact rfl))
        | ((with_reducible apply g_assign); first
          | ((with_reducible apply w_pure (v := .int _ _)); exact rfl; exact rfl)
          | ((with_reducible apply w_pure (v := .nilIface)); exact rfl; exact rfl)))
      | with_reducible refine w_seq ?_
      | with_reducible refine w_nil ?_
      | with_reducible refine w_region ?_)
    refine w_rn hcc (fun _ => rfl) ?_
    rintro v g1 n1 ⟨rfl, ⟨hg1, hf1⟩, rfl⟩
    repeat' (first
      | ((with_reducible apply g_op); first
        | ((with_reducible apply g_load); first
          | ((with_reducible apply w_load (v := .slice _ _ _)); exact rfl; (first | assumption | (simp (disch := omega) only [upd_same, upd_ne]; first | done | assumption | exact rfl) | exact rfl); exact rfl))
        | ((with_reducible apply g_move); first
          | ((with_reducible apply w_pure (v := .pointer _)); exact rfl; exact rfl)
          | ((with_reducible apply w_pure (v := .string _)); exact rfl; exact rfl))
        | ((with_reducible apply g_fld); first
          | ((with_reducible apply w_fldp (o := 1)); exact rfl; exact rfl; exact rfl; exact (by decide)))
        | ((with_reducible apply w_pure (v := .pointer _)); exact rfl; exact rfl))
      | with_reducible refine w_seq ?_
      | with_reducible refine w_nil ?_
      | with_reducible refine w_region ?_)
    rw [empty_app]
    by_cases hs : s.size = 0
    · have := ap_ok s hs
      subst this
      refine w_apN (by_ := 1) (sz := 1) rfl rfl rfl rfl rfl rfl rfl rfl (by kernel_rfl) (.inl rfl) ?_
      repeat' (first
        | ((with_reducible apply g_op); first
          | ((with_reducible apply g_move); first
            | ((with_reducible apply w_pure (v := .string _)); exact rfl; exact rfl))
          | ((with_reducible apply g_fld); first
            | ((with_reducible apply w_fldp (o := 1)); exact rfl; exact rfl; exact rfl; exact (by decide)))
          | ((with_reducible apply g_assign); first
            | ((with_reducible apply w_pure (v := .int _ _)); exact rfl; exact rfl)
            | ((with_reducible apply w_pure (v := .nilIface)); exact rfl; exact rfl))
          | ((with_reducible apply g_call); first
            | ((with_reducible apply w_call (v := .int _ _)); exact rfl))
          | ((with_reducible apply g_store); first
            | ((with_reducible apply w_store (us := [.slice _ _ _]) (ws := [_, _])); exact rfl; exact rfl; (first | assumption | (simp (disch := omega) only [upd_same, upd_ne]; first | done | assumption | exact rfl) | exact rfl); omega; exact rfl; exact rfl; exact rfl))
          | ((with_reducible apply w_pure (v := .pointer _)); exact rfl; exact rfl))
        | with_reducible refine w_seq ?_
        | with_reducible refine w_nil ?_
        | with_reducible refine w_region ?_
        | ((with_reducible apply w_ret (v := .tuple #[.int _ _, .nilIface])); exact rfl))
      exact ⟨none, rfl, ⟨by omega, hmc, rfl, _, .inr rfl, by first | exact upd_same | exact hg1⟩, .inl rfl, by omega, fun j hj hjc _ => by simp (disch := omega) only [upd_ne]; exact hf1 j hjc⟩
    · refine w_apA0 (by_ := 1) (sz := 1) (mm := s.size) (ns := bc s) rfl rfl rfl rfl rfl rfl rfl rfl (appendable_str s) hs (by omega) ?_
      repeat' (first
        | ((with_reducible apply g_op); first
          | ((with_reducible apply g_move); first
            | ((with_reducible apply w_pure (v := .string _)); exact rfl; exact rfl))
          | ((with_reducible apply g_fld); first
            | ((with_reducible apply w_fldp (o := 1)); exact rfl; exact rfl; exact rfl; exact (by decide)))
          | ((with_reducible apply g_assign); first
            | ((with_reducible apply w_pure (v := .int _ _)); exact rfl; exact rfl)
            | ((with_reducible apply w_pure (v := .nilIface)); exact rfl; exact rfl))
          | ((with_reducible apply g_call); first
            | ((with_reducible apply w_call (v := .int _ _)); exact rfl))
          | ((with_reducible apply g_store); first
            | ((with_reducible apply w_store (us := [.slice _ _ _]) (ws := [_, _])); exact rfl; exact rfl; (first | assumption | (simp (disch := omega) only [upd_same, upd_ne]; first | done | assumption | exact rfl) | exact rfl); omega; exact rfl; exact rfl; exact rfl))
          | ((with_reducible apply w_pure (v := .pointer _)); exact rfl; exact rfl))
        | with_reducible refine w_seq ?_
        | with_reducible refine w_nil ?_
        | with_reducible refine w_region ?_
        | ((with_reducible apply w_ret (v := .tuple #[.int _ _, .nilIface])); exact rfl))
      exact ⟨some n1, rfl, ⟨by omega, hmc, by omega, by omega, by omega, by omega, upd_same, by simp (disch := omega) only [upd_same, upd_ne]⟩, .inr ⟨n1, rfl, by omega⟩, by omega, fun j hj hjc _ => by simp (disch := omega) only [upd_ne]; exact hf1 j hjc⟩
  | some i =>
    obtain ⟨hcn, hmc, hb0, hic, hmi, hin, hgc, hgi⟩ := h
    repeat' (first
      | ((with_reducible apply g_op); first
        | ((with_reducible apply g_move); first
          | ((with_reducible apply w_pure (v := .pointer _)); exact rfl; exact rfl))
        | ((with_reducible apply g_assign); first
          | ((with_reducible apply w_pure (v := .int _ _)); exact rfl; exact rfl)
          | ((with_reducible apply w_pure (v := .nilIface)); exact rfl; exact rfl)))
      | with_reducible refine w_seq ?_
      | with_reducible refine w_nil ?_
      | with_reducible refine w_region ?_)
    refine w_rn (cc1 _ g c n m hmc hgc) (fun _ => rfl) ?_
    rintro v g1 n1 ⟨rfl, rfl, rfl⟩
    repeat' (first
      | ((with_reducible apply g_op); first
        | ((with_reducible apply g_load); first
          | ((with_reducible apply w_load (v := .slice _ _ _)); exact rfl; (first | assumption | (simp (disch := omega) only [upd_same, upd_ne]; first | done | assumption | exact rfl) | exact rfl); exact rfl))
        | ((with_reducible apply g_move); first
          | ((with_reducible apply w_pure (v := .pointer _)); exact rfl; exact rfl)
          | ((with_reducible apply w_pure (v := .string _)); exact rfl; exact rfl))
        | ((with_reducible apply g_fld); first
          | ((with_reducible apply w_fldp (o := 1)); exact rfl; exact rfl; exact rfl; exact (by decide)))
        | ((with_reducible apply w_pure (v := .pointer _)); exact rfl; exact rfl))
      | with_reducible refine w_seq ?_
      | with_reducible refine w_nil ?_
      | with_reducible refine w_region ?_)
    by_cases hs : s.size = 0
    · have := ap_ok s hs
      subst this
      rw [app_empty]
      refine w_apN (by_ := 1) (sz := 1) rfl rfl rfl rfl rfl rfl rfl rfl (by kernel_rfl) (.inr ⟨_, _, _, _, rfl⟩) ?_
      repeat' (first
        | ((with_reducible apply g_op); first
          | ((with_reducible apply g_move); first
            | ((with_reducible apply w_pure (v := .string _)); exact rfl; exact rfl))
          | ((with_reducible apply g_fld); first
            | ((with_reducible apply w_fldp (o := 1)); exact rfl; exact rfl; exact rfl; exact (by decide)))
          | ((with_reducible apply g_assign); first
            | ((with_reducible apply w_pure (v := .int _ _)); exact rfl; exact rfl)
            | ((with_reducible apply w_pure (v := .nilIface)); exact rfl; exact rfl))
          | ((with_reducible apply g_call); first
            | ((with_reducible apply w_call (v := .int _ _)); exact rfl))
          | ((with_reducible apply g_store); first
            | ((with_reducible apply w_store (us := [.slice _ _ _]) (ws := [_, _])); exact rfl; exact rfl; (first | assumption | (simp (disch := omega) only [upd_same, upd_ne]; first | done | assumption | exact rfl) | exact rfl); omega; exact rfl; exact rfl; exact rfl))
          | ((with_reducible apply w_pure (v := .pointer _)); exact rfl; exact rfl))
        | with_reducible refine w_seq ?_
        | with_reducible refine w_nil ?_
        | with_reducible refine w_region ?_
        | ((with_reducible apply w_ret (v := .tuple #[.int _ _, .nilIface])); exact rfl))
      exact ⟨some i, rfl, ⟨by omega, hmc, hb0, hic, hmi, by omega, by first | exact upd_same | exact hgc, by first | exact hgi | (simp (disch := omega) only [upd_ne]; exact hgi)⟩, .inl rfl, by omega, fun j hj hjc _ => by first | rfl | simp (disch := omega) only [upd_ne]⟩
    · refine w_apA1 (by_ := 1) (sz := 1) (mm := s.size) (ns := bc s) rfl rfl rfl rfl rfl rfl rfl rfl (appendable_str s) hs hgi (rd_all (by rw [bc_len, Nat.mul_one])) (by omega) ?_
      repeat' (first
        | ((with_reducible apply g_op); first
          | ((with_reducible apply g_move); first
            | ((with_reducible apply w_pure (v := .string _)); exact rfl; exact rfl))
          | ((with_reducible apply g_fld); first
            | ((with_reducible apply w_fldp (o := 1)); exact rfl; exact rfl; exact rfl; exact (by decide)))
          | ((with_reducible apply g_assign); first
            | ((with_reducible apply w_pure (v := .int _ _)); exact rfl; exact rfl)
            | ((with_reducible apply w_pure (v := .nilIface)); exact rfl; exact rfl))
          | ((with_reducible apply g_call); first
            | ((with_reducible apply w_call (v := .int _ _)); exact rfl))
          | ((with_reducible apply g_store); first
            | ((with_reducible apply w_store (us := [.slice _ _ _]) (ws := [_, _])); exact rfl; exact rfl; (first | assumption | (simp (disch := omega) only [upd_same, upd_ne]; first | done | assumption | exact rfl) | exact rfl); omega; exact rfl; exact rfl; exact rfl))
          | ((with_reducible apply w_pure (v := .pointer _)); exact rfl; exact rfl))
        | with_reducible refine w_seq ?_
        | with_reducible refine w_nil ?_
        | with_reducible refine w_region ?_
        | ((with_reducible apply w_ret (v := .tuple #[.int _ _, .nilIface])); exact rfl))
      refine ⟨some n1, rfl, ⟨by omega, hmc, by rw [ByteArray.size_append]; omega, by omega, by omega, by omega, ?_, ?_⟩, .inr ⟨n1, rfl, by omega⟩, by omega, fun j hj hjc hji => ?_⟩
      · rw [upd_same, ByteArray.size_append]
      · simp (disch := omega) only [upd_same, upd_ne]; rw [bc_app]
      · have : j ≠ i := fun e => hji (by rw [e])
        simp (disch := omega) only [upd_ne]
theorem string_run (b : ByteArray) (o : Option Nat) (g : Nat → Option Ob) (c n m : Nat) (h : BS g c n m o b) (hl : b.size ≤ 140737488355328) : Rn Try.prog T 28 [ptr c 0] g n m (fun v g' n' => v = .string b ∧ n' = n ∧ ∀ j, some j ≠ o → g' j = g j) := by
  refine c_open Try.func28 rfl rfl rfl rfl rfl rfl ?_
  cases o with
  | none =>
    obtain ⟨hcn, hmc, rfl, a, ha, hg⟩ := h
    repeat' (first
      | ((with_reducible apply g_op); first
        | ((with_reducible apply g_load); first
          | ((with_reducible apply w_load (v := .slice _ _ _)); exact rfl; (first | assumption | (simp (disch := omega) only [upd_same, upd_ne]; first | done | assumption | exact rfl) | exact rfl); exact rfl))
        | ((with_reducible apply g_move); first
          | ((with_reducible apply w_pure (v := .pointer _)); exact rfl; exact rfl))
        | ((with_reducible apply g_fld); first
          | ((with_reducible apply w_fldp (o := 1)); exact rfl; exact rfl; exact rfl; exact (by decide)))
        | ((with_reducible apply g_assign); first
          | ((with_reducible apply w_pure (v := .string _)); exact rfl; exact rfl))
        | ((with_reducible apply w_pure (v := .pointer _)); exact rfl; exact rfl))
      | with_reducible refine w_seq ?_
      | with_reducible refine w_nil ?_
      | with_reducible refine w_region ?_
      | ((with_reducible apply w_draw); kernel_rfl; kernel_rfl))
    refine w_sd0 rfl ?_
    repeat' (first
      | ((with_reducible apply g_op); first
        | ((with_reducible apply g_load); first
          | ((with_reducible apply w_load (v := .slice _ _ _)); exact rfl; (first | assumption | (simp (disch := omega) only [upd_same, upd_ne]; first | done | assumption | exact rfl) | exact rfl); exact rfl))
        | ((with_reducible apply g_move); first
          | ((with_reducible apply w_pure (v := .pointer _)); exact rfl; exact rfl))
        | ((with_reducible apply g_fld); first
          | ((with_reducible apply w_fldp (o := 1)); exact rfl; exact rfl; exact rfl; exact (by decide)))
        | ((with_reducible apply g_call); first
          | ((with_reducible apply w_call (v := .int _ _)); exact rfl))
        | ((with_reducible apply w_pure (v := .pointer _)); exact rfl; exact rfl)))
    refine w_us0 rfl rfl rfl ?_
    repeat' (first
      | ((with_reducible apply g_op); first
        | ((with_reducible apply g_assign); first
          | ((with_reducible apply w_pure (v := .string _)); exact rfl; exact rfl)))
      | with_reducible refine w_nil ?_
      | ((with_reducible apply w_ret (v := .string _)); exact rfl))
    exact ⟨rfl, rfl, fun j _ => rfl⟩
  | some i =>
    obtain ⟨hcn, hmc, hb0, hic, hmi, hin, hgc, hgi⟩ := h
    repeat' (first
      | ((with_reducible apply g_op); first
        | ((with_reducible apply g_load); first
          | ((with_reducible apply w_load (v := .slice _ _ _)); exact rfl; (first | assumption | (simp (disch := omega) only [upd_same, upd_ne]; first | done | assumption | exact rfl) | exact rfl); exact rfl))
        | ((with_reducible apply g_move); first
          | ((with_reducible apply w_pure (v := .pointer _)); exact rfl; exact rfl))
        | ((with_reducible apply g_fld); first
          | ((with_reducible apply w_fldp (o := 1)); exact rfl; exact rfl; exact rfl; exact (by decide)))
        | ((with_reducible apply g_assign); first
          | ((with_reducible apply w_pure (v := .string _)); exact rfl; exact rfl))
        | ((with_reducible apply w_pure (v := .pointer _)); exact rfl; exact rfl))
      | with_reducible refine w_seq ?_
      | with_reducible refine w_nil ?_
      | with_reducible refine w_region ?_
      | ((with_reducible apply w_draw); kernel_rfl; kernel_rfl))
    refine w_sd1 rfl (by omega) ?_
    repeat' (first
      | ((with_reducible apply g_op); first
        | ((with_reducible apply g_load); first
          | ((with_reducible apply w_load (v := .slice _ _ _)); exact rfl; (first | assumption | (simp (disch := omega) only [upd_same, upd_ne]; first | done | assumption | exact rfl) | exact rfl); exact rfl))
        | ((with_reducible apply g_move); first
          | ((with_reducible apply w_pure (v := .pointer _)); exact rfl; exact rfl))
        | ((with_reducible apply g_fld); first
          | ((with_reducible apply w_fldp (o := 1)); exact rfl; exact rfl; exact rfl; exact (by decide)))
        | ((with_reducible apply g_call); first
          | ((with_reducible apply w_call (v := .int _ _)); exact rfl))
        | ((with_reducible apply w_pure (v := .pointer _)); exact rfl; exact rfl)))
    refine w_us1 (i := i) (s := b) (e := 5) rfl rfl rfl rfl rfl rfl (by kernel_rfl) hgi hmi ⟨hb0, by omega⟩ ?_
    repeat' (first
      | ((with_reducible apply g_op); first
        | ((with_reducible apply g_assign); first
          | ((with_reducible apply w_pure (v := .string _)); exact rfl; exact rfl)))
      | with_reducible refine w_nil ?_
      | ((with_reducible apply w_ret (v := .string _)); exact rfl))
    exact ⟨rfl, rfl, fun j hj => upd_ne (fun e => hj (by rw [e]))⟩
/-- A builder at c, whose row lies from lo on. -/
def Bd (g : Nat → Option Ob) (c n m lo : Nat) (s : ByteArray) : Prop := ∃ o, BS g c n m o s ∧ ∀ k, o = some k → lo ≤ k
theorem Bd.new {g : Nat → Option Ob} {n m lo : Nat} (hm : m ≤ n) : Bd (upd g n (some (.cells 60 [.pointer none, .slice none 0 0]))) n (n + 1) m lo ⟨#[]⟩ := ⟨none, .new hm, fun k hk => by cases hk⟩
theorem Bd.later {g g' : Nat → Option Ob} {c n n' m lo : Nat} {s : ByteArray} (h : Bd g c n m lo s) (hn : n ≤ n') (hg : ∀ j, j < n → g' j = g j) : Bd g' c n' m lo s := by
  obtain ⟨o, h1, h2⟩ := h; exact ⟨o, h1.later hn hg, h2⟩
theorem Bd.lt {g : Nat → Option Ob} {c n m lo : Nat} {s : ByteArray} (h : Bd g c n m lo s) : c < n ∧ m ≤ c := by obtain ⟨o, h1, h2⟩ := h; exact ⟨h1.1, h1.2.1⟩
theorem Bd.write {s b : ByteArray} {g : Nat → Option Ob} {c n m lo : Nat} (h : Bd g c n m lo b) (hlo : lo ≤ n) (hl : b.size + s.size ≤ 140737488355328) : Rn Try.prog T 23 [ptr c 0, .string s] g n m (fun v g' n' => v = .tuple #[.int .i64 s.size, .nilIface] ∧ Bd g' c n' m lo (b ++ s) ∧ n ≤ n' ∧ ∀ j, j < lo → j ≠ c → g' j = g j) := by
  obtain ⟨o, h1, h2⟩ := h
  refine (write_run s b o g c n m h1 hl).mono ?_
  rintro v g' n' ⟨o', h3, h4, h5, h6, h7⟩
  refine ⟨h3, ⟨o', h4, fun k hk => ?_⟩, h6, fun j hj hc => h7 j (by omega) hc (fun e => by have := h2 j e.symm; omega)⟩
  rcases h5 with rfl | ⟨k', h8, h9⟩
  · exact h2 k hk
  · rw [h8] at hk; cases hk; omega
theorem Bd.string {b : ByteArray} {g : Nat → Option Ob} {c n m lo : Nat} (h : Bd g c n m lo b) (hl : b.size ≤ 140737488355328) : Rn Try.prog T 28 [ptr c 0] g n m (fun v g' n' => v = .string b ∧ n' = n ∧ ∀ j, j < lo → g' j = g j) := by
  obtain ⟨o, h1, h2⟩ := h
  refine (string_run b o g c n m h1 hl).mono ?_
  rintro v g' n' ⟨h3, h4, h5⟩
  exact ⟨h3, h4, fun j hj => h5 j (fun e => by have := h2 j e.symm; omega)⟩
end Bl
end Go.Proofs.Ytkpofbkedolhnaa.L

