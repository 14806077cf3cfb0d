/- Texts' lengths, sizes; may they be. -/
import Derived.Test.YtkpofbkedolhnaaoctP
import Derived.Test.YtkpofbkedolhnaaL1V
namespace Go.Proofs.Ytkpofbkedolhnaa.L
open Go.L1 Go.IntWalk
set_option linter.unusedVariables false
set_option linter.unusedSimpArgs false
set_option maxHeartbeats 4000000
set_option maxRecDepth 20000
namespace Stk
open Oct
def ts (s : ByteArray) : List Value := [.string s]
abbrev tv (s : Array Value) (l : List ByteArray) : Value := fz s l.length (l.flatMap ts)
def pc (x : Int × Int) : List Value := [.int .i64 x.1, .int .i64 x.2]
abbrev pv (s : Array Value) (l : List (Int × Int)) : Value := fz s l.length (l.flatMap pc)
def txN : List ByteArray → Nat
  | [] => 0
  | s :: r => s.size + 1 + txN r
theorem txN_app : ∀ a b : List ByteArray, txN (a ++ b) = txN a + txN b
  | [], b => by simp [txN]
  | x :: a, b => by rw [List.cons_append, txN, txN, txN_app a b]; omega
theorem txN_take (l : List ByteArray) (i : Nat) (x : ByteArray) (h : l[i]? = some x) : txN (l.take (i + 1)) = txN (l.take i) + x.size + 1 := by
  rw [List.take_add_one, h]
  show txN (l.take i ++ [x]) = _
  rw [txN_app]
  simp [txN]; omega
theorem txN_le (l : List ByteArray) (i : Nat) : txN (l.take i) ≤ txN l := by
  conv => rhs; rw [← List.take_append_drop i l, txN_app]
  omega
theorem txN_len : ∀ l : List ByteArray, l.length ≤ txN l
  | [] => Nat.le_refl _
  | s :: r => by have := txN_len r; rw [List.length_cons, txN]; omega
theorem texts_run (l : List ByteArray) (hl : txN l ≤ 100000) : Rf Try.prog T 25 [tv tg l] (fun v => v = .int .i64 (txN l : Nat)) := by
  refine c_froz Try.func25 rfl rfl rfl rfl rfl rfl ?_
  intro g n
  have hln := txN_len l
  repeat' (first
    | ((with_reducible apply g_op); first
      | ((with_reducible apply g_move); first
        | ((with_reducible apply w_pure (v := .int _ _)); exact rfl; exact rfl)
        | ((with_reducible apply w_pure (v := .func _ _ _)); exact rfl; exact rfl))
      | ((with_reducible apply g_assign); first
        | ((with_reducible apply w_pure (v := .int _ _)); exact rfl; exact rfl))
      | ((with_reducible apply g_call); first
        | ((with_reducible apply w_call (v := .int _ _)); exact rfl)))
    | with_reducible refine w_seq ?_
    | with_reducible refine w_nil ?_
    | with_reducible refine w_region ?_
    | with_reducible refine w_block ?_)
  refine w_rngK [(3, 3), (5, 5), (10, 18)] l (fun i rest (_ : Unit) σ g' n' => σ 10 = .int .i64 (i : Nat) ∧ σ 3 = .int .i64 ((l.length : Int) - i + (txN (l.take i) : Nat)) ∧ g = g' ∧ n = n') ?_ ?_ () ⟨rfl, congrArg (Value.int .i64) (by simp [txN]), rfl, rfl⟩
  · rintro i x rest _ σ _ _ hx hlt ⟨k10, k3, rfl, rfl⟩ ih
    have h1 := txN_take l i x hx
    have h2 := txN_le l (i + 1)
    refine w_keep (i := 3) k3 (w_keep (i := 10) k10 ?_)
    repeat' (first
      | ((with_reducible apply g_op); first
        | ((with_reducible apply g_load); first
          | ((with_reducible apply w_fl (v := .string _)); exact rfl; exact (fun _ => rfl); assumption; exact rfl))
        | ((with_reducible apply g_move); first
          | ((with_reducible apply w_pure (v := .int _ _)); exact rfl; exact rfl)
          | ((with_reducible apply w_pure (v := .string _)); exact rfl; exact rfl))
        | ((with_reducible apply g_bin); first
          | ((with_reducible apply w_wrap); exact rfl; exact rfl; first | exact i64_in _ (by omega) | exact u64_in _ (by omega) | exact u8_in _ (by omega))
          | ((with_reducible apply w_pure (v := .bool _)); exact rfl; exact rfl))
        | ((with_reducible apply g_assign); first
          | ((with_reducible apply w_pure (v := .int _ _)); exact rfl; exact rfl)
          | ((with_reducible apply w_pure (v := .string _)); exact rfl; exact rfl))
        | ((with_reducible apply g_call); first
          | ((with_reducible apply w_call (v := .int _ _)); exact rfl))
        | ((with_reducible apply g_ix); first
          | ((with_reducible apply w_fx (sz := 1)); exact rfl; exact rfl; exact rfl; exact rfl; exact rfl; exact (fun _ => rfl); assumption; exact rfl)))
      | with_reducible refine w_seq ?_
      | with_reducible refine w_nil ?_
      | with_reducible refine w_region ?_
      | with_reducible refine w_skip ?_
      | with_reducible refine w_block ?_
      | with_reducible refine w_blk ?_
      | ((with_reducible apply w_ifd); exact rfl; all_goals (intro hc; first | (exfalso; omega) | skip)))
    exact ih () _ _ _ (by repeat' (first | with_reducible exact Fr.mix | with_reducible exact Fr.rfl' | with_reducible refine Fr.put ?_ ?_ | with_reducible refine Fr.mix2 ?_ ?_ | with_reducible refine Fr.put0 ?_ | exact rfl)) ⟨rfl, congrArg (Value.int .i64) (by rw [h1]; omega), rfl, rfl⟩
  · rintro _ σ _ _ ⟨k10, k3, rfl, rfl⟩
    rw [List.take_length] at k3
    refine w_keep (i := 3) k3 (w_keep (i := 10) k10 ?_)
    repeat' (first
      | ((with_reducible apply g_op); first
        | ((with_reducible apply g_move); first
          | ((with_reducible apply w_pure (v := .int _ _)); exact rfl; exact rfl))
        | ((with_reducible apply g_bin); first
          | ((with_reducible apply w_pure (v := .bool _)); exact rfl; exact rfl))
        | ((with_reducible apply g_assign); first
          | ((with_reducible apply w_pure (v := .int _ _)); exact rfl; exact rfl)))
      | with_reducible refine w_seq ?_
      | with_reducible refine w_nil ?_
      | with_reducible refine w_region ?_
      | ((with_reducible apply w_exit); exact rfl)
      | ((with_reducible apply w_ifd); exact rfl; all_goals (intro hc; first | (exfalso; omega) | skip))
      | ((with_reducible apply w_ret (v := .int _ _)); exact rfl))
    exact fr_plain rfl (congrArg (Value.int .i64) (by omega))
theorem rtexts_run (l : List ByteArray) (hl : txN l ≤ 100000) : Rf Try.prog T 30 [tv tg l] (fun v => v = .int .i64 (txN l : Nat)) := by
  refine c_froz Try.func30 rfl rfl rfl rfl rfl rfl ?_
  intro g n
  have hln := txN_len l
  repeat' (first
    | ((with_reducible apply g_op); first
      | ((with_reducible apply g_assign); first
        | ((with_reducible apply w_pure (v := .int _ _)); exact rfl; exact rfl)))
    | with_reducible refine w_seq ?_
    | with_reducible refine w_nil ?_
    | with_reducible refine w_region ?_
    | with_reducible refine w_block ?_)
  refine w_rngK [(3, 18)] l (fun i rest (_ : Unit) σ g' n' => σ 4 = .int .i64 (i : Nat) ∧ σ 3 = .int .i64 (txN (l.take i) : Nat) ∧ g = g' ∧ n = n') ?_ ?_ () ⟨rfl, rfl, rfl, rfl⟩
  · rintro i x rest _ σ _ _ hx hlt ⟨k4, k3, rfl, rfl⟩ ih
    have h1 := txN_take l i x hx
    have h2 := txN_le l (i + 1)
    refine w_keep (i := 3) k3 (w_keep (i := 4) k4 ?_)
    repeat' (first
      | ((with_reducible apply g_op); first
        | ((with_reducible apply g_load); first
          | ((with_reducible apply w_fl (v := .string _)); exact rfl; exact (fun _ => rfl); assumption; exact rfl))
        | ((with_reducible apply g_move); first
          | ((with_reducible apply w_pure (v := .int _ _)); exact rfl; exact rfl)
          | ((with_reducible apply w_pure (v := .func _ _ _)); exact rfl; exact rfl))
        | ((with_reducible apply g_bin); first
          | ((with_reducible apply w_wrap); exact rfl; exact rfl; first | exact i64_in _ (by omega) | exact u64_in _ (by omega) | exact u8_in _ (by omega))
          | ((with_reducible apply w_pure (v := .bool _)); exact rfl; exact rfl))
        | ((with_reducible apply g_assign); first
          | ((with_reducible apply w_pure (v := .int _ _)); exact rfl; exact rfl))
        | ((with_reducible apply g_call); first
          | ((with_reducible apply w_call (v := .int _ _)); exact rfl))
        | ((with_reducible apply g_ix); first
          | ((with_reducible apply w_fx (sz := 1)); exact rfl; exact rfl; exact rfl; exact rfl; exact rfl; exact (fun _ => rfl); assumption; exact rfl)))
      | with_reducible refine w_seq ?_
      | with_reducible refine w_nil ?_
      | with_reducible refine w_region ?_
      | with_reducible refine w_skip ?_
      | with_reducible refine w_block ?_
      | with_reducible refine w_blk ?_
      | ((with_reducible apply w_ifd); exact rfl; all_goals (intro hc; first | (exfalso; omega) | skip)))
    exact ih () _ _ _ (by repeat' (first | with_reducible exact Fr.mix | with_reducible exact Fr.rfl' | with_reducible refine Fr.put ?_ ?_ | with_reducible refine Fr.mix2 ?_ ?_ | with_reducible refine Fr.put0 ?_ | exact rfl)) ⟨rfl, congrArg (Value.int .i64) (by rw [h1]; omega), rfl, rfl⟩
  · rintro _ σ _ _ ⟨k4, k3, rfl, rfl⟩
    rw [List.take_length] at k3
    refine w_keep (i := 3) k3 (w_keep (i := 4) k4 ?_)
    repeat' (first
      | ((with_reducible apply g_op); first
        | ((with_reducible apply g_move); first
          | ((with_reducible apply w_pure (v := .int _ _)); exact rfl; exact rfl)
          | ((with_reducible apply w_pure (v := .func _ _ _)); exact rfl; exact rfl))
        | ((with_reducible apply g_bin); first
          | ((with_reducible apply w_pure (v := .bool _)); exact rfl; exact rfl))
        | ((with_reducible apply g_assign); first
          | ((with_reducible apply w_pure (v := .int _ _)); exact rfl; exact rfl))
        | ((with_reducible apply g_call); first
          | ((with_reducible apply w_call (v := .int _ _)); exact rfl)))
      | with_reducible refine w_seq ?_
      | with_reducible refine w_nil ?_
      | with_reducible refine w_region ?_
      | ((with_reducible apply w_exit); exact rfl)
      | ((with_reducible apply w_ifd); exact rfl; all_goals (intro hc; first | (exfalso; omega) | skip))
      | ((with_reducible apply w_ret (v := .int _ _)); exact rfl))
    exact fr_plain rfl rfl
theorem octRound (a : Int) (h0 : 0 ≤ a) (h1 : a ≤ 1099511627776) (g n m) : Rn Try.prog T 32 [.int .i64 a, .int .i64 16] g n m (fun v g' n' => v = .tuple #[.int .i64 ((a + 15) / 16 * 16), .bool true] ∧ g' = g ∧ n' = n) := by
  refine c_quiet Try.func32 rfl rfl rfl rfl rfl ?_
  repeat' (first
    | ((with_reducible apply g_op); first
      | ((with_reducible apply g_move); first
        | ((with_reducible apply w_pure (v := .int _ _)); exact rfl; exact rfl)
        | ((with_reducible apply w_pure (v := .bool _)); exact rfl; exact rfl))
      | ((with_reducible apply g_bin); first
        | ((with_reducible apply w_mod); exact rfl; exact rfl; exact rfl; exact rfl; exact rfl; omega; omega)
        | ((with_reducible apply w_wrap); exact rfl; exact rfl; first | exact i64_in _ (by omega) | exact u64_in _ (by omega) | exact u8_in _ (by omega))
        | ((with_reducible apply w_pure (v := .bool _)); exact rfl; exact rfl))
      | ((with_reducible apply g_pick); first
        | ((with_reducible apply w_pk0 (v := .bool _)); exact rfl; exact rfl; (first | assumption | exact decide_eq_true (by assumption) | exact decide_eq_false (by assumption) | exact decide_eq_true (by omega) | exact decide_eq_false (by omega) | exact beq_iff_eq.2 (by omega) | exact beq_eq_false_iff_ne.2 (by omega) | exact bne_iff_ne.2 (by omega) | exact bne_eq_false_iff_eq.2 (by omega))))
      | ((with_reducible apply g_assign); first
        | ((with_reducible apply w_pure (v := .int _ _)); exact rfl; exact rfl)
        | ((with_reducible apply w_pure (v := .bool _)); exact rfl; exact rfl)))
    | ((with_reducible apply g_gd); first
      | ((with_reducible apply w_want); exact rfl)
      | ((with_reducible apply w_gd_f); exact rfl; all_goals (intro hc; first | (exfalso; omega) | skip)))
    | with_reducible refine w_seq ?_
    | with_reducible refine w_nil ?_
    | with_reducible refine w_region ?_
    | with_reducible refine w_skip ?_
    | ((with_reducible apply w_ifd); exact rfl; all_goals (intro hc; first | (exfalso; omega) | skip))
    | ((with_reducible apply w_ret (v := .tuple #[.int _ _, .bool _])); exact rfl))
  all_goals refine ⟨rfl, ?_⟩
  all_goals have e : ∀ x y : Int, x = y → Value.tuple #[.int .i64 x, .bool true] = Value.tuple #[.int .i64 y, .bool true] := fun x y h => by rw [h]
  all_goals exact e _ _ (by omega)
/-- How long one is. -/
def szN (a e : List ByteArray) (x : List (Int × Int)) : Nat := (8 * (5 + a.length + e.length + 2 * x.length) + txN a + txN e + 15) / 16 * 16
theorem size_run (a e : List ByteArray) (x : List (Int × Int)) (ha : txN a ≤ 100000) (he : txN e ≤ 100000) (hx : x.length ≤ 100000) : Rf Try.prog T 12 [tv tg a, tv tg e, pv tg x] (fun v => v = .int .i64 (szN a e x : Nat)) := by
  refine c_froz Try.func12 rfl rfl rfl rfl rfl rfl ?_
  intro g n
  have h1 := txN_len a
  have h2 := txN_len e
  repeat' (first
    | ((with_reducible apply g_op); first
      | ((with_reducible apply g_move); first
        | ((with_reducible apply w_pure (v := .int _ _)); exact rfl; exact rfl)
        | ((with_reducible apply w_pure (v := .func _ _ _)); exact rfl; exact rfl))
      | ((with_reducible apply g_bin); first
        | ((with_reducible apply w_wrap); exact rfl; exact rfl; first | exact i64_in _ (by omega) | exact u64_in _ (by omega) | exact u8_in _ (by omega)))
      | ((with_reducible apply g_assign); first
        | ((with_reducible apply w_pure (v := .int _ _)); exact rfl; exact rfl))
      | ((with_reducible apply g_call); first
        | ((with_reducible apply w_call (v := .int _ _)); exact rfl)))
    | with_reducible refine w_seq ?_
    | with_reducible refine w_nil ?_
    | with_reducible refine w_region ?_)
  refine w_rf (texts_run a ha) (fun _ => rfl) (sn_cons (sn_fzp (.inr (by simp)) (all_flat (fun _ => rfl) _)) sn_nil) ?_
  rintro _ rfl
  repeat' (first
    | ((with_reducible apply g_op); first
      | ((with_reducible apply g_move); first
        | ((with_reducible apply w_pure (v := .func _ _ _)); exact rfl; exact rfl))
      | ((with_reducible apply g_bin); first
        | ((with_reducible apply w_wrap); exact rfl; exact rfl; first | exact i64_in _ (by omega) | exact u64_in _ (by omega) | exact u8_in _ (by omega)))))
  refine w_rf (texts_run e he) (fun _ => rfl) (sn_cons (sn_fzp (.inr (by simp)) (all_flat (fun _ => rfl) _)) sn_nil) ?_
  rintro _ rfl
  repeat' (first
    | ((with_reducible apply g_op); first
      | ((with_reducible apply g_bin); first
        | ((with_reducible apply w_wrap); exact rfl; exact rfl; first | exact i64_in _ (by omega) | exact u64_in _ (by omega) | exact u8_in _ (by omega)))))
  refine w_rq (octRound _ (by omega) (by omega) _ _ _) (fun _ => rfl) ?_
  rintro _ rfl
  repeat' (first
    | ((with_reducible apply g_op); first
      | ((with_reducible apply g_move); first
        | ((with_reducible apply w_pure (v := .int _ _)); exact rfl; exact rfl)
        | ((with_reducible apply w_pure (v := .tuple _)); exact rfl; exact rfl))
      | ((with_reducible apply g_assign); first
        | ((with_reducible apply w_pure (v := .int _ _)); exact rfl; exact rfl)
        | ((with_reducible apply w_pure (v := .bool _)); exact rfl; exact rfl))
      | ((with_reducible apply w_pure (v := .int _ _)); exact rfl; exact rfl)
      | ((with_reducible apply w_pure (v := .bool _)); exact rfl; exact rfl))
    | with_reducible refine w_seq ?_
    | with_reducible refine w_nil ?_
    | with_reducible refine w_region ?_
    | ((with_reducible apply w_ret (v := .int _ _)); exact rfl))
  exact fr_plain rfl (congrArg (Value.int .i64) (by unfold szN; omega))
theorem rsize_run (a e : List ByteArray) (x : List (Int × Int)) (ha : txN a ≤ 100000) (he : txN e ≤ 100000) (hx : x.length ≤ 100000) : Rf Try.prog T 13 [tv tg a, tv tg e, pv tg x] (fun v => v = .int .i64 (szN a e x : Nat)) := by
  refine c_froz Try.func13 rfl rfl rfl rfl rfl rfl ?_
  intro g n
  have h1 := txN_len a
  have h2 := txN_len e
  repeat' (first
    | ((with_reducible apply g_op); first
      | ((with_reducible apply g_move); first
        | ((with_reducible apply w_pure (v := .func _ _ _)); exact rfl; exact rfl))
      | ((with_reducible apply g_bin); first
        | ((with_reducible apply w_wrap); exact rfl; exact rfl; first | exact i64_in _ (by omega) | exact u64_in _ (by omega) | exact u8_in _ (by omega)))
      | ((with_reducible apply g_assign); first
        | ((with_reducible apply w_pure (v := .int _ _)); exact rfl; exact rfl))
      | ((with_reducible apply g_call); first
        | ((with_reducible apply w_call (v := .int _ _)); exact rfl)))
    | with_reducible refine w_seq ?_
    | with_reducible refine w_nil ?_
    | with_reducible refine w_region ?_)
  refine w_rf (rtexts_run a ha) (fun _ => rfl) (sn_cons (sn_fzp (.inr (by simp)) (all_flat (fun _ => rfl) _)) sn_nil) ?_
  rintro _ rfl
  repeat' (first
    | ((with_reducible apply g_op); first
      | ((with_reducible apply g_move); first
        | ((with_reducible apply w_pure (v := .func _ _ _)); exact rfl; exact rfl))
      | ((with_reducible apply g_bin); first
        | ((with_reducible apply w_wrap); exact rfl; exact rfl; first | exact i64_in _ (by omega) | exact u64_in _ (by omega) | exact u8_in _ (by omega)))))
  refine w_rf (rtexts_run e he) (fun _ => rfl) (sn_cons (sn_fzp (.inr (by simp)) (all_flat (fun _ => rfl) _)) sn_nil) ?_
  rintro _ rfl
  repeat' (first
    | ((with_reducible apply g_op); first
      | ((with_reducible apply g_move); first
        | ((with_reducible apply w_pure (v := .int _ _)); exact rfl; exact rfl))
      | ((with_reducible apply g_bin); first
        | ((with_reducible apply w_div); exact rfl; exact rfl; exact rfl; exact rfl; exact rfl; omega; omega; omega)
        | ((with_reducible apply w_wrap); exact rfl; exact rfl; first | exact i64_in _ (by omega) | exact u64_in _ (by omega) | exact u8_in _ (by omega)))
      | ((with_reducible apply g_assign); first
        | ((with_reducible apply w_pure (v := .int _ _)); exact rfl; exact rfl)))
    | with_reducible refine w_seq ?_
    | with_reducible refine w_nil ?_
    | with_reducible refine w_region ?_
    | ((with_reducible apply w_ret (v := .int _ _)); exact rfl))
  exact fr_plain rfl (congrArg (Value.int .i64) (by unfold szN; omega))
/-- May pairs be? -/
def prV (x : List (Int × Int)) : Bool := x.all fun p => decide (1 ≤ p.1 ∧ p.1 ≤ 1099511627776 ∧ 0 ≤ p.2 ∧ p.2 ≤ 1099511627776)
def mayV (a e : List ByteArray) (x : List (Int × Int)) : Bool := !has (joinB a) 0 && !has (joinB e) 0 && prV x
theorem join_size : ∀ l : List ByteArray, (joinB l).size + l.length = txN l
  | [] => rfl
  | s :: r => by
    have ih := join_size r
    have e : ∀ l, (joinB l).size = (l.flatMap fun s : ByteArray => s.data.toList).length := fun l => by show (l.flatMap fun s : ByteArray => s.data.toList).toArray.size = _; rw [List.size_toArray]
    rw [e] at ih ⊢
    rw [List.flatMap_cons, List.length_append, size_list, List.length_cons, txN]
    omega
theorem mapM_ts : ∀ l : List ByteArray, (l.flatMap ts).mapM vStr = some l
  | [] => rfl
  | s :: r => by
    show (Value.string s :: r.flatMap ts).mapM vStr = _
    rw [List.mapM_cons, mapM_ts r]; rfl
theorem ts_len (l : List ByteArray) : (l.flatMap ts).length = l.length := by rw [flat_len (enc := ts) (sz := 1) (fun _ => rfl)]; omega
theorem join_at (l : List ByteArray) (hl : txN l ≤ 100000) (H : Hp) : joinExt [tv tg l, .string ⟨#[]⟩] H = some (.returned (.string (joinB l)), H) := by
  have h1 := txN_len l
  have h2 := join_size l
  show ((l.flatMap ts).toArray.toList.mapM vStr).bind _ = _
  rw [show (l.flatMap ts).toArray.toList = l.flatMap ts from rfl, mapM_ts, Option.bind_some, if_pos ⟨rfl, by rw [List.size_toArray, ts_len], by omega, by omega⟩]
theorem has_at {y : ByteArray} {k : Nat} (hk : k < y.size) (h : bt y k = 0) : has y 0 = true := by
  unfold has
  rw [List.any_eq_true]
  have hk' : k < y.data.toList.length := by rw [size_list]; exact hk
  refine ⟨y.data.toList[k], List.getElem_mem _, ?_⟩
  unfold bt at h
  rw [List.getD_eq_getElem?_getD, List.getElem?_eq_getElem hk'] at h
  have h2 : (y.data.toList[k]).toNat = 0 := by simpa using h
  rw [beq_iff_eq]
  exact UInt8.toNat_inj.1 h2
theorem has_not {y : ByteArray} (h : ∀ j, j < y.size → bt y j ≠ 0) : has y 0 = false := by
  unfold has
  rw [List.any_eq_false]
  intro b hb
  obtain ⟨k, hk, rfl⟩ := List.getElem_of_mem hb
  have h1 := h k (by rw [← size_list]; exact hk)
  unfold bt at h1
  rw [List.getD_eq_getElem?_getD, List.getElem?_eq_getElem hk] at h1
  intro e
  rw [beq_iff_eq] at e
  rw [Option.getD_some, e] at h1
  exact h1 rfl
theorem may_run (a e : List ByteArray) (x : List (Int × Int)) (ha : txN a ≤ 100000) (he : txN e ≤ 100000) (hx : x.length ≤ 100000) : Rf Try.prog T 21 [tv tg a, tv tg e, pv tg x] (fun v => v = .bool (mayV a e x)) := by
  refine c_froz Try.func21 rfl rfl rfl rfl rfl rfl ?_
  intro g n
  obtain ⟨R, hR⟩ : ∃ R, mayV a e x = R := ⟨_, rfl⟩
  rw [hR]
  repeat' (first
    | ((with_reducible apply g_op); first
      | ((with_reducible apply g_move); first
        | ((with_reducible apply w_pure (v := .int _ _)); exact rfl; exact rfl)
        | ((with_reducible apply w_pure (v := .func _ _ _)); exact rfl; exact rfl))
      | ((with_reducible apply g_assign); first
        | ((with_reducible apply w_pure (v := .bool _)); exact rfl; exact rfl))
      | ((with_reducible apply g_build); first
        | ((with_reducible apply w_pure (v := .agg #[_, _])); exact rfl; exact rfl)))
    | with_reducible refine w_seq ?_
    | with_reducible refine w_nil ?_
    | with_reducible refine w_region ?_
    | with_reducible refine w_block ?_)
  refine w_rngK [(6, 6), (8, 8), (14, 20)] [a, e] (fun i rest (_ : Unit) σ g' n' => σ 14 = .int .i64 (i : Nat) ∧ g = g' ∧ n = n' ∧ (rest.all (fun l => !has (joinB l) 0) && prV x) = R) ?_ ?_ () ⟨rfl, rfl, rfl, by rw [← hR]; unfold mayV; simp [Bool.and_assoc]⟩
  · rintro i y rest _ σ _ _ hy hlt ⟨k14, rfl, rfl, hgo⟩ ih
    have hlt2 : i < 2 := hlt
    have hy1 : txN y ≤ 100000 := by
      have := List.mem_of_getElem? hy
      simp only [List.mem_cons, List.not_mem_nil, or_false] at this
      rcases this with rfl | rfl <;> assumption
    rw [List.all_cons] at hgo
    refine w_keep (i := 14) k14 ?_
    repeat' (first
      | ((with_reducible apply g_op); first
        | ((with_reducible apply g_bin); first
          | ((with_reducible apply w_pure (v := .bool _)); exact rfl; exact rfl)))
      | with_reducible refine w_seq ?_
      | with_reducible refine w_nil ?_
      | with_reducible refine w_region ?_
      | with_reducible refine w_skip ?_
      | with_reducible refine w_block ?_
      | ((with_reducible apply w_ifd); exact rfl; all_goals (intro hc; first | (exfalso; omega) | skip)))
    refine w_aix (enc := fun l => [tv tg l]) (ls := [a, e]) (sz := 1) (v := tv tg y) rfl rfl rfl rfl rfl rfl (fun _ => rfl) hy hlt2 rfl ?_
    repeat' (first
      | ((with_reducible apply g_op); first
        | ((with_reducible apply g_move); first
          | ((with_reducible apply w_pure (v := .func _ _ _)); exact rfl; exact rfl))
        | ((with_reducible apply g_assign); first
          | ((with_reducible apply w_pure (v := .func _ _ _)); exact rfl; exact rfl)))
      | with_reducible refine w_seq ?_
      | with_reducible refine w_nil ?_
      | with_reducible refine w_region ?_)
    refine w_ext (gx := joinExt) (fun _ => rfl) rfl (join_at y hy1 _) ?_
    refine w_ext (gx := hasExt) (fun _ => rfl) rfl rfl ?_
    cases hh : has (joinB y) 0
    · rw [hh] at hgo
      repeat' (first
        | ((with_reducible apply g_op); first
          | ((with_reducible apply g_move); first
            | ((with_reducible apply w_pure (v := .int _ _)); exact rfl; exact rfl))
          | ((with_reducible apply g_bin); first
            | ((with_reducible apply w_wrap); exact rfl; exact rfl; first | exact i64_in _ (by omega) | exact u64_in _ (by omega) | exact u8_in _ (by omega))))
        | with_reducible refine w_nil ?_
        | with_reducible refine w_region ?_
        | with_reducible refine w_skip ?_
        | with_reducible refine w_blk ?_
        | ((with_reducible apply w_no); exact rfl))
      exact ih () _ _ _ (by repeat' (first | with_reducible exact Fr.mix | with_reducible exact Fr.rfl' | with_reducible refine Fr.put ?_ ?_ | with_reducible refine Fr.mix2 ?_ ?_ | with_reducible refine Fr.put0 ?_ | exact rfl)) ⟨rfl, rfl, rfl, by rw [← hgo]; simp⟩
    · rw [hh] at hgo
      repeat' (first
        | ((with_reducible apply g_op); first
          | ((with_reducible apply g_assign); first
            | ((with_reducible apply w_pure (v := .bool _)); exact rfl; exact rfl)))
        | with_reducible refine w_seq ?_
        | with_reducible refine w_nil ?_
        | with_reducible refine w_region ?_
        | ((with_reducible apply w_yes); exact rfl)
        | ((with_reducible apply w_ret (v := .bool _)); exact rfl))
      exact fr_plain rfl (congrArg Value.bool (by rw [← hgo]; rfl))
  · rintro _ σ _ _ ⟨k14, rfl, rfl, hgo⟩
    rw [List.all_nil, Bool.true_and] at hgo
    have k14' : σ 14 = .int .i64 2 := k14
    clear k14
    have k14 := k14'
    refine w_keep (i := 14) k14 ?_
    repeat' (first
      | ((with_reducible apply g_op); first
        | ((with_reducible apply g_move); first
          | ((with_reducible apply w_pure (v := .int _ _)); exact rfl; exact rfl)
          | ((with_reducible apply w_pure (v := .func _ _ _)); exact rfl; exact rfl))
        | ((with_reducible apply g_bin); first
          | ((with_reducible apply w_pure (v := .bool _)); exact rfl; exact rfl))
        | ((with_reducible apply g_call); first
          | ((with_reducible apply w_call (v := .int _ _)); exact rfl)))
      | with_reducible refine w_seq ?_
      | with_reducible refine w_nil ?_
      | with_reducible refine w_region ?_
      | with_reducible refine w_block ?_
      | ((with_reducible apply w_exit); exact rfl)
      | ((with_reducible apply w_no); exact rfl))
    refine w_rngK [(6, 6), (10, 10), (23, 45)] x (fun i rest (_ : Unit) σ g' n' => σ 23 = .int .i64 (i : Nat) ∧ n ≤ n' ∧ prV rest = R) ?_ ?_ () ⟨rfl, Nat.le_refl _, hgo⟩
    · rintro i ⟨y1, y2⟩ rest _ σ g2 n2 hy hlt ⟨k23, hn, hgo2⟩ ih
      unfold prV at hgo2
      rw [List.all_cons] at hgo2
      dsimp only at hgo2
      refine w_keep (i := 23) k23 ?_
      by_cases hq : 1 ≤ y1 ∧ y1 ≤ 1099511627776 ∧ 0 ≤ y2 ∧ y2 ≤ 1099511627776
      · rw [decide_eq_true hq, Bool.true_and] at hgo2
        repeat' (first
          | ((with_reducible apply g_op); first
            | ((with_reducible apply g_load); first
              | ((with_reducible apply w_fl (v := .agg #[_, _])); exact rfl; exact (fun _ => rfl); assumption; exact rfl)
              | ((with_reducible apply w_load (v := .int _ _)); exact rfl; (first | assumption | (simp (disch := omega) only [upd_same, upd_ne]; first | done | assumption | exact rfl) | exact rfl); exact rfl))
            | ((with_reducible apply g_move); first
              | ((with_reducible apply w_pure (v := .int _ _)); exact rfl; exact rfl)
              | ((with_reducible apply w_pure (v := .bool _)); exact rfl; exact rfl))
            | ((with_reducible apply g_bin); first
              | ((with_reducible apply w_wrap); exact rfl; exact rfl; first | exact i64_in _ (by omega) | exact u64_in _ (by omega) | exact u8_in _ (by omega))
              | ((with_reducible apply w_pure (v := .bool _)); exact rfl; exact rfl))
            | ((with_reducible apply g_fld); first
              | ((with_reducible apply w_fldp (o := 0)); exact rfl; exact rfl; exact rfl; exact (by decide))
              | ((with_reducible apply w_fldp (o := 1)); exact rfl; exact rfl; exact rfl; exact (by decide)))
            | ((with_reducible apply g_pick); first
              | ((with_reducible apply w_pk0 (v := .bool _)); exact rfl; exact rfl; (first | assumption | exact decide_eq_true (by assumption) | exact decide_eq_false (by assumption) | exact decide_eq_true (by omega) | exact decide_eq_false (by omega) | exact beq_iff_eq.2 (by omega) | exact beq_eq_false_iff_ne.2 (by omega) | exact bne_iff_ne.2 (by omega) | exact bne_eq_false_iff_eq.2 (by omega))))
            | ((with_reducible apply g_store); first
              | ((with_reducible apply w_store (us := [_, _]) (ws := [_, _])); exact rfl; exact rfl; (first | assumption | (simp (disch := omega) only [upd_same, upd_ne]; first | done | assumption | exact rfl) | exact rfl); omega; exact rfl; exact rfl; exact rfl))
            | ((with_reducible apply g_ix); first
              | ((with_reducible apply w_fx (sz := 2)); exact rfl; exact rfl; exact rfl; exact rfl; exact rfl; exact (fun _ => rfl); assumption; exact rfl))
            | ((with_reducible apply w_alloc (ls := [_, _])); exact rfl; exact rfl))
          | ((with_reducible apply g_gd); first
            | ((with_reducible apply w_gd_f); exact rfl; all_goals (intro hc; first | (exfalso; omega) | skip)))
          | with_reducible refine w_seq ?_
          | with_reducible refine w_nil ?_
          | with_reducible refine w_region ?_
          | with_reducible refine w_skip ?_
          | with_reducible refine w_block ?_
          | with_reducible refine w_blk ?_
          | ((with_reducible apply w_ifd); exact rfl; all_goals (intro hc; first | (exfalso; omega) | skip)))
        all_goals first | (exfalso; omega) | skip
        all_goals exact ih () _ _ _ (by repeat' (first | with_reducible exact Fr.mix | with_reducible exact Fr.rfl' | with_reducible refine Fr.put ?_ ?_ | with_reducible refine Fr.mix2 ?_ ?_ | with_reducible refine Fr.put0 ?_ | exact rfl)) ⟨rfl, by omega, hgo2⟩
      · rw [decide_eq_false hq, Bool.false_and] at hgo2
        subst hgo2
        repeat' (first
          | ((with_reducible apply g_op); first
            | ((with_reducible apply g_load); first
              | ((with_reducible apply w_fl (v := .agg #[_, _])); exact rfl; exact (fun _ => rfl); assumption; exact rfl)
              | ((with_reducible apply w_load (v := .int _ _)); exact rfl; (first | assumption | (simp (disch := omega) only [upd_same, upd_ne]; first | done | assumption | exact rfl) | exact rfl); exact rfl))
            | ((with_reducible apply g_move); first
              | ((with_reducible apply w_pure (v := .bool _)); exact rfl; exact rfl))
            | ((with_reducible apply g_bin); first
              | ((with_reducible apply w_pure (v := .bool _)); exact rfl; exact rfl))
            | ((with_reducible apply g_fld); first
              | ((with_reducible apply w_fldp (o := 0)); exact rfl; exact rfl; exact rfl; exact (by decide))
              | ((with_reducible apply w_fldp (o := 1)); exact rfl; exact rfl; exact rfl; exact (by decide)))
            | ((with_reducible apply g_pick); first
              | ((with_reducible apply w_pk1 (v := .bool _)); exact rfl; exact rfl; (first | assumption | exact decide_eq_true (by assumption) | exact decide_eq_false (by assumption) | exact decide_eq_true (by omega) | exact decide_eq_false (by omega) | exact beq_iff_eq.2 (by omega) | exact beq_eq_false_iff_ne.2 (by omega) | exact bne_iff_ne.2 (by omega) | exact bne_eq_false_iff_eq.2 (by omega)))
              | ((with_reducible apply w_pk0 (v := .bool _)); exact rfl; exact rfl; (first | assumption | exact decide_eq_true (by assumption) | exact decide_eq_false (by assumption) | exact decide_eq_true (by omega) | exact decide_eq_false (by omega) | exact beq_iff_eq.2 (by omega) | exact beq_eq_false_iff_ne.2 (by omega) | exact bne_iff_ne.2 (by omega) | exact bne_eq_false_iff_eq.2 (by omega))))
            | ((with_reducible apply g_assign); first
              | ((with_reducible apply w_pure (v := .bool _)); exact rfl; exact rfl))
            | ((with_reducible apply g_store); first
              | ((with_reducible apply w_store (us := [_, _]) (ws := [_, _])); exact rfl; exact rfl; (first | assumption | (simp (disch := omega) only [upd_same, upd_ne]; first | done | assumption | exact rfl) | exact rfl); omega; exact rfl; exact rfl; exact rfl))
            | ((with_reducible apply g_ix); first
              | ((with_reducible apply w_fx (sz := 2)); exact rfl; exact rfl; exact rfl; exact rfl; exact rfl; exact (fun _ => rfl); assumption; exact rfl))
            | ((with_reducible apply w_alloc (ls := [_, _])); exact rfl; exact rfl)
            | ((with_reducible apply w_pure (v := .bool _)); exact rfl; exact rfl))
          | ((with_reducible apply g_gd); first
            | ((with_reducible apply w_pass); exact rfl)
            | ((with_reducible apply w_gd_f); exact rfl; all_goals (intro hc; first | (exfalso; omega) | skip)))
          | with_reducible refine w_seq ?_
          | with_reducible refine w_nil ?_
          | with_reducible refine w_region ?_
          | with_reducible refine w_skip ?_
          | with_reducible refine w_block ?_
          | ((with_reducible apply w_yes); exact rfl)
          | ((with_reducible apply w_ifd); exact rfl; all_goals (intro hc; first | (exfalso; omega) | skip))
          | ((with_reducible apply w_ret (v := .bool _)); exact rfl))
        all_goals first | (exfalso; omega) | skip
        all_goals exact fr_plain rfl rfl
    · rintro _ σ g2 n2 ⟨k23, hn, hgo2⟩
      refine w_keep (i := 23) k23 ?_
      repeat' (first
        | ((with_reducible apply g_op); first
          | ((with_reducible apply g_bin); first
            | ((with_reducible apply w_pure (v := .bool _)); exact rfl; exact rfl))
          | ((with_reducible apply g_assign); first
            | ((with_reducible apply w_pure (v := .bool _)); exact rfl; exact rfl)))
        | with_reducible refine w_seq ?_
        | with_reducible refine w_nil ?_
        | with_reducible refine w_region ?_
        | ((with_reducible apply w_exit); exact rfl)
        | ((with_reducible apply w_ifd); exact rfl; all_goals (intro hc; first | (exfalso; omega) | skip))
        | ((with_reducible apply w_ret (v := .bool _)); exact rfl))
      exact fr_plain rfl (congrArg Value.bool (by rw [← hgo2]; rfl))
theorem has_any (c : UInt8) (s : ByteArray) : has s c = s.data.toList.any (· == c) := rfl
theorem has_join : ∀ l : List ByteArray, has (joinB l) 0 = l.any fun s => has s 0
  | [] => rfl
  | s :: r => by
    have ih := has_join r
    unfold has joinB at ih ⊢
    rw [List.flatMap_cons, List.any_cons]
    show List.any (_ ++ _) _ = _
    rw [List.any_append, ← ih]
theorem rplain_run (l : List ByteArray) (hl : txN l ≤ 100000) : Rf Try.prog T 29 [tv tg l] (fun v => v = .bool (!has (joinB l) 0)) := by
  refine c_froz Try.func29 rfl rfl rfl rfl rfl rfl ?_
  intro g n
  obtain ⟨R, hR⟩ : ∃ R, (!has (joinB l) 0) = R := ⟨_, rfl⟩
  rw [hR]
  rw [has_join] at hR
  have hln := txN_len l
  repeat' (first
    | ((with_reducible apply g_op); first
      | ((with_reducible apply g_assign); first
        | ((with_reducible apply w_pure (v := .int _ _)); exact rfl; exact rfl)
        | ((with_reducible apply w_pure (v := .bool _)); exact rfl; exact rfl)))
    | with_reducible refine w_seq ?_
    | with_reducible refine w_nil ?_
    | with_reducible refine w_region ?_
    | with_reducible refine w_block ?_)
  refine w_rngK [(2, 26)] l (fun i rest (_ : Unit) σ g' n' => σ 3 = .int .i64 (i : Nat) ∧ g = g' ∧ n = n' ∧ (!rest.any fun s => has s 0) = R) ?_ ?_ () ⟨rfl, rfl, rfl, hR⟩
  · rintro i y rest _ σ _ _ hy hlt ⟨k3, rfl, rfl, hgo⟩ ih
    have hys : y.size ≤ 100000 := by
      have h1 := txN_take l i y hy
      have h2 := txN_le l (i + 1)
      omega
    rw [List.any_cons] at hgo
    have hy' : l[((i : Int)).toNat]? = some y := hy
    refine w_keep (i := 3) k3 ?_
    repeat' (first
      | ((with_reducible apply g_op); first
        | ((with_reducible apply g_move); first
          | ((with_reducible apply w_pure (v := .int _ _)); exact rfl; exact rfl)
          | ((with_reducible apply w_pure (v := .func _ _ _)); exact rfl; exact rfl))
        | ((with_reducible apply g_bin); first
          | ((with_reducible apply w_pure (v := .bool _)); exact rfl; exact rfl))
        | ((with_reducible apply g_call); first
          | ((with_reducible apply w_call (v := .int _ _)); exact rfl)))
      | with_reducible refine w_seq ?_
      | with_reducible refine w_nil ?_
      | with_reducible refine w_region ?_
      | with_reducible refine w_skip ?_
      | ((with_reducible apply w_ifd); exact rfl; all_goals (intro hc; first | (exfalso; omega) | skip)))
    refine w_block ?_
    repeat' (first
      | ((with_reducible apply g_op); first
        | ((with_reducible apply g_assign); first
          | ((with_reducible apply w_pure (v := .int _ _)); exact rfl; exact rfl)))
      | with_reducible refine w_seq ?_
      | with_reducible refine w_nil ?_
      | with_reducible refine w_region ?_)
    refine w_block ?_
    refine w_cntK [(2, 2), (4, 4), (11, 26)] y.size (fun k (_ : Unit) σ g' n' => σ 4 = .int .i64 (k : Nat) ∧ g = g' ∧ n = n' ∧ ∀ j, j < k → bt y j ≠ 0) ?_ ?_ () ⟨rfl, rfl, rfl, fun j hj => absurd hj (Nat.not_lt_zero _)⟩
    · rintro k _ σ3 _ _ hk ⟨k4, rfl, rfl, hno⟩ ih2
      refine w_keep (i := 4) k4 ?_
      repeat' (first
        | ((with_reducible apply g_op); first
          | ((with_reducible apply g_load); first
            | ((with_reducible apply w_fl (v := .string _)); exact rfl; exact (fun _ => rfl); assumption; exact rfl))
          | ((with_reducible apply g_move); first
            | ((with_reducible apply w_pure (v := .int _ _)); exact rfl; exact rfl)
            | ((with_reducible apply w_pure (v := .func _ _ _)); exact rfl; exact rfl))
          | ((with_reducible apply g_bin); first
            | ((with_reducible apply w_wrap); exact rfl; exact rfl; first | exact i64_in _ (by omega) | exact u64_in _ (by omega) | exact u8_in _ (by omega))
            | ((with_reducible apply w_pure (v := .bool _)); exact rfl; exact rfl))
          | ((with_reducible apply g_assign); first
            | ((with_reducible apply w_pure (v := .int _ _)); exact rfl; exact rfl)
            | ((with_reducible apply w_pure (v := .bool _)); exact rfl; exact rfl))
          | ((with_reducible apply g_call); first
            | ((with_reducible apply w_call (v := .int _ _)); exact rfl))
          | ((with_reducible apply w_sidx); exact rfl; exact rfl; exact rfl; omega; omega)
          | ((with_reducible apply g_ix); first
            | ((with_reducible apply w_fx (sz := 1)); exact rfl; exact rfl; exact rfl; exact rfl; exact rfl; exact (fun _ => rfl); assumption; exact rfl)))
        | with_reducible refine w_seq ?_
        | with_reducible refine w_nil ?_
        | with_reducible refine w_region ?_
        | with_reducible refine w_skip ?_
        | with_reducible refine w_block ?_
        | with_reducible refine w_blk ?_
        | ((with_reducible apply w_ifd); exact rfl; all_goals (intro hc; first | (exfalso; omega) | skip))
        | ((with_reducible apply w_ret (v := .bool _)); exact rfl))
      · have h1 : has y 0 = true := has_at hk hc
        rw [h1] at hgo
        exact fr_plain rfl (congrArg Value.bool (by rw [← hgo]; rfl))
      · exact ih2 () _ _ _ (by repeat' (first | with_reducible exact Fr.mix | with_reducible exact Fr.rfl' | with_reducible refine Fr.put ?_ ?_ | with_reducible refine Fr.mix2 ?_ ?_ | with_reducible refine Fr.put0 ?_ | exact rfl)) ⟨rfl, rfl, rfl, fun j hj => by
          by_cases e : j = k
          · subst e; exact hc
          · exact hno j (by omega)⟩
    · rintro _ σ3 _ _ ⟨k4, rfl, rfl, hno⟩
      have h1 : has y 0 = false := has_not hno
      rw [h1, Bool.false_or] at hgo
      refine w_keep (i := 4) k4 ?_
      repeat' (first
        | ((with_reducible apply g_op); first
          | ((with_reducible apply g_load); first
            | ((with_reducible apply w_fl (v := .string _)); exact rfl; exact (fun _ => rfl); assumption; exact rfl))
          | ((with_reducible apply g_move); first
            | ((with_reducible apply w_pure (v := .int _ _)); exact rfl; exact rfl)
            | ((with_reducible apply w_pure (v := .func _ _ _)); exact rfl; exact rfl))
          | ((with_reducible apply g_bin); first
            | ((with_reducible apply w_wrap); exact rfl; exact rfl; first | exact i64_in _ (by omega) | exact u64_in _ (by omega) | exact u8_in _ (by omega))
            | ((with_reducible apply w_pure (v := .bool _)); exact rfl; exact rfl))
          | ((with_reducible apply g_assign); first
            | ((with_reducible apply w_pure (v := .int _ _)); exact rfl; exact rfl))
          | ((with_reducible apply g_call); first
            | ((with_reducible apply w_call (v := .int _ _)); exact rfl))
          | ((with_reducible apply g_ix); first
            | ((with_reducible apply w_fx (sz := 1)); exact rfl; exact rfl; exact rfl; exact rfl; exact rfl; exact (fun _ => rfl); assumption; exact rfl)))
        | with_reducible refine w_seq ?_
        | with_reducible refine w_nil ?_
        | with_reducible refine w_region ?_
        | with_reducible refine w_blk ?_
        | ((with_reducible apply w_exit); exact rfl)
        | ((with_reducible apply w_ifd); exact rfl; all_goals (intro hc; first | (exfalso; omega) | skip)))
      exact ih () _ _ _ (by repeat' (first | with_reducible exact Fr.mix | with_reducible exact Fr.rfl' | with_reducible refine Fr.put ?_ ?_ | with_reducible refine Fr.mix2 ?_ ?_ | with_reducible refine Fr.put0 ?_ | exact rfl)) ⟨rfl, rfl, rfl, hgo⟩
  · rintro _ σ _ _ ⟨k3, rfl, rfl, hgo⟩
    refine w_keep (i := 3) k3 ?_
    repeat' (first
      | ((with_reducible apply g_op); first
        | ((with_reducible apply g_move); first
          | ((with_reducible apply w_pure (v := .int _ _)); exact rfl; exact rfl)
          | ((with_reducible apply w_pure (v := .func _ _ _)); exact rfl; exact rfl))
        | ((with_reducible apply g_bin); first
          | ((with_reducible apply w_pure (v := .bool _)); exact rfl; exact rfl))
        | ((with_reducible apply g_assign); first
          | ((with_reducible apply w_pure (v := .bool _)); exact rfl; exact rfl))
        | ((with_reducible apply g_call); first
          | ((with_reducible apply w_call (v := .int _ _)); exact rfl)))
      | with_reducible refine w_seq ?_
      | with_reducible refine w_nil ?_
      | with_reducible refine w_region ?_
      | ((with_reducible apply w_exit); exact rfl)
      | ((with_reducible apply w_ifd); exact rfl; all_goals (intro hc; first | (exfalso; omega) | skip))
      | ((with_reducible apply w_ret (v := .bool _)); exact rfl))
    exact fr_plain rfl (congrArg Value.bool (by rw [← hgo]; rfl))
end Stk
end Go.Proofs.Ytkpofbkedolhnaa.L

