/- The example; where a stack is built. -/
import Derived.Test.Ytkpofbkedolhnaac17B
namespace Go.Proofs.Ytkpofbkedolhnaa.L
open Go.L1 Go.IntWalk
set_option linter.unusedVariables false
set_option linter.unusedSimpArgs false
set_option maxHeartbeats 4000000
set_option maxRecDepth 20000
namespace Stk
open Oct
theorem szN_ge (a e : List ByteArray) (x : List (Int × Int)) : txN (a ++ e) ≤ szN a e x := by rw [txN_app]; unfold szN; omega
theorem buildV_ok (top : Int) (a e : List ByteArray) (x : List (Int × Int)) (h0 : 0 ≤ top ∧ top ≤ 262144 ∧ top % 16 = 0) (hm : mayV a e x = true) (hs : szN a e x ≤ 1024 ∧ (szN a e x : Int) ≤ top) :
    ∃ S, S.size = szN a e x ∧ buildV top a e x = (top - szN a e x, S, 0) ∧ S = fillV (oct8 (numsL top a e x)) ((szN a e x : Int) - txN (a ++ e)) ++ eB (a ++ e) := by
  have hg := szN_ge a e x
  refine ⟨_, ?_, ?_, rfl⟩
  · rw [ByteArray.size_append, fillV_size, eB_size]; omega
  · unfold buildV
    rw [if_neg, if_neg (by omega)]
    rintro (q | q | q | q)
    · omega
    · omega
    · omega
    · rw [hm] at q; cases q
theorem buildV_big (top : Int) (a e : List ByteArray) (x : List (Int × Int)) (h0 : 0 ≤ top ∧ top ≤ 262144 ∧ top % 16 = 0) (hm : mayV a e x = true) (hs : 1024 < szN a e x ∨ top < (szN a e x : Int)) : buildV top a e x = (0, ⟨#[]⟩, 11) := by
  unfold buildV
  rw [if_neg, if_pos (by omega)]
  rintro (q | q | q | q)
  · omega
  · omega
  · omega
  · rw [hm] at q; cases q
def aB : ByteArray := ⟨#[97]⟩
theorem may_a : mayV [aB] [] [] = true := by decide +kernel
theorem sz_a : szN [aB] [] [] = 64 := by decide +kernel
theorem tx_a : txN [aB] = 2 := by decide +kernel
theorem awake_run : Rf Try.prog T 8 [] (fun v => v = .bool true) := by
  refine c_froz Try.func8 rfl rfl rfl rfl rfl rfl ?_
  intro g n
  obtain ⟨S, hS1, hS2, -⟩ := buildV_ok 4096 [aB] [] [] (by decide) may_a (by rw [sz_a]; decide)
  rw [sz_a] at hS1 hS2
  repeat' (first
    | ((with_reducible apply g_op); first
      | ((with_reducible apply g_assign); first
        | ((with_reducible apply w_pure (v := .bool _)); exact rfl; exact rfl))
      | ((with_reducible apply w_bsl (ls := [_])); exact rfl; exact rfl; exact rfl; exact ⟨by decide, rfl⟩; exact rfl))
    | with_reducible refine w_seq ?_
    | with_reducible refine w_nil ?_
    | with_reducible refine w_region ?_)
  refine w_rf (build_run 4096 [aB] [] [] (by rw [tx_a]; decide) (by decide) (by decide)) (fun _ => rfl) (sn_cons (sn_plain rfl) (sn_cons (sn_row (sz := 1) (l := [_]) upd_same (Nat.zero_le _) (by kernel_rfl) (by decide) rfl (sn_plains rfl)) (sn_cons sn_none (sn_cons sn_none sn_nil)))) ?_
  rintro _ rfl
  rw [hS2]
  dsimp only
  repeat' (first
    | ((with_reducible apply g_op); first
      | ((with_reducible apply g_move); first
        | ((with_reducible apply w_pure (v := .int _ _)); exact rfl; exact rfl)
        | ((with_reducible apply w_pure (v := .bool _)); exact rfl; exact rfl)
        | ((with_reducible apply w_pure (v := .string _)); exact rfl; exact rfl)
        | ((with_reducible apply w_pure (v := .tuple _)); exact rfl; exact rfl))
      | ((with_reducible apply g_bin); first
        | ((with_reducible apply w_pure (v := .bool _)); exact rfl; exact rfl))
      | ((with_reducible apply g_pick); first
        | ((with_reducible apply w_pk1 (v := .bool _)); exact rfl; exact rfl; (first | assumption | exact decide_eq_true (by assumption) | exact decide_eq_false (by assumption) | exact decide_eq_true (by omega) | exact decide_eq_false (by omega) | exact beq_iff_eq.2 (by omega) | exact beq_eq_false_iff_ne.2 (by omega) | exact bne_iff_ne.2 (by omega) | exact bne_eq_false_iff_eq.2 (by omega))))
      | ((with_reducible apply g_assign); first
        | ((with_reducible apply w_pure (v := .int _ _)); exact rfl; exact rfl)
        | ((with_reducible apply w_pure (v := .bool _)); exact rfl; exact rfl)
        | ((with_reducible apply w_pure (v := .string _)); exact rfl; exact rfl))
      | ((with_reducible apply g_call); first
        | ((with_reducible apply w_call (v := .int _ _)); exact rfl))
      | ((with_reducible apply w_pure (v := .int _ _)); exact rfl; exact rfl)
      | ((with_reducible apply w_pure (v := .string _)); exact rfl; exact rfl))
    | ((with_reducible apply g_gd); first
      | ((with_reducible apply w_want); exact rfl)
      | ((with_reducible apply w_gd_t); exact rfl; all_goals (intro hc; first | (exfalso; omega) | skip)))
    | with_reducible refine w_seq ?_
    | with_reducible refine w_nil ?_
    | with_reducible refine w_region ?_
    | ((with_reducible apply w_ret (v := .bool _)); exact rfl))
  all_goals first | (exfalso; omega) | skip
  all_goals exact fr_plain rfl (by first | rfl | (rw [hS1]; rfl))
theorem rest (x k : Int) (hk : 0 < k) (hk2 : k ≤ 1000) : ∃ n : Nat, (IntKind.i64.wrap (x.tmod k + k)).tmod k = n ∧ (n : Int) < k := by
  have h1 : -k < x.tmod k ∧ x.tmod k < k := by
    refine ⟨?_, Int.tmod_lt_of_pos x hk⟩
    rcases Int.le_total 0 x with h | h
    · have := Int.tmod_nonneg k h; omega
    · have := Int.tmod_lt_of_pos (-x) hk
      rw [Int.neg_tmod] at this
      omega
  rw [i64_in _ (by omega)]
  have h2 := Int.tmod_nonneg k (show 0 ≤ x.tmod k + k by omega)
  have h3 := Int.tmod_lt_of_pos (x.tmod k + k) hk
  exact ⟨((x.tmod k + k).tmod k).toNat, by omega, by omega⟩
def raOf (o : Option Nat) : Option Addr := match o with | none => none | some i => some ⟨i, 0, none⟩
theorem own_ov {α : Type} {e : TypeId} {enc : α → List Value} {g : Nat → Option Ob} {lo n : Nat} {o : Option Nat} {l : List α} (h : Own g lo n e enc o l) : ov o l.length = .slice (raOf o) l.length l.length := by
  cases o with
  | none => have : l = [] := h; subst this; rfl
  | some i => rfl
theorem own_row {α : Type} {e : TypeId} {enc : α → List Value} {g : Nat → Option Ob} {lo n : Nat} {o : Option Nat} {l : List α} (h : Own g lo n e enc o l) : Row g (raOf o) e (l.flatMap enc) := by
  cases o with
  | none => have : l = [] := h; subst this; exact .inl rfl
  | some i => exact .inr ⟨i, 0, _, rfl, h.2.2.2, by rw [Nat.zero_add]; exact Nat.le_refl _, by rw [List.drop_zero, List.take_length]⟩
theorem own_none {α : Type} {e : TypeId} {enc : α → List Value} {g : Nat → Option Ob} {lo n : Nat} {l : List α} (h : Own g lo n e enc none l) : l = [] := h
/-- A row of one's own, as it is handed to a function. -/
theorem own_tv {g : Nat → Option Ob} {lo n : Nat} {o : Option Nat} {l : List ByteArray} (h : Own g lo n 9 ts o l) : L1.freeze Try.prog g tg 0 9 (.slice (raOf o) l.length l.length) = some (tv tg l) := by
  have := h.fz (P := Try.prog) (k := 7) (tg := tg) (lo' := 0) (by omega) rfl (by decide) (fun _ => rfl) (sn_plains (all_flat (fun _ => rfl) _))
  rw [own_ov h] at this
  exact this
theorem may_texts (l : List ByteArray) (h : ∀ s ∈ l, has s 0 = false) : mayV l [] [] = true := by
  unfold mayV
  rw [has_join l, has_join []]
  have : (l.any fun s => has s 0) = false := by
    rw [List.any_eq_false]
    intro s hs
    rw [h s hs]
    decide
  rw [this]
  rfl
end Stk
end Go.Proofs.Ytkpofbkedolhnaa.L

