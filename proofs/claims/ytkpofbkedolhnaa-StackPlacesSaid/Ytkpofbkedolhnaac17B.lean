/- Two builders beside each other; a stack's numbers and texts. -/
import Derived.Test.Ytkpofbkedolhnaac17A
import Derived.Test.Ytkpofbkedolhnaabld
import Derived.Test.YtkpofbkedolhnaaoctF
namespace Go.Proofs.Ytkpofbkedolhnaa.L
open Go.L1 Go.IntWalk
set_option linter.unusedVariables false
set_option linter.unusedSimpArgs false
set_option maxHeartbeats 4000000
set_option maxRecDepth 20000
namespace Stk
open Oct
theorem ba_assoc (a b c : ByteArray) : a ++ b ++ c = a ++ (b ++ c) := ba_ext (by simp only [data_app, List.append_assoc])
/-- Two builders, at c and d. -/
def Two (g : Nat → Option Ob) (c d n m : Nat) (s t : ByteArray) : Prop := c ≠ d ∧ ∃ o p, Bl.BS g c n m o s ∧ Bl.BS g d n m p t ∧ o ≠ some d ∧ p ≠ some c ∧ (o = none ∨ o ≠ p)
theorem Two.swap {g : Nat → Option Ob} {c d n m : Nat} {s t : ByteArray} (h : Two g c d n m s t) : Two g d c n m t s := by
  obtain ⟨h0, o, p, h1, h2, h3, h4, h5⟩ := h
  refine ⟨Ne.symm h0, p, o, h2, h1, h4, h3, ?_⟩
  rcases h5 with h5 | h5
  · subst h5
    cases p with
    | none => exact .inl rfl
    | some i => exact .inr (fun e => by cases e)
  · exact .inr (Ne.symm h5)
theorem Two.new {g : Nat → Option Ob} {n m : Nat} (hm : m ≤ n) : Two (upd (upd g n (some (.cells 60 [.pointer none, .slice none 0 0]))) (n + 1) (some (.cells 60 [.pointer none, .slice none 0 0]))) n (n + 1) (n + 2) m ⟨#[]⟩ ⟨#[]⟩ :=
  ⟨by omega, none, none, (Bl.BS.new hm).later (by omega) (fun j hj => upd_ne (by omega)), Bl.BS.new (by omega), by simp, by simp, .inl rfl⟩
theorem Two.later {g g' : Nat → Option Ob} {c d n n' m : Nat} {s t : ByteArray} (h : Two g c d n m s t) (hn : n ≤ n') (hg : ∀ j, j < n → g' j = g j) : Two g' c d n' m s t := by
  obtain ⟨h0, o, p, h1, h2, h3⟩ := h
  exact ⟨h0, o, p, h1.later hn hg, h2.later hn hg, h3⟩
/-- What is neither a builder's row nor the builder stays. -/
def Stays (g g' : Nat → Option Ob) (n c : Nat) : Prop := ∀ (j : Nat) (e : TypeId) (vs : List Value), j < n → j ≠ c → e ≠ 5 → g j = some (.cells e vs) → g' j = some (.cells e vs)
theorem Two.write {g : Nat → Option Ob} {c d n m : Nat} {s t u : ByteArray} (h : Two g c d n m s t) (hl : s.size + u.size ≤ 140737488355328) : Rn Try.prog T 23 [ptr c 0, .string u] g n m (fun v g' n' => v = .tuple #[.int .i64 u.size, .nilIface] ∧ Two g' c d n' m (s ++ u) t ∧ n ≤ n' ∧ Stays g g' n c) := by
  obtain ⟨h0, o, p, h1, h2, h3, h4, h5⟩ := h
  refine (Bl.write_run u s o g c n m h1 hl).mono fun v g' n' ⟨o', q1, q2, q3, q4, q5⟩ => ⟨q1, ⟨h0, o', p, q2, h2.same q4 (fun j hj => ?_), ?_, h4, ?_⟩, q4, fun j e vs a1 a2 a3 a4 => ?_⟩
  · have hdn := h2.1
    rcases hj with rfl | hj
    · exact q5 _ hdn (Ne.symm h0) (Ne.symm h3)
    · subst hj
      refine q5 j h2.2.2.2.2.2.1 (fun e => h4 (by rw [e])) (fun e => ?_)
      rcases h5 with h5 | h5
      · rw [h5] at e; cases e
      · exact h5 e.symm
  · rcases q3 with rfl | ⟨k, rfl, hk⟩
    · exact h3
    · intro e; cases e; have := h2.1; omega
  · rcases q3 with rfl | ⟨k, rfl, hk⟩
    · exact h5
    · refine .inr (fun e => ?_)
      subst e
      have h7 : k < n := h2.2.2.2.2.2.1
      omega
  · refine (q5 j a1 a2 (fun e2 => ?_)).trans a4
    subst e2
    have h7 : g j = _ := h1.2.2.2.2.2.2.2
    rw [h7] at a4
    cases a4
    exact a3 rfl
theorem len_run {g : Nat → Option Ob} {c n m : Nat} {o : Option Nat} {s : ByteArray} (h : Bl.BS g c n m o s) : Rn Try.prog T 26 [ptr c 0] g n m (fun v g' n' => v = .int .i64 s.size ∧ g' = g ∧ n' = n) := by
  refine c_open Try.func26 rfl rfl rfl rfl rfl rfl ?_
  cases o with
  | none =>
    obtain ⟨hcn, hmc, rfl, a, ha, hg⟩ := h
    repeat' (first
      | ((with_reducible apply g_op); first
        | ((with_reducible apply g_load); first
          | ((with_reducible apply w_load (v := .slice _ _ _)); exact rfl; (first | assumption | (simp (disch := omega) only [upd_same, upd_ne]; first | done | assumption | exact rfl) | exact rfl); exact rfl))
        | ((with_reducible apply g_move); first
          | ((with_reducible apply w_pure (v := .pointer _)); exact rfl; exact rfl))
        | ((with_reducible apply g_fld); first
          | ((with_reducible apply w_fldp (o := 1)); exact rfl; exact rfl; exact rfl; exact (by decide)))
        | ((with_reducible apply g_assign); first
          | ((with_reducible apply w_pure (v := .int _ _)); exact rfl; exact rfl))
        | ((with_reducible apply g_call); first
          | ((with_reducible apply w_call (v := .int _ _)); exact rfl))
        | ((with_reducible apply w_pure (v := .pointer _)); exact rfl; exact rfl))
      | with_reducible refine w_seq ?_
      | with_reducible refine w_nil ?_
      | with_reducible refine w_region ?_
      | ((with_reducible apply w_ret (v := .int _ _)); exact rfl))
    exact ⟨rfl, rfl, rfl⟩
  | some i =>
    obtain ⟨hcn, hmc, hb0, hic, hmi, hin, hgc, hgi⟩ := h
    repeat' (first
      | ((with_reducible apply g_op); first
        | ((with_reducible apply g_load); first
          | ((with_reducible apply w_load (v := .slice _ _ _)); exact rfl; (first | assumption | (simp (disch := omega) only [upd_same, upd_ne]; first | done | assumption | exact rfl) | exact rfl); exact rfl))
        | ((with_reducible apply g_move); first
          | ((with_reducible apply w_pure (v := .pointer _)); exact rfl; exact rfl))
        | ((with_reducible apply g_fld); first
          | ((with_reducible apply w_fldp (o := 1)); exact rfl; exact rfl; exact rfl; exact (by decide)))
        | ((with_reducible apply g_assign); first
          | ((with_reducible apply w_pure (v := .int _ _)); exact rfl; exact rfl))
        | ((with_reducible apply g_call); first
          | ((with_reducible apply w_call (v := .int _ _)); exact rfl))
        | ((with_reducible apply w_pure (v := .pointer _)); exact rfl; exact rfl))
      | with_reducible refine w_seq ?_
      | with_reducible refine w_nil ?_
      | with_reducible refine w_region ?_
      | ((with_reducible apply w_ret (v := .int _ _)); exact rfl))
    exact ⟨rfl, rfl, rfl⟩
theorem Two.len {g : Nat → Option Ob} {c d n m : Nat} {s t : ByteArray} (h : Two g c d n m s t) : Rn Try.prog T 26 [ptr d 0] g n m (fun v g' n' => v = .int .i64 t.size ∧ g' = g ∧ n' = n) := by
  obtain ⟨h0, o, p, h1, h2, h3⟩ := h
  exact len_run h2
theorem Two.string {g : Nat → Option Ob} {c d n m : Nat} {s t : ByteArray} (h : Two g c d n m s t) (hl : s.size ≤ 140737488355328) : Rn Try.prog T 28 [ptr c 0] g n m (fun v g' n' => v = .string s ∧ n' = n ∧ ∃ p, Bl.BS g' d n m p t) := by
  obtain ⟨h0, o, p, h1, h2, h3, h4, h5⟩ := h
  refine (Bl.string_run s o g c n m h1 hl).mono fun v g' n' ⟨q1, q2, q3⟩ => ⟨q1, q2, p, h2.same (Nat.le_refl _) (fun j hj => q3 j ?_)⟩
  rcases hj with rfl | hj
  · exact Ne.symm h3
  · subst hj
    intro e
    rcases h5 with h5 | h5
    · rw [h5] at e; cases e
    · exact h5 e.symm
theorem put_run {g : Nat → Option Ob} {c d n m : Nat} {s t : ByteArray} (x : Int) (hx : 0 ≤ x ∧ x ≤ 9223372036854775807) (h : Two g c d n m s t) (hl : s.size ≤ 100000000) : Rn Try.prog T 22 [.int .i64 x, ptr c 0] g n m (fun _ g' n' => Two g' c d n' m (s ++ putB x 8) t ∧ n ≤ n' ∧ Stays g g' n c) := by
  refine c_open Try.func22 rfl rfl rfl rfl rfl rfl ?_
  have hz := putB_size x 8
  repeat' (first
    | ((with_reducible apply g_op); first
      | ((with_reducible apply g_move); first
        | ((with_reducible apply w_pure (v := .int _ _)); exact rfl; exact rfl))
      | ((with_reducible apply w_conv); exact rfl; exact rfl; exact rfl; first | exact i64_in _ (by omega) | exact u64_in _ (by omega) | exact u8_in _ (by omega) | exact u32_in _ (by omega)))
    | with_reducible refine w_region ?_)
  refine w_rq (Oct.put_run x 8 hx.1 _ _ _) (fun _ => rfl) ?_
  rintro _ rfl
  rw [show wid 8 = 8 from rfl]
  repeat' (first
    | fail)
  refine w_rn (h.write (u := putB x 8) (by omega)) (fun _ => rfl) ?_
  rintro _ g' n' ⟨rfl, h1, h2, h3⟩
  repeat' (first
    | with_reducible refine w_nil ?_
    | ((with_reducible apply w_end (v := .tuple #[])); exact rfl))
  exact ⟨h1, h2, h3⟩
/-- Numbers of eight bytes, one behind the other. -/
def oct8 (l : List Int) : ByteArray := l.foldl (fun b n => b ++ putB n 8) ⟨#[]⟩
theorem oct8_snoc (l : List Int) (n : Int) : oct8 (l ++ [n]) = oct8 l ++ putB n 8 := by unfold oct8; rw [List.foldl_append]; rfl
theorem oct8_size (l : List Int) : (oct8 l).size = 8 * l.length := by
  suffices H : ∀ (l : List Int) (b : ByteArray), (l.foldl (fun b n => b ++ putB n 8) b).size = b.size + 8 * l.length from by have := H l ⟨#[]⟩; unfold oct8; rw [this]; exact Nat.zero_add _
  intro l
  induction l with
  | nil => intro b; simp
  | cons e l ih => intro b; rw [List.foldl_cons, ih, ByteArray.size_append, putB_size, List.length_cons]; omega
def zB : ByteArray := ⟨#[0]⟩
/-- Texts, each with a byte 0 behind. -/
def eB (l : List ByteArray) : ByteArray := l.foldl (fun b s => b ++ s ++ zB) ⟨#[]⟩
theorem eB_snoc (l : List ByteArray) (s : ByteArray) : eB (l ++ [s]) = eB l ++ s ++ zB := by unfold eB; rw [List.foldl_append]; rfl
theorem eB_size (l : List ByteArray) : (eB l).size = txN l := by
  suffices H : ∀ (l : List ByteArray) (b : ByteArray), (l.foldl (fun b s => b ++ s ++ zB) b).size = b.size + txN l from by have := H l ⟨#[]⟩; unfold eB; rw [this]; exact Nat.zero_add _
  intro l
  induction l with
  | nil => intro b; simp [txN]
  | cons e l ih => intro b; rw [List.foldl_cons, ih, ByteArray.size_append, ByteArray.size_append, show zB.size = 1 from rfl, txN]; omega
/-- Where texts stand, from a place on. -/
def plc : Int → List ByteArray → List Int
  | _, [] => []
  | p, s :: r => p :: plc (p + s.size + 1) r
theorem plc_len : ∀ (p : Int) (l : List ByteArray), (plc p l).length = l.length
  | _, [] => rfl
  | p, s :: r => by rw [plc, List.length_cons, plc_len, List.length_cons]
def tailN : Int → List (List ByteArray) → List Int
  | _, [] => []
  | p, l :: r => plc p l ++ [0] ++ tailN (p + txN l) r
def twos (x : List (Int × Int)) : List Int := x.flatMap fun p => [p.1, p.2]
def numsL (top : Int) (a e : List ByteArray) (x : List (Int × Int)) : List Int := [(a.length : Int)] ++ tailN (top - txN a - txN e) [a, e] ++ twos (x ++ [(0, 0)])
def buildV (top : Int) (a e : List ByteArray) (x : List (Int × Int)) : Int × ByteArray × Int :=
  if top < 0 ∨ top > 262144 ∨ top % 16 ≠ 0 ∨ mayV a e x = false then (0, ⟨#[]⟩, 1)
  else if (szN a e x : Int) > 1024 ∨ (szN a e x : Int) > top then (0, ⟨#[]⟩, 11)
  else (top - szN a e x, fillV (oct8 (numsL top a e x)) ((szN a e x : Int) - txN (a ++ e)) ++ eB (a ++ e), 0)
theorem pc_one (l : List (Int × Int)) : (l.flatMap pc).all one = true := by
  rw [List.all_eq_true]
  intro v hv
  obtain ⟨p, _, hp⟩ := List.mem_flatMap.1 hv
  simp only [pc, List.mem_cons, List.not_mem_nil, or_false] at hp
  rcases hp with rfl | rfl <;> rfl
theorem fillV_size (s : ByteArray) (z : Int) : (fillV s z).size = (max z 0).toNat := by
  unfold fillV
  split
  · rw [ByteArray.size_extract]; omega
  · rw [ByteArray.size_append, zeroB_size]; omega
theorem build_run (top : Int) (a e : List ByteArray) (x : List (Int × Int)) (ha : txN a ≤ 100000) (he : txN e ≤ 100000) (hx : x.length ≤ 100000) : Rf Try.prog T 10 [.int .i64 top, tv tg a, tv tg e, pv tg x] (fun v => v = .tuple #[.int .i64 (buildV top a e x).1, .string (buildV top a e x).2.1, .int .i64 (buildV top a e x).2.2]) := by
  refine c_froz Try.func10 rfl rfl rfl rfl rfl rfl ?_
  intro g n
  obtain ⟨R, hR⟩ : ∃ R, buildV top a e x = R := ⟨_, rfl⟩
  rw [hR]
  unfold buildV at hR
  have fzT : ∀ {g : Nat → Option Ob} (l : List ByteArray), L1.freeze Try.prog g tg 0 9 (tv tg l) = some (tv tg l) := fun l => sn_fzp (.inr (by simp)) (all_flat (fun _ => rfl) _)
  have fzP : ∀ {g : Nat → Option Ob} (l : List (Int × Int)), L1.freeze Try.prog g tg 0 9 (pv tg l) = some (pv tg l) := fun l => sn_fzp (.inr (by simp)) (all_flat (fun _ => rfl) _)
  by_cases h1 : top < 0 ∨ top > 262144 ∨ top % 16 ≠ 0
  · rw [if_pos (by rcases h1 with h1 | h1 | h1; exact .inl h1; exact .inr (.inl h1); exact .inr (.inr (.inl h1)))] at hR
    subst hR
    repeat' (first
      | ((with_reducible apply g_op); first
        | ((with_reducible apply g_move); first
          | ((with_reducible apply w_pure (v := .int _ _)); exact rfl; exact rfl)
          | ((with_reducible apply w_pure (v := .bool _)); exact rfl; exact rfl))
        | ((with_reducible apply g_bin); first
          | ((with_reducible apply w_mod); exact rfl; exact rfl; exact rfl; exact rfl; exact rfl; omega; omega)
          | ((with_reducible apply w_pure (v := .bool _)); exact rfl; exact rfl))
        | ((with_reducible apply g_pick); first
          | ((with_reducible apply w_pk1 (v := .bool _)); exact rfl; exact rfl; (first | assumption | exact decide_eq_true (by assumption) | exact decide_eq_false (by assumption) | exact decide_eq_true (by omega) | exact decide_eq_false (by omega) | exact beq_iff_eq.2 (by omega) | exact beq_eq_false_iff_ne.2 (by omega) | exact bne_iff_ne.2 (by omega) | exact bne_eq_false_iff_eq.2 (by omega)))
          | ((with_reducible apply w_pk0 (v := .bool _)); exact rfl; exact rfl; (first | assumption | exact decide_eq_true (by assumption) | exact decide_eq_false (by assumption) | exact decide_eq_true (by omega) | exact decide_eq_false (by omega) | exact beq_iff_eq.2 (by omega) | exact beq_eq_false_iff_ne.2 (by omega) | exact bne_iff_ne.2 (by omega) | exact bne_eq_false_iff_eq.2 (by omega))))
        | ((with_reducible apply g_assign); first
          | ((with_reducible apply w_pure (v := .int _ _)); exact rfl; exact rfl)
          | ((with_reducible apply w_pure (v := .string _)); exact rfl; exact rfl))
        | ((with_reducible apply w_pure (v := .bool _)); exact rfl; exact rfl))
      | ((with_reducible apply g_gd); first
        | ((with_reducible apply w_pass); exact rfl)
        | ((with_reducible apply w_gd_f); exact rfl; all_goals (intro hc; first | (exfalso; omega) | skip))
        | ((with_reducible apply w_gn_f); exact rfl; all_goals (intro hc; first | (exfalso; omega) | skip)))
      | with_reducible refine w_seq ?_
      | with_reducible refine w_nil ?_
      | with_reducible refine w_region ?_
      | ((with_reducible apply w_yes); exact rfl))
    all_goals first | (exfalso; omega) | skip
    all_goals refine w_ret (v := .tuple #[.int _ _, .string _, .int _ _]) rfl ?_
    all_goals exact fr_plain rfl rfl
  repeat' (first
    | ((with_reducible apply g_op); first
      | ((with_reducible apply g_move); first
        | ((with_reducible apply w_pure (v := .int _ _)); exact rfl; exact rfl)
        | ((with_reducible apply w_pure (v := .bool _)); exact rfl; exact rfl)
        | ((with_reducible apply w_pure (v := .func _ _ _)); exact rfl; exact rfl))
      | ((with_reducible apply g_bin); first
        | ((with_reducible apply w_mod); exact rfl; exact rfl; exact rfl; exact rfl; exact rfl; omega; omega)
        | ((with_reducible apply w_pure (v := .bool _)); exact rfl; exact rfl))
      | ((with_reducible apply g_pick); first
        | ((with_reducible apply w_pk0 (v := .bool _)); exact rfl; exact rfl; (first | assumption | exact decide_eq_true (by assumption) | exact decide_eq_false (by assumption) | exact decide_eq_true (by omega) | exact decide_eq_false (by omega) | exact beq_iff_eq.2 (by omega) | exact beq_eq_false_iff_ne.2 (by omega) | exact bne_iff_ne.2 (by omega) | exact bne_eq_false_iff_eq.2 (by omega))))
      | ((with_reducible apply g_assign); first
        | ((with_reducible apply w_pure (v := .int _ _)); exact rfl; exact rfl)
        | ((with_reducible apply w_pure (v := .string _)); exact rfl; exact rfl)))
    | ((with_reducible apply g_gd); first
      | ((with_reducible apply w_gd_f); exact rfl; all_goals (intro hc; first | (exfalso; omega) | skip))
      | ((with_reducible apply w_gn_f); exact rfl; all_goals (intro hc; first | (exfalso; omega) | skip)))
    | with_reducible refine w_seq ?_
    | with_reducible refine w_nil ?_
    | with_reducible refine w_region ?_)
  all_goals first | (exfalso; omega) | skip
  refine w_rf (may_run a e x ha he hx) (fun _ => rfl) (sn_cons (fzT a) (sn_cons (fzT e) (sn_cons (fzP x) sn_nil))) ?_
  rintro _ rfl
  cases hm : mayV a e x
  · rw [hm, if_pos (.inr (.inr (.inr rfl)))] at hR
    subst hR
    repeat' (first
      | ((with_reducible apply g_op); first
        | ((with_reducible apply g_pick); first
          | ((with_reducible apply w_pk0 (v := .bool _)); exact rfl; exact rfl; (first | assumption | exact decide_eq_true (by assumption) | exact decide_eq_false (by assumption) | exact decide_eq_true (by omega) | exact decide_eq_false (by omega) | exact beq_iff_eq.2 (by omega) | exact beq_eq_false_iff_ne.2 (by omega) | exact bne_iff_ne.2 (by omega) | exact bne_eq_false_iff_eq.2 (by omega))))
        | ((with_reducible apply g_assign); first
          | ((with_reducible apply w_pure (v := .int _ _)); exact rfl; exact rfl)
          | ((with_reducible apply w_pure (v := .string _)); exact rfl; exact rfl))
        | ((with_reducible apply w_pure (v := .bool _)); exact rfl; exact rfl))
      | ((with_reducible apply g_gd); first
        | ((with_reducible apply w_gn_f); exact rfl; all_goals (intro hc; first | (exfalso; omega) | skip)))
      | with_reducible refine w_seq ?_
      | with_reducible refine w_nil ?_
      | with_reducible refine w_region ?_
      | ((with_reducible apply w_yes); exact rfl))
    refine w_ret (v := .tuple #[.int _ _, .string _, .int _ _]) rfl ?_
    exact fr_plain rfl rfl
  rw [hm, if_neg (by
    rintro (q | q | q | q)
    · exact h1 (.inl q)
    · exact h1 (.inr (.inl q))
    · exact h1 (.inr (.inr q))
    · cases q)] at hR
  repeat' (first
    | ((with_reducible apply g_op); first
      | ((with_reducible apply g_move); first
        | ((with_reducible apply w_pure (v := .func _ _ _)); exact rfl; exact rfl))
      | ((with_reducible apply g_pick); first
        | ((with_reducible apply w_pk0 (v := .bool _)); exact rfl; exact rfl; (first | assumption | exact decide_eq_true (by assumption) | exact decide_eq_false (by assumption) | exact decide_eq_true (by omega) | exact decide_eq_false (by omega) | exact beq_iff_eq.2 (by omega) | exact beq_eq_false_iff_ne.2 (by omega) | exact bne_iff_ne.2 (by omega) | exact bne_eq_false_iff_eq.2 (by omega))))
      | ((with_reducible apply w_pure (v := .bool _)); exact rfl; exact rfl))
    | ((with_reducible apply g_gd); first
      | ((with_reducible apply w_gn_f); exact rfl; all_goals (intro hc; first | (exfalso; omega) | skip)))
    | with_reducible refine w_seq ?_
    | with_reducible refine w_nil ?_
    | with_reducible refine w_region ?_
    | with_reducible refine w_skip ?_
    | ((with_reducible apply w_no); exact rfl))
  refine w_rf (size_run a e x ha he hx) (fun _ => rfl) (sn_cons (fzT a) (sn_cons (fzT e) (sn_cons (fzP x) sn_nil))) ?_
  rintro _ rfl
  by_cases h2 : (szN a e x : Int) > 1024 ∨ (szN a e x : Int) > top
  · rw [if_pos h2] at hR
    subst hR
    repeat' (first
      | ((with_reducible apply g_op); first
        | ((with_reducible apply g_move); first
          | ((with_reducible apply w_pure (v := .int _ _)); exact rfl; exact rfl)
          | ((with_reducible apply w_pure (v := .bool _)); exact rfl; exact rfl))
        | ((with_reducible apply g_bin); first
          | ((with_reducible apply w_pure (v := .bool _)); exact rfl; exact rfl))
        | ((with_reducible apply g_pick); first
          | ((with_reducible apply w_pk1 (v := .bool _)); exact rfl; exact rfl; (first | assumption | exact decide_eq_true (by assumption) | exact decide_eq_false (by assumption) | exact decide_eq_true (by omega) | exact decide_eq_false (by omega) | exact beq_iff_eq.2 (by omega) | exact beq_eq_false_iff_ne.2 (by omega) | exact bne_iff_ne.2 (by omega) | exact bne_eq_false_iff_eq.2 (by omega)))
          | ((with_reducible apply w_pk0 (v := .bool _)); exact rfl; exact rfl; (first | assumption | exact decide_eq_true (by assumption) | exact decide_eq_false (by assumption) | exact decide_eq_true (by omega) | exact decide_eq_false (by omega) | exact beq_iff_eq.2 (by omega) | exact beq_eq_false_iff_ne.2 (by omega) | exact bne_iff_ne.2 (by omega) | exact bne_eq_false_iff_eq.2 (by omega))))
        | ((with_reducible apply g_assign); first
          | ((with_reducible apply w_pure (v := .int _ _)); exact rfl; exact rfl)
          | ((with_reducible apply w_pure (v := .string _)); exact rfl; exact rfl)))
      | ((with_reducible apply g_gd); first
        | ((with_reducible apply w_gd_f); exact rfl; all_goals (intro hc; first | (exfalso; omega) | skip)))
      | with_reducible refine w_seq ?_
      | with_reducible refine w_nil ?_
      | with_reducible refine w_region ?_
      | ((with_reducible apply w_yes); exact rfl)
      | ((with_reducible apply w_ifd); exact rfl; all_goals (intro hc; first | (exfalso; omega) | skip)))
    all_goals first | (exfalso; omega) | skip
    all_goals refine w_ret (v := .tuple #[.int _ _, .string _, .int _ _]) rfl ?_
    all_goals exact fr_plain rfl rfl
  rw [if_neg h2] at hR
  have hsz : 8 * (5 + a.length + e.length + 2 * x.length) + txN a + txN e ≤ szN a e x := by unfold szN; omega
  have hpr : prV x = true := by unfold mayV at hm; simp only [Bool.and_eq_true] at hm; exact hm.2
  repeat' (first
    | ((with_reducible apply g_op); first
      | ((with_reducible apply g_move); first
        | ((with_reducible apply w_pure (v := .int _ _)); exact rfl; exact rfl)
        | ((with_reducible apply w_pure (v := .bool _)); exact rfl; exact rfl)
        | ((with_reducible apply w_pure (v := .func _ _ _)); exact rfl; exact rfl))
      | ((with_reducible apply g_bin); first
        | ((with_reducible apply w_pure (v := .bool _)); exact rfl; exact rfl))
      | ((with_reducible apply g_pick); first
        | ((with_reducible apply w_pk0 (v := .bool _)); exact rfl; exact rfl; (first | assumption | exact decide_eq_true (by assumption) | exact decide_eq_false (by assumption) | exact decide_eq_true (by omega) | exact decide_eq_false (by omega) | exact beq_iff_eq.2 (by omega) | exact beq_eq_false_iff_ne.2 (by omega) | exact bne_iff_ne.2 (by omega) | exact bne_eq_false_iff_eq.2 (by omega))))
      | ((with_reducible apply g_assign); first
        | ((with_reducible apply w_pure (v := .int _ _)); exact rfl; exact rfl)
        | ((with_reducible apply w_pure (v := .func _ _ _)); exact rfl; exact rfl))
      | ((with_reducible apply w_alloc (ls := [_, _])); exact rfl; exact rfl)
      | ((with_reducible apply w_mkf (cs := [.pointer _])); exact rfl))
    | ((with_reducible apply g_gd); first
      | ((with_reducible apply w_gd_f); exact rfl; all_goals (intro hc; first | (exfalso; omega) | skip)))
    | with_reducible refine w_seq ?_
    | with_reducible refine w_nil ?_
    | with_reducible refine w_region ?_
    | with_reducible refine w_skip ?_
    | ((with_reducible apply w_ifd); exact rfl; all_goals (intro hc; first | (exfalso; omega) | skip)))
  all_goals first | (exfalso; omega) | skip
  refine w_rf (texts_run a ha) (fun _ => rfl) (sn_cons (fzT a) sn_nil) ?_
  rintro _ rfl
  repeat' (first
    | ((with_reducible apply g_op); first
      | ((with_reducible apply g_move); first
        | ((with_reducible apply w_pure (v := .func _ _ _)); exact rfl; exact rfl))
      | ((with_reducible apply g_bin); first
        | ((with_reducible apply w_wrap); exact rfl; exact rfl; first | exact i64_in _ (by omega) | exact u64_in _ (by omega) | exact u8_in _ (by omega)))))
  refine w_rf (texts_run e he) (fun _ => rfl) (sn_cons (fzT e) sn_nil) ?_
  rintro _ rfl
  repeat' (first
    | ((with_reducible apply g_op); first
      | ((with_reducible apply g_move); first
        | ((with_reducible apply w_pure (v := .func _ _ _)); exact rfl; exact rfl))
      | ((with_reducible apply g_bin); first
        | ((with_reducible apply w_wrap); exact rfl; exact rfl; first | exact i64_in _ (by omega) | exact u64_in _ (by omega) | exact u8_in _ (by omega)))
      | ((with_reducible apply g_assign); first
        | ((with_reducible apply w_pure (v := .int _ _)); exact rfl; exact rfl))
      | ((with_reducible apply g_call); first
        | ((with_reducible apply w_call (v := .int _ _)); exact rfl)))
    | with_reducible refine w_seq ?_
    | with_reducible refine w_nil ?_
    | with_reducible refine w_region ?_)
  refine w_rn (put_run (c := n) (d := n + 1) (a.length : Nat) (by omega) (Two.new (m := n) (Nat.le_refl n)) (by decide)) (fun _ => rfl) ?_
  rintro _ g1 n1 ⟨hT, hn1, -⟩
  replace hT : Two g1 n (n + 1) n1 n (oct8 [(a.length : Int)]) (eB []) := hT
  repeat' (first
    | ((with_reducible apply g_op); first
      | ((with_reducible apply g_move); first
        | ((with_reducible apply w_pure (v := .int _ _)); exact rfl; exact rfl)
        | ((with_reducible apply w_pure (v := .func _ _ _)); exact rfl; exact rfl))
      | ((with_reducible apply g_build); first
        | ((with_reducible apply w_pure (v := .agg #[_, _])); exact rfl; exact rfl)))
    | with_reducible refine w_seq ?_
    | with_reducible refine w_nil ?_
    | with_reducible refine w_region ?_)
  refine w_block ?_
  have hla := txN_len a
  have hle := txN_len e
  obtain ⟨p0, hp0⟩ : ∃ p0 : Int, top - txN a - txN e = p0 := ⟨_, rfl⟩
  have hp0r : 0 ≤ p0 ∧ p0 ≤ 262144 := by omega
  have hN : numsL top a e x = [(a.length : Int)] ++ tailN p0 [a, e] ++ twos (x ++ [(0, 0)]) := by unfold numsL; rw [hp0]
  refine w_env ?_
  intro τ hτ
  have k0 : τ 0 = .int .i64 top := (hτ 0).trans rfl
  have k3 : τ 3 = pv tg x := (hτ 3).trans rfl
  have k11 : τ 11 = .int .i64 (szN a e x : Nat) := (hτ 11).trans rfl
  have k12 : τ 12 = ptr n 0 := (hτ 12).trans rfl
  have k13 : τ 13 = ptr (n + 1) 0 := (hτ 13).trans rfl
  have k14 : τ 14 = .func (.func 22) #[] #[ptr n 0] := (hτ 14).trans rfl
  have k15 : τ 15 = .int .i64 p0 := (hτ 15).trans (congrArg (Value.int .i64) hp0)
  have k65 : τ 65 = .agg #[tv tg a, tv tg e] := (hτ 65).trans rfl
  have k66 : τ 66 = .int .i64 0 := (hτ 66).trans rfl
  clear hτ
  refine w_keep (i := 0) k0 (w_keep (i := 3) k3 (w_keep (i := 11) k11 (w_keep (i := 12) k12 (w_keep (i := 13) k13 (w_keep (i := 14) k14 (w_keep (i := 15) k15 (w_keep (i := 65) k65 (w_keep (i := 66) k66 ?_))))))))
  refine w_rngK [(17, 17), (19, 19), (66, 86)] [a, e] (fun i rest (b : List Int × List ByteArray) σ g' n' => σ 66 = .int .i64 (i : Nat) ∧ Two g' n (n + 1) n' n (oct8 b.1) (eB b.2) ∧ n1 ≤ n' ∧ b.1 ++ tailN (p0 + txN b.2) rest = [(a.length : Int)] ++ tailN p0 [a, e] ∧ b.2 ++ rest.flatten = a ++ e) ?_ ?_ ([(a.length : Int)], []) ⟨rfl, hT, Nat.le_refl _, by simp [txN], by simp⟩
  · rintro i y rest ⟨p, q⟩ σ g2 n2 hy hlt ⟨k66, hT, hn2, hp, hq⟩ ih
    dsimp only at hT hp hq
    have hlt2 : i < 2 := hlt
    rw [tailN] at hp
    rw [List.flatten_cons] at hq
    have hlp := congrArg List.length hp
    simp only [List.length_append, plc_len, List.length_singleton, tailN, List.length_nil] at hlp
    have htq := congrArg txN hq
    simp only [txN_app] at htq
    refine w_keep (i := 66) k66 ?_
    repeat' (first
      | ((with_reducible apply g_op); first
        | ((with_reducible apply g_bin); first
          | ((with_reducible apply w_pure (v := .bool _)); exact rfl; exact rfl)))
      | with_reducible refine w_seq ?_
      | with_reducible refine w_nil ?_
      | with_reducible refine w_region ?_
      | with_reducible refine w_skip ?_
      | with_reducible refine w_block ?_
      | ((with_reducible apply w_ifd); exact rfl; all_goals (intro hc; first | (exfalso; omega) | skip)))
    refine w_aix (enc := fun l => [tv tg l]) (ls := [a, e]) (sz := 1) (v := tv tg y) rfl rfl rfl rfl rfl rfl (fun _ => rfl) hy hlt2 rfl ?_
    repeat' (first
      | ((with_reducible apply g_op); first
        | ((with_reducible apply g_move); first
          | ((with_reducible apply w_pure (v := .int _ _)); exact rfl; exact rfl)
          | ((with_reducible apply w_pure (v := .func _ _ _)); exact rfl; exact rfl))
        | ((with_reducible apply g_assign); first
          | ((with_reducible apply w_pure (v := .func _ _ _)); exact rfl; exact rfl))
        | ((with_reducible apply g_call); first
          | ((with_reducible apply w_call (v := .int _ _)); exact rfl)))
      | with_reducible refine w_seq ?_
      | with_reducible refine w_nil ?_
      | with_reducible refine w_region ?_)
    refine w_block ?_
    refine w_rngK [(19, 19), (71, 83)] y (fun j rest2 (b : List Int × List ByteArray) σ g' n' => σ 71 = .int .i64 (j : Nat) ∧ Two g' n (n + 1) n' n (oct8 b.1) (eB b.2) ∧ n1 ≤ n' ∧ b.1 ++ plc (p0 + txN b.2) rest2 = p ++ plc (p0 + txN q) y ∧ b.2 ++ rest2 = q ++ y) ?_ ?_ (p, q) ⟨rfl, hT, hn2, rfl, rfl⟩
    · rintro j t rest2 ⟨p', q'⟩ σ3 g3 n3 ht hjlt ⟨k71, hT, hn3, hp2, hq2⟩ ih2
      dsimp only at hT hp2 hq2
      have hlp2 := congrArg List.length hp2
      simp only [List.length_append, plc_len, plc, List.length_cons] at hlp2
      have htq2 := congrArg txN hq2
      simp only [txN_app, txN] at htq2
      have ho8 := oct8_size p'
      have heq := eB_size q'
      have hz1 : (⟨#[0]⟩ : ByteArray).size = 1 := rfl
      refine w_keep (i := 71) k71 ?_
      repeat' (first
        | ((with_reducible apply g_op); first
          | ((with_reducible apply g_load); first
            | ((with_reducible apply w_fl (v := .string _)); exact rfl; exact (fun _ => rfl); assumption; exact rfl))
          | ((with_reducible apply g_move); first
            | ((with_reducible apply w_pure (v := .int _ _)); exact rfl; exact rfl)
            | ((with_reducible apply w_pure (v := .func _ _ _)); exact rfl; exact rfl))
          | ((with_reducible apply g_bin); first
            | ((with_reducible apply w_pure (v := .bool _)); exact rfl; exact rfl))
          | ((with_reducible apply g_assign); first
            | ((with_reducible apply w_pure (v := .string _)); exact rfl; exact rfl))
          | ((with_reducible apply g_ix); first
            | ((with_reducible apply w_fx (sz := 1)); exact rfl; exact rfl; exact rfl; exact rfl; exact rfl; exact (fun _ => rfl); assumption; exact rfl)))
        | with_reducible refine w_seq ?_
        | with_reducible refine w_nil ?_
        | with_reducible refine w_region ?_
        | with_reducible refine w_skip ?_
        | with_reducible refine w_block ?_
        | ((with_reducible apply w_ifd); exact rfl; all_goals (intro hc; first | (exfalso; omega) | skip)))
      refine w_rn hT.len (fun _ => rfl) ?_
      rintro _ _ _ ⟨rfl, rfl, rfl⟩
      rw [heq]
      repeat' (first
        | ((with_reducible apply g_op); first
          | ((with_reducible apply g_bin); first
            | ((with_reducible apply w_wrap); exact rfl; exact rfl; first | exact i64_in _ (by omega) | exact u64_in _ (by omega) | exact u8_in _ (by omega)))))
      refine w_rn (put_run (p0 + txN q') (by omega) hT (by omega)) (fun _ => rfl) ?_
      rintro _ g4 n4 ⟨hT4, hn4, -⟩
      rw [← oct8_snoc] at hT4
      repeat' (first
        | ((with_reducible apply g_op); first
          | ((with_reducible apply g_move); first
            | ((with_reducible apply w_pure (v := .string _)); exact rfl; exact rfl))
          | ((with_reducible apply g_bin); first
            | ((with_reducible apply w_cat); exact rfl; exact rfl; exact rfl; exact rfl; exact rfl; omega)))
        | with_reducible refine w_nil ?_
        | with_reducible refine w_region ?_)
      refine w_rn (hT4.swap.write (u := t ++ ⟨#[0]⟩) (by rw [heq, ByteArray.size_append]; omega)) (fun _ => rfl) ?_
      rintro _ g5 n5 ⟨rfl, hT5, hn5, -⟩
      have hT6 := hT5.swap
      rw [← ba_assoc, show eB q' ++ t ++ ⟨#[0]⟩ = eB (q' ++ [t]) from (eB_snoc q' t).symm] at hT6
      repeat' (first
        | ((with_reducible apply g_op); first
          | ((with_reducible apply g_move); first
            | ((with_reducible apply w_pure (v := .int _ _)); exact rfl; exact rfl))
          | ((with_reducible apply g_bin); first
            | ((with_reducible apply w_wrap); exact rfl; exact rfl; first | exact i64_in _ (by omega) | exact u64_in _ (by omega) | exact u8_in _ (by omega))))
        | with_reducible refine w_nil ?_
        | with_reducible refine w_region ?_
        | with_reducible refine w_blk ?_)
      refine ih2 (p' ++ [p0 + txN q'], q' ++ [t]) _ _ _ (by repeat' (first | with_reducible exact Fr.mix | with_reducible exact Fr.rfl' | with_reducible refine Fr.put ?_ ?_ | with_reducible refine Fr.mix2 ?_ ?_ | with_reducible refine Fr.put0 ?_ | exact rfl)) ⟨rfl, hT6, by omega, ?_, by rw [← hq2]; simp⟩
      rw [← hp2, plc, txN_app]
      simp only [txN, List.append_assoc, List.singleton_append]
      rw [show p0 + ((txN q' + (t.size + 1 + 0) : Nat) : Int) = p0 + (txN q' : Nat) + t.size + 1 by omega]
    · rintro ⟨p', q'⟩ σ3 g3 n3 ⟨k71, hT, hn3, hp2, hq2⟩
      dsimp only at hT hp2 hq2
      rw [plc, List.append_nil] at hp2
      rw [List.append_nil] at hq2
      subst hp2 hq2
      have ho8 := oct8_size (p ++ plc (p0 + txN q) y)
      rw [List.length_append, plc_len] at ho8
      refine w_keep (i := 71) k71 ?_
      repeat' (first
        | ((with_reducible apply g_op); first
          | ((with_reducible apply g_move); first
            | ((with_reducible apply w_pure (v := .func _ _ _)); exact rfl; exact rfl))
          | ((with_reducible apply g_bin); first
            | ((with_reducible apply w_pure (v := .bool _)); exact rfl; exact rfl)))
        | with_reducible refine w_seq ?_
        | with_reducible refine w_nil ?_
        | with_reducible refine w_region ?_
        | ((with_reducible apply w_exit); exact rfl)
        | ((with_reducible apply w_ifd); exact rfl; all_goals (intro hc; first | (exfalso; omega) | skip)))
      refine w_rn (put_run 0 (by decide) hT (by omega)) (fun _ => rfl) ?_
      rintro _ g4 n4 ⟨hT4, hn4, -⟩
      rw [← oct8_snoc] at hT4
      repeat' (first
        | ((with_reducible apply g_op); first
          | ((with_reducible apply g_move); first
            | ((with_reducible apply w_pure (v := .int _ _)); exact rfl; exact rfl))
          | ((with_reducible apply g_bin); first
            | ((with_reducible apply w_wrap); exact rfl; exact rfl; first | exact i64_in _ (by omega) | exact u64_in _ (by omega) | exact u8_in _ (by omega))))
        | with_reducible refine w_nil ?_
        | with_reducible refine w_region ?_
        | with_reducible refine w_blk ?_)
      refine ih (p ++ plc (p0 + txN q) y ++ [0], q ++ y) _ _ _ (by repeat' (first | with_reducible exact Fr.mix | with_reducible exact Fr.rfl' | with_reducible refine Fr.put ?_ ?_ | with_reducible refine Fr.mix2 ?_ ?_ | with_reducible refine Fr.put0 ?_ | exact rfl)) ⟨rfl, hT4, by omega, ?_, by rw [← hq]; simp⟩
      rw [← hp, txN_app]
      simp only [List.append_assoc]
      rw [show p0 + ((txN q + txN y : Nat) : Int) = p0 + (txN q : Nat) + (txN y : Nat) by omega]
  · rintro ⟨p, q⟩ σ g2 n2 ⟨k66, hT, hn2, hp, hq⟩
    dsimp only at hT hp hq
    rw [tailN, List.append_nil] at hp
    rw [List.flatten_nil, List.append_nil] at hq
    subst hq
    replace k66 : σ 66 = .int .i64 2 := k66
    have hlp := congrArg List.length hp
    simp only [List.length_append, plc_len, List.length_singleton, tailN, List.length_nil] at hlp
    refine w_keep (i := 66) k66 ?_
    repeat' (first
      | with_reducible refine w_seq ?_)
    refine w_region ?_
    repeat' (first
      | ((with_reducible apply g_op); first
        | ((with_reducible apply g_bin); first
          | ((with_reducible apply w_pure (v := .bool _)); exact rfl; exact rfl)))
      | with_reducible refine w_seq ?_
      | with_reducible refine w_nil ?_
      | ((with_reducible apply w_exit); exact rfl)
      | ((with_reducible apply w_no); exact rfl))
    refine w_meetK [(87, 93)] (fun σ' g' n' => ∃ r, σ' 91 = slc r 0 (x.length + 1) ∧ σ' 92 = .int .i64 (x.length + 1 : Nat) ∧ σ' 93 = .int .i64 0 ∧ g' r = some (.cells 48 ((x ++ [(0, 0)]).flatMap pc)) ∧ Two g' n (n + 1) n' n (oct8 p) (eB (a ++ e)) ∧ r < n' ∧ n + 2 ≤ r) ?_ ?_
    · intro K2 R2 hK2
      have hn1' : n + 2 ≤ n1 := hn1
      by_cases hx0 : x = []
      · subst hx0
        repeat' (first
          | ((with_reducible apply g_op); first
            | ((with_reducible apply g_move); first
              | ((with_reducible apply w_pure (v := .func _ _ _)); exact rfl; exact rfl)))
          | with_reducible refine w_region ?_)
        refine w_apN (by_ := 16) (sz := 2) rfl rfl rfl rfl rfl rfl rfl rfl (by kernel_rfl) (.inl rfl) ?_
        repeat' (first
          | ((with_reducible apply g_op); first
            | ((with_reducible apply g_move); first
              | ((with_reducible apply w_pure (v := .int _ _)); exact rfl; exact rfl))
            | ((with_reducible apply g_call); first
              | ((with_reducible apply w_call (v := .int _ _)); exact rfl)
              | ((with_reducible apply w_app0 (ns := [_, _])); exact rfl; exact rfl; exact rfl; exact rfl; exact rfl; exact rfl; (first | assumption | (simp (disch := omega) only [upd_same, upd_ne]; first | done | assumption | exact rfl) | exact rfl); exact rfl; exact rfl; exact (by decide); exact ⟨by decide, by decide⟩))
            | ((with_reducible apply g_build); first
              | ((with_reducible apply w_pure (v := .agg #[.int _ _, .int _ _])); exact rfl; exact rfl))
            | ((with_reducible apply w_bsl (ls := [_, _])); exact rfl; exact rfl; exact rfl; exact ⟨by decide, rfl⟩; exact rfl))
          | with_reducible refine w_nil ?_)
        exact hK2 _ _ _ (by repeat' (first | with_reducible exact Fr.mix | with_reducible exact Fr.rfl' | with_reducible refine Fr.put ?_ ?_ | with_reducible refine Fr.mix2 ?_ ?_ | with_reducible refine Fr.put0 ?_ | exact rfl)) ⟨n2 + 1, rfl, rfl, rfl, by simp (disch := omega) only [upd_same, upd_ne]; rfl, hT.later (by omega) (fun j hj => by simp (disch := omega) only [upd_ne]), by omega, by omega⟩
      · have hxl : x.length ≠ 0 := fun h => hx0 (List.length_eq_zero_iff.1 h)
        have hfl : (x.flatMap pc).length = x.length * 2 := flat_len (enc := pc) (sz := 2) (fun _ => rfl) x
        repeat' (first
          | ((with_reducible apply g_op); first
            | ((with_reducible apply g_move); first
              | ((with_reducible apply w_pure (v := .func _ _ _)); exact rfl; exact rfl)))
          | with_reducible refine w_region ?_)
        refine w_apA0 (by_ := 16) (sz := 2) (mm := x.length) (ns := x.flatMap pc) rfl rfl rfl rfl rfl rfl rfl ?_ ?_ hxl (by omega) ?_
        · show (if _ = _ then _ else _) = _
          rw [if_pos (by rw [List.size_toArray, hfl])]
        · unfold appendable; rw [pc_one]; rfl
        repeat' (first
          | ((with_reducible apply g_op); first
            | ((with_reducible apply g_build); first
              | ((with_reducible apply w_pure (v := .agg #[.int _ _, .int _ _])); exact rfl; exact rfl))
            | ((with_reducible apply w_bsl (ls := [_, _])); exact rfl; exact rfl; exact rfl; exact ⟨by decide, rfl⟩; exact rfl)))
        refine w_app1 (by_ := 16) (sz := 2) (kk := 1) (ns := [_, _]) rfl rfl rfl rfl rfl rfl (by simp (disch := omega) only [upd_same, upd_ne]) (rd_all hfl.symm) upd_same rfl rfl (by decide) (by omega) ?_
        repeat' (first
          | ((with_reducible apply g_op); first
            | ((with_reducible apply g_move); first
              | ((with_reducible apply w_pure (v := .int _ _)); exact rfl; exact rfl))
            | ((with_reducible apply g_call); first
              | ((with_reducible apply w_call (v := .int _ _)); exact rfl)))
          | with_reducible refine w_nil ?_)
        exact hK2 _ _ _ (by repeat' (first | with_reducible exact Fr.mix | with_reducible exact Fr.rfl' | with_reducible refine Fr.put ?_ ?_ | with_reducible refine Fr.mix2 ?_ ?_ | with_reducible refine Fr.put0 ?_ | exact rfl)) ⟨n2 + 1 + 1, rfl, rfl, rfl, by simp (disch := omega) only [upd_same, upd_ne]; rw [List.flatMap_append]; rfl, hT.later (by omega) (fun j hj => by simp (disch := omega) only [upd_ne]), by omega, by omega⟩
    rintro σ4 g3 n3 ⟨r, k91, k92, k93, hgr, hT, hr, hr2⟩
    refine w_keep (i := 91) k91 (w_keep (i := 92) k92 (w_keep (i := 93) k93 ?_))
    repeat' (first
      | fail)
    refine w_block ?_
    have hall : ∀ y ∈ x ++ [(0, 0)], 0 ≤ y.1 ∧ y.1 ≤ 1099511627776 ∧ 0 ≤ y.2 ∧ y.2 ≤ 1099511627776 := by
      intro y hy
      rcases List.mem_append.1 hy with h | h
      · unfold prV at hpr
        have := of_decide_eq_true (List.all_eq_true.1 hpr y h)
        omega
      · rw [List.mem_singleton.1 h]; decide
    have hpl : p.length ≤ 300000 := by omega
    refine w_rngK [(21, 21), (93, 105)] (x ++ [(0, 0)]) (fun i rest (p' : List Int) σ g' n' => σ 93 = .int .i64 (i : Nat) ∧ Two g' n (n + 1) n' n (oct8 p') (eB (a ++ e)) ∧ g' r = some (.cells 48 ((x ++ [(0, 0)]).flatMap pc)) ∧ r < n' ∧ p' ++ twos rest = p ++ twos (x ++ [(0, 0)]) ∧ p'.length = p.length + 2 * i) ?_ ?_ p ⟨rfl, hT, hgr, hr, rfl, rfl⟩
    · rintro i ⟨y1, y2⟩ rest p' σ5 g4 n4 hy hlt ⟨k93, hT, hgr, hr, hp2, hpl2⟩ ih
      have hyr := hall _ (List.mem_of_getElem? hy)
      dsimp only at hyr
      have hlt' := hlt
      rw [List.length_append, List.length_singleton] at hlt'
      have ho8 := oct8_size p'
      refine w_keep (i := 93) k93 ?_
      repeat' (first
        | ((with_reducible apply g_op); first
          | ((with_reducible apply g_bin); first
            | ((with_reducible apply w_pure (v := .bool _)); exact rfl; exact rfl))
          | ((with_reducible apply g_ix); first
            | ((with_reducible apply w_ixr (sz := 2)); exact rfl; exact rfl; exact rfl; exact rfl; omega; omega)))
        | with_reducible refine w_seq ?_
        | with_reducible refine w_nil ?_
        | with_reducible refine w_region ?_
        | with_reducible refine w_skip ?_
        | with_reducible refine w_block ?_
        | ((with_reducible apply w_ifd); exact rfl; all_goals (intro hc; first | (exfalso; omega) | skip)))
      refine w_load (v := .agg #[.int .i64 y1, .int .i64 y2]) rfl hgr (by rw [show 0 + ((i : Int)).toNat * 2 = i * 2 + 0 by omega]; exact part_flat (enc := pc) (sz := 2) (fun _ => rfl) hy rfl) ?_
      repeat' (first
        | ((with_reducible apply g_op); first
          | ((with_reducible apply g_load); first
            | ((with_reducible apply w_load (v := .int _ _)); exact rfl; (first | assumption | (simp (disch := omega) only [upd_same, upd_ne]; first | done | assumption | exact rfl) | exact rfl); exact rfl))
          | ((with_reducible apply g_move); first
            | ((with_reducible apply w_pure (v := .func _ _ _)); exact rfl; exact rfl))
          | ((with_reducible apply g_fld); first
            | ((with_reducible apply w_fldp (o := 0)); exact rfl; exact rfl; exact rfl; exact (by decide)))
          | ((with_reducible apply g_store); first
            | ((with_reducible apply w_store (us := [_, _]) (ws := [_, _])); exact rfl; exact rfl; (first | assumption | (simp (disch := omega) only [upd_same, upd_ne]; first | done | assumption | exact rfl) | exact rfl); omega; exact rfl; exact rfl; exact rfl))
          | ((with_reducible apply w_alloc (ls := [_, _])); exact rfl; exact rfl))
        | with_reducible refine w_seq ?_
        | with_reducible refine w_nil ?_
        | with_reducible refine w_region ?_)
      refine w_rn (put_run y1 (by omega) (hT.later (n' := n4 + 1) (by omega) (fun j hj => by simp (disch := omega) only [upd_ne])) (by omega)) (fun _ => rfl) ?_
      rintro _ g5 n5 ⟨hT5, hn5, hst⟩
      rw [← oct8_snoc] at hT5
      have hb5 := hst n4 48 [.int .i64 y1, .int .i64 y2] (by omega) (by omega) (by decide) (by simp (disch := omega) only [upd_same])
      have hr5 := hst r 48 _ (by omega) (by omega) (by decide) ((upd_ne (by omega)).trans ((upd_ne (by omega)).trans hgr))
      repeat' (first
        | ((with_reducible apply g_op); first
          | ((with_reducible apply g_load); first
            | ((with_reducible apply w_load (v := .int _ _)); exact rfl; (first | assumption | (simp (disch := omega) only [upd_same, upd_ne]; first | done | assumption | exact rfl) | exact rfl); exact rfl))
          | ((with_reducible apply g_move); first
            | ((with_reducible apply w_pure (v := .func _ _ _)); exact rfl; exact rfl))
          | ((with_reducible apply g_fld); first
            | ((with_reducible apply w_fldp (o := 1)); exact rfl; exact rfl; exact rfl; exact (by decide))))
        | with_reducible refine w_nil ?_
        | with_reducible refine w_region ?_)
      refine w_rn (put_run y2 (by omega) hT5 (by rw [oct8_size]; simp; omega)) (fun _ => rfl) ?_
      rintro _ g6 n6 ⟨hT6, hn6, hst6⟩
      rw [← oct8_snoc] at hT6
      have hr6 := hst6 r 48 _ (by omega) (by omega) (by decide) hr5
      repeat' (first
        | ((with_reducible apply g_op); first
          | ((with_reducible apply g_move); first
            | ((with_reducible apply w_pure (v := .int _ _)); exact rfl; exact rfl))
          | ((with_reducible apply g_bin); first
            | ((with_reducible apply w_wrap); exact rfl; exact rfl; first | exact i64_in _ (by omega) | exact u64_in _ (by omega) | exact u8_in _ (by omega))))
        | with_reducible refine w_nil ?_
        | with_reducible refine w_region ?_
        | with_reducible refine w_blk ?_)
      exact ih (p' ++ [y1] ++ [y2]) _ _ _ (by repeat' (first | with_reducible exact Fr.mix | with_reducible exact Fr.rfl' | with_reducible refine Fr.put ?_ ?_ | with_reducible refine Fr.mix2 ?_ ?_ | with_reducible refine Fr.put0 ?_ | exact rfl)) ⟨rfl, hT6, hr6, by omega, by rw [← hp2]; simp [twos], by simp; omega⟩
    · rintro p' σ5 g4 n4 ⟨k93, hT, hgr, hr, hp2, hpl2⟩
      have hpn : p' = numsL top a e x := by
        have : p' ++ twos [] = p' := by simp [twos]
        rw [← this, hp2, hp, hN]
      subst hpn
      rw [List.length_append, List.length_singleton] at k93 hpl2
      have ho8 := oct8_size (numsL top a e x)
      have heb := eB_size (a ++ e)
      have htx := txN_app a e
      refine w_keep (i := 93) k93 ?_
      repeat' (first
        | ((with_reducible apply g_op); first
          | ((with_reducible apply g_move); first
            | ((with_reducible apply w_pure (v := .int _ _)); exact rfl; exact rfl))
          | ((with_reducible apply g_bin); first
            | ((with_reducible apply w_wrap); exact rfl; exact rfl; first | exact i64_in _ (by omega) | exact u64_in _ (by omega) | exact u8_in _ (by omega))
            | ((with_reducible apply w_pure (v := .bool _)); exact rfl; exact rfl)))
        | with_reducible refine w_seq ?_
        | with_reducible refine w_nil ?_
        | with_reducible refine w_region ?_
        | ((with_reducible apply w_exit); exact rfl)
        | ((with_reducible apply w_ifd); exact rfl; all_goals (intro hc; first | (exfalso; omega) | skip)))
      refine w_rn (hT.string (by omega)) (fun _ => rfl) ?_
      rintro _ g5 n5 ⟨rfl, rfl, pp, hB⟩
      repeat' (first
        | ((with_reducible apply g_op); first
          | ((with_reducible apply g_move); first
            | ((with_reducible apply w_pure (v := .int _ _)); exact rfl; exact rfl))))
      refine w_rn (len_run hB) (fun _ => rfl) ?_
      rintro _ _ _ ⟨rfl, rfl, rfl⟩
      rw [heb]
      repeat' (first
        | ((with_reducible apply g_op); first
          | ((with_reducible apply g_bin); first
            | ((with_reducible apply w_wrap); exact rfl; exact rfl; first | exact i64_in _ (by omega) | exact u64_in _ (by omega) | exact u8_in _ (by omega)))))
      refine w_rq (fill_run (oct8 (numsL top a e x)) ((szN a e x : Int) - (txN (a ++ e) : Nat)) (by omega) (by omega) _ _ _) (fun _ => rfl) ?_
      rintro _ rfl
      have hfz := fillV_size (oct8 (numsL top a e x)) ((szN a e x : Int) - (txN (a ++ e) : Nat))
      repeat' (first
        | fail)
      refine w_rn (Bl.string_run (eB (a ++ e)) pp _ _ _ _ hB (by omega)) (fun _ => rfl) ?_
      rintro _ g6 n6 ⟨rfl, rfl, -⟩
      repeat' (first
        | ((with_reducible apply g_op); first
          | ((with_reducible apply g_bin); first
            | ((with_reducible apply w_cat); exact rfl; exact rfl; exact rfl; exact rfl; exact rfl; omega))
          | ((with_reducible apply g_assign); first
            | ((with_reducible apply w_pure (v := .int _ _)); exact rfl; exact rfl)
            | ((with_reducible apply w_pure (v := .string _)); exact rfl; exact rfl)))
        | with_reducible refine w_nil ?_)
      refine w_ret (v := .tuple #[.int _ _, .string _, .int _ _]) rfl ?_
      exact fr_plain rfl (by rw [← hR])
end Stk
end Go.Proofs.Ytkpofbkedolhnaa.L

