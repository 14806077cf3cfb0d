/- A region that draws its order does what it does in the text's order, if its plan holds: the proof over all orders. -/
import Derived.Test.YtokbhihfooaijaaL1O
namespace Go.L1
open Go.RowKit
set_option linter.unusedVariables false
set_option linter.unusedSimpArgs false
variable {C : Cx} {ρ : Rho} {H H' : Hp} {w : World} {σ : Env} {a : Act} {v : Value}
def QuietOk (q : FuncId → Bool) (call : Fns) : Prop := ∀ g, q g = true → ∀ args H e H', call g args H = some (e, H') → H' = H
theorem sort1 {P : Program} {q : FuncId → Bool} {call : Fns} (hq : QuietOk q call) {o : Oper} {σ : Env} {H H' : Hp} {e : Ending} (hs : sortOf P q o.op = 1) (h : step1 P call o σ H = some (e, H')) : H' = H := by
  obtain ⟨dst, op, ty, pos, after, guard⟩ := o
  cases op with
  | load t x =>
    simp only [step1, op1, Option.map_map, Option.map_eq_some_iff] at h
    obtain ⟨u, _, h2⟩ := h
    cases h2; rfl
  | slice t x lo hi mx =>
    simp only [step1, op1, Option.map_map, Option.map_eq_some_iff] at h
    obtain ⟨u, _, h2⟩ := h
    cases h2; rfl
  | lookup t m k ok =>
    simp only [step1, op1] at h
    obtain ⟨r, hr, h2⟩ := Option.map_eq_some_iff.1 h
    cases h2
    obtain ⟨ke, _, h1⟩ := Option.bind_eq_some_iff.1 hr
    obtain ⟨es, _, h2⟩ := Option.bind_eq_some_iff.1 h1
    split at h2
    · obtain ⟨x, _, h3⟩ := Option.bind_eq_some_iff.1 h2
      obtain ⟨z, _, h4⟩ := Option.map_eq_some_iff.1 h3
      rw [← h4]
    · cases h2
  | convert s d x =>
    simp only [sortOf] at hs
    split at hs
    · cases hs
    · rename_i h1
      simp only [step1, op1] at h
      obtain ⟨r, hr, h2⟩ := Option.map_eq_some_iff.1 h
      cases h2
      cases hpd : P.underlying d with
      | none => cases hps : P.underlying s <;> rw [hps, hpd] at hr <;> simp at hr
      | some dd =>
        have hd' : ∀ e, dd ≠ .slice e := fun e he => h1 (by simp [elemOf, hpd, he])
        cases hps : P.underlying s with
        | none => rw [hps, hpd] at hr; simp at hr
        | some ds =>
          rw [hps, hpd] at hr
          split at hr
          · cases hr; rfl
          · cases hr; rfl
          · rename_i he _; cases he; exact absurd rfl (hd' _)
          · split at hr <;> first | (cases hr; rfl) | cases hr
          · split at hr
            · split at hr
              · cases hr; rfl
              · cases hr
            · cases hr
          · split at hr
            · cases hr; rfl
            · cases hr
          · split at hr
            · split at hr
              · obtain ⟨l, _, h5⟩ := Option.map_eq_some_iff.1 hr
                rw [← h5]
              · cases hr
            · cases hr
          · split at hr
            · obtain ⟨l, _, h5⟩ := Option.map_eq_some_iff.1 hr
              rw [← h5]
            · cases hr
          · cases hr
  | call c =>
    obtain ⟨callee, args, ts⟩ := c
    cases callee with
    | builtin b =>
      cases b <;> first | (simp [sortOf] at hs; done) | skip
      simp only [step1, callOf, builtin1] at h
      obtain ⟨r, hr, h2⟩ := Option.map_eq_some_iff.1 h
      cases h2
      cases hl : args.toList.map (ev σ) with
      | nil => rw [hl] at hr; simp at hr
      | cons y l => cases l with
        | cons _ _ => rw [hl] at hr; simp at hr
        | nil =>
          rw [hl] at hr
          obtain ⟨d, _, h1⟩ := Option.bind_eq_some_iff.1 hr
          obtain ⟨u, _, h3⟩ := Option.map_eq_some_iff.1 h1
          rw [← h3]
    | value f =>
      cases f <;> first | (simp [sortOf] at hs; done) | skip
      rename_i g
      simp only [sortOf] at hs
      split at hs
      · rename_i hg
        simp only [step1, callOf, ev] at h
        exact hq g hg _ _ _ _ h
      · cases hs
    | invoke r m => simp [sortOf] at hs
  | makeMap t r => simp [sortOf] at hs
  | _ => simp [sortOf] at hs
theorem sort_le (P : Program) (q : FuncId → Bool) (op : Op) : sortOf P q op = 0 ∨ sortOf P q op = 1 ∨ sortOf P q op = 2 := by
  unfold sortOf
  split <;> (try split) <;> (try split) <;> simp
theorem first_in (A : Nat → Prop) (k : Nat) : ∀ i, (∀ e, k ≤ e → e < i → ¬ A e) ∨ ∃ e, k ≤ e ∧ e < i ∧ A e ∧ ∀ e', k ≤ e' → e' < e → ¬ A e'
  | 0 => .inl fun e _ h => absurd h (by omega)
  | i + 1 => by
    rcases first_in A k i with h | ⟨e, h1, h2, h3, h4⟩
    · by_cases hi : k ≤ i ∧ A i
      · exact .inr ⟨i, hi.1, by omega, hi.2, fun e' h5 h6 => h e' h5 h6⟩
      · exact .inl fun e h1 h2 hA => by
          by_cases e = i
          · subst e; exact hi ⟨h1, hA⟩
          · exact h e h1 (by omega) hA
    · exact .inr ⟨e, h1, by omega, h3, h4⟩
theorem last_in (A : Nat → Prop) (i : Nat) : ∀ k, (∀ e, i ≤ e → e < k → ¬ A e) ∨ ∃ e, i ≤ e ∧ e < k ∧ A e ∧ ∀ e', e < e' → e' < k → ¬ A e'
  | 0 => .inl fun e _ h => absurd h (by omega)
  | k + 1 => by
    by_cases hk : i ≤ k ∧ A k
    · exact .inr ⟨k, hk.1, by omega, hk.2, fun e' h1 h2 => by omega⟩
    · rcases last_in A i k with h | ⟨e, h1, h2, h3, h4⟩
      · exact .inl fun e h1 h2 hA => by
          by_cases e = k
          · subst e; exact hk ⟨h1, hA⟩
          · exact h e h1 (by omega) hA
      · refine .inr ⟨e, h1, by omega, h3, fun e' h5 h6 hA => ?_⟩
        by_cases e' = k
        · subst e'; exact hk ⟨by omega, hA⟩
        · exact h4 e' h5 (by omega) hA
structure Plan (P : Program) (q : FuncId → Bool) (ops : Array Oper) : Prop where
  lt : ∀ i o, ops.toList[i]? = some o → ∀ e ∈ o.after.toList, Region.binds .any e = true → e.on < i
  once : once ops.toList = true
  slot : ∀ i j o p d, ops.toList[i]? = some o → ops.toList[j]? = some p → i ≠ j → p.dst = some d → d ∈ Oper.looksAt ops o → ahead (masks ops.toList []) j i = true ∨ ahead (masks ops.toList []) i j = true
  acts : ∀ i j o p, ops.toList[i]? = some o → ops.toList[j]? = some p → i ≠ j → sortOf P q o.op = 2 → sortOf P q p.op = 2 → ahead (masks ops.toList []) i j = true ∨ ahead (masks ops.toList []) j i = true
theorem opAt_eq {l : List Oper} {i : Nat} {o : Oper} (h : l[i]? = some o) : opAt l i = o := by simp [opAt, List.getD_eq_getElem?_getD, h]
theorem mem_pairs {n i j : Nat} (hi : i < n) (hj : j < n) : (i, j) ∈ pairsOf n := List.mem_flatMap.2 ⟨i, List.mem_range.2 hi, List.mem_map.2 ⟨j, List.mem_range.2 hj, rfl⟩⟩
theorem plan_of {P : Program} {q : FuncId → Bool} {ops : Array Oper} (h : planOk P q ops = true) : Plan P q ops := by
  unfold planOk at h
  simp only [Bool.and_eq_true] at h
  obtain ⟨⟨h1, h2⟩, h3⟩ := h
  have pair : ∀ i j o p, ops.toList[i]? = some o → ops.toList[j]? = some p → i ≠ j → ((match p.dst with
      | some d => !(Oper.looksAt ops o).contains d || ahead (masks ops.toList []) j i || ahead (masks ops.toList []) i j
      | none => true) && (!(sortOf P q o.op == 2 && sortOf P q p.op == 2) || ahead (masks ops.toList []) i j || ahead (masks ops.toList []) j i)) = true := by
    intro i j o p ho hp hij
    have := List.all_eq_true.1 h3 (i, j) (mem_pairs (List.getElem?_eq_some_iff.1 ho).1 (List.getElem?_eq_some_iff.1 hp).1)
    simp only [opAt_eq ho, opAt_eq hp, Bool.or_eq_true, beq_iff_eq, hij, false_or] at this
    exact this
  refine ⟨fun i o ho e he hb => ?_, h2, fun i j o p d ho hp hij hd hl => ?_, fun i j o p ho hp hij h4 h5 => ?_⟩
  · have := List.all_eq_true.1 h1 i (List.mem_range.2 (List.getElem?_eq_some_iff.1 ho).1)
    rw [opAt_eq ho] at this
    have := List.all_eq_true.1 this e he
    simpa [hb] using this
  · have := pair i j o p ho hp hij
    rw [hd] at this
    simp only [Bool.and_eq_true, Bool.or_eq_true, Bool.not_eq_true', List.contains_eq_mem, decide_eq_false_iff_not] at this
    rcases this.1 with (h6 | h6) | h6
    · exact absurd hl h6
    · exact .inl h6
    · exact .inr h6
  · have := pair i j o p ho hp hij
    simp only [Bool.and_eq_true, Bool.or_eq_true, Bool.not_eq_true', h4, h5] at this
    rcases this.2 with (h6 | h6) | h6
    · simp at h6
    · exact .inl h6
    · exact .inr h6
theorem mem_plan {P : Program} {q : FuncId → Bool} {ops : Array Oper} {i j : Nat} {o p : Oper} (ho : ops.toList[i]? = some o) (hp : ops.toList[j]? = some p) (h1 : sortOf P q o.op = 1) (h2 : sortOf P q p.op = 2)
    (h3 : ¬ ahead (masks ops.toList []) i j = true) (h4 : ¬ ahead (masks ops.toList []) j i = true) : (i, j) ∈ planOf P q ops := by
  unfold planOf
  refine List.mem_filter.2 ⟨mem_pairs (List.getElem?_eq_some_iff.1 ho).1 (List.getElem?_eq_some_iff.1 hp).1, ?_⟩
  simp [opAt_eq ho, opAt_eq hp, h1, h2, h3, h4]
section
variable {P : Program} {q : FuncId → Bool} {call : Fns} {ops : Array Oper} {tr : List (Env × Hp)} (hplan : Plan P q ops) (hq : QuietOk q call) (ht : traceOps P call ops ops.toList σ H = some tr)
include hq ht
theorem heap_next {i : Nat} {o : Oper} (ho : ops.toList[i]? = some o) (hs : sortOf P q o.op ≠ 2) : (tr.getD (i + 1) d0).2 = (tr.getD i d0).2 := by
  rcases trace_at ht ho with ⟨_, v, h1, _⟩ | ⟨_, h1, _⟩
  · rcases sort_le P q o.op with h | h | h
    · exact (sort0 h h1).1
    · exact sort1 hq h h1
    · exact absurd h hs
  · exact h1
/-- Between two cuts without a turn the heap is one. -/
theorem heap_cut {k : Nat} : ∀ {m : Nat}, k ≤ m → m ≤ ops.toList.length → (∀ e o, k ≤ e → e < m → ops.toList[e]? = some o → sortOf P q o.op ≠ 2) → (tr.getD m d0).2 = (tr.getD k d0).2
  | 0, hk, _, _ => by rw [Nat.le_zero.1 hk]
  | m + 1, hk, hm, h => by
    by_cases e : k = m + 1
    · rw [e]
    · obtain ⟨o, ho⟩ : ∃ o, ops.toList[m]? = some o := ⟨_, List.getElem?_eq_getElem (by omega)⟩
      rw [heap_next hq ht ho (h m o (by omega) (by omega) ho)]
      exact heap_cut (by omega) (by omega) fun e o h1 h2 => h e o h1 (by omega)
end
/-- What is known of a state on the way: which have come up, where the heap stands, what the slots hold. -/
structure On (C : Cx) (lo : Nat) (q : FuncId → Bool) (ops : Array Oper) (N : Nat) (tr : List (Env × Hp)) (ρ : Rho) (σ : Env) (H : Hp) (w : World) (L : Nat → Prop) (a : Act) (w' : World) (ρ' : Rho) (k : Nat) (τ : Env) : Prop where
  good : Good C ρ H w ρ' (tr.getD k d0).2 w'
  env : EnvR C (tr.getD k d0).2.next ρ' w' τ a
  size : a.tmps.size = N
  defers : Mk lo ρ' (tr.getD k d0).2 w' a.defers
  kle : k ≤ ops.toList.length
  cut : ∀ e o, ops.toList[e]? = some o → sortOf C.P q o.op = 2 → (e < k ↔ L e)
  not : ∀ t, (∀ j o, ops.toList[j]? = some o → o.dst = some t → ¬ L j) → τ t = σ t
  yes : ∀ t j o, ops.toList[j]? = some o → o.dst = some t → L j → τ t = (tr.getD (j + 1) d0).1 t
  closed : ∀ j o, ops.toList[j]? = some o → L j → ∀ e ∈ o.after.toList, Region.binds .any e = true → L e.on
end Go.L1
