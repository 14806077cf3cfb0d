/- Each operation of the interpreter is the model's: maps, copy, what is counted. -/
import Derived.Test.YtokbhihfooaijaaL1J
namespace Go.L1
open Go.RowKit
set_option linter.unusedVariables false
set_option linter.unusedSimpArgs false
variable {C : Cx} {ρ : Rho} {H H' : Hp} {w : World} {σ : Env} {a : Act} {v : Value}
-- ---- keys
theorem keyOk_flat {P : Program} {kt : TypeId} {k : Value} (h : keyOk P kt k = true) : flat2 k = true := by
  unfold keyOk at h
  split at h <;> first | rfl | (simp only [Bool.and_eq_true] at h; exact h.1.1) | (cases h)
theorem check_ok {P : Program} {kt : TypeId} {k : Value} (h : keyOk P kt k = true) (e : Bool) (w : World) : (Instr.checkKey e 10000 kt k).run P w = .ok () w := by
  have e1 : Instr.checkKey e 10000 kt k = Instr.checkKey e (9999 + 1) kt k := rfl
  unfold keyOk at h
  split at h
  · rename_i hu; rw [e1, Instr.checkKey]; simp [run_underlying hu]
  · rename_i hu; rw [e1, Instr.checkKey]; simp [run_underlying hu]
  · rename_i hu; rw [e1, Instr.checkKey]; simp [run_underlying hu]
  · simp only [Bool.and_eq_true] at h
    cases e with
    | true => obtain ⟨u, hu⟩ := Option.isSome_iff_exists.1 h.1.2; exact pureRun_run hu w
    | false => obtain ⟨u, hu⟩ := Option.isSome_iff_exists.1 h.2; exact pureRun_run hu w
  · cases h
/-- What was found, in either map. -/
def Found (es : List (Value × Value)) (en : List MapEntry) (i : Nat) (r r' : Option (Nat × Value)) : Prop := match r with
  | none => r' = none
  | some (j, v) => ∃ (k : Value) (e' : MapEntry), r' = some (j, e'.val) ∧ i ≤ j ∧ es[j - i]? = some (k, v) ∧ en[j - i]? = some e'
theorem Found.succ {e es x en i r r'} (h : Found es en (i + 1) r r') : Found (e :: es) (x :: en) i r r' := by
  cases r with
  | none => exact h
  | some p =>
    obtain ⟨j, v⟩ := p
    obtain ⟨k, e', h1, h2, h3, h4⟩ := h
    exact ⟨k, e', h1, by omega, by rw [show j - i = (j - (i + 1)) + 1 by omega]; simpa using h3, by rw [show j - i = (j - (i + 1)) + 1 by omega]; simpa using h4⟩
theorem findNow_ok {P : Program} {kt : TypeId} {d : TypeDesc} {k : Value} (hf : ∀ x b, keyEq P kt k x = some b → Instr.sameNow d k x = some b) : ∀ (es : List (Value × Value)) (en : List MapEntry) (i : Nat) (r : Option (Nat × Value)),
    es.length = en.length → (∀ (j : Nat) (e : Value × Value), es[j]? = some e → ∃ e' : MapEntry, en[j]? = some e' ∧ e'.key = e.1) → findKey P kt k es i = some r →
    ∃ r', Instr.findNow d k en i = some r' ∧ Found es en i r r'
  | [], en, i, r, hl, hk, h => by
    have : en = [] := List.length_eq_zero_iff.1 (by rw [← hl]; rfl)
    subst this
    cases h
    exact ⟨none, rfl, rfl⟩
  | e :: es, en, i, r, hl, hk, h => by
    cases en with
    | nil => simp at hl
    | cons x en =>
      obtain ⟨x', h1, h2⟩ := hk 0 e rfl
      simp at h1
      subst h1
      obtain ⟨b, hb, h3⟩ := Option.bind_eq_some_iff.1 h
      have hs := hf _ _ hb
      rw [← h2] at hs
      cases b with
      | true =>
        simp at h3
        subst h3
        exact ⟨some (i, x.val), by simp [Instr.findNow, hs], e.1, x, rfl, Nat.le_refl _, by simp, by simp⟩
      | false =>
        simp only [Bool.false_eq_true, if_false] at h3
        obtain ⟨r', q1, q2⟩ := findNow_ok hf es en (i + 1) r (by simpa using hl) (fun j e he => hk (j + 1) e he) h3
        exact ⟨r', by simp [Instr.findNow, hs, q1], q2.succ⟩
theorem findAsking_ok {P : Program} {kt : TypeId} {k : Value} {w : World} (hf : ∀ x b, keyEq P kt k x = some b → (Op.equal kt k x).run P w = .ok b w) : ∀ (es : List (Value × Value)) (en : List MapEntry) (i : Nat) (r : Option (Nat × Value)),
    es.length = en.length → (∀ (j : Nat) (e : Value × Value), es[j]? = some e → ∃ e' : MapEntry, en[j]? = some e' ∧ e'.key = e.1) → findKey P kt k es i = some r →
    ∃ r', (Instr.findAsking kt k en i).run P w = .ok r' w ∧ Found es en i r r'
  | [], en, i, r, hl, hk, h => by
    have : en = [] := List.length_eq_zero_iff.1 (by rw [← hl]; rfl)
    subst this
    cases h
    exact ⟨none, rfl, rfl⟩
  | e :: es, en, i, r, hl, hk, h => by
    cases en with
    | nil => simp at hl
    | cons x en =>
      obtain ⟨x', h1, h2⟩ := hk 0 e rfl
      simp at h1
      subst h1
      obtain ⟨b, hb, h3⟩ := Option.bind_eq_some_iff.1 h
      have hs := hf _ _ hb
      rw [← h2] at hs
      cases b with
      | true =>
        simp at h3
        subst h3
        exact ⟨some (i, x.val), by simp [Instr.findAsking, hs], e.1, x, rfl, Nat.le_refl _, by simp, by simp⟩
      | false =>
        simp only [Bool.false_eq_true, if_false] at h3
        obtain ⟨r', q1, q2⟩ := findAsking_ok hf es en (i + 1) r (by simpa using hl) (fun j e he => hk (j + 1) e he) h3
        exact ⟨r', by simp [Instr.findAsking, hs, q1], q2.succ⟩
theorem findKey_ok {P : Program} {kt : TypeId} {k : Value} {es : List (Value × Value)} {en : List MapEntry} {r : Option (Nat × Value)} (hok : keyOk P kt k = true)
    (hl : es.length = en.length) (hk : ∀ (j : Nat) (e : Value × Value), es[j]? = some e → ∃ e' : MapEntry, en[j]? = some e' ∧ e'.key = e.1) (h : findKey P kt k es 0 = some r) (w : World) :
    ∃ r', (Instr.findKey kt k en).run P w = .ok r' w ∧ Found es en 0 r r' := by
  have now : ∀ d, P.underlying kt = some d → (∀ x b, keyEq P kt k x = some b → Instr.sameNow d k x = some b) → ∃ r', (Instr.findKey kt k en).run P w = .ok r' w ∧ Found es en 0 r r' := fun d hu hf => by
    obtain ⟨r', h1, h2⟩ := findNow_ok hf es en 0 r hl hk h
    exact ⟨r', by simp [Instr.findKey, run_underlying hu, h1], h2⟩
  unfold keyOk at hok
  split at hok
  · rename_i q hu
    refine now _ hu fun x b hb => ?_
    unfold keyEq at hb
    rw [hu] at hb
    cases x <;> simp at hb
    obtain ⟨rfl, rfl⟩ := hb
    simp [Instr.sameNow]
  · rename_i hu
    refine now _ hu fun x b hb => ?_
    unfold keyEq at hb
    rw [hu] at hb
    cases x <;> simp at hb
    subst hb
    simp [Instr.sameNow]
  · rename_i hu
    refine now _ hu fun x b hb => ?_
    unfold keyEq at hb
    rw [hu] at hb
    cases x <;> simp at hb
    subst hb
    simp [Instr.sameNow]
  · rename_i fs cs hu
    cases es with
    | nil =>
      have : en = [] := List.length_eq_zero_iff.1 (by rw [← hl]; rfl)
      subst this
      cases h
      exact ⟨none, by simp [Instr.findKey, run_underlying hu, Instr.findNow], rfl⟩
    | cons e es =>
      obtain ⟨r', h1, h2⟩ := findAsking_ok (w := w) (fun x b hb => by
        unfold keyEq at hb
        rw [hu] at hb
        cases x <;> simp at hb
        exact pureRun_run hb.2 w) (e :: es) en 0 r hl hk h
      refine ⟨r', ?_, h2⟩
      cases en with
      | nil => simp at hl
      | cons x en => simp [Instr.findKey, run_underlying hu, Instr.findNow, Instr.sameNow, h1]
  · cases hok
/-- The entries of a map, in either heap. -/
theorem mapEs_ok (hr : HR C ρ H w) {m m' : Value} {es : List (Value × Value)} (hm : VR C H.next ρ w m m') (h : mapEs m H = some es) :
    (m = .map none ∧ m' = .map none ∧ es = []) ∨ ∃ (i : Nat) (en : Array MapEntry) (ck : Nat), m = .map (some i) ∧ m' = .map (some (ρ i).1) ∧ H.get i = some (.map es) ∧ w.heap[(ρ i).1]? = some (.map en ck) ∧ en.size = es.length ∧ C.fence ≤ i ∧ C.base ≤ (ρ i).1 ∧
      ∀ (j : Nat) (e : Value × Value), es[j]? = some e → ∃ e' : MapEntry, en[j]? = some e' ∧ e'.key = e.1 ∧ flat2 e.1 = true ∧ VR C H.next ρ w e.2 e'.val := by
  unfold mapEs at h
  split at h
  · cases h
    have := hm.eq1 rfl
    exact .inl ⟨rfl, this, rfl⟩
  · rename_i i
    cases hg : H.get i with
    | none => rw [hg] at h; cases h
    | some o =>
      rw [hg] at h
      cases o with
      | cells e vs => cases h
      | loop _ _ _ _ _ _ => cases h
      | map es' =>
        cases h
        cases hm with
        | atom hf => simp [flat1] at hf
        | map hi =>
          obtain ⟨h1, h2, en, ck, h3, h4, h5⟩ := (hr.ob i _ hg).2
          exact .inr ⟨i, en, ck, rfl, rfl, hg, h3, h4, h1, h2, h5⟩
  · cases h
theorem lookup_ok (hr : HR C ρ H w) {t : TypeId} {m m' k k' : Value} {ok : Bool} {ke : TypeId × TypeId} {es : List (Value × Value)} {r : Option (Nat × Value)} {z : Value} (hm : VR C H.next ρ w m m') (hk : VR C H.next ρ w k k')
    (ht : mapOf C.P t = some ke) (hes : mapEs m H = some es) (hok : keyOk C.P ke.1 k = true) (hr' : findKey C.P ke.1 k es 0 = some r) (hz : zeroOf C.P ke.2 = some z) :
    ∃ v', (Instr.lookup t m' k' ok).run C.P w = .ok v' w ∧ VR C H.next ρ w (if ok then .tuple #[((r.map (·.2)).getD z), .bool r.isSome] else ((r.map (·.2)).getD z)) v' := by
  have hu := und_map ht
  have := hk.eq2 (keyOk_flat hok)
  subst this
  have pack : ∀ (v v' : Value) (b : Bool), VR C H.next ρ w v v' → VR C H.next ρ w (if ok then .tuple #[v, .bool b] else v) (if ok then .tuple #[v', .bool b] else v') := fun v v' b h => by
    cases ok with
    | false => exact h
    | true => exact VR.tuple_of (VRL.cons h (VRL.cons (.of1 rfl) .nil))
  rcases mapEs_ok hr hm hes with ⟨rfl, rfl, rfl⟩ | ⟨i, en, ck, rfl, rfl, hg, hb, hs, _, _, hv⟩
  · cases hr'
    refine ⟨_, ?_, pack z z false (zeroVR hz)⟩
    have hfk : (Instr.findKey ke.1 k' ([] : List MapEntry)).run C.P w = .ok none w := by
      obtain ⟨r', h1, h2⟩ := findKey_ok (en := []) hok rfl (fun _ _ h => by simp at h) (show findKey C.P ke.1 k' [] 0 = some none from rfl) w
      rw [h1, h2]
    simp [Instr.lookup, run_underlying hu, check_ok hok, hfk, run_zero hz]
  · obtain ⟨r', h1, h2⟩ := findKey_ok (en := en.toList) hok (by simpa using hs.symm) (fun j e he => let ⟨e', a1, a2, _⟩ := hv j e he; ⟨e', by simpa using a1, a2⟩) hr' w
    have hgo : (getObj (ρ i).1).run C.P w = .ok (.map en ck) w := by simp [getObj, Sem.run, hb]
    cases r with
    | none =>
      subst h2
      exact ⟨_, by simp [Instr.lookup, run_underlying hu, hgo, check_ok hok, h1, run_zero hz], pack z z false (zeroVR hz)⟩
    | some p =>
      obtain ⟨j, v⟩ := p
      obtain ⟨kk, e', q1, q2, q3, q4⟩ := h2
      subst q1
      obtain ⟨e2, a1, a2, a3, a4⟩ := hv j (kk, v) (by simpa using q3)
      have : e2 = e' := by
        have q5 : en[j]? = some e' := by simpa using q4
        rw [q5] at a1
        cases a1
        rfl
      subst this
      exact ⟨_, by simp [Instr.lookup, run_underlying hu, hgo, check_ok hok, h1], pack v _ true a4⟩
end Go.L1
