/- strings.Join, of no separator, and strings.Contains, of one byte, as the library's shelf tells them, over the interpreter. -/
import Derived.Test.Ytkpofbkedolhnaac08S
namespace Go.Proofs.Ytkpofbkedolhnaa.L
open Go.L1 Go.RowKit
set_option linter.unusedVariables false
set_option linter.unusedSimpArgs false
set_option maxHeartbeats 4000000
def vStr : Value → Option ByteArray | .string s => some s | _ => none
def joinB (l : List ByteArray) : ByteArray := ⟨(l.flatMap fun s => s.data.toList).toArray⟩
def joinExt : List Value → Hp → Option (Ending × Hp) := fun a H => match a with
  | [.func (.via n _ _ false) _ vs, .string sep] => (vs.toList.mapM vStr).bind fun l => if sep.size = 0 ∧ vs.size = n ∧ l.length ≤ 100000000 ∧ (joinB l).size ≤ 100000000 then some (.returned (.string (joinB l)), H) else none
  | _ => none
def has (s : ByteArray) (c : UInt8) : Bool := s.data.toList.any (· == c)
def hasExt : List Value → Hp → Option (Ending × Hp) := fun a H => match a with
  | [.string s, .string ⟨⟨[c]⟩⟩] => some (.returned (.bool (has s c)), H)
  | _ => none
theorem has_ix (c : UInt8) : ∀ (l : List UInt8), decide (0 ≤ Lib.indexByte l c) = l.any (· == c)
  | [] => rfl
  | b :: l => by
    have ih := has_ix c l
    have hg := Lib.indexByte_ge l c
    rw [List.any_cons, Lib.indexByte, ← ih]
    cases hb : b == c
    · simp only [Bool.false_eq_true, if_false, Bool.false_or]
      by_cases h : Lib.indexByte l c = -1
      · rw [h]; rfl
      · rw [if_neg (by simpa using h)]
        exact decide_eq_decide.2 (by omega)
    · simp
theorem mapM_str : ∀ {vs : List Value} {l : List ByteArray}, vs.mapM vStr = some l → vs = l.map Value.string
  | [], l, h => by simp at h; subst h; rfl
  | v :: vs, l, h => by
    rw [List.mapM_cons] at h
    cases v with
    | string s =>
      cases hm : vs.mapM vStr with
      | none => simp [vStr, hm] at h
      | some r =>
        simp [vStr, hm] at h
        subst h
        rw [mapM_str hm]; rfl
    | _ => simp [vStr] at h
theorem join_is (l : List ByteArray) : (⟨(Lib.join (l.map (·.data.toList)) []).toArray⟩ : ByteArray) = joinB l := by
  unfold joinB
  congr 2
  cases l with
  | nil => rfl
  | cons x r =>
    rw [List.map_cons, Lib.join_cons, List.flatMap_cons]
    congr 1
    unfold Lib.joinTail
    induction r with
    | nil => rfl
    | cons y r ih => rw [List.map_cons, List.map_cons, List.flatten_cons, ih, List.flatMap_cons]; rfl
theorem join_ok {C : Cx} (hC : C.P = Try.prog) {args : List Value} {H H' : Hp} {e : Ending} (h : joinExt args H = some (e, H')) : FnOk C 40 args H e H' ∧ H' = H := by
  unfold joinExt at h
  split at h
  · rename_i n p f s0 vs sep
    cases hm : vs.toList.mapM vStr with
    | none => simp [hm] at h
    | some l =>
    rw [hm, Option.bind_some] at h
    split at h
    · rename_i hc
      obtain ⟨h1, h2, h3, h4⟩ := hc
      cases h
      refine ⟨.inl ⟨?_, fun ρ w args' hr ha => ?_⟩, rfl⟩
      · rw [hC]; exact ⟨_, Try.func40, by kernel_rfl, by kernel_rfl⟩
      · obtain ⟨la⟩ := args'
        obtain ⟨v1, r1, hl1, q1, q2⟩ := ha.uncons
        obtain ⟨v2, r2, hl2, q3, q4⟩ := q2.uncons
        have hr2 : r2 = [] := List.length_eq_zero_iff.1 (by rw [← q4.1]; rfl)
        have e2 := q3.string
        subst hr2 e2
        subst hl2
        have hl : la = [v1, .string sep] := hl1
        subst hl
        have fin : ∀ (t : ByteArray) (w' : World), Below w.heap.size w w' → t = joinB l → ∃ ρ', L1.Good C ρ H w ρ' H w' ∧ EndR C H.next ρ' w' (.returned (.string (joinB l))) (.returned (.string t)) := fun t w' hb ht =>
          ⟨ρ, below_good hr hb, by subst ht; exact VR.of1 rfl⟩
        have hvs := mapM_str hm
        have hll : l.length = vs.size := by have := congrArg List.length hvs; simpa using this.symm
        have hsep : sep.data.toList = [] := List.length_eq_zero_iff.1 (by rw [Array.length_toList]; exact h1)
        rw [hC]
        cases q1 with
        | atom hx => simp [flat1] at hx
        | frz0 =>
          have hl0 : l = [] := List.length_eq_zero_iff.1 (by rw [hll]; rfl)
          exact (Try.strings_Join_none _ _ _ w).mono fun e' w' ⟨h5, h6⟩ => by subst h5 h6; exact fin _ _ (Below.refl _ _) (by rw [hl0]; rfl)
        | @frz s vs c p f e z k b o cap hc hb hi hlx hv =>
          have hk : n = l.length := by rw [hll]; exact h2.symm
          subst hk
          have hcells : ∀ (j : Nat) x, l[j]? = some x → w.cell? ⟨b, o + j, none⟩ = some (.string x) := by
            intro j x hj
            have hjl : j < vs.size := by rw [← hll]; exact (List.getElem?_eq_some_iff.1 hj).1
            have hvj : vs.getD j undef = .string x := by
              rw [getD_get hjl, ← Array.getElem_toList]
              have : vs.toList[j]? = some (.string x) := by rw [hvs, List.getElem?_map, hj]; rfl
              exact (List.getElem?_eq_some_iff.1 this).2
            have hr := hv j hjl
            rw [hvj] at hr
            have hcj := hr.string
            rw [cell_of hb, Array.getElem?_eq_getElem (by omega)]
            rw [getD_get (by omega)] at hcj
            rw [hcj]
          refine (Try.strings_Join b o cap l sep w hcells (Array.getElem?_eq_some_iff.1 hb).1 (by omega) hc (by
            rw [hsep]
            have := congrArg ByteArray.size (join_is l)
            have e1 : (⟨(Lib.join (l.map (·.data.toList)) []).toArray⟩ : ByteArray).size = (Lib.join (l.map (·.data.toList)) []).length := by show (Lib.join (l.map (·.data.toList)) []).toArray.size = _; rw [List.size_toArray]
            omega)).mono fun e' w' ⟨h5, h6⟩ => ?_
          subst h5
          exact fin _ _ h6 (by rw [hsep]; exact join_is l)
    · cases h
  · cases h
theorem has_ok {C : Cx} (hC : C.P = Try.prog) {args : List Value} {H H' : Hp} {e : Ending} (h : hasExt args H = some (e, H')) : FnOk C 39 args H e H' ∧ H' = H := by
  unfold hasExt at h
  split at h
  · rename_i s c
    cases h
    refine ⟨.inl ⟨?_, fun ρ w args' hr ha => ?_⟩, rfl⟩
    · rw [hC]; exact ⟨_, Try.func39, by kernel_rfl, by kernel_rfl⟩
    · obtain ⟨la⟩ := args'
      obtain ⟨v1, r1, hl1, q1, q2⟩ := ha.uncons
      obtain ⟨v2, r2, hl2, q3, q4⟩ := q2.uncons
      have hr2 : r2 = [] := List.length_eq_zero_iff.1 (by rw [← q4.1]; rfl)
      have e1 := q1.string
      have e2 := q3.string
      subst hr2 e1 e2
      subst hl2
      have hl : la = [.string s, .string ⟨⟨[c]⟩⟩] := hl1
      subst hl
      rw [hC]
      exact (Try.strings_Contains_one s c w).mono fun e' w' ⟨h5, h6⟩ => by
        subst h5 h6
        exact ⟨ρ, below_good hr (Below.refl _ _), by rw [has_ix]; exact VR.of1 rfl⟩
  · cases h
end Go.Proofs.Ytkpofbkedolhnaa.L

