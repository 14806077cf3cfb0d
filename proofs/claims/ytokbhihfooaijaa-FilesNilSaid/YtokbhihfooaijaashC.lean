/- strings.Contains and stringslite.Index, of one byte, as the library's shelf tells them, over the interpreter. -/
import Derived.Test.Ytokbhihfooaijaac08S
namespace Go.Proofs.Ytokbhihfooaijaa.L
open Go.L1 Go.RowKit
set_option linter.unusedVariables false
set_option linter.unusedSimpArgs false
set_option maxHeartbeats 4000000
set_option maxRecDepth 20000
def has (s : ByteArray) (c : UInt8) : Bool := s.data.toList.any (· == c)
def hasExt : List Value → Hp → Option (Ending × Hp) := fun a H => match a with
  | [.string s, .string ⟨⟨[c]⟩⟩] => some (.returned (.bool (has s c)), H)
  | _ => none
theorem has_ix (c : UInt8) : ∀ (l : List UInt8), decide (0 ≤ Lib.indexByte l c) = l.any (· == c)
  | [] => rfl
  | b :: l => by
    have ih := has_ix c l
    have hg := Lib.indexByte_ge l c
    rw [List.any_cons, Lib.indexByte, ← ih]
    cases hb : b == c
    · simp only [Bool.false_eq_true, if_false, Bool.false_or]
      by_cases h : Lib.indexByte l c = -1
      · rw [h]; rfl
      · rw [if_neg (by simpa using h)]
        exact decide_eq_decide.2 (by omega)
    · simp
theorem has_ok {C : Cx} (hC : C.P = Try.prog) {args : List Value} {H H' : Hp} {e : Ending} (h : hasExt args H = some (e, H')) : FnOk C 36 args H e H' ∧ H' = H := by
  unfold hasExt at h
  split at h
  · rename_i s c
    cases h
    refine ⟨.inl ⟨?_, fun ρ w args' hr ha => ?_⟩, rfl⟩
    · rw [hC]; exact ⟨_, Try.func36, by kernel_rfl, by kernel_rfl⟩
    · obtain ⟨la⟩ := args'
      obtain ⟨v1, r1, hl1, q1, q2⟩ := ha.uncons
      obtain ⟨v2, r2, hl2, q3, q4⟩ := q2.uncons
      have hr2 : r2 = [] := List.length_eq_zero_iff.1 (by rw [← q4.1]; rfl)
      have e1 := q1.string
      have e2 := q3.string
      subst hr2 e1 e2
      subst hl2
      have hl : la = [.string s, .string ⟨⟨[c]⟩⟩] := hl1
      subst hl
      rw [hC]
      exact (Try.strings_Contains_one s c w).mono fun e' w' ⟨h5, h6⟩ => by
        subst h5 h6
        exact ⟨ρ, below_good hr (Below.refl _ _), by rw [has_ix]; exact VR.of1 rfl⟩
  · cases h
def ixExt : List Value → Hp → Option (Ending × Hp) := fun a H => match a with
  | [.string s, .string ⟨⟨[c]⟩⟩] => some (.returned (.int .i64 (Lib.indexByte s.data.toList c)), H)
  | _ => none
theorem ix_ok {C : Cx} (hC : C.P = Try.prog) {args : List Value} {H H' : Hp} {e : Ending} (h : ixExt args H = some (e, H')) : FnOk C 59 args H e H' ∧ H' = H := by
  unfold ixExt at h
  split at h
  · rename_i s c
    cases h
    refine ⟨.inl ⟨?_, fun ρ w args' hr ha => ?_⟩, rfl⟩
    · rw [hC]; exact ⟨_, Try.func59, by kernel_rfl, by kernel_rfl⟩
    · obtain ⟨la⟩ := args'
      obtain ⟨v1, r1, hl1, q1, q2⟩ := ha.uncons
      obtain ⟨v2, r2, hl2, q3, q4⟩ := q2.uncons
      have hr2 : r2 = [] := List.length_eq_zero_iff.1 (by rw [← q4.1]; rfl)
      have e1 := q1.string
      have e2 := q3.string
      subst hr2 e1 e2
      subst hl2
      have hl : la = [.string s, .string ⟨⟨[c]⟩⟩] := hl1
      subst hl
      rw [hC]
      exact (Try.stringslite_Index_one s c w).mono fun e' w' ⟨h5, h6⟩ => by
        subst h5 h6
        exact ⟨ρ, below_good hr (Below.refl _ _), VR.of1 rfl⟩
  · cases h
end Go.Proofs.Ytokbhihfooaijaa.L

