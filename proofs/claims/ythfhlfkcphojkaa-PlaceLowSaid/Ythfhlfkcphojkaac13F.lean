/- Place, plain: what is placed stands apart, in the room. -/
import Derived.Test.Ythfhlfkcphojkaac13E
namespace Go.Proofs.Ythfhlfkcphojkaa.L
open Go.L1 Go.IntWalk
set_option linter.unusedVariables false
set_option linter.unusedSimpArgs false
set_option maxHeartbeats 4000000
theorem allGo_len {l : List (Int × Int)} {low high : Int} : ∀ {r : List (Int × Int)} {a b : List Int}, allGo l low high r a = some b → b.length = a.length + r.length
  | [], a, b, h => by cases h; simp
  | w :: r, a, b, h => by
    unfold allGo at h
    obtain ⟨p, _, h2⟩ := Option.bind_eq_some_iff.1 h
    have := allGo_len h2
    simp at this
    simp
    omega
theorem allS_len (l : List (Int × Int)) (low high : Int) : (allS l low high).1.length ≤ l.length := by
  unfold allS
  split
  · simp
  · split
    · simp
    · split
      · rename_i h; have := allGo_len h; simp at this; simp; omega
      · simp
theorem fits_iff {l : List (Int × Int)} {at_ : List Int} {low high p size : Int} : fitsS l at_ low high p size = true ↔ low ≤ p ∧ p ≤ high ∧ size ≤ high - p ∧ ∀ (k : Nat) (q : Int) (w : Int × Int), at_[k]? = some q → l[k]? = some w → meetS q (rnd w.1) p size = false := by
  unfold fitsS
  simp only [Bool.and_eq_true, Bool.not_eq_true', Bool.or_eq_false_iff, decide_eq_false_iff_not, List.all_eq_true]
  constructor
  · rintro ⟨⟨⟨h1, h2⟩, h3⟩, h4⟩
    refine ⟨by omega, by omega, by omega, fun k q w hq hw => ?_⟩
    exact h4 (q, w) (List.mem_of_getElem? (i := k) (by rw [List.getElem?_zip_eq_some]; exact ⟨hq, hw⟩))
  · rintro ⟨h1, h2, h3, h4⟩
    refine ⟨⟨⟨by omega, by omega⟩, by omega⟩, fun x hx => ?_⟩
    obtain ⟨k, hk⟩ := List.getElem?_of_mem hx
    obtain ⟨hq, hw⟩ := List.getElem?_zip_eq_some.1 hk
    exact h4 k x.1 x.2 hq hw
theorem meet_iff {a na b nb : Int} (h1 : 0 < na) (h2 : 0 < nb) : meetS a na b nb = true ↔ a < b + nb ∧ b < a + na := by
  unfold meetS
  rw [if_neg (by omega), if_neg (by omega)]
  split
  · rw [decide_eq_true_iff]; omega
  · rw [decide_eq_true_iff]; omega
theorem meet_false {a na b nb : Int} (h1 : 0 < na) (h2 : 0 < nb) : meetS a na b nb = false ↔ ¬ (a < b + nb ∧ b < a + na) := by
  rw [← meet_iff h1 h2]; simp
theorem rnd_pos {a : Int} (h : 1 ≤ a) : 0 < rnd a := by unfold rnd; omega
theorem rnd_eq {a : Int} (h : 1 ≤ a) (h' : a ≤ 1000000) : rnd a = (a + 63) / 64 * 64 := by unfold rnd; omega
def PlAt (l : List (Int × Int)) (low high : Int) (a : List Int) (i : Nat) (w : Int × Int) (p : Int) : Prop :=
  p % 64 = 0 ∧ fitsS l (a.take i) low high p (rnd w.1) = true ∧ (w.2 ≠ 0 → w.2 % 64 = 0 → fitsS l (a.take i) low high w.2 (rnd w.1) = true → p = w.2) ∧ ((w.2 = 0 ∨ w.2 % 64 ≠ 0 ∨ fitsS l (a.take i) low high w.2 (rnd w.1) = false) → p = (freeS l (a.take i) low high w.1).1 ∧ (freeS l (a.take i) low high w.1).2 = true)
def Pl (l : List (Int × Int)) (low high : Int) (a : List Int) : Prop := ∀ i w p, l[i]? = some w → a[i]? = some p → PlAt l low high a i w p
theorem placeS_at {l : List (Int × Int)} {at_ : List Int} {low high : Int} {w : Int × Int} {p : Int} (h : placeS l at_ low high w = some p) : p % 64 = 0 ∧ fitsS l at_ low high p (rnd w.1) = true ∧ (w.2 ≠ 0 → w.2 % 64 = 0 → fitsS l at_ low high w.2 (rnd w.1) = true → p = w.2) ∧ ((w.2 = 0 ∨ w.2 % 64 ≠ 0 ∨ fitsS l at_ low high w.2 (rnd w.1) = false) → p = (freeS l at_ low high w.1).1 ∧ (freeS l at_ low high w.1).2 = true) := by
  by_cases hc : w.2 = 0 ∨ w.2 % 64 ≠ 0 ∨ fitsS l at_ low high w.2 (rnd w.1) = false
  · rw [placeS_free hc] at h
    split at h
    · rename_i hf
      cases h
      have := freeS_ok hf
      refine ⟨this.1, this.2, fun h1 h2 h3 => ?_, fun _ => ⟨rfl, hf⟩⟩
      rcases hc with hc | hc | hc
      · exact absurd hc h1
      · exact absurd h2 hc
      · rw [h3] at hc; cases hc
    · cases h
  · have h1 : w.2 ≠ 0 := fun h => hc (.inl h)
    have h2 : w.2 % 64 = 0 := by
      by_cases h : w.2 % 64 = 0
      · exact h
      · exact absurd (.inr (.inl h)) hc
    have h3 : fitsS l at_ low high w.2 (rnd w.1) = true := by
      cases hf : fitsS l at_ low high w.2 (rnd w.1) with
      | true => rfl
      | false => exact absurd (.inr (.inr hf)) hc
    rw [placeS_slot h1 h2 h3] at h
    cases h
    exact ⟨h2, h3, fun _ _ _ => rfl, fun h => absurd h hc⟩
theorem allGo_placed {l : List (Int × Int)} {low high : Int} : ∀ {r : List (Int × Int)} {a b : List Int}, Pl l low high a → l.drop a.length = r → allGo l low high r a = some b → Pl l low high b
  | [], a, b, hp, hr, h => by cases h; exact hp
  | w :: r, a, b, hp, hr, h => by
    unfold allGo at h
    obtain ⟨p, h1, h2⟩ := Option.bind_eq_some_iff.1 h
    have hw : l[a.length]? = some w := by
      have : (l.drop a.length)[0]? = some w := by rw [hr]; rfl
      rw [List.getElem?_drop] at this
      simpa using this
    refine allGo_placed (fun i w' p' hw' hp' => ?_) ?_ h2
    · by_cases hi : i < a.length
      · rw [List.getElem?_append_left hi] at hp'
        have := hp i w' p' hw' hp'
        unfold PlAt at this ⊢
        rw [List.take_append_of_le_length (by omega)]
        exact this
      · rw [List.getElem?_append_right (by omega)] at hp'
        have hi' : i = a.length := by
          have := (List.getElem?_eq_some_iff.1 hp').1
          simp at this
          omega
        subst hi'
        simp at hp'
        subst hp'
        rw [hw] at hw'
        cases hw'
        unfold PlAt
        rw [List.take_left']
        · exact placeS_at h1
        · rfl
    · rw [List.length_append, show [p].length = 1 from rfl, ← List.drop_drop, hr]
      rfl
/-- What All answers, of a room and of things that may be. -/
theorem allS_ok {l : List (Int × Int)} {low high : Int} (hrm : roomS low high = true) (hb : l.any badB = false) : ((allS l low high).2 = 0 ∧ (allS l low high).1.length = l.length ∧ Pl l low high (allS l low high).1) ∨ (allS l low high = ([], 18) ∧ l ≠ [] ∧ allGo l low high l [] = none) := by
  unfold allS
  rw [if_neg (by simp [hrm]), if_neg (by simp [hb])]
  split
  · rename_i at_ h
    have h1 := allGo_len h
    refine .inl ⟨rfl, by simpa using h1, allGo_placed (a := []) (fun i w p _ hp => by simp at hp) rfl h⟩
  · rename_i h
    refine .inr ⟨rfl, fun e => ?_, h⟩
    subst e
    cases h
/-- A row of one's own, read. -/
theorem own_row {α : Type} {g : Nat → Option Ob} {lo n : Nat} {e : TypeId} {enc : α → List Value} {i : Nat} {l : List α} (h : Own g lo n e enc (some i) l) : Row g (some ⟨i, 0, none⟩) e (l.flatMap enc) :=
  .inr ⟨i, 0, _, rfl, h.2.2.2, by rw [Nat.zero_add]; exact Nat.le_refl _, by rw [List.drop_zero, List.take_length]⟩
end Go.Proofs.Ythfhlfkcphojkaa.L

