/- The one statement that is left of OctetWithin: a range is within all just if each of its places is, and it begins at one that is there, or at the end. -/
import Derived.Test.YtopbkfgeidnleaaSOctetWithin
import Derived.Test.YtopbkfgeidnleaaPB
namespace Go.Proofs.Ytopbkfgeidnleaa.X
open Go.RowKit Go.Proofs.YtopbkfgeidnleaaW.PrintWords Go.Proofs.YtopbkfgeidnleaaW.PrintLast Go.Proofs.YtopbkfgeidnleaaW.PrintMore
namespace OctetWithin
theorem awake_ev : Ev (fun k => flyleaflaw01_awake.f k) true := Ev.of (fun k => flyleaflaw01_awake.mono k) (k := 9) (by kernel_rfl)
/-- The loop: what is wanted behind it. -/
theorem loop_ev (a n l : Int) (ha : -60 < a ∧ a < 60) (hn : -60 < n ∧ n < 60) (hl : -60 < l ∧ l < 60) : ∀ (d : Nat) (i : Int) (x : Bool), a ≤ i → i ≤ a + 60 → a + n - i ≤ d →
    ∀ y : Bool, (y = true ↔ x = true ∧ ∀ j, i ≤ j → j < a + n → 0 ≤ j ∧ j < l) → Ev (fun k => flyleaflaw01_OctetWithin.l0 k true a n l x i) (decide (0 ≤ a ∧ 0 ≤ n ∧ a ≤ l ∧ n ≤ l - a) == y) := by
  have hw : wrap64 (a + n) = a + n := PB.wrap_ok _ (by omega) (by omega)
  have stop : ∀ (i : Int) (x : Bool), a ≤ i → a + n ≤ i → ∀ y : Bool, (y = true ↔ x = true ∧ ∀ j, i ≤ j → j < a + n → 0 ≤ j ∧ j < l) → Ev (fun k => flyleaflaw01_OctetWithin.l0 k true a n l x i) (decide (0 ≤ a ∧ 0 ≤ n ∧ a ≤ l ∧ n ≤ l - a) == y) := by
    intro i x h1 h3 y hy
    have hyx : y = x := by
      cases x <;> cases y <;> simp at hy ⊢
      obtain ⟨j, hj1, hj2, _⟩ := hy
      omega
    subst hyx
    refine PB.ev_one fun k => ?_
    simp only [flyleaflaw01_OctetWithin.l0]
    rw [hw, if_neg (by omega), if_pos trivial]
    unfold octet_Within.f
    by_cases c1 : a ≥ 0
    · rw [if_pos c1]
      by_cases c2 : n ≥ 0
      · rw [if_pos c2]
        by_cases c3 : a ≤ l
        · rw [if_pos c3, PB.wrap_ok _ (by omega) (by omega)]
          have e : decide (n ≤ l - a) = decide (0 ≤ a ∧ 0 ≤ n ∧ a ≤ l ∧ n ≤ l - a) := decide_eq_decide.2 ⟨fun h => ⟨c1, c2, c3, h⟩, fun h => h.2.2.2⟩
          simp only [Option.bind_some, e]
        · rw [if_neg c3]
          have e : decide (0 ≤ a ∧ 0 ≤ n ∧ a ≤ l ∧ n ≤ l - a) = false := decide_eq_false fun h => c3 h.2.2.1
          simp only [Option.bind_some, e]
      · rw [if_neg c2]
        have e : decide (0 ≤ a ∧ 0 ≤ n ∧ a ≤ l ∧ n ≤ l - a) = false := decide_eq_false fun h => c2 h.2.1
        simp only [Option.bind_some, e]
    · rw [if_neg c1]
      have e : decide (0 ≤ a ∧ 0 ≤ n ∧ a ≤ l ∧ n ≤ l - a) = false := decide_eq_false fun h => c1 h.1
      simp only [Option.bind_some, e]
  intro d
  induction d with
  | zero =>
    intro i x h1 h2 h3 y hy
    exact stop i x h1 (by omega) y hy
  | succ d ih =>
    intro i x h1 h2 h3 y hy
    by_cases hlt : i < a + n
    · have hi : wrap64 (i + 1) = i + 1 := PB.wrap_ok _ (by omega) (by omega)
      by_cases hx : x = true
      · subst hx
        by_cases h0 : i ≥ 0
        · refine PB.ev_succ (f := fun k => flyleaflaw01_OctetWithin.l0 k true a n l (decide (i < l)) (i + 1)) (fun k => ?_) (ih (i + 1) (decide (i < l)) (by omega) (by omega) (by omega) y ?_)
          · simp only [flyleaflaw01_OctetWithin.l0]
            rw [hw, if_pos hlt, if_pos trivial, if_pos h0, hi]
          · rw [hy, decide_eq_true_iff]
            constructor
            · rintro ⟨_, h⟩
              exact ⟨(h i (by omega) hlt).2, fun j hj1 hj2 => h j (by omega) hj2⟩
            · rintro ⟨hil, h⟩
              refine ⟨rfl, fun j hj1 hj2 => ?_⟩
              rcases Int.lt_or_le i j with h4 | h4
              · exact h j (by omega) hj2
              · obtain rfl : j = i := by omega
                exact ⟨h0, hil⟩
        · have hyf : y = false := by
            cases y with
            | false => rfl
            | true => exact absurd ((hy.1 rfl).2 i (by omega) hlt).1 (by omega)
          subst hyf
          refine PB.ev_succ (f := fun k => flyleaflaw01_OctetWithin.l0 k true a n l false (i + 1)) (fun k => ?_) (ih (i + 1) false (by omega) (by omega) (by omega) false (by simp))
          simp only [flyleaflaw01_OctetWithin.l0]
          rw [hw, if_pos hlt, if_pos trivial, if_neg h0, hi]
      · obtain rfl : x = false := by simpa using hx
        have hyf : y = false := by
          cases y with
          | false => rfl
          | true => exact absurd (hy.1 rfl).1 (by simp)
        subst hyf
        refine PB.ev_succ (f := fun k => flyleaflaw01_OctetWithin.l0 k true a n l false (i + 1)) (fun k => ?_) (ih (i + 1) false (by omega) (by omega) (by omega) false (by simp))
        simp only [flyleaflaw01_OctetWithin.l0]
        rw [hw, if_pos hlt, if_neg (by simp), hi]
    · exact stop i x h1 (by omega) y hy
theorem tmod60 (x : Int) : -60 < Int.tmod x 60 ∧ Int.tmod x 60 < 60 :=
  ⟨by have := Int.lt_tmod_of_pos x (show (0 : Int) < 60 by decide); omega, Int.tmod_lt_of_pos x (by decide)⟩
theorem proved : flyleaflaw01_OctetWithin.Pure := by
  intro q _
  refine Ev.rounds ?_
  unfold flyleaflaw01_OctetWithin.f
  refine Ev.bind awake_ev ?_
  have ha := tmod60 q.f0
  have hn := tmod60 q.f1
  have hl := tmod60 q.f2
  generalize Int.tmod q.f0 60 = a at *
  generalize Int.tmod q.f1 60 = n at *
  generalize Int.tmod q.f2 60 = l at *
  have go : ∀ x : Bool, (x = true ↔ 0 ≤ a ∧ 0 ≤ n ∧ a ≤ l) → Ev (fun k => flyleaflaw01_OctetWithin.j0 k true a n l x) true := by
    intro x hx
    refine PB.ev_succ (f := fun k => flyleaflaw01_OctetWithin.l0 k true a n l x a) (fun k => by simp only [flyleaflaw01_OctetWithin.j0]) ?_
    have h := loop_ev a n l ha hn hl 60 a x (by omega) (by omega) (by omega) (decide (0 ≤ a ∧ 0 ≤ n ∧ a ≤ l ∧ n ≤ l - a)) (by
      rw [decide_eq_true_iff, hx]
      constructor
      · rintro ⟨h1, h2, h3, h4⟩
        exact ⟨⟨h1, h2, h3⟩, fun j _ _ => by omega⟩
      · rintro ⟨⟨h1, h2, h3⟩, h4⟩
        refine ⟨h1, h2, h3, ?_⟩
        rcases Int.lt_or_le 0 n with h5 | h5
        · have := h4 (a + n - 1) (by omega) (by omega)
          omega
        · omega)
    simpa using h
  by_cases c1 : a ≥ 0
  · by_cases c2 : n ≥ 0
    · exact Ev.congr (fun k => by rw [if_pos c1, if_pos c2]) (go (decide (a ≤ l)) (by rw [decide_eq_true_iff]; omega))
    · exact Ev.congr (fun k => by rw [if_pos c1, if_neg c2]) (go false (by simp; omega))
  · exact Ev.congr (fun k => by rw [if_neg c1]) (go false (by simp; omega))
end OctetWithin
end Go.Proofs.Ytopbkfgeidnleaa.X
