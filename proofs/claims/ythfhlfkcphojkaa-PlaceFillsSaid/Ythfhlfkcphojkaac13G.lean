/- Place, plain: things that like no place are stacked; the least place. -/
import Derived.Test.Ythfhlfkcphojkaac13F
namespace Go.Proofs.Ythfhlfkcphojkaa.L
open Go.L1 Go.IntWalk
set_option linter.unusedVariables false
set_option linter.unusedSimpArgs false
set_option maxHeartbeats 4000000
/-- Where the i-th one stands, if all are stacked. -/
def posS (l : List (Int × Int)) : Nat → Int
  | 0 => 640
  | i + 1 => posS l i + rnd ((l[i]?.getD (0, 0)).1)
def posL (l : List (Int × Int)) (i : Nat) : List Int := (List.range i).map (posS l)
theorem posS_succ {l : List (Int × Int)} {i : Nat} {w : Int × Int} (h : l[i]? = some w) : posS l (i + 1) = posS l i + rnd w.1 := by simp [posS, h]
theorem posS_mono {l : List (Int × Int)} {i j : Nat} (h : i ≤ j) : posS l i ≤ posS l j := by
  induction h with
  | refl => exact Int.le_refl _
  | @step m _ ih =>
    have := (rnd_le ((l[m]?.getD (0, 0)).1)).1
    exact Int.le_trans ih (show posS l m ≤ posS l m + rnd ((l[m]?.getD (0, 0)).1) by omega)
theorem rnd_mod (a : Int) : rnd a % 64 = 0 := by unfold rnd; omega
theorem posS_mod (l : List (Int × Int)) : ∀ i, posS l i % 64 = 0
  | 0 => rfl
  | i + 1 => by have h1 := posS_mod l i; have h2 := rnd_mod ((l[i]?.getD (0, 0)).1); unfold posS; omega
theorem posL_get {l : List (Int × Int)} {i k : Nat} {q : Int} (h : (posL l i)[k]? = some q) : k < i ∧ q = posS l k := by
  unfold posL at h
  obtain ⟨h1, h2⟩ := List.getElem?_eq_some_iff.1 h
  simp at h1 h2
  exact ⟨h1, h2.symm⟩
theorem posL_len (l : List (Int × Int)) (i : Nat) : (posL l i).length = i := by simp [posL]
theorem cands_pos {l : List (Int × Int)} {i : Nat} (hi : i ≤ l.length) : cands l (posL l i) 640 = (List.range (i + 1)).map (posS l) := by
  apply List.ext_getElem?
  intro k
  cases k with
  | zero => simp [cands, posS]
  | succ k =>
    by_cases hk : k < i
    · have hw : l[k]? = some l[k] := List.getElem?_eq_getElem (by omega)
      have hq : (posL l i)[k]? = some (posS l k) := by simp [posL, hk]
      rw [cands_get hw hq, ← posS_succ hw]
      simp [hk]
    · rw [List.getElem?_eq_none (by rw [cands_len, posL_len]; omega), List.getElem?_eq_none (by simp; omega)]
theorem fits_stack {l : List (Int × Int)} (hb : ∀ w ∈ l, 1 ≤ w.1) {i : Nat} {w : Int × Int} (hw : l[i]? = some w) (high : Int) {j : Nat} (hj : j ≤ i) : fitsS l (posL l i) 640 high (posS l j) (rnd w.1) = decide (j = i ∧ posS l i + rnd w.1 ≤ high) := by
  have hwp := rnd_pos (hb w (List.mem_of_getElem? hw))
  rw [Bool.eq_iff_iff, decide_eq_true_iff, fits_iff]
  constructor
  · rintro ⟨h1, h2, h3, h4⟩
    have hji : j = i := by
      by_cases h : j = i
      · exact h
      · exfalso
        have hil := (List.getElem?_eq_some_iff.1 hw).1
        have hjl : j < l.length := by omega
        have hji : j < i := by omega
        have hwj : l[j]? = some l[j] := List.getElem?_eq_getElem hjl
        have hq : (posL l i)[j]? = some (posS l j) := by simp [posL, hji]
        have hjp := rnd_pos (hb _ (List.mem_of_getElem? hwj))
        have := (meet_false hjp hwp).1 (h4 j _ _ hq hwj)
        omega
    subst hji
    exact ⟨rfl, by omega⟩
  · rintro ⟨rfl, h⟩
    have h0 := posS_mono (l := l) (Nat.zero_le j)
    have e0 : posS l 0 = 640 := rfl
    refine ⟨by omega, by omega, by omega, fun k q u hq hu => ?_⟩
    obtain ⟨hk, rfl⟩ := posL_get hq
    refine (meet_false (rnd_pos (hb u (List.mem_of_getElem? hu))) hwp).2 ?_
    have := posS_mono (l := l) (show k + 1 ≤ j by omega)
    rw [posS_succ hu] at this
    omega
theorem free_stack {l : List (Int × Int)} (hb : ∀ w ∈ l, 1 ≤ w.1) {i : Nat} {w : Int × Int} (hw : l[i]? = some w) (high : Int) : freeS l (posL l i) 640 high w.1 = if posS l i + rnd w.1 ≤ high then (posS l i, true) else (0, false) := by
  have hi := (List.getElem?_eq_some_iff.1 hw).1
  have go : ∀ j, j ≤ i → ((List.range j).map (posS l)).foldl (stepS l (posL l i) 640 high (rnd w.1)) (0, false) = (0, false) := by
    intro j
    induction j with
    | zero => intro _; rfl
    | succ j ih =>
      intro hj
      rw [List.range_succ, List.map_append, List.foldl_append, ih (by omega)]
      show stepS l (posL l i) 640 high (rnd w.1) (0, false) (posS l j) = _
      unfold stepS
      rw [if_neg]
      rintro ⟨_, _, h⟩
      rw [fits_stack hb hw high (by omega)] at h
      have := of_decide_eq_true h
      omega
  unfold freeS
  rw [cands_pos (by omega), List.range_succ, List.map_append, List.foldl_append, go i (Nat.le_refl _)]
  show stepS l (posL l i) 640 high (rnd w.1) (0, false) (posS l i) = _
  unfold stepS
  rw [fits_stack hb hw high (Nat.le_refl _)]
  by_cases h : posS l i + rnd w.1 ≤ high
  · rw [if_pos ⟨posS_mod l i, .inl rfl, decide_eq_true ⟨rfl, h⟩⟩, if_pos h]
  · rw [if_neg (fun hc => h (of_decide_eq_true hc.2.2).2), if_neg h]
theorem allGo_stack {l : List (Int × Int)} (hb : ∀ w ∈ l, 1 ≤ w.1 ∧ w.2 = 0) (high : Int) : ∀ (d i : Nat), i + d = l.length → allGo l 640 high (l.drop i) (posL l i) = if posS l l.length ≤ high ∨ d = 0 then some (posL l l.length) else none
  | 0, i, h => by
    have e : i = l.length := by omega
    subst e
    rw [List.drop_length, if_pos (.inr rfl)]
    rfl
  | d + 1, i, h => by
    have hw : l[i]? = some l[i] := List.getElem?_eq_getElem (by omega)
    rw [allGo_step hw, placeS_free (.inl (hb _ (List.mem_of_getElem? hw)).2), free_stack (fun w h => (hb w h).1) hw]
    have hm := posS_mono (l := l) (show i + 1 ≤ l.length by omega)
    rw [posS_succ hw] at hm
    by_cases hc : posS l i + rnd (l[i]).1 ≤ high
    · rw [if_pos hc]
      have hp : posL l i ++ [posS l i] = posL l (i + 1) := by unfold posL; rw [List.range_succ, List.map_append]; rfl
      show allGo l 640 high (l.drop (i + 1)) (posL l i ++ [posS l i]) = _
      rw [hp, allGo_stack hb high d (i + 1) (by omega)]
      cases d with
      | zero =>
        have e : l.length = i + 1 := by omega
        have hle : posS l l.length ≤ high := by rw [e, posS_succ hw]; exact hc
        rw [if_pos (.inr rfl), if_pos (.inl hle)]
      | succ d => simp
    · rw [if_neg hc, if_neg (by simp), if_neg (by rintro (h | h) <;> omega)]
      rfl
theorem allS_stack {l : List (Int × Int)} (hb : ∀ w ∈ l, 1 ≤ w.1 ∧ w.1 ≤ 256 ∧ w.2 = 0) {high : Int} (hrm : roomS 640 high = true) : allS l 640 high = if posS l l.length > high then ([], 18) else (posL l l.length, 0) := by
  unfold allS
  rw [if_neg (by simp [hrm]), if_neg (by
    rw [Bool.not_eq_true, List.any_eq_false]
    intro w hw
    have := hb w hw
    simp [badB]
    omega)]
  have := allGo_stack (l := l) (fun w h => ⟨(hb w h).1, (hb w h).2.2⟩) high l.length 0 (by omega)
  rw [List.drop_zero, show posL l 0 = [] from rfl] at this
  rw [this]
  by_cases hc : posS l l.length > high
  · have hne : l.length ≠ 0 := fun e => by
      rw [e] at hc
      have : posS l 0 = 640 := rfl
      have := (roomS_iff.1 hrm).2.2.1
      omega
    rw [if_neg (by rintro (h | h); { omega }; { exact hne h }), if_pos hc]
  · rw [if_pos (.inl (by omega)), if_neg hc]
-- ---- the least place
theorem freeS_least {l : List (Int × Int)} {at_ : List Int} {low high size c : Int} (hc : c ∈ cands l at_ low) (h1 : c % 64 = 0) (h2 : fitsS l at_ low high c (rnd size) = true) : (freeS l at_ low high size).2 = true ∧ (freeS l at_ low high size).1 ≤ c := by
  have keep : ∀ (cs : List Int) (s : Int × Bool), s.2 = true → s.1 ≤ c → (cs.foldl (stepS l at_ low high (rnd size)) s).2 = true ∧ (cs.foldl (stepS l at_ low high (rnd size)) s).1 ≤ c := by
    intro cs
    induction cs with
    | nil => intro s a b; exact ⟨a, b⟩
    | cons x cs ih =>
      intro s a b
      refine ih _ ?_ ?_
      · unfold stepS; split
        · rfl
        · exact a
      · unfold stepS; split
        · rename_i hx
          rcases hx.2.1 with h | h
          · rw [a] at h; cases h
          · show x ≤ c; omega
        · exact b
  have go : ∀ (cs : List Int) (s : Int × Bool), c ∈ cs → (cs.foldl (stepS l at_ low high (rnd size)) s).2 = true ∧ (cs.foldl (stepS l at_ low high (rnd size)) s).1 ≤ c := by
    intro cs
    induction cs with
    | nil => intro s h; cases h
    | cons x cs ih =>
      intro s h
      rcases List.mem_cons.1 h with rfl | h
      · refine keep cs _ ?_ ?_
        · unfold stepS
          split
          · rfl
          · rename_i hn
            cases hs : s.2 with
            | true => rfl
            | false => exact absurd ⟨h1, .inl hs, h2⟩ hn
        · unfold stepS
          split
          · exact Int.le_refl _
          · rename_i hn
            by_cases hlt : c < s.1
            · exact absurd ⟨h1, .inr hlt, h2⟩ hn
            · omega
      · exact ih _ h
  exact go _ _ hc
end Go.Proofs.Ythfhlfkcphojkaa.L

