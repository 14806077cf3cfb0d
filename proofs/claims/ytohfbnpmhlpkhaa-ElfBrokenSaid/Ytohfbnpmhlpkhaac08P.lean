/- Bytes of what is put together. -/
import Derived.Test.Ytohfbnpmhlpkhaac08M
namespace Go.Proofs.Ytohfbnpmhlpkhaa.L
open Go.L1 Go.IntWalk Oct
set_option linter.unusedVariables false
set_option linter.unusedSimpArgs false
set_option maxHeartbeats 4000000
theorem bt_app (a b : ByteArray) (i : Nat) : bt (a ++ b) i = if i < a.size then bt a i else bt b (i - a.size) := by
  split
  · rename_i h; exact bt_app_l a b i h
  · rename_i h
    have := bt_app_r a b (i - a.size)
    rw [show a.size + (i - a.size) = i by omega] at this
    exact this
theorem zero_bt (n i : Nat) : bt (zeroB n) i = 0 := by
  by_cases h : i < n
  · unfold zeroB
    rw [nums_bt _ i (by rw [List.length_replicate]; exact h) (by simp [h])]
    simp [h]
  · unfold bt
    have := zeroB_size n
    rw [List.getD_eq_getElem?_getD, List.getElem?_eq_none (by rw [size_list]; omega)]
    rfl
theorem fill0_bt (z : Int) (i : Nat) : bt (fillV ⟨#[]⟩ z) i = 0 := by
  unfold fillV
  have e0 : (⟨#[]⟩ : ByteArray).size = 0 := rfl
  rw [e0]
  split
  · unfold bt
    have : ((⟨#[]⟩ : ByteArray).extract 0 (max z 0).toNat).size = 0 := by rw [ByteArray.size_extract, e0]; omega
    rw [List.getD_eq_getElem?_getD, List.getElem?_eq_none (by rw [size_list]; omega)]
    rfl
  · rw [bt_app, e0, if_neg (by omega), zero_bt]
theorem part_bt (s : ByteArray) (a b i : Nat) (h : a + i < b) : bt (s.extract a b) i = bt s (a + i) := by
  have := bt_part s a (b - a) i (by omega)
  rwa [show a + (b - a) = b by omega] at this
theorem segB_ad (s : Sg) (r : Nat) (h : r < 8) : bt (segB s) (24 + r) = bt (putV s.ad 8) r := by
  unfold segB
  simp only [bt_app, ByteArray.size_append, putV_n _ 4 4 rfl, putV_n _ 8 8 rfl]
  rw [if_pos (by omega), if_pos (by omega), if_pos (by omega), if_neg (by omega)]
  congr 1; omega
theorem headB_any (k e n : Int) (i : Nat) (h : (40 ≤ i ∧ i < 52) ∨ (58 ≤ i ∧ i < 64)) : bt (headB k e n) i = 0 := by
  have f1 := fillV_size 12 (by decide)
  have f2 := fillV_size 6 (by decide)
  rw [show Int.toNat 12 = 12 from rfl] at f1
  rw [show Int.toNat 6 = 6 from rfl] at f2
  have fm : magicB.size = 16 := rfl
  unfold headB
  simp only [bt_app, ByteArray.size_append, putV_n _ 4 4 rfl, putV_n _ 8 8 rfl, putV_n _ 2 2 rfl, f1, f2, fm, fill0_bt]
  rcases h with h | h
  · rw [if_pos (by omega), if_pos (by omega), if_pos (by omega), if_pos (by omega), if_neg (by omega)]
  · rw [if_neg (by omega)]
theorem addB_low (l : List Sg) : ∀ (b : ByteArray) (i : Nat), i < b.size → bt (addB b l) i = bt b i := by
  induction l with
  | nil => intro b i _; rfl
  | cons s r ih =>
    intro b i hi
    rw [show addB b (s :: r) = addB (b ++ segB s) r from rfl, ih _ _ (by rw [ByteArray.size_append]; omega), bt_app, if_pos hi]
theorem addB_bt (l : List Sg) : ∀ (b : ByteArray) (i : Nat) (x : Sg), b.size ≤ i → l[(i - b.size) / 56]? = some x → bt (addB b l) i = bt (segB x) ((i - b.size) % 56) := by
  induction l with
  | nil => intro b i x _ hx; simp at hx
  | cons s r ih =>
    intro b i x hi hx
    rw [show addB b (s :: r) = addB (b ++ segB s) r from rfl]
    have hz := segB_size s
    by_cases h : i < b.size + 56
    · rw [show (i - b.size) / 56 = 0 by omega] at hx
      simp at hx
      subst hx
      rw [addB_low _ _ _ (by rw [ByteArray.size_append]; omega), bt_app, if_neg (by omega), show (i - b.size) % 56 = i - b.size by omega]
    · have := ih (b ++ segB s) i x (by rw [ByteArray.size_append]; omega) (by
        rw [ByteArray.size_append, hz]
        rw [show (i - b.size) / 56 = (i - (b.size + 56)) / 56 + 1 by omega, List.getElem?_cons_succ] at hx
        exact hx)
      rw [this, ByteArray.size_append, hz]
      congr 1; omega
theorem readL_at (s : ByteArray) : ∀ (N j : Nat), j < N → (readL s N)[j]? = some (segAt s (64 + 56 * (j : Int)))
  | N + 1, j, h => by
    rw [readL]
    by_cases hj : j < N
    · rw [List.getElem?_append_left (by rw [readL_len]; exact hj)]
      exact readL_at s N j hj
    · have : j = N := by omega
      subst this
      rw [List.getElem?_append_right (by rw [readL_len]; exact Nat.le_refl _), readL_len, Nat.sub_self]
      rfl
theorem okS_size {x : Im} {z : Int} (h : okS x z = true) : 64 + 56 * (x.l.length : Int) ≤ z := by
  unfold okS at h
  rw [Bool.and_eq_true, decide_eq_true_eq] at h
  exact h.1.2.2.1
end Go.Proofs.Ytohfbnpmhlpkhaa.L

