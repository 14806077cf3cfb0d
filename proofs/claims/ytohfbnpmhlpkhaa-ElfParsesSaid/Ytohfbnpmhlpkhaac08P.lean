/- What the program reads of a file is what the reference reads of it. -/
import Derived.Test.Ytohfbnpmhlpkhaac08N
namespace Go.Proofs.Ytohfbnpmhlpkhaa.L
open Go.L1 Go.IntWalk Oct
set_option linter.unusedVariables false
set_option linter.unusedSimpArgs false
set_option maxHeartbeats 4000000
theorem bt_app (a b : ByteArray) (i : Nat) : bt (a ++ b) i = if i < a.size then bt a i else bt b (i - a.size) := by
  split
  · rename_i h; exact bt_app_l a b i h
  · rename_i h
    have := bt_app_r a b (i - a.size)
    rw [show a.size + (i - a.size) = i by omega] at this
    exact this
theorem zero_bt (n i : Nat) : bt (zeroB n) i = 0 := by
  by_cases h : i < n
  · unfold zeroB
    rw [nums_bt _ i (by rw [List.length_replicate]; exact h) (by simp [h])]
    simp [h]
  · unfold bt
    have := zeroB_size n
    rw [List.getD_eq_getElem?_getD, List.getElem?_eq_none (by rw [size_list]; omega)]
    rfl
theorem fill0_bt (z : Int) (i : Nat) : bt (fillV ⟨#[]⟩ z) i = 0 := by
  unfold fillV
  have e0 : (⟨#[]⟩ : ByteArray).size = 0 := rfl
  rw [e0]
  split
  · unfold bt
    have : ((⟨#[]⟩ : ByteArray).extract 0 (max z 0).toNat).size = 0 := by rw [ByteArray.size_extract, e0]; omega
    rw [List.getD_eq_getElem?_getD, List.getElem?_eq_none (by rw [size_list]; omega)]
    rfl
  · rw [bt_app, e0, if_neg (by omega), zero_bt]
theorem part_bt (s : ByteArray) (a b i : Nat) (h : a + i < b) : bt (s.extract a b) i = bt s (a + i) := by
  have := bt_part s a (b - a) i (by omega)
  rwa [show a + (b - a) = b by omega] at this
theorem plain0_bt (s : ByteArray) (N : Nat) (h : 64 + 56 * N ≤ s.size) (i : Nat) (hi : i < 64 + 56 * N) : bt (plain0 s N) i = if (40 ≤ i ∧ i < 52) ∨ (58 ≤ i ∧ i < 64) then 0 else bt s i := by
  have f1 := fillV_size 12 (by decide)
  have f2 := fillV_size 6 (by decide)
  rw [show Int.toNat 12 = 12 from rfl] at f1
  rw [show Int.toNat 6 = 6 from rfl] at f2
  have e1 : (s.extract 0 40).size = 40 := by rw [ByteArray.size_extract]; omega
  have e3 : (s.extract 52 58).size = 6 := by rw [ByteArray.size_extract]; omega
  unfold plain0
  simp only [bt_app, ByteArray.size_append, e1, e3, f1, f2, fill0_bt]
  by_cases h1 : i < 40
  · rw [if_pos (by omega), if_pos (by omega), if_pos (by omega), if_pos h1, if_neg (by omega), part_bt _ _ _ _ (by omega), Nat.zero_add]
  · by_cases h2 : i < 52
    · rw [if_pos (by omega), if_pos (by omega), if_pos (by omega), if_neg h1, if_pos (by omega)]
    · by_cases h3 : i < 58
      · rw [if_pos (by omega), if_pos (by omega), if_neg (by omega), if_neg (by omega), part_bt _ _ _ _ (by omega)]
        congr 1; omega
      · by_cases h4 : i < 64
        · rw [if_pos (by omega), if_neg (by omega), if_pos (by omega)]
        · rw [if_neg (by omega), if_neg (by omega), part_bt _ _ _ _ (by omega)]
          congr 1; omega
theorem plainF_bt (s : ByteArray) (N : Nat) (h : 64 + 56 * N ≤ s.size) (i : Nat) (hi : i < 64 + 56 * N) : ∀ j, j ≤ N → bt (plainF s N j) i = if 64 ≤ i ∧ (i - 64) / 56 < j ∧ 24 ≤ (i - 64) % 56 ∧ (i - 64) % 56 < 32 then bt (putV (segAt s (64 + 56 * (((i - 64) / 56 : Nat) : Int))).ad 8) ((i - 64) % 56 - 24) else bt (plain0 s N) i
  | 0, _ => by rw [if_neg (by omega)]; rfl
  | j + 1, hj => by
    have ih := plainF_bt s N h i hi j (by omega)
    have hz := plainF_size s N h j (by omega)
    rw [plainF]
    have e1 : ((plainF s N j).extract 0 (64 + 56 * j + 24)).size = 64 + 56 * j + 24 := by rw [ByteArray.size_extract]; omega
    have e2 := putV_n (segAt s (64 + 56 * (j : Int))).ad 8 8 rfl
    simp only [bt_app, ByteArray.size_append, e1, e2]
    by_cases h1 : i < 64 + 56 * j + 24
    · rw [if_pos (by omega), if_pos h1, part_bt _ _ _ _ (by omega), Nat.zero_add, ih]
      by_cases hc : 64 ≤ i ∧ (i - 64) / 56 < j ∧ 24 ≤ (i - 64) % 56 ∧ (i - 64) % 56 < 32
      · rw [if_pos hc, if_pos (by omega)]
      · rw [if_neg hc, if_neg (by omega)]
    · by_cases h2 : i < 64 + 56 * j + 32
      · rw [if_pos (by omega), if_neg h1, if_pos (by omega), show (i - 64) / 56 = j by omega, show (i - 64) % 56 - 24 = i - (64 + 56 * j + 24) by omega]
      · rw [if_neg (by omega), part_bt _ _ _ _ (by omega), show 64 + 56 * j + 32 + (i - (64 + 56 * j + 24 + 8)) = i by omega, ih]
        by_cases hc : 64 ≤ i ∧ (i - 64) / 56 < j ∧ 24 ≤ (i - 64) % 56 ∧ (i - 64) % 56 < 32
        · rw [if_pos hc, if_pos (by omega)]
        · rw [if_neg hc, if_neg (by omega)]
theorem segB_ad (s : Sg) (r : Nat) (h : r < 8) : bt (segB s) (24 + r) = bt (putV s.ad 8) r := by
  unfold segB
  simp only [bt_app, ByteArray.size_append, putV_n _ 4 4 rfl, putV_n _ 8 8 rfl]
  rw [if_pos (by omega), if_pos (by omega), if_pos (by omega), if_neg (by omega)]
  congr 1; omega
theorem headB_any (k e n : Int) (i : Nat) (h : (40 ≤ i ∧ i < 52) ∨ (58 ≤ i ∧ i < 64)) : bt (headB k e n) i = 0 := by
  have f1 := fillV_size 12 (by decide)
  have f2 := fillV_size 6 (by decide)
  rw [show Int.toNat 12 = 12 from rfl] at f1
  rw [show Int.toNat 6 = 6 from rfl] at f2
  have fm : magicB.size = 16 := rfl
  unfold headB
  simp only [bt_app, ByteArray.size_append, putV_n _ 4 4 rfl, putV_n _ 8 8 rfl, putV_n _ 2 2 rfl, f1, f2, fm, fill0_bt]
  rcases h with h | h
  · rw [if_pos (by omega), if_pos (by omega), if_pos (by omega), if_pos (by omega), if_neg (by omega)]
  · rw [if_neg (by omega)]
theorem addB_low (l : List Sg) : ∀ (b : ByteArray) (i : Nat), i < b.size → bt (addB b l) i = bt b i := by
  induction l with
  | nil => intro b i _; rfl
  | cons s r ih =>
    intro b i hi
    rw [show addB b (s :: r) = addB (b ++ segB s) r from rfl, ih _ _ (by rw [ByteArray.size_append]; omega), bt_app, if_pos hi]
theorem addB_bt (l : List Sg) : ∀ (b : ByteArray) (i : Nat) (x : Sg), b.size ≤ i → l[(i - b.size) / 56]? = some x → bt (addB b l) i = bt (segB x) ((i - b.size) % 56) := by
  induction l with
  | nil => intro b i x _ hx; simp at hx
  | cons s r ih =>
    intro b i x hi hx
    rw [show addB b (s :: r) = addB (b ++ segB s) r from rfl]
    have hz := segB_size s
    by_cases h : i < b.size + 56
    · rw [show (i - b.size) / 56 = 0 by omega] at hx
      simp at hx
      subst hx
      rw [addB_low _ _ _ (by rw [ByteArray.size_append]; omega), bt_app, if_neg (by omega), show (i - b.size) % 56 = i - b.size by omega]
    · have := ih (b ++ segB s) i x (by rw [ByteArray.size_append]; omega) (by
        rw [ByteArray.size_append, hz]
        rw [show (i - b.size) / 56 = (i - (b.size + 56)) / 56 + 1 by omega, List.getElem?_cons_succ] at hx
        exact hx)
      rw [this, ByteArray.size_append, hz]
      congr 1; omega
theorem readL_at (s : ByteArray) : ∀ (N j : Nat), j < N → (readL s N)[j]? = some (segAt s (64 + 56 * (j : Int)))
  | N + 1, j, h => by
    rw [readL]
    by_cases hj : j < N
    · rw [List.getElem?_append_left (by rw [readL_len]; exact hj)]
      exact readL_at s N j hj
    · have : j = N := by omega
      subst this
      rw [List.getElem?_append_right (by rw [readL_len]; exact Nat.le_refl _), readL_len, Nat.sub_self]
      rfl
theorem like_iff (s : ByteArray) (N : Nat) (h : 64 + 56 * N ≤ s.size) (k e : Int) : likeS s (headS ⟨k, e, readL s N⟩) = true ↔ headS ⟨k, e, readL s N⟩ = plainF s N N := by
  have z1 : (headS ⟨k, e, readL s N⟩).size = 64 + 56 * N := by rw [headS_size, readL_len]
  have z2 := plainF_size s N h N (Nat.le_refl _)
  have key : ∀ i, i < 64 + 56 * N → bt (plainF s N N) i = if anyB i = true then bt (headS ⟨k, e, readL s N⟩) i else bt s i := by
    intro i hi
    rw [plainF_bt s N h i hi N (Nat.le_refl _), plain0_bt s N h i hi]
    by_cases h64 : i < 64
    · rw [if_neg (by omega)]
      unfold anyB
      rw [if_pos h64]
      by_cases ha : (40 ≤ i ∧ i < 52) ∨ 58 ≤ i
      · rw [if_pos (by omega), if_pos (decide_eq_true ha)]
        unfold headS
        rw [addB_low _ _ _ (by rw [headB_size]; omega), headB_any _ _ _ _ (by omega)]
      · rw [if_neg (by omega), if_neg (by simpa using ha)]
    · unfold anyB
      rw [if_neg h64]
      by_cases ha : 24 ≤ (i - 64) % 56 ∧ (i - 64) % 56 < 32
      · rw [if_pos (by omega), if_pos (decide_eq_true ha)]
        unfold headS
        dsimp only
        have hj : (i - 64) / 56 < N := by omega
        have := addB_bt (readL s N) (headB k e (readL s N).length) i _ (by rw [headB_size]; omega) (by rw [headB_size]; exact readL_at s N _ hj)
        rw [this, headB_size]
        have h2 := segB_ad (segAt s (64 + 56 * (((i - 64) / 56 : Nat) : Int))) ((i - 64) % 56 - 24) (by omega)
        rw [show 24 + ((i - 64) % 56 - 24) = (i - 64) % 56 by omega] at h2
        exact h2.symm
      · rw [if_neg (by omega), if_neg (by omega), if_neg (by simpa using ha)]
  unfold likeS
  rw [decide_eq_true_eq, z1]
  constructor
  · rintro ⟨_, h2⟩
    refine ext_bt (by omega) fun i hi => ?_
    rw [z1] at hi
    rw [key i hi]
    cases ha : anyB i with
    | true => rw [if_pos rfl]
    | false =>
      rw [if_neg (by simp)]
      rcases h2 i hi with h3 | h3
      · exact h3.symm
      · rw [ha] at h3; cases h3
  · intro heq
    refine ⟨h, fun i hi => ?_⟩
    have hk := key i hi
    rw [← heq] at hk
    cases ha : anyB i with
    | true => exact .inr rfl
    | false => rw [ha, if_neg (by simp)] at hk; exact .inl hk.symm
theorem okS_size {x : Im} {z : Int} (h : okS x z = true) : 64 + 56 * (x.l.length : Int) ≤ z := by
  unfold okS at h
  rw [Bool.and_eq_true, decide_eq_true_eq] at h
  exact h.1.2.2.1
theorem parse_eq (s : ByteArray) : parseS s = rparseS s := by
  unfold parseS rparseS
  by_cases hN : 1 ≤ manyN s ∧ manyN s ≤ 16
  · rw [if_pos hN, if_pos hN]
    have hl : ((readI s).l.length : Int) = manyN s := by unfold readI; dsimp only; rw [readL_len]; omega
    by_cases hz : (s.size : Int) < 64 + 56 * manyN s
    · rw [if_pos hz, if_neg]
      rintro ⟨h1, _⟩
      have := okS_size h1
      omega
    · rw [if_neg hz]
      have := like_iff s (manyN s).toNat (by omega) (getN s 16 2) (getN s 24 8)
      have e : (⟨getN s 16 2, getN s 24 8, readL s (manyN s).toNat⟩ : Im) = readI s := rfl
      rw [e] at this
      by_cases hc : okS (readI s) s.size = true ∧ likeS s (headS (readI s)) = true
      · rw [if_pos hc, if_pos ⟨hc.1, this.1 hc.2⟩]
      · rw [if_neg hc, if_neg (fun h => hc ⟨h.1, this.2 h.2⟩)]
  · rw [if_neg hN, if_neg hN]
end Go.Proofs.Ytohfbnpmhlpkhaa.L

