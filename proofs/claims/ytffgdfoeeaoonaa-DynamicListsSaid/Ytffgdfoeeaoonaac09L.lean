/- Names that stand one behind the other, plain. -/
import Derived.Test.Ytffgdfoeeaoonaac09D
import Derived.Test.YtffgdfoeeaoonaarefF
namespace Go.Proofs.Ytffgdfoeeaoonaa.L
open Go.L1 Go.IntWalk
set_option linter.unusedVariables false
set_option linter.unusedSimpArgs false
set_option maxHeartbeats 4000000
namespace Li
open Oct
theorem bt_at {s X : ByteArray} {A B : List UInt8} (h : s.data.toList = A ++ (X.data.toList ++ B)) {j : Nat} (hj : j < X.size) : bt s (A.length + j) = bt X j := by
  unfold bt
  rw [h, List.getD_eq_getElem?_getD, List.getElem?_append_right (by omega), show A.length + j - A.length = j by omega, List.getElem?_append_left (by rw [size_list]; exact hj), ← List.getD_eq_getElem?_getD]
theorem bt_in {s : ByteArray} {A B : List UInt8} {x : UInt8} (h : s.data.toList = A ++ (x :: B)) : bt s A.length = (x.toNat : Int) := by
  unfold bt
  rw [h, List.getD_eq_getElem?_getD, List.getElem?_append_right (Nat.le_refl _), Nat.sub_self]; rfl
theorem ext_at {s X : ByteArray} {A B : List UInt8} (h : s.data.toList = A ++ (X.data.toList ++ B)) : s.extract A.length (A.length + X.size) = X := by
  refine ba_ext ?_
  rw [Lib.extract_data, h, List.drop_left, show A.length + X.size - A.length = X.size by omega, List.take_append, List.take_of_length_le (by rw [size_list]; omega), size_list, Nat.sub_self, List.take_zero, List.append_nil]
theorem size_of {s : ByteArray} {L : List UInt8} (h : s.data.toList = L) : s.size = L.length := by rw [← h, size_list]
theorem find_some (s : ByteArray) (k : Nat) (h0 : bt s k = 0) : ∀ (d i : Nat), i ≤ k → k < i + d → (∀ j, i ≤ j → j < k → bt s j ≠ 0) → Oct.find0 s d i = some k
  | 0, i, h1, h2, h3 => by omega
  | d + 1, i, h1, h2, h3 => by
    unfold Oct.find0
    by_cases e : i = k
    · subst e; rw [if_pos h0]
    · rw [if_neg (h3 i (Nat.le_refl _) (by omega))]
      exact find_some s k h0 d (i + 1) (by omega) (by omega) (fun j hj hk => h3 j (by omega) hk)
def wdB (l : List Int) (k : Nat) : ByteArray := nums [97 + l.getD k 0 % 8, 48 + (k : Nat)]
theorem wd_size (l : List Int) (k : Nat) : (wdB l k).size = 2 := nums_size _
theorem wd_bt (l : List Int) (k : Nat) (hk : k ≤ 6) (j : Nat) (hj : j < 2) : bt (wdB l k) j ≠ 0 := by
  have h1 := Int.emod_nonneg (l.getD k 0) (show (8 : Int) ≠ 0 by decide)
  have h2 := Int.emod_lt_of_pos (l.getD k 0) (show (0 : Int) < 8 by decide)
  unfold wdB
  rcases (show j = 0 ∨ j = 1 by omega) with rfl | rfl
  · rw [nums_bt [97 + l.getD k 0 % 8, 48 + (k : Nat)] 0 (show 0 < 2 by decide) ⟨(show (0 : Int) ≤ 97 + l.getD k 0 % 8 by omega), (show 97 + l.getD k 0 % 8 ≤ 255 by omega)⟩]
    show 97 + l.getD k 0 % 8 ≠ 0
    omega
  · rw [nums_bt [97 + l.getD k 0 % 8, 48 + (k : Nat)] 1 (show 1 < 2 by decide) ⟨(show (0 : Int) ≤ 48 + (k : Nat) by omega), (show (48 : Int) + (k : Nat) ≤ 255 by omega)⟩]
    show (48 : Int) + (k : Nat) ≠ 0
    omega
def nmL (l : List Int) (i : Nat) : List ByteArray := (List.range i).map (wdB l)
def plL (i : Nat) : List Int := (List.range i).map fun k => ((3 * k : Nat) : Int)
theorem nm_succ (l : List Int) (i : Nat) : nmL l (i + 1) = nmL l i ++ [wdB l i] := by unfold nmL; rw [List.range_succ, List.map_append, List.map_singleton]
theorem pl_succ (i : Nat) : plL (i + 1) = plL i ++ [((3 * i : Nat) : Int)] := by unfold plL; rw [List.range_succ, List.map_append, List.map_singleton]
theorem nm_len (l : List Int) (i : Nat) : (nmL l i).length = i := by simp [nmL]
theorem pl_len (i : Nat) : (plL i).length = i := by simp [plL]
theorem nm_at (l : List Int) (i k : Nat) (h : k < i) : (nmL l i)[k]? = some (wdB l k) := by unfold nmL; rw [List.getElem?_map, List.getElem?_range h]; rfl
theorem pl_at (i k : Nat) (h : k < i) : (plL i)[k]? = some ((3 * k : Nat) : Int) := by unfold plL; rw [List.getElem?_map, List.getElem?_range h]; rfl
def tl (l : List Int) (i : Nat) : List UInt8 := (List.range i).flatMap fun k => (wdB l k).data.toList ++ [0]
theorem tl_succ (l : List Int) (i : Nat) : tl l (i + 1) = tl l i ++ ((wdB l i).data.toList ++ [0]) := by unfold tl; rw [List.range_succ, List.flatMap_append, List.flatMap_singleton]
theorem tl_len (l : List Int) : ∀ i, (tl l i).length = 3 * i
  | 0 => rfl
  | i + 1 => by rw [tl_succ, List.length_append, tl_len l i, List.length_append, size_list, wd_size]; simp; omega
theorem tl_split (l : List Int) : ∀ (n k : Nat), k < n → ∃ B, tl l n = tl l k ++ ((wdB l k).data.toList ++ (0 :: B))
  | 0, k, h => by omega
  | n + 1, k, h => by
    by_cases e : k = n
    · subst e; exact ⟨[], by rw [tl_succ]⟩
    · obtain ⟨B, hB⟩ := tl_split l n k (by omega)
      exact ⟨B ++ ((wdB l n).data.toList ++ [0]), by rw [tl_succ, hB]; simp only [List.append_assoc, List.cons_append]⟩
section
variable {view : ByteArray} {base more : List UInt8} {l : List Int} {n : Nat}
theorem name_in (hd : view.data.toList = base ++ (tl l n ++ more)) (nd : List Int) (f3 f4 f5 f6 f7 f8 : Int) : (view.extract base.length view.size).extract 0 (min ((view.extract base.length view.size).size : Int) (max ((3 * n : Nat) : Int) 0)).toNat = ⟨(tl l n).toArray⟩ := by
  have hz := size_of hd
  simp only [List.length_append, tl_len] at hz
  have hz1 : (view.extract base.length view.size).size = view.size - base.length := by rw [ByteArray.size_extract]; omega
  have hmin : (min ((view.extract base.length view.size).size : Int) (max ((3 * n : Nat) : Int) 0)).toNat = 3 * n := by omega
  rw [hmin]
  refine ba_ext ?_
  have hl := tl_len l n
  rw [Lib.extract_data, Lib.extract_data, hd, List.drop_left, List.drop_zero, Nat.sub_zero, List.take_take, List.take_append_of_le_length (by omega), List.take_of_length_le (by omega)]
theorem name_at (hn : n ≤ 6) (hd : view.data.toList = base ++ (tl l n ++ more)) (k : Nat) (hk : k < n) (nd : List Int) (f3 f4 f5 f6 f7 f8 : Int) : nameS view ⟨nd, base.length, (3 * n : Nat), f3, f4, f5, f6, f7, f8⟩ ((3 * k : Nat) : Int) = (wdB l k, true) := by
  have hz := size_of hd
  simp only [List.length_append, tl_len] at hz
  unfold nameS
  rw [if_neg (by dsimp only; omega)]
  dsimp only
  rw [Int.toNat_natCast, name_in hd nd f3 f4 f5 f6 f7 f8]
  obtain ⟨S, hS⟩ : ∃ S : ByteArray, S = ⟨(tl l n).toArray⟩ := ⟨_, rfl⟩
  rw [← hS]
  have hSd : S.data.toList = tl l n := by rw [hS]
  have hSz := size_of hSd
  rw [tl_len] at hSz
  obtain ⟨B, hB⟩ := tl_split l n k hk
  have hsp := hSd.trans hB
  have hws := wd_size l k
  unfold textV
  rw [if_neg (by omega), Int.toNat_natCast]
  have hb : ∀ j, j < 2 → bt S (3 * k + j) = bt (wdB l k) j := fun j hj => by
    have := bt_at hsp (j := j) (by omega)
    rwa [tl_len] at this
  have h0 : bt S (3 * k + 2) = 0 := by
    have hsp2 : S.data.toList = (tl l k ++ (wdB l k).data.toList) ++ (0 :: B) := by rw [hsp, List.append_assoc]
    have := bt_in hsp2
    rw [List.length_append, size_list, tl_len, hws] at this
    exact this
  have hlk : 2 < looks S ((3 * k : Nat) : Int) 24 := by unfold looks; omega
  rw [find_some S (3 * k + 2) h0 _ _ (by omega) (by omega) (fun j h1 h2 => by
    have := hb (j - 3 * k) (by omega)
    rw [show 3 * k + (j - 3 * k) = j by omega] at this
    rw [this]
    exact wd_bt l k (by omega) _ (by omega))]
  show (S.extract (3 * k) (3 * k + 2), true) = (wdB l k, true)
  have := ext_at hsp
  rw [tl_len, hws] at this
  rw [this]
theorem name_out (hd : view.data.toList = base ++ (tl l n ++ more)) (nd : List Int) (f3 f4 f5 f6 f7 f8 : Int) : nameS view ⟨nd, base.length, (3 * n : Nat), f3, f4, f5, f6, f7, f8⟩ ((3 * n : Nat) : Int) = (noneB, false) := by
  have hz := size_of hd
  simp only [List.length_append, tl_len] at hz
  unfold nameS
  rw [if_neg (by dsimp only; omega)]
  dsimp only
  rw [Int.toNat_natCast, name_in hd nd f3 f4 f5 f6 f7 f8]
  obtain ⟨S, hS⟩ : ∃ S : ByteArray, S = ⟨(tl l n).toArray⟩ := ⟨_, rfl⟩
  rw [← hS]
  have hSd : S.data.toList = tl l n := by rw [hS]
  have hSz := size_of hSd
  rw [tl_len] at hSz
  unfold textV
  rw [if_neg (by omega), show looks S ((3 * n : Nat) : Int) 24 = 0 by unfold looks; omega]
  rfl
theorem go_all (hn : n ≤ 6) (hd : view.data.toList = base ++ (tl l n ++ more)) (nd : List Int) (f3 f4 f5 f6 f7 f8 : Int) (r : List Int) : ∀ (ks : List Nat) (acc : List ByteArray), (∀ k ∈ ks, k < n) → namesGo view ⟨nd, base.length, (3 * n : Nat), f3, f4, f5, f6, f7, f8⟩ (ks.map (fun k => ((3 * k : Nat) : Int)) ++ r) acc = namesGo view ⟨nd, base.length, (3 * n : Nat), f3, f4, f5, f6, f7, f8⟩ r (acc ++ ks.map (wdB l))
  | [], acc, _ => by simp
  | k :: ks, acc, h => by
    rw [List.map_cons, List.cons_append, namesGo, name_at hn hd k (h k (List.mem_cons_self ..)), if_pos ⟨rfl, fun e => by have := wd_size l k; dsimp only at e; rw [e] at this; exact absurd this (by decide)⟩, go_all hn hd nd f3 f4 f5 f6 f7 f8 r ks _ (fun x hx => h x (List.mem_cons_of_mem _ hx))]
    simp
theorem names_all (hn : n ≤ 6) (hd : view.data.toList = base ++ (tl l n ++ more)) (ks : List Nat) (h : ∀ k ∈ ks, k < n) : namesS view ⟨ks.map (fun k => ((3 * k : Nat) : Int)), base.length, (3 * n : Nat), 0, 0, 0, 0, 0, 0⟩ = (ks.map (wdB l), 0) := by
  unfold namesS
  have := go_all hn hd (ks.map (fun k => ((3 * k : Nat) : Int))) 0 0 0 0 0 0 [] ks [] h
  rw [List.append_nil] at this
  rw [this]
  rfl
theorem names_none (hn : n ≤ 6) (hd : view.data.toList = base ++ (tl l n ++ more)) (ks : List Nat) (h : ∀ k ∈ ks, k < n) : namesS view ⟨ks.map (fun k => ((3 * k : Nat) : Int)) ++ [((3 * n : Nat) : Int)], base.length, (3 * n : Nat), 0, 0, 0, 0, 0, 0⟩ = ([], 17) := by
  unfold namesS
  have := go_all hn hd (ks.map (fun k => ((3 * k : Nat) : Int)) ++ [((3 * n : Nat) : Int)]) 0 0 0 0 0 0 [((3 * n : Nat) : Int)] ks [] h
  rw [this, namesGo, name_out hd, if_neg (by simp)]
  rfl
end
def pk (x : Int) (n : Nat) : Nat := ((x.tmod n + n) % n).toNat
theorem pk_is (x : Int) (n : Nat) (h : 0 < n) : (-(n : Int) < x.tmod n ∧ x.tmod n < n) ∧ (x.tmod n + n) % n = (pk x n : Nat) ∧ pk x n < n := by
  have hn : (0 : Int) < n := by omega
  have h1 : -(n : Int) < x.tmod n ∧ x.tmod n < n := by
    refine ⟨?_, Int.tmod_lt_of_pos x hn⟩
    rcases Int.le_total 0 x with h | h
    · have := Int.tmod_nonneg (n : Int) h; omega
    · have := Int.tmod_lt_of_pos (-x) hn
      rw [Int.neg_tmod] at this
      omega
  have h2 := Int.emod_nonneg (x.tmod n + n) (show (n : Int) ≠ 0 by omega)
  have h3 := Int.emod_lt_of_pos (x.tmod n + n) hn
  exact ⟨h1, by unfold pk; omega, by unfold pk; omega⟩
end Li
end Go.Proofs.Ytffgdfoeeaoonaa.L

