/- Where numbers and texts stand in a stack's bytes. -/
import Derived.Test.Ytkpofbkedolhnaac17D
namespace Go.Proofs.Ytkpofbkedolhnaa.L
open Go.L1 Go.IntWalk
set_option linter.unusedVariables false
set_option linter.unusedSimpArgs false
set_option maxHeartbeats 4000000
set_option maxRecDepth 20000
namespace Stk
open Oct
theorem bt_at {s X : ByteArray} {A B : List UInt8} (h : s.data.toList = A ++ (X.data.toList ++ B)) {j : Nat} (hj : j < X.size) : bt s (A.length + j) = bt X j := by
  unfold bt
  rw [h, List.getD_eq_getElem?_getD, List.getElem?_append_right (by omega), show A.length + j - A.length = j by omega, List.getElem?_append_left (by rw [size_list]; exact hj), ← List.getD_eq_getElem?_getD]
theorem bt_in {s : ByteArray} {A B : List UInt8} {x : UInt8} (h : s.data.toList = A ++ (x :: B)) : bt s A.length = (x.toNat : Int) := by
  unfold bt
  rw [h, List.getD_eq_getElem?_getD, List.getElem?_append_right (Nat.le_refl _), Nat.sub_self]; rfl
theorem ext_at {s X : ByteArray} {A B : List UInt8} (h : s.data.toList = A ++ (X.data.toList ++ B)) : s.extract A.length (A.length + X.size) = X := by
  refine ba_ext ?_
  rw [Lib.extract_data, h, List.drop_left, show A.length + X.size - A.length = X.size by omega, List.take_append, List.take_of_length_le (by rw [size_list]; omega), size_list, Nat.sub_self, List.take_zero, List.append_nil]
theorem size_of {s : ByteArray} {L : List UInt8} (h : s.data.toList = L) : s.size = L.length := by rw [← h, size_list]
theorem split_at {α : Type} {l : List α} {i : Nat} {x : α} (h : l[i]? = some x) : l = l.take i ++ x :: l.drop (i + 1) := by
  have hi : i < l.length := (List.getElem?_eq_some_iff.1 h).1
  have hx : l[i] = x := (List.getElem?_eq_some_iff.1 h).2
  rw [← hx, ← List.drop_eq_getElem_cons hi, List.take_append_drop]
theorem find_some (s : ByteArray) (k : Nat) (h0 : bt s k = 0) : ∀ (d i : Nat), i ≤ k → k < i + d → (∀ j, i ≤ j → j < k → bt s j ≠ 0) → Oct.find0 s d i = some k
  | 0, i, h1, h2, h3 => by omega
  | d + 1, i, h1, h2, h3 => by
    unfold Oct.find0
    by_cases e : i = k
    · subst e; rw [if_pos h0]
    · rw [if_neg (h3 i (Nat.le_refl _) (by omega))]
      exact find_some s k h0 d (i + 1) (by omega) (by omega) (fun j hj hk => h3 j (by omega) hk)
theorem oct8_app (l r : List Int) : oct8 (l ++ r) = oct8 l ++ oct8 r := by
  have H : ∀ (r : List Int) (b : ByteArray), r.foldl (fun b n => b ++ putB n 8) b = b ++ oct8 r := by
    intro r
    induction r with
    | nil => intro b; exact (ByteArray.append_empty).symm
    | cons n r ih =>
      intro b
      rw [List.foldl_cons, ih]
      show _ = b ++ (n :: r).foldl (fun b n => b ++ putB n 8) ⟨#[]⟩
      rw [List.foldl_cons, ih, ByteArray.append_assoc, Bl.empty_app]
  unfold oct8
  rw [List.foldl_append, H]
  rfl
theorem eB_app (l r : List ByteArray) : eB (l ++ r) = eB l ++ eB r := by
  have H : ∀ (r : List ByteArray) (b : ByteArray), r.foldl (fun b s => b ++ s ++ zB) b = b ++ eB r := by
    intro r
    induction r with
    | nil => intro b; exact (ByteArray.append_empty).symm
    | cons n r ih =>
      intro b
      rw [List.foldl_cons, ih]
      show _ = b ++ (n :: r).foldl (fun b s => b ++ s ++ zB) ⟨#[]⟩
      rw [List.foldl_cons, ih, ByteArray.append_assoc, ByteArray.append_assoc, Bl.empty_app, ByteArray.append_assoc]
  unfold eB
  rw [List.foldl_append, H]
  rfl
theorem num_at (l : List Int) (i : Nat) (v : Int) (h : l[i]? = some v) (hv : 0 ≤ v ∧ v < 18446744073709551616) (B : ByteArray) : getV (oct8 l ++ B) ((8 * i : Nat) : Int) 8 = (v, true) := by
  have hs := split_at h
  have hi : i < l.length := (List.getElem?_eq_some_iff.1 h).1
  have st : stands (oct8 (l.take i) ++ (putB v 8 ++ oct8 (l.drop (i + 1)))) ((oct8 (l.take i)).size + 0) v 8 := stands_r (stands_l (stands_put v 8) _) _
  have e : oct8 l = oct8 (l.take i) ++ (putB v 8 ++ oct8 (l.drop (i + 1))) := by
    conv => lhs; rw [hs]
    rw [oct8_app, show v :: l.drop (i + 1) = [v] ++ l.drop (i + 1) from rfl, oct8_app, show oct8 [v] = putB v 8 from Bl.empty_app _]
  rw [← e, oct8_size, List.length_take, Nat.min_eq_left (by omega), Nat.add_zero] at st
  have := getV_stands (oct8 l ++ B) (8 * i) 8 v hv.1 (by decide) (by decide) (stands_l st B)
  rw [show ((8 : Nat) : Int) = 8 from rfl] at this
  rw [this, Int.emod_eq_of_lt hv.1 (by rw [show (256 : Int) ^ 8 = 18446744073709551616 by decide]; exact hv.2)]
theorem has_bt (t : ByteArray) (h : has t 0 = false) (j : Nat) (hj : j < t.size) : bt t j ≠ 0 := by
  unfold has at h
  rw [List.any_eq_false] at h
  intro hb
  have hl : j < t.data.toList.length := by rw [size_list]; exact hj
  unfold bt at hb
  rw [List.getD_eq_getElem?_getD, List.getElem?_eq_getElem hl] at hb
  have h1 := h _ (List.getElem_mem hl)
  apply h1
  have h2 : (t.data.toList[j]).toNat = 0 := by simpa using hb
  have h3 : t.data.toList[j] = 0 := UInt8.toNat_inj.1 h2
  rw [h3]; rfl
theorem text_at (F : ByteArray) (a : List ByteArray) (i : Nat) (t : ByteArray) (h : a[i]? = some t) (h0 : has t 0 = false) (hs : t.size ≤ 1000) : textV (F ++ eB a) ((F.size + txN (a.take i) : Nat) : Int) 1024 = (t, true) := by
  have hsp := split_at h
  have e : eB a = eB (a.take i) ++ (t ++ (zB ++ eB (a.drop (i + 1)))) := by
    conv => lhs; rw [hsp]
    rw [eB_app, show t :: a.drop (i + 1) = [t] ++ a.drop (i + 1) from rfl, eB_app, show eB [t] = t ++ zB from by show (⟨#[]⟩ ++ t ++ zB : ByteArray) = _; rw [Bl.empty_app], ByteArray.append_assoc]
  have hd : (F ++ eB a).data.toList = (F.data.toList ++ (eB (a.take i)).data.toList) ++ (t.data.toList ++ (0 :: (eB (a.drop (i + 1))).data.toList)) := by
    rw [e, data_app, data_app, data_app, data_app, List.append_assoc]; rfl
  have hl : (F.data.toList ++ (eB (a.take i)).data.toList).length = F.size + txN (a.take i) := by rw [List.length_append, size_list, size_list, eB_size]
  obtain ⟨q, hq⟩ : ∃ q, F.size + txN (a.take i) = q := ⟨_, rfl⟩
  have hsz : (F ++ eB a).size = q + (t.size + (1 + (eB (a.drop (i + 1))).size)) := by rw [← size_list, hd, List.length_append, hl, hq, List.length_append, List.length_cons, size_list, size_list]; omega
  have hb : ∀ j, j < t.size → bt (F ++ eB a) (q + j) = bt t j := fun j hj => by rw [← hq, ← hl]; exact bt_at hd hj
  have hz : bt (F ++ eB a) (q + t.size) = 0 := by
    have h2 := hd
    rw [← List.append_assoc] at h2
    have := bt_in h2
    rw [List.length_append, hl, size_list, hq] at this
    exact this
  rw [hq]
  unfold textV
  rw [if_neg (by omega), Int.toNat_natCast]
  have hlk : t.size < looks (F ++ eB a) (q : Int) 1024 := by unfold looks; omega
  rw [find_some (F ++ eB a) (q + t.size) hz _ _ (by omega) (by omega) (fun j h1 h2 => by
    have := hb (j - q) (by omega)
    rw [show q + (j - q) = j by omega] at this
    rw [this]
    exact has_bt t h0 _ (by omega))]
  have hx := ext_at hd
  rw [hl, hq] at hx
  exact congrArg (·, true) hx
theorem plc_get : ∀ (l : List ByteArray) (p : Int) (i : Nat), i < l.length → (plc p l)[i]? = some (p + (txN (l.take i) : Nat))
  | [], _, i, h => absurd h (by simp)
  | s :: r, p, 0, _ => by simp [plc, txN]
  | s :: r, p, i + 1, h => by
    rw [plc, List.getElem?_cons_succ, plc_get r _ i (by simpa using h), List.take_succ_cons, txN]
    congr 1
    omega
theorem numsL_len (top : Int) (a : List ByteArray) : (numsL top a [] []).length = 5 + a.length := by
  rw [numsL_is top a [] [] _ rfl]
  simp [plc_len, twos, plc]
  omega
theorem places (top : Int) (a : List ByteArray) (S : ByteArray) (hS : S = fillV (oct8 (numsL top a [] [])) ((szN a [] [] : Int) - txN (a ++ [])) ++ eB (a ++ [])) (ht : 0 ≤ top - txN a ∧ top ≤ 9223372036854775807) (hl : a.length ≤ 1000) :
    getV S 0 8 = ((a.length : Int), true) ∧ ∀ i t, a[i]? = some t → getV S ((8 * (i + 1) : Nat) : Int) 8 = (top - txN a + (txN (a.take i) : Nat), true) ∧ (has t 0 = false → t.size ≤ 1000 → textV S ((szN a [] [] : Int) - txN a + (txN (a.take i) : Nat)) 1024 = (t, true)) := by
  rw [List.append_nil] at hS
  have hz : szN a [] [] = (8 * (5 + a.length) + txN a + 15) / 16 * 16 := by unfold szN; simp [txN]
  have ho := oct8_size (numsL top a [] [])
  rw [numsL_len] at ho
  obtain ⟨N, hN⟩ : ∃ N, numsL top a [] [] = N := ⟨_, rfl⟩
  have hi := numsL_is top a [] [] (top - txN a) (by simp [txN])
  rw [hN] at hi ho hS
  have hf : fillV (oct8 N) ((szN a [] [] : Int) - txN a) = oct8 N ++ zeroB ((max ((szN a [] [] : Int) - txN a) 0).toNat - (oct8 N).size) := by
    unfold fillV
    rw [ho]
    by_cases h : ((8 * (5 + a.length) : Nat) : Int) ≥ max ((szN a [] [] : Int) - txN a) 0
    · rw [if_pos h, show (max ((szN a [] [] : Int) - txN a) 0).toNat = 8 * (5 + a.length) by omega, ← ho, Nat.sub_self, ByteArray.extract_zero_size]
      exact (ByteArray.append_empty).symm
    · rw [if_neg h]
  rw [hf] at hS
  obtain ⟨Z, hZ⟩ : ∃ Z, zeroB ((max ((szN a [] [] : Int) - txN a) 0).toNat - (oct8 N).size) = Z := ⟨_, rfl⟩
  have hZs : (oct8 N ++ Z).size = szN a [] [] - txN a := by rw [ByteArray.size_append, ← hZ, zeroB_size, ho]; omega
  rw [hZ] at hS
  refine ⟨?_, fun i t hi2 => ⟨?_, fun h0 hs => ?_⟩⟩
  · rw [hS, ByteArray.append_assoc]
    exact num_at N 0 _ (by rw [hi]; rfl) (by omega) _
  · have hil : i < a.length := (List.getElem?_eq_some_iff.1 hi2).1
    have htl := txN_le a i
    rw [hS, ByteArray.append_assoc]
    refine num_at N (i + 1) _ ?_ (by omega) _
    rw [hi]
    simp only [List.append_assoc, List.singleton_append, List.getElem?_cons_succ]
    rw [List.getElem?_append_left (by rw [List.length_cons, plc_len]; omega), List.getElem?_cons_succ, plc_get a _ i hil]
  · have := text_at (oct8 N ++ Z) a i t hi2 h0 hs
    rw [hZs, show ((szN a [] [] - txN a + txN (a.take i) : Nat) : Int) = (szN a [] [] : Int) - txN a + (txN (a.take i) : Nat) by omega] at this
    rw [hS]
    exact this
end Stk
end Go.Proofs.Ytkpofbkedolhnaa.L

