/- Plain: of a Spec's list; the order of a closure. -/
import Derived.Test.Ytgljofdhdnhekaac12N
namespace Go.Proofs.Ytgljofdhdnhekaa.L
open Go.L1 Go.IntWalk
set_option linter.unusedVariables false
set_option linter.unusedSimpArgs false
set_option maxHeartbeats 4000000
theorem nameB_inj {a b : Nat} (ha : a < 16) (hb : b < 16) (h : nameB (a : Int) = nameB (b : Int)) : a = b := by
  have h1 := congrArg (fun s : ByteArray => s.data.toList) h
  simp only [nameB, List.cons.injEq, and_true] at h1
  have h2 := congrArg UInt8.toNat h1
  rw [UInt8.toNat_ofNat', UInt8.toNat_ofNat'] at h2
  omega
theorem name_mod (a : Int) : nameB a = nameB ((a % 16).toNat : Nat) := by
  unfold nameB
  have : (97 + a % 16).toNat = (97 + ((a % 16).toNat : Int) % 16).toNat := by omega
  rw [this]
def cnt (many : Int) : Nat := (1 + many % 16).toNat
theorem cnt_ok (many : Int) : 1 ≤ cnt many ∧ cnt many ≤ 16 := by unfold cnt; omega
theorem list_len (nd : List (List Int)) (many : Int) : (listS nd many).length = cnt many := by unfold listS cnt; simp
theorem list_at {nd : List (List Int)} {many : Int} {i : Nat} (h : i < cnt many) : (listS nd many)[i]? = some (libAt nd i) := by
  unfold listS
  rw [List.getElem?_map, List.getElem?_range (by unfold cnt at h; exact h)]; rfl
theorem list_fits (nd : List (List Int)) (many : Int) : Fits (listS nd many) := by
  refine ⟨by rw [list_len]; have := cnt_ok many; omega, fun x hx => ?_⟩
  obtain ⟨y, _, rfl⟩ := List.mem_map.1 hx
  simp [libAt]; omega
theorem list_find {nd : List (List Int)} {many : Int} {i : Nat} (h : i < cnt many) : findL (listS nd many) (nameB (i : Int)) = some (libAt nd i).nd := by
  have hc := cnt_ok many
  unfold findL
  have : (listS nd many).find? (fun y => decide (y.name = nameB (i : Int))) = some (libAt nd i) := by
    rw [List.find?_eq_some_iff_getElem]
    refine ⟨by simp [libAt], i, by rw [list_len]; exact h, ?_, fun j hj => ?_⟩
    · have := list_at (nd := nd) h
      rw [List.getElem?_eq_some_iff] at this
      obtain ⟨_, h2⟩ := this
      exact h2
    · have h1 := list_at (nd := nd) (show j < cnt many by omega)
      rw [List.getElem?_eq_some_iff] at h1
      obtain ⟨h3, h2⟩ := h1
      rw [h2]
      simp only [libAt, Bool.not_eq_true']
      refine decide_eq_false ?_
      intro e
      have := nameB_inj (by omega) (by omega) e
      omega
  rw [this]; rfl
theorem list_has {nd : List (List Int)} {many : Int} {x : ByteArray} (h : (findL (listS nd many) x).isSome = true) : ∃ i, i < cnt many ∧ x = nameB (i : Int) := by
  obtain ⟨y, h1, h2⟩ := List.mem_map.1 (findL_mem h)
  obtain ⟨i, hi, rfl⟩ := List.mem_map.1 h1
  exact ⟨i, by unfold cnt; exact List.mem_range.1 hi, h2.symm⟩
-- ---- the order
theorem head_root {l : List Lib} {root : ByteArray} (hr : (findL l root).isSome = true) : (ofS l root).names[0]? = some root :=
  ofS_inv hr (I := fun _ w => w.names[0]? = some root) rfl fun i w hok hI hi => by
    unfold ofRound
    obtain ⟨e, he⟩ := fold_sub (l := l) (dp := w.depths.getD i 0) ((findL l (w.names.getD i ⟨#[]⟩)).getD []) w
    rw [he, List.getElem?_append_left (by omega)]; exact hI
/-- Each but the first is needed by one ahead of it. -/
theorem behind {l : List Lib} {root : ByteArray} (hr : (findL l root).isSome = true) : ∀ j y, 0 < j → (ofS l root).names[j]? = some y → ∃ k x, k < j ∧ (ofS l root).names[k]? = some x ∧ y ∈ (findL l x).getD [] :=
  ofS_inv hr (I := fun _ w => ∀ j y, 0 < j → w.names[j]? = some y → ∃ k x, k < j ∧ w.names[k]? = some x ∧ y ∈ (findL l x).getD []) (fun j y hj h => by
    have := (List.getElem?_eq_some_iff.1 h).1
    simp at this; omega) fun i w hok hI hi => by
    unfold ofRound
    rw [round_nd hi]
    have hkey : w.names.length ≤ (((findL l w.names[i]).getD []).foldl (ofMeet l (w.depths.getD i 0)) w).names.length ∧ (((findL l w.names[i]).getD []).foldl (ofMeet l (w.depths.getD i 0)) w).names[i]? = some w.names[i] ∧ ∀ j y, 0 < j → (((findL l w.names[i]).getD []).foldl (ofMeet l (w.depths.getD i 0)) w).names[j]? = some y → ∃ k x, k < j ∧ (((findL l w.names[i]).getD []).foldl (ofMeet l (w.depths.getD i 0)) w).names[k]? = some x ∧ y ∈ (findL l x).getD [] :=
      fold_inv (J := fun r => w.names.length ≤ r.names.length ∧ r.names[i]? = some w.names[i] ∧ ∀ j y, 0 < j → r.names[j]? = some y → ∃ k x, k < j ∧ r.names[k]? = some x ∧ y ∈ (findL l x).getD []) _ w (fun r s hs hJ => by
        obtain ⟨j1, j2, j3⟩ := hJ
        unfold ofMeet
        repeat' split
        · exact ⟨j1, j2, j3⟩
        · refine ⟨by simp; omega, by rw [List.getElem?_append_left (by omega)]; exact j2, fun j y hj hy => ?_⟩
          by_cases hjl : j < r.names.length
          · rw [List.getElem?_append_left hjl] at hy
            obtain ⟨k, x, k1, k2, k3⟩ := j3 j y hj hy
            exact ⟨k, x, k1, by rw [List.getElem?_append_left (by omega)]; exact k2, k3⟩
          · rw [List.getElem?_append_right (by omega)] at hy
            have hj0 : j - r.names.length = 0 := by
              have := (List.getElem?_eq_some_iff.1 hy).1
              simp at this; omega
            rw [hj0] at hy
            simp only [List.getElem?_cons_zero, Option.some.injEq] at hy
            subst hy
            exact ⟨i, w.names[i], by omega, by rw [List.getElem?_append_left (by omega)]; exact j2, hs⟩
        · exact ⟨j1, j2, j3⟩
        · exact ⟨j1, j2, j3⟩) ⟨Nat.le_refl _, List.getElem?_eq_getElem hi, hI⟩
    exact hkey.2.2
/-- The depths never fall. -/
theorem sorted {l : List Lib} {root : ByteArray} (hr : (findL l root).isSome = true) : ∀ j a b, (ofS l root).depths[j]? = some a → (ofS l root).depths[j + 1]? = some b → a ≤ b := by
  have := ofS_inv hr (I := fun i w => (∀ j a b, w.depths[j]? = some a → w.depths[j + 1]? = some b → a ≤ b) ∧ (∀ j a b, i ≤ j → w.depths[i]? = some a → w.depths[j]? = some b → a ≤ b ∧ b ≤ a + 1))
    ⟨fun j a b h1 h2 => by have := (List.getElem?_eq_some_iff.1 h2).1; simp at this, fun j a b h0 h1 h2 => by
      have := (List.getElem?_eq_some_iff.1 h2).1
      simp at this
      subst this
      simp at h1 h2
      omega⟩ fun i w hok hI hi => by
    obtain ⟨hI1, hI2⟩ := hI
    unfold ofRound
    rw [round_nd hi]
    obtain ⟨a0, ha0⟩ : ∃ a, w.depths[i]? = some a := ⟨_, List.getElem?_eq_getElem (by rw [hok.same]; exact hi)⟩
    have hd : w.depths.getD i 0 = a0 := by rw [List.getD_eq_getElem?_getD, ha0]; rfl
    rw [hd]
    have hkey := fold_inv (l := l) (dp := a0) (J := fun r => w.names.length ≤ r.names.length ∧ r.depths[i]? = some a0 ∧ (∀ j a b, r.depths[j]? = some a → r.depths[j + 1]? = some b → a ≤ b) ∧ (∀ j b, i ≤ j → r.depths[j]? = some b → a0 ≤ b ∧ b ≤ a0 + 1)) ((findL l w.names[i]).getD []) w (fun r s hs hJ => by
        obtain ⟨j1, j2, j3, j4⟩ := hJ
        have hid := (List.getElem?_eq_some_iff.1 j2).1
        unfold ofMeet
        repeat' split
        · exact ⟨j1, j2, j3, j4⟩
        · refine ⟨by simp; omega, by rw [List.getElem?_append_left hid]; exact j2, fun j a b h1 h2 => ?_, fun j b hj hb => ?_⟩
          · by_cases hjl : j + 1 < r.depths.length
            · rw [List.getElem?_append_left (by omega)] at h1
              rw [List.getElem?_append_left hjl] at h2
              exact j3 j a b h1 h2
            · have hjl2 := (List.getElem?_eq_some_iff.1 h2).1
              simp at hjl2
              rw [List.getElem?_append_right (by omega), show j + 1 - r.depths.length = 0 by omega] at h2
              simp only [List.getElem?_cons_zero, Option.some.injEq] at h2
              rw [List.getElem?_append_left (by omega)] at h1
              have := j4 j a (by omega) h1
              omega
          · by_cases hjl : j < r.depths.length
            · rw [List.getElem?_append_left hjl] at hb
              exact j4 j b hj hb
            · have hjl2 := (List.getElem?_eq_some_iff.1 hb).1
              simp at hjl2
              rw [List.getElem?_append_right (by omega), show j - r.depths.length = 0 by omega] at hb
              simp only [List.getElem?_cons_zero, Option.some.injEq] at hb
              omega
        · exact ⟨j1, j2, j3, j4⟩
        · exact ⟨j1, j2, j3, j4⟩) ⟨Nat.le_refl _, ha0, hI1, fun j b hj hb => hI2 j a0 b hj ha0 hb⟩
    obtain ⟨_, k2, k3, k4⟩ := hkey
    refine ⟨k3, fun j a b hj ha hb => ?_⟩
    -- from i + 1 on: the first of these is at least a0 and those behind it at most a0 + 1, and sorted
    have hmono : ∀ (d j : Nat) (a b : Int), (List.foldl (ofMeet l a0) w ((findL l w.names[i]).getD [])).depths[j]? = some a → (List.foldl (ofMeet l a0) w ((findL l w.names[i]).getD [])).depths[j + d]? = some b → a ≤ b := by
      intro d
      induction d with
      | zero => intro j a b h1 h2; rw [Nat.add_zero, h1] at h2; cases h2; exact Int.le_refl _
      | succ d ih =>
        intro j a b h1 h2
        have hl := (List.getElem?_eq_some_iff.1 h2).1
        have hjd : j + d < (List.foldl (ofMeet l a0) w ((findL l w.names[i]).getD [])).depths.length := by omega
        obtain ⟨c, hc⟩ : ∃ c, (List.foldl (ofMeet l a0) w ((findL l w.names[i]).getD [])).depths[j + d]? = some c := ⟨_, List.getElem?_eq_getElem hjd⟩
        have := ih j a c h1 hc
        have := k3 (j + d) c b hc h2
        omega
    refine ⟨?_, ?_⟩
    · obtain ⟨e, rfl⟩ : ∃ e, j = i + 1 + e := ⟨j - (i + 1), by omega⟩
      exact hmono e (i + 1) a b ha hb
    · have h1 := k4 j b (by omega) hb
      have h2 := k4 (i + 1) a (by omega) ha
      omega
  exact this.1
theorem depth_at {l : List Lib} {root x : ByteArray} {i : Nat} {d : Int} (h1 : (ofS l root).names[i]? = some x) (h2 : (ofS l root).depths[i]? = some d) : rdepthS l root x = d := by
  unfold rdepthS
  rw [dIn_eq, dOf_at (ofS_ok l root).nodup h1 h2]; rfl
end Go.Proofs.Ytgljofdhdnhekaa.L

