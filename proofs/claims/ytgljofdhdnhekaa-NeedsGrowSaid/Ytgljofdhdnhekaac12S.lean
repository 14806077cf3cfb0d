/- Plain: one more library: the orders. -/
import Derived.Test.Ytgljofdhdnhekaac12R
namespace Go.Proofs.Ytgljofdhdnhekaa.L
open Go.L1 Go.IntWalk
set_option linter.unusedVariables false
set_option linter.unusedSimpArgs false
set_option maxHeartbeats 4000000
def newL (root : ByteArray) : Lib := ⟨newB, [root]⟩
def more1 (l : List Lib) (root : ByteArray) : List Lib := l ++ [newL root]
def more2 (l : List Lib) (root : ByteArray) (k : Nat) (x : Lib) : List Lib := (more1 l root).set k ⟨x.name, x.nd ++ [newB]⟩
theorem find_new (root x : ByteArray) (h : x ≠ newB) : findL [newL root] x = none := by
  unfold findL newL
  simp [show ¬ newB = x from fun e => h e.symm]
theorem more1_find {l : List Lib} {root x : ByteArray} (h : Pn x) : findL (more1 l root) x = findL l x := by
  unfold more1
  rw [find_app, find_new root x h.new]
  cases findL l x <;> rfl
theorem more1_fits (nd : List (List Int)) (many : Int) (root : ByteArray) : Fits (more1 (listS nd many) root) := by
  have h := list_fits nd many
  have hl := list_len nd many
  have hc := cnt_ok many
  refine ⟨by simp [more1, hl]; omega, fun x hx => ?_⟩
  rcases List.mem_append.1 hx with hx | hx
  · exact h.nd x hx
  · rw [List.mem_singleton.1 hx]; simp [newL]
theorem start_ok {l : List Lib} {root : ByteArray} (hr : (findL l root).isSome = true) : (⟨[root], [0], []⟩ : Rw).ok l := ⟨by simp, fun x hx => by rw [List.mem_singleton.1 hx]; exact hr, rfl⟩
theorem grow1 (nd : List (List Int)) (many : Int) {root : ByteArray} (hp : Pn root) (hr : (findL (listS nd many) root).isSome = true) : orderS (more1 (listS nd many) root) root = orderS (listS nd many) root := by
  rw [order_eq, order_eq]
  have h1 : (findL (more1 (listS nd many) root) root).isSome = true := by rw [more1_find hp]; exact hr
  have : ofS (more1 (listS nd many) root) root = ofS (listS nd many) root := by
    unfold ofS
    rw [if_pos h1, if_pos hr, go_same (l := listS nd many) (fun x hx => more1_find hx) (fun x r h => list_closed h) _ _ _ (fun x hx => by rw [List.mem_singleton.1 hx]; exact hp)]
    exact go_fuel _ _ _ _ (start_ok hr) (by simp) (by simp [more1]) (by simp)
  unfold rorderS
  rw [h1, hr, this]
section
variable {nd : List (List Int)} {many : Int} {i0 k : Nat} (hi : i0 < cnt many) (hk : k < cnt many) (hm : (ofS (listS nd many) (nameB (i0 : Int))).missing.length = 0)
  (hl : (ofS (listS nd many) (nameB (i0 : Int))).names[(ofS (listS nd many) (nameB (i0 : Int))).names.length - 1]? = some (nameB (k : Int)))
theorem more1_at (root : ByteArray) (hk : k < cnt many) : (more1 (listS nd many) root)[k]? = some (libAt nd k) := by
  unfold more1
  rw [List.getElem?_append_left (by rw [list_len]; exact hk)]
  exact list_at hk
theorem more2_find {x : ByteArray} (root : ByteArray) (hk : k < cnt many) (hx : Pn x) (hne : x ≠ nameB (k : Int)) : findL (more2 (listS nd many) root k (libAt nd k)) x = findL (listS nd many) x := by
  unfold more2
  rw [find_set _ _ _ ⟨(libAt nd k).name, (libAt nd k).nd ++ [newB]⟩ _ (more1_at root hk) rfl (fun e => hne (by rw [← e]; rfl)), more1_find hx]
theorem more2_last (root : ByteArray) (hk : k < cnt many) : findL (more2 (listS nd many) root k (libAt nd k)) (nameB (k : Int)) = some ((libAt nd k).nd ++ [newB]) := by
  have hc := cnt_ok many
  unfold more2
  refine find_set_at _ _ _ ⟨(libAt nd k).name, (libAt nd k).nd ++ [newB]⟩ (more1_at root hk) rfl fun j w hj hw => ?_
  rw [more1_at (nd := nd) root (show j < cnt many by omega)] at hw
  cases hw
  intro e
  have := nameB_inj (a := j) (b := k) (by omega) (by omega) e
  omega
theorem more2_new (root : ByteArray) (hk : k < cnt many) : findL (more2 (listS nd many) root k (libAt nd k)) newB = some [root] := by
  unfold more2
  rw [find_set _ _ _ ⟨(libAt nd k).name, (libAt nd k).nd ++ [newB]⟩ _ (more1_at root hk) rfl (fun e => new_ne k e)]
  unfold more1
  have : findL (listS nd many) newB = none := by
    cases h : findL (listS nd many) newB with
    | none => rfl
    | some r =>
      obtain ⟨i, _, e⟩ := list_has (x := newB) (by rw [h]; rfl)
      exact absurd e.symm (new_ne i)
  rw [find_app, this]
  simp [findL, newL]
theorem more2_some {x : ByteArray} (root : ByteArray) (hk : k < cnt many) (hx : Pn x) : (findL (more2 (listS nd many) root k (libAt nd k)) x).isSome = (findL (listS nd many) x).isSome := by
  by_cases e : x = nameB (k : Int)
  · rw [e, more2_last root hk, list_find hk]; rfl
  · rw [more2_find root hk hx e]
theorem more2_len (root : ByteArray) : (more2 (listS nd many) root k (libAt nd k)).length = cnt many + 1 := by unfold more2 more1; simp [list_len]
theorem more2_fits (root : ByteArray) : Fits (more2 (listS nd many) root k (libAt nd k)) := by
  have hc := cnt_ok many
  refine ⟨by rw [more2_len]; omega, fun x hx => ?_⟩
  unfold more2 at hx
  rcases List.mem_or_eq_of_mem_set hx with hx | hx
  · exact (more1_fits nd many root).nd x hx
  · rw [hx]; simp [libAt]; omega
include hi hk hm hl
theorem grow2 : orderS (more2 (listS nd many) (nameB (i0 : Int)) k (libAt nd k)) (nameB (i0 : Int)) = ((ofS (listS nd many) (nameB (i0 : Int))).names ++ [newB], 0) ∧ roundS' (more2 (listS nd many) (nameB (i0 : Int)) k (libAt nd k)) (nameB (i0 : Int)) (more2 (listS nd many) (nameB (i0 : Int)) k (libAt nd k)).length = some true := by
  have hc := cnt_ok many
  have hp : Pn (nameB (i0 : Int)) := ⟨_, rfl⟩
  have hr : (findL (listS nd many) (nameB (i0 : Int))).isSome = true := by rw [list_find hi]; rfl
  have hr2 : (findL (more2 (listS nd many) (nameB (i0 : Int)) k (libAt nd k)) (nameB (i0 : Int))).isSome = true := by rw [more2_some _ hk hp]; exact hr
  have hok := ofS_ok (listS nd many) (nameB (i0 : Int))
  have hroot : nameB (i0 : Int) ∈ (ofS (listS nd many) (nameB (i0 : Int))).names := List.mem_of_getElem? (head_root hr)
  have hpos : 0 < (ofS (listS nd many) (nameB (i0 : Int))).names.length := List.length_pos_of_mem hroot
  have hpn : ∀ x ∈ (ofS (listS nd many) (nameB (i0 : Int))).names, Pn x := fun x hx => by
    obtain ⟨i, _, rfl⟩ := list_has (hok.within x hx); exact ⟨_, rfl⟩
  have hg := go_grow (l := listS nd many) (m := more2 (listS nd many) (nameB (i0 : Int)) k (libAt nd k)) (root := nameB (i0 : Int)) (last := nameB (k : Int)) (nl := (libAt nd k).nd)
    ⟨fun x hx => more2_some _ hk hx, fun x hx hne => more2_find _ hk hx hne, fun x r h => list_closed h, list_find hk⟩ (more2_last _ hk) (more2_new _ hk) hr2
    (ofS (listS nd many) (nameB (i0 : Int))) hroot hl hok.nodup hpn hok.same ((listS nd many).length + 1) 0 ⟨[nameB (i0 : Int)], [0], []⟩ (start_ok hr) (fun x hx => by rw [List.mem_singleton.1 hx]; exact hp) (by omega) (by simp)
    (by unfold ofS; rw [if_pos hr]) (by omega)
  have he : ofS (more2 (listS nd many) (nameB (i0 : Int)) k (libAt nd k)) (nameB (i0 : Int)) = ofGo (more2 (listS nd many) (nameB (i0 : Int)) k (libAt nd k)) ((listS nd many).length + 1 + 1) 0 ⟨[nameB (i0 : Int)], [0], []⟩ := by
    unfold ofS
    rw [if_pos hr2]
    exact go_fuel _ _ _ _ (start_ok hr2) (by simp) (by omega) (by rw [more2_len, list_len]; omega)
  rw [← he] at hg
  obtain ⟨g1, g2⟩ := hg
  refine ⟨?_, ?_⟩
  · rw [order_eq]
    unfold rorderS
    have hn := hok.len
    rw [list_len] at hn
    rw [hr2, if_neg (by simp), if_neg (by rintro (h | h); rw [g2, hm] at h; omega; rw [g1, List.length_append] at h; simp at h; omega), g1]
  · rw [round_eq]
    congr 1
    rw [rround_iff hr2]
    have hin : newB ∈ (ofS (more2 (listS nd many) (nameB (i0 : Int)) k (libAt nd k)) (nameB (i0 : Int))).names := by rw [g1]; simp
    have h1 := (names_iff hr2).1 hin
    have e1 : Edge (more2 (listS nd many) (nameB (i0 : Int)) k (libAt nd k)) newB (nameB (i0 : Int)) := ⟨by rw [more2_new _ hk]; simp, hr2⟩
    exact ⟨newB, nameB (i0 : Int), h1, e1, h1⟩
end
end Go.Proofs.Ytgljofdhdnhekaa.L

