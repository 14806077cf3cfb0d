/- needs.walk. -/
import Derived.Test.Ytgljofdhdnhekaac12B
namespace Go.Proofs.Ytgljofdhdnhekaa.L
open Go.L1 Go.IntWalk
set_option linter.unusedVariables false
set_option linter.unusedSimpArgs false
set_option maxHeartbeats 4000000
/-- What holds of a walk: its names are the table's, each once; just these have a depth. -/
structure Wk.ok (t : Tbl) (w : Wk) : Prop where
  nodup : w.names.Nodup
  within : ∀ x ∈ w.names, (mget t x).isSome = true
  seen : ∀ x, (mget w.depth x).isSome = true ↔ x ∈ w.names
theorem mget_mem {κ β : Type} [DecidableEq κ] {l : List (κ × β)} {k : κ} (h : (mget l k).isSome = true) : k ∈ l.map Prod.fst := by
  induction l with
  | nil => cases h
  | cons p l ih =>
    rw [mget] at h
    split at h
    · rename_i e; subst e; simp
    · exact List.mem_cons_of_mem _ (ih h)
theorem meet_ok {t : Tbl} {w : Wk} (h : w.ok t) (name : ByteArray) (deep : Int) : (meetS t w name deep).ok t := by
  unfold meetS
  split
  · exact ⟨h.nodup, h.within, h.seen⟩
  · split
    · rename_i h1 h2
      have hn : name ∉ w.names := fun hm => by have := (h.seen name).2 hm; rw [h2.2] at this; cases this
      refine ⟨?_, ?_, ?_⟩
      · simp only [List.nodup_append, List.nodup_cons, List.not_mem_nil, not_false_eq_true, List.nodup_nil, and_self, List.mem_singleton]
        exact ⟨h.nodup, trivial, fun a ha b hb e => by subst hb; subst e; exact hn ha⟩
      · intro x hx
        rcases List.mem_append.1 hx with hx | hx
        · exact h.within x hx
        · rw [List.mem_singleton.1 hx]; exact h2.1
      · intro x
        simp only [mget_put, List.mem_append, List.mem_singleton]
        split
        · rename_i e; simp [e]
        · rename_i e; rw [h.seen x]; simp [e]
    · exact h
theorem nodup_len {α : Type} [DecidableEq α] : ∀ (l m : List α), l.Nodup → (∀ x ∈ l, x ∈ m) → l.length ≤ m.length
  | [], m, _, _ => Nat.zero_le _
  | x :: l, m, h1, h2 => by
    obtain ⟨h3, h4⟩ := List.nodup_cons.1 h1
    have hx := h2 x (List.mem_cons_self ..)
    have := nodup_len l (m.erase x) h4 (fun y hy => (List.mem_erase_of_ne (by rintro rfl; exact h3 hy)).2 (h2 y (List.mem_cons_of_mem _ hy)))
    rw [List.length_erase_of_mem hx] at this
    have hp := List.length_pos_of_mem hx
    simp only [List.length_cons]
    omega
theorem ok_len {t : Tbl} {w : Wk} (h : w.ok t) : w.names.length ≤ t.length := by
  have := nodup_len w.names (t.map Prod.fst) h.nodup (fun x hx => mget_mem (h.within x hx))
  simpa using this
/-- One round: all that the ith name needs. -/
def roundS (t : Tbl) (w : Wk) (i : Nat) : Wk := ((mget t (w.names.getD i ⟨#[]⟩)).getD []).foldl (fun w' s => meetS t w' s ((mget w.depth (w.names.getD i ⟨#[]⟩)).getD 0 + 1)) w
def walkGo (t : Tbl) : Nat → Nat → Wk → Wk
  | 0, _, w => w
  | f + 1, i, w => if i < w.names.length then walkGo t f (i + 1) (roundS t w i) else w
def walkS (t : Tbl) (root : ByteArray) : Wk := walkGo t (t.length + 1) 0 (meetS t ⟨[], [], [], []⟩ root 0)
end Go.Proofs.Ytgljofdhdnhekaa.L

