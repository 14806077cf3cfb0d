/- A row that comes in, with its length against what the statement weighs. -/
import Derived.Test.YtnlgindlmlbfiaaL1U
namespace Go.L1
open Go.RowKit Go.WideShapes
set_option linter.unusedVariables false
variable {P : Program} {t e : TypeId}
theorem opens_rows {α : Type} {d : Kn α} {wf : α → Prop} (ht : P.underlying t = some (.slice e)) (hc : P.cellsOf e = d.sz) (hz : 0 < d.sz) (ho : Opens P d e wf) {H : Type} (enc : TypeId × Value → H) (W : World) (base : Nat) (spare : Nat → Bool) (held : Bool) (fuel : Nat) (cs : List Value) (x : DataW H × List MemPlace) (h : DataW.trod enc P W base spare held fuel t cs = some x) : ∃ a, Fv P W ((kList d).enc a) cs ∧ wfL wf a ∧ (a = [] ∨ ∃ E R, x.1 = .slice E R ∧ a.length ≤ E.length) := by
  rcases DataW.trod_slice ht h with ⟨rfl, _⟩ | ⟨a, len, cap, elems, rest, n, _, rfl, hxe, _, hl, hm, hlen, hel, _, _⟩
  · exact ⟨[], fun C n ρ _ _ => .cons .frz0 .nil, ⟨Nat.zero_le _, fun x hx => (List.not_mem_nil hx).elim⟩, .inl rfl⟩
  have hm' : cap ≤ 9223372036854775807 := hm
  by_cases h0 : len = 0
  · subst h0
    exact ⟨[], fun C n ρ _ _ => .cons .frz0 .nil, ⟨Nat.zero_le _, fun x hx => (List.not_mem_nil hx).elim⟩, .inl rfl⟩
  obtain ⟨l, h1, h4, h5⟩ := open_elems (a := a) ho (fuel := n) len (fun i hi => by
    have := hel i hi
    rw [hc] at this
    rw [List.getElem?_eq_getElem (by omega)] at this
    exact ⟨_, this⟩)
  obtain ⟨b0, hb0⟩ : ∃ b, l[0]? = some b := ⟨_, List.getElem?_eq_getElem (by omega)⟩
  obtain ⟨c0, hv0, hc0⟩ := h5 0 b0 hb0
  have hlc0 : c0.length = d.sz := by
    have := (hv0 ⟨P, 0, 0, W⟩ 0 ⟨fun _ => (0, 0), fun _ => True, fun _ => True⟩ rfl (fun _ _ => trivial)).1
    rw [← this, d.len]
  obtain ⟨u0, hu0⟩ : ∃ u, c0[0]? = some u := ⟨_, List.getElem?_eq_getElem (by omega)⟩
  have hcell := hc0 0 u0 hu0
  rw [Nat.zero_mul, Nat.add_zero] at hcell
  obtain ⟨c, e', z, hw, _, hsp⟩ := cell_add hcell
  have hsp := hsp rfl
  obtain ⟨ab, ao, asp⟩ := a
  subst hsp
  refine ⟨l, fun C n' ρ hP hice => .cons ?_ .nil, ⟨by show l.length ≤ _; omega, h4⟩, .inr ⟨_, _, by rw [hxe], by rw [List.length_map]; omega⟩⟩
  have key : ∀ j v, (l.flatMap d.enc)[j]? = some v → ∃ v', c[ao + j]? = some v' ∧ VR C n' ρ W v v' := fun j v hj => by
    obtain ⟨i1, k1, b1, hj1, hk1, hb1, hv1⟩ := flat_split d.len hj
    obtain ⟨cc, hvv, hcc⟩ := h5 i1 b1 hb1
    obtain ⟨v', hv', hvr⟩ := (hvv C n' ρ hP hice).2 k1 v hv1
    obtain ⟨c2, e2, fz2, q1, q2, _⟩ := cell_add (hcc k1 v' hv')
    rw [show W.heap[ab]? = _ from hw] at q1
    cases q1
    exact ⟨v', by rw [hj1]; exact q2, hvr⟩
  have hfl : (l.flatMap d.enc).length = l.length * d.sz := flat_len d.len l
  have hpos : 0 < l.length * d.sz := Nat.mul_pos (by omega) hz
  obtain ⟨vl, hvl, _⟩ := key (l.length * d.sz - 1) _ (List.getElem?_eq_getElem (by omega))
  have hsz := (Array.getElem?_eq_some_iff.1 hvl).1
  rw [← h1] at hl ⊢
  refine VR.frz hl hw (.inl (hice ab (Array.getElem?_eq_some_iff.1 hw).1)) (by simp only [List.size_toArray, hfl]; omega) fun j hj => ?_
  have hj' : j < (l.flatMap d.enc).length := by simpa using hj
  obtain ⟨v', q1, q2⟩ := key j _ (List.getElem?_eq_getElem hj')
  obtain ⟨q3, rfl⟩ := Array.getElem?_eq_some_iff.1 q1
  rw [getD_get hj, getD_get q3]
  simpa using q2
theorem arg_rows {α : Type} {H : Type} {enc : TypeId × Value → H} {W : World} {spare : Nat → Bool} {held : Bool} {base : Nat} {v : Value} {dd : DataW H} {p : List MemPlace} {d : Kn α} {wf : α → Prop}
    (ht : P.underlying t = some (.slice e)) (hcs : P.cellsOf e = d.sz) (hz : 0 < d.sz) (ho : Opens P d e wf) (hc : v.cells = #[v]) (h : DataW.Trod enc P W base spare held t v dd p) : ∃ a : List α, Fa P W (fz tg a.length (a.flatMap d.enc)) v ∧ wfL wf a ∧ (a = [] ∨ ∃ E R, dd = .slice E R ∧ a.length ≤ E.length) := by
  obtain ⟨fuel, hf⟩ := h
  rw [hc] at hf
  obtain ⟨a, h3, h5, h6⟩ := opens_rows ht hcs hz ho enc W base spare held fuel _ _ hf
  refine ⟨a, fun C n ρ hP hi => ?_, h5, h6⟩
  obtain ⟨v', q1, q2⟩ := (h3 C n ρ hP hi).2 0 (fz tg a.length (a.flatMap d.enc)) rfl
  simp at q1
  rw [q1]
  exact q2
end Go.L1
