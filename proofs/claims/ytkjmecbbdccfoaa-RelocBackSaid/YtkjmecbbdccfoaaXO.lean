/- What comes in, laid open: out of the form's reading of a value's cells, the value as the walks of this seat know it (ints, bools, texts, slices, structs, arrays, one in another). -/
import Derived.Test.YtkjmecbbdccfoaaWMore
import Derived.ChangeArms
import Derived.OpenShut
import Derived.ChangeShapes
import Derived.WideShapes
import Derived.Carry
namespace Go.XO
open Go.RowKit Go.WideShapes Go.Proofs.YtkjmecbbdccfoaaW.PrintWords
set_option linter.unusedVariables false
def Opens {α : Type} (P : Program) (d : Kd α) (t : TypeId) (wf : α → Prop) : Prop :=
  ∀ {H : Type} (enc : TypeId × Value → H) (W : World) (base : Nat) (spare : Nat → Bool) (held : Bool) (fuel : Nat) (cs : List Value) (x : DataW H × List MemPlace),
    DataW.trod enc P W base spare held fuel t cs = some x → ∃ a, d.K W a cs ∧ wf a
def wfI (k : IntKind) (n : Int) : Prop := (Lit.int k n).wf = true
def wfB (_ : Bool) : Prop := True
def wfT (s : ByteArray) : Prop := s.size ≤ 9223372036854775807
def wfL {α : Type} (p : α → Prop) (l : List α) : Prop := l.length ≤ 9223372036854775807 ∧ ∀ x ∈ l, p x
variable {P : Program} {t e : TypeId}
theorem opens_int {k : IntKind} (ht : P.underlying t = some (.int k)) : Opens P (Kd.int k) t (wfI k) := by
  intro H enc W base spare held fuel cs x h
  obtain ⟨n, rfl, _, hw⟩ := DataW.trod_int ht h
  exact ⟨n, rfl, hw⟩
theorem opens_bool (ht : P.underlying t = some .bool) : Opens P Kd.bool t wfB := by
  intro H enc W base spare held fuel cs x h
  obtain ⟨b, rfl, _⟩ := DataW.trod_bool ht h
  exact ⟨b, rfl, trivial⟩
theorem opens_string (ht : P.underlying t = some .string) : Opens P Kd.string t wfT := by
  intro H enc W base spare held fuel cs x h
  obtain ⟨s, rfl, _, hs⟩ := DataW.trod_string ht h
  exact ⟨s, rfl, hs⟩
theorem mapM_range {α : Type} {f : Nat → Option α} : ∀ {n : Nat} {l : List α}, (List.range n).mapM f = some l → l.length = n ∧ ∀ i, i < n → f i = l[i]? := by
  intro n l h
  have h1 : ∀ (m : List Nat) (l : List α), m.mapM f = some l → l.length = m.length ∧ ∀ i (hi : i < m.length), f m[i] = l[i]? := by
    intro m
    induction m with
    | nil => intro l h; simp at h; subst h; exact ⟨rfl, fun i hi => absurd hi (by simp)⟩
    | cons a m ih =>
      intro l h
      rw [List.mapM_cons] at h
      cases ha : f a with
      | none => simp [ha] at h
      | some b =>
        cases hm : m.mapM f with
        | none => simp [ha, hm] at h
        | some r =>
          simp [ha, hm] at h
          subst h
          obtain ⟨hl, hi⟩ := ih r hm
          refine ⟨by simp [hl], fun i hi' => ?_⟩
          cases i with
          | zero => simpa using ha
          | succ i => simpa using hi i (by simpa using hi')
  obtain ⟨hl, hi⟩ := h1 _ _ h
  exact ⟨by simpa using hl, fun i hi' => by have h2 := hi i (by simpa using hi'); rwa [List.getElem_range] at h2⟩
theorem cells_at {W : World} {base : Nat} {a : Addr} {n : Nat} {cs : List Value} (h : W.cells? base a n = some cs) : cs.length = n ∧ ∀ i u, cs[i]? = some u → W.cell? (a.add i) = some u := by
  unfold World.cells? at h
  split at h
  · obtain ⟨hl, hi⟩ := mapM_range h
    refine ⟨hl, fun i u hu => ?_⟩
    have hlt : i < n := by rw [← hl]; exact (List.getElem?_eq_some_iff.1 hu).1
    rw [hi i hlt, hu]
  · cases h
theorem add_add (a : Addr) (m n : Nat) : (a.add m).add n = a.add (m + n) := by
  unfold Addr.add
  by_cases h1 : m = 0 <;> by_cases h2 : n = 0 <;> simp [h1, h2, Nat.add_assoc]
theorem choose_list {α β : Type} {p : Nat → β → Prop} (n : Nat) (h : ∀ i, i < n → ∃ b, p i b) : ∃ l : List β, l.length = n ∧ ∀ i b, l[i]? = some b → p i b := by
  induction n with
  | zero => exact ⟨[], rfl, fun i b hb => by simp at hb⟩
  | succ n ih =>
    obtain ⟨l, hl, hp⟩ := ih fun i hi => h i (by omega)
    obtain ⟨b, hb⟩ := h n (by omega)
    refine ⟨l ++ [b], by simp [hl], fun i c hc => ?_⟩
    rcases Nat.lt_or_ge i n with hi | hi
    · rw [List.getElem?_append_left (by omega)] at hc
      exact hp i c hc
    · rw [List.getElem?_append_right (by omega)] at hc
      have h0 : i = n := by
        have := (List.getElem?_eq_some_iff.1 hc).1
        simp at this
        omega
      subst h0
      simp [hl] at hc
      exact hc ▸ hb
theorem opens_slice {α : Type} {d : Kd α} {wf : α → Prop} (ht : P.underlying t = some (.slice e)) (hc : P.cellsOf e = d.sz) (ho : Opens P d e wf) : Opens P (Kd.slice e d) t (wfL wf) := by
  intro H enc W base spare held fuel cs x h
  rcases DataW.trod_slice ht h with ⟨rfl, _⟩ | ⟨a, len, cap, elems, rest, n, _, rfl, _, _, hl, hm, hlen, hel, _, _⟩
  · exact ⟨[], ⟨none, 0, rfl, Nat.le_refl _, rfl, by simp, fun h => absurd h (by simp)⟩, by simp, fun x hx => by cases hx⟩
  · have hm' : cap ≤ 9223372036854775807 := hm
    obtain ⟨l, hll, hp⟩ := choose_list (α := α) (p := fun i (b : α) => wf b ∧ ∃ c, c.length = d.sz ∧ d.K W b c ∧ ∀ j u, c[j]? = some u → W.cell? (a.add (i * d.sz + j)) = some u) len (fun i hi => by
      have h1 := hel i hi
      rw [List.getElem?_eq_getElem (by omega), Option.bind_eq_some_iff] at h1
      obtain ⟨c, hc1, hc2⟩ := h1
      obtain ⟨b, hK, hw⟩ := ho enc W base spare held n c _ hc2
      rw [hc] at hc1
      obtain ⟨hcl, hca⟩ := cells_at hc1
      exact ⟨b, hw, c, hcl, hK, fun j u hu => by rw [← add_add]; exact hca j u hu⟩)
    refine ⟨l, ⟨some a, cap, by rw [hll], by omega, rfl, by omega, fun _ => ⟨a, rfl, fun j p hj => ?_⟩⟩, by omega, fun x hx => ?_⟩
    · obtain ⟨_, c, h1, h2, h3⟩ := hp j p hj
      exact ⟨c, h1, h2, h3⟩
    · obtain ⟨i, hi, rfl⟩ := List.getElem_of_mem hx
      exact (hp i _ (List.getElem?_eq_getElem hi)).1
theorem opens_iso {α β : Type} {d : Kd α} {wf : α → Prop} (f : β → α) (g : α → β) (hfg : ∀ a, f (g a) = a) (ho : Opens P d t wf) : Opens P (Kd.iso d f) t (fun b => wf (f b)) := by
  intro H enc W base spare held fuel cs x h
  obtain ⟨a, hK, hw⟩ := ho enc W base spare held fuel cs x h
  exact ⟨g a, by show d.K W (f (g a)) cs; rw [hfg]; exact hK, by show wf (f (g a)); rw [hfg]; exact hw⟩
/-- Fields that stand one behind the other, from place off on. -/
def OpensFs {α : Type} (P : Program) (d : Kd α) (fs : List (TypeId × Nat)) (off : Nat) (wf : α → Prop) : Prop :=
  ∀ {H : Type} (enc : TypeId × Value → H) (W : World) (base : Nat) (spare : Nat → Bool) (held : Bool) (n : Nat) (cs : List Value), cs.length = d.sz →
    (∀ f ∈ fs, ∃ y, DataW.trod enc P W base spare held n f.1 ((cs.drop (f.2 - off)).take (P.cellsOf f.1)) = some y) → ∃ a, d.K W a cs ∧ wf a
theorem opensFs_one {α : Type} {d : Kd α} {wf : α → Prop} {f : TypeId × Nat} {off : Nat} (ho : Opens P d f.1 wf) (h0 : f.2 = off) (hc : P.cellsOf f.1 = d.sz) : OpensFs P d [f] off wf := by
  intro H enc W base spare held n cs hl h
  obtain ⟨y, hy⟩ := h f (List.mem_singleton.2 rfl)
  rw [h0, Nat.sub_self, List.drop_zero, hc, List.take_of_length_le (by omega)] at hy
  exact ho enc W base spare held n cs y hy
theorem opensFs_cons {α β : Type} {d : Kd α} {d' : Kd β} {wf : α → Prop} {wf' : β → Prop} {f : TypeId × Nat} {fs : List (TypeId × Nat)} {off off' : Nat} (ho : Opens P d f.1 wf) (h0 : f.2 = off) (hc : P.cellsOf f.1 = d.sz) (hoff : off + d.sz = off')
    (hr : OpensFs P d' fs off' wf') (hge : ∀ g ∈ fs, off' ≤ g.2) : OpensFs P (Kd.pair d d') (f :: fs) off (fun x => wf x.1 ∧ wf' x.2) := by
  intro H enc W base spare held n cs hl h
  have hl' : cs.length = d.sz + d'.sz := hl
  obtain ⟨y, hy⟩ := h f (List.mem_cons_self ..)
  rw [h0, Nat.sub_self, List.drop_zero, hc] at hy
  obtain ⟨a, hK, hw⟩ := ho enc W base spare held n _ y hy
  obtain ⟨b, hK', hw'⟩ := hr enc W base spare held n (cs.drop d.sz) (by rw [List.length_drop]; omega) (fun g hg => by
    obtain ⟨z, hz⟩ := h g (List.mem_cons_of_mem _ hg)
    have := hge g hg
    rw [List.drop_drop, show d.sz + (g.2 - off') = g.2 - off by omega]
    exact ⟨z, hz⟩)
  exact ⟨(a, b), ⟨cs.take d.sz, cs.drop d.sz, (List.take_append_drop _ _).symm, hK, hK'⟩, hw, hw'⟩
theorem opens_struct {α : Type} {d : Kd α} {wf : α → Prop} {fs : Array Field} (ht : P.underlying t = some (.struct fs)) (hl : P.cellsOf t = d.sz) (h : OpensFs P d (fs.toList.map fun f => (f.type, f.offset)) 0 wf) : Opens P d t wf := by
  intro H enc W base spare held fuel cs x hx
  obtain ⟨xs, n, _, _, hcl, hxl, hf⟩ := DataW.trod_struct ht hx
  refine h enc W base spare held n cs (hcl.trans hl) (fun g hg => ?_)
  obtain ⟨f, hfm, rfl⟩ := List.mem_map.1 hg
  obtain ⟨i, hi, rfl⟩ := List.getElem_of_mem hfm
  have hi' : i < fs.size := by simpa using hi
  have := hf i _ (by simp [Array.getElem?_eq_getElem hi'] : fs[i]? = some fs.toList[i])
  rw [List.getElem?_eq_getElem (by omega)] at this
  exact ⟨_, this⟩
theorem opens_array {α : Type} {d : Kd α} {wf : α → Prop} {n c : Nat} (ht : P.underlying t = some (.array n e)) (hl : P.cellsOf t = d.sz) (hc : P.cellsOf e = c) (h : OpensFs P d ((List.range n).map fun i => (e, i * c)) 0 wf) : Opens P d t wf := by
  intro H enc W base spare held fuel cs x hx
  obtain ⟨xs, m, _, _, hcl, hxl, hf⟩ := DataW.trod_array ht hx
  refine h enc W base spare held m cs (hcl.trans hl) (fun g hg => ?_)
  obtain ⟨i, hi, rfl⟩ := List.mem_map.1 hg
  have hi' : i < n := by simpa using hi
  have := hf i hi'
  rw [List.getElem?_eq_getElem (by omega), hc] at this
  exact ⟨_, by rw [hc]; exact this⟩
/-- A struct or an array, by value. -/
theorem open_agg {α : Type} {H : Type} {enc : TypeId × Value → H} {W : World} {b0 : Nat} {r : Reach} {spare : Nat → Bool} {held : Bool} {base : Nat} {v : Value} {dd : DataW H} {p : List MemPlace} {d : Kd α} {wf : α → Prop}
    (hs : (∃ fs, P.underlying t = some (.struct fs)) ∨ (∃ n e, P.underlying t = some (.array n e))) (ho : Opens P d t wf) (hv : Value.okWide P W r b0 t v) (h : DataW.Trod enc P W base spare held t v dd p) : ∃ a cs, v = .agg (List.toArray cs) ∧ d.K W a cs ∧ wf a := by
  obtain ⟨fuel, hf⟩ := h
  have hv' : ∃ cs, v = .agg cs := by
    unfold Value.okWide at hv
    rcases hs with ⟨fs, hs⟩ | ⟨n, e, hs⟩ <;> rw [hs] at hv <;> obtain ⟨cs, rfl, _⟩ := hv <;> exact ⟨cs, rfl⟩
  obtain ⟨cs, rfl⟩ := hv'
  obtain ⟨a, hK, hw⟩ := ho enc W base spare held fuel _ _ hf
  exact ⟨a, cs.toList, by simp, by simpa [Value.cells] using hK, hw⟩
/-- A slice. -/
theorem open_row {α : Type} {H : Type} {enc : TypeId × Value → H} {W : World} {b0 : Nat} {r : Reach} {spare : Nat → Bool} {held : Bool} {base : Nat} {v : Value} {dd : DataW H} {p : List MemPlace} {d : Kd α} {wf : α → Prop}
    (ht : P.underlying t = some (.slice e)) (hc : P.cellsOf e = d.sz) (ho : Opens P d e wf) (hv : Value.okWide P W r b0 t v) (h : DataW.Trod enc P W base spare held t v dd p) : ∃ (l : List α) (A : Option Addr) (c : Nat), v = .slice A l.length c ∧ l.length ≤ c ∧ d.C W A l.length l ∧ wfL wf l := by
  obtain ⟨fuel, hf⟩ := h
  obtain ⟨a, len, cap, rfl⟩ := okWide_slice ht hv
  obtain ⟨l, ⟨A, c, hK, hl, hC⟩, hw⟩ := opens_slice ht hc ho enc W base spare held fuel _ _ hf
  simp [Value.cells] at hK
  obtain ⟨rfl, rfl, rfl⟩ := hK
  exact ⟨l, a, cap, rfl, hl, hC, hw⟩
end Go.XO
