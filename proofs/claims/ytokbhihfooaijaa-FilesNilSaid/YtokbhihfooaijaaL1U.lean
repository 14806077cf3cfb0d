/- What comes in, laid open for the interpreter: values, and what they name, as objects 0 .. of a heap that is only read; and a law's call told by its run. -/
import Derived.Test.YtokbhihfooaijaaL1T
import Derived.ChangeArms
import Derived.OpenShut
import Derived.ChangeShapes
import Derived.WideShapes
import Derived.Carry
namespace Go.L1
open Go.RowKit Go.WideShapes
set_option linter.unusedVariables false
/-- A value as the model has it, told by its cells; all blocks that were there stay as they are. -/
def Fv (P : Program) (W : World) (vs cs : List Value) : Prop := ∀ (C : Cx) (n : Nat) (ρ : Rho), C.P = P → (∀ b, b < W.heap.size → ρ.ice b) → VRL C n ρ W vs cs
theorem Fv.one {P W} {v : Value} (h : flat1 v = true) : Fv P W [v] [v] := fun C n ρ _ _ => .cons (.atom h) .nil
/-- A kind of values: its cells. -/
structure Kn (α : Type) where
  enc : α → List Value
  sz : Nat
  len : ∀ a, (enc a).length = sz
def kInt (k : IntKind) : Kn Int := ⟨fun n => [.int k n], 1, fun _ => rfl⟩
def kBool : Kn Bool := ⟨fun b => [.bool b], 1, fun _ => rfl⟩
def kStr : Kn ByteArray := ⟨fun b => [.string b], 1, fun _ => rfl⟩
def kPair {α β : Type} (d : Kn α) (d' : Kn β) : Kn (α × β) := ⟨fun x => d.enc x.1 ++ d'.enc x.2, d.sz + d'.sz, fun x => by rw [List.length_append, d.len, d'.len]⟩
def kList {α : Type} (d : Kn α) : Kn (List α) := ⟨fun x => [fz tg x.length (x.flatMap d.enc)], 1, fun _ => rfl⟩
def Opens {α : Type} (P : Program) (d : Kn α) (t : TypeId) (wf : α → Prop) : Prop :=
  ∀ {H : Type} (enc : TypeId × Value → H) (W : World) (base : Nat) (spare : Nat → Bool) (held : Bool) (fuel : Nat) (cs : List Value) (x : DataW H × List MemPlace),
    DataW.trod enc P W base spare held fuel t cs = some x → ∃ a, Fv P W (d.enc a) cs ∧ wf a
def wfI (k : IntKind) (n : Int) : Prop := (Lit.int k n).wf = true
def wfB (_ : Bool) : Prop := True
def wfT (s : ByteArray) : Prop := s.size ≤ 9223372036854775807
def wfL {α : Type} (p : α → Prop) (l : List α) : Prop := l.length ≤ 9223372036854775807 ∧ ∀ x ∈ l, p x
variable {P : Program} {t e : TypeId}
theorem opens_int {k : IntKind} (ht : P.underlying t = some (.int k)) : Opens P (kInt k) t (wfI k) := by
  intro H enc W base spare held fuel cs x h
  obtain ⟨n, rfl, _, hw⟩ := DataW.trod_int ht h
  exact ⟨n, .one rfl, hw⟩
theorem opens_bool (ht : P.underlying t = some .bool) : Opens P kBool t wfB := by
  intro H enc W base spare held fuel cs x h
  obtain ⟨b, rfl, _⟩ := DataW.trod_bool ht h
  exact ⟨b, .one rfl, trivial⟩
theorem opens_str (ht : P.underlying t = some .string) : Opens P kStr t wfT := by
  intro H enc W base spare held fuel cs x h
  obtain ⟨s, rfl, _, hs⟩ := DataW.trod_string ht h
  exact ⟨s, .one rfl, hs⟩
theorem mapM_range {α : Type} {f : Nat → Option α} : ∀ {n : Nat} {l : List α}, (List.range n).mapM f = some l → l.length = n ∧ ∀ i, i < n → f i = l[i]? := by
  intro n l h
  have h1 : ∀ (m : List Nat) (l : List α), m.mapM f = some l → l.length = m.length ∧ ∀ i (hi : i < m.length), f m[i] = l[i]? := by
    intro m
    induction m with
    | nil => intro l h; simp at h; subst h; exact ⟨rfl, fun i hi => absurd hi (by simp)⟩
    | cons a m ih =>
      intro l h
      rw [List.mapM_cons] at h
      cases ha : f a with
      | none => simp [ha] at h
      | some b =>
        cases hm : m.mapM f with
        | none => simp [ha, hm] at h
        | some r =>
          simp [ha, hm] at h
          subst h
          obtain ⟨hl, hi⟩ := ih r hm
          refine ⟨by simp [hl], fun i hi' => ?_⟩
          cases i with
          | zero => simpa using ha
          | succ i => simpa using hi i (by simpa using hi')
  obtain ⟨hl, hi⟩ := h1 _ _ h
  exact ⟨by simpa using hl, fun i hi' => by have h2 := hi i (by simpa using hi'); rwa [List.getElem_range] at h2⟩
theorem cells_at {W : World} {base : Nat} {a : Addr} {n : Nat} {cs : List Value} (h : W.cells? base a n = some cs) : cs.length = n ∧ ∀ i u, cs[i]? = some u → W.cell? (a.add i) = some u := by
  unfold World.cells? at h
  split at h
  · obtain ⟨hl, hi⟩ := mapM_range h
    refine ⟨hl, fun i u hu => ?_⟩
    have hlt : i < n := by rw [← hl]; exact (List.getElem?_eq_some_iff.1 hu).1
    rw [hi i hlt, hu]
  · cases h
theorem add_add (a : Addr) (m n : Nat) : (a.add m).add n = a.add (m + n) := by
  unfold Addr.add
  by_cases h1 : m = 0 <;> by_cases h2 : n = 0 <;> simp [h1, h2, Nat.add_assoc]
theorem cell_add {W : World} {a : Addr} {k : Nat} {u : Value} (h : W.cell? (a.add k) = some u) : ∃ c e fz, W.heap[a.block]? = some (Obj.cells c e fz) ∧ c[a.off + k]? = some u ∧ (k = 0 → a.spot = none) := by
  have hb : (a.add k).block = a.block := by unfold Addr.add; split <;> rfl
  have ho : (a.add k).off = a.off + k := by unfold Addr.add; split <;> simp_all
  unfold World.cell? at h
  rw [hb, ho] at h
  split at h
  · rename_i c e fz hc
    split at h
    · cases h
    · rename_i hs
      refine ⟨c, e, fz, hc, h, fun hk => ?_⟩
      subst hk
      simpa [Addr.add] using hs
  · cases h
theorem flat_split {α : Type} {enc : α → List Value} {sz : Nat} (hl : ∀ x, (enc x).length = sz) : ∀ {l : List α} {j : Nat} {v : Value}, (l.flatMap enc)[j]? = some v → ∃ i k b, j = i * sz + k ∧ k < sz ∧ l[i]? = some b ∧ (enc b)[k]? = some v
  | [], j, v, h => by simp at h
  | y :: l, j, v, h => by
    rw [List.flatMap_cons] at h
    rcases Nat.lt_or_ge j sz with hj | hj
    · rw [List.getElem?_append_left (by rw [hl]; exact hj)] at h
      exact ⟨0, j, y, by omega, hj, rfl, h⟩
    · rw [List.getElem?_append_right (by rw [hl]; exact hj), hl] at h
      obtain ⟨i, k, b, h1, h2, h3, h4⟩ := flat_split hl h
      exact ⟨i + 1, k, b, by rw [Nat.add_mul]; omega, h2, by simpa using h3, h4⟩
theorem open_elems {α : Type} {d : Kn α} {wf : α → Prop} (ho : Opens P d e wf) {H : Type} {enc : TypeId × Value → H} {W : World} {base : Nat} {spare : Nat → Bool} {held : Bool} {fuel : Nat} {a : Addr} : ∀ (len : Nat), (∀ i, i < len → ∃ y, (W.cells? base (a.add (i * d.sz)) d.sz).bind (DataW.trod enc P W base spare held fuel e) = some y) →
    ∃ l : List α, l.length = len ∧ (∀ b ∈ l, wf b) ∧ ∀ i b, l[i]? = some b → ∃ c, Fv P W (d.enc b) c ∧ ∀ j u, c[j]? = some u → W.cell? (a.add (i * d.sz + j)) = some u
  | 0, _ => ⟨[], rfl, fun b hb => (List.not_mem_nil hb).elim, fun i b hb => by simp at hb⟩
  | len + 1, h => by
    obtain ⟨l, h1, h4, h5⟩ := open_elems ho len (fun i hi => h i (by omega))
    obtain ⟨y, hy⟩ := h len (by omega)
    obtain ⟨c, hc1, hc2⟩ := Option.bind_eq_some_iff.1 hy
    obtain ⟨b, k3, k5⟩ := ho enc W base spare held fuel c y hc2
    obtain ⟨_, hca⟩ := cells_at hc1
    refine ⟨l ++ [b], by simp [h1], fun x hx => ?_, fun i x hx => ?_⟩
    · rcases List.mem_append.1 hx with hx | hx
      · exact h4 x hx
      · rw [List.mem_singleton.1 hx]; exact k5
    · rcases Nat.lt_or_ge i l.length with hi | hi
      · rw [List.getElem?_append_left hi] at hx
        exact h5 i x hx
      · rw [List.getElem?_append_right hi] at hx
        have h0 : i - l.length = 0 := by
          rcases Nat.eq_zero_or_pos (i - l.length) with h | h
          · exact h
          · rw [List.getElem?_eq_none (by simp; omega)] at hx; cases hx
        rw [h0] at hx
        cases hx
        have : i = len := by omega
        subst this
        exact ⟨c, k3, fun j u hu => by rw [← add_add]; exact hca j u hu⟩
theorem opens_list {α : Type} {d : Kn α} {wf : α → Prop} (ht : P.underlying t = some (.slice e)) (hc : P.cellsOf e = d.sz) (hz : 0 < d.sz) (ho : Opens P d e wf) : Opens P (kList d) t (wfL wf) := by
  intro H enc W base spare held fuel cs x h
  rcases DataW.trod_slice ht h with ⟨rfl, _⟩ | ⟨a, len, cap, elems, rest, n, _, rfl, _, _, hl, hm, hlen, hel, _, _⟩
  · exact ⟨[], fun C n ρ _ _ => .cons .frz0 .nil, Nat.zero_le _, fun x hx => (List.not_mem_nil hx).elim⟩
  have hm' : cap ≤ 9223372036854775807 := hm
  by_cases h0 : len = 0
  · subst h0
    exact ⟨[], fun C n ρ _ _ => .cons .frz0 .nil, Nat.zero_le _, fun x hx => (List.not_mem_nil hx).elim⟩
  obtain ⟨l, h1, h4, h5⟩ := open_elems (a := a) ho (fuel := n) len (fun i hi => by
    have := hel i hi
    rw [hc] at this
    rw [List.getElem?_eq_getElem (by omega)] at this
    exact ⟨_, this⟩)
  obtain ⟨b0, hb0⟩ : ∃ b, l[0]? = some b := ⟨_, List.getElem?_eq_getElem (by omega)⟩
  obtain ⟨c0, hv0, hc0⟩ := h5 0 b0 hb0
  have hlc0 : c0.length = d.sz := by
    have := (hv0 ⟨P, 0, 0, W⟩ 0 ⟨fun _ => (0, 0), fun _ => True, fun _ => True⟩ rfl (fun _ _ => trivial)).1
    rw [← this, d.len]
  obtain ⟨u0, hu0⟩ : ∃ u, c0[0]? = some u := ⟨_, List.getElem?_eq_getElem (by omega)⟩
  have hcell := hc0 0 u0 hu0
  rw [Nat.zero_mul, Nat.add_zero] at hcell
  obtain ⟨c, e', z, hw, _, hsp⟩ := cell_add hcell
  have hsp := hsp rfl
  obtain ⟨ab, ao, asp⟩ := a
  subst hsp
  refine ⟨l, fun C n' ρ hP hice => .cons ?_ .nil, by show l.length ≤ _; omega, h4⟩
  have key : ∀ j v, (l.flatMap d.enc)[j]? = some v → ∃ v', c[ao + j]? = some v' ∧ VR C n' ρ W v v' := fun j v hj => by
    obtain ⟨i1, k1, b1, hj1, hk1, hb1, hv1⟩ := flat_split d.len hj
    obtain ⟨cc, hvv, hcc⟩ := h5 i1 b1 hb1
    obtain ⟨v', hv', hvr⟩ := (hvv C n' ρ hP hice).2 k1 v hv1
    obtain ⟨c2, e2, fz2, q1, q2, _⟩ := cell_add (hcc k1 v' hv')
    rw [show W.heap[ab]? = _ from hw] at q1
    cases q1
    exact ⟨v', by rw [hj1]; exact q2, hvr⟩
  have hfl : (l.flatMap d.enc).length = l.length * d.sz := flat_len d.len l
  have hpos : 0 < l.length * d.sz := Nat.mul_pos (by omega) hz
  obtain ⟨vl, hvl, _⟩ := key (l.length * d.sz - 1) _ (List.getElem?_eq_getElem (by omega))
  have hsz := (Array.getElem?_eq_some_iff.1 hvl).1
  rw [← h1] at hl ⊢
  refine VR.frz hl hw (.inl (hice ab (Array.getElem?_eq_some_iff.1 hw).1)) (by simp only [List.size_toArray, hfl]; omega) fun j hj => ?_
  have hj' : j < (l.flatMap d.enc).length := by simpa using hj
  obtain ⟨v', q1, q2⟩ := key j _ (List.getElem?_eq_getElem hj')
  obtain ⟨q3, rfl⟩ := Array.getElem?_eq_some_iff.1 q1
  rw [getD_get hj, getD_get q3]
  simpa using q2
theorem opens_iso {α β : Type} {d : Kn α} {wf : α → Prop} (d' : Kn β) (f : β → α) (g : α → β) (he : ∀ a, d'.enc (g a) = d.enc a) (hfg : ∀ a, f (g a) = a) (ho : Opens P d t wf) : Opens P d' t (fun b => wf (f b)) := by
  intro H enc W base spare held fuel cs x h
  obtain ⟨a, h3, h5⟩ := ho enc W base spare held fuel cs x h
  exact ⟨g a, by rw [he]; exact h3, by show wf (f (g a)); rw [hfg]; exact h5⟩
/-- Fields that stand one behind the other, from place off on. -/
def OpensFs {α : Type} (P : Program) (d : Kn α) (fs : List (TypeId × Nat)) (off : Nat) (wf : α → Prop) : Prop :=
  ∀ {H : Type} (enc : TypeId × Value → H) (W : World) (base : Nat) (spare : Nat → Bool) (held : Bool) (n : Nat) (cs : List Value), cs.length = d.sz →
    (∀ f ∈ fs, ∃ y, DataW.trod enc P W base spare held n f.1 ((cs.drop (f.2 - off)).take (P.cellsOf f.1)) = some y) → ∃ a, Fv P W (d.enc a) cs ∧ wf a
theorem opensFs_one {α : Type} {d : Kn α} {wf : α → Prop} {f : TypeId × Nat} {off : Nat} (ho : Opens P d f.1 wf) (h0 : f.2 = off) (hc : P.cellsOf f.1 = d.sz) : OpensFs P d [f] off wf := by
  intro H enc W base spare held n cs hl h
  obtain ⟨y, hy⟩ := h f (List.mem_singleton.2 rfl)
  rw [h0, Nat.sub_self, List.drop_zero, hc, List.take_of_length_le (by omega)] at hy
  exact ho enc W base spare held n cs y hy
theorem opensFs_cons {α β : Type} {d : Kn α} {d' : Kn β} {wf : α → Prop} {wf' : β → Prop} {f : TypeId × Nat} {fs : List (TypeId × Nat)} {off off' : Nat} (ho : Opens P d f.1 wf) (h0 : f.2 = off) (hc : P.cellsOf f.1 = d.sz) (hoff : off + d.sz = off')
    (hr : OpensFs P d' fs off' wf') (hge : ∀ g ∈ fs, off' ≤ g.2) : OpensFs P (kPair d d') (f :: fs) off (fun x => wf x.1 ∧ wf' x.2) := by
  intro H enc W base spare held n cs hl h
  have hl' : cs.length = d.sz + d'.sz := hl
  obtain ⟨y, hy⟩ := h f (List.mem_cons_self ..)
  rw [h0, Nat.sub_self, List.drop_zero, hc] at hy
  obtain ⟨a, a3, a5⟩ := ho enc W base spare held n _ y hy
  obtain ⟨b, b3, b5⟩ := hr enc W base spare held n (cs.drop d.sz) (by rw [List.length_drop]; omega) (fun g hg => by
    obtain ⟨z, hz⟩ := h g (List.mem_cons_of_mem _ hg)
    have := hge g hg
    rw [List.drop_drop, show d.sz + (g.2 - off') = g.2 - off by omega]
    exact ⟨z, hz⟩)
  refine ⟨(a, b), fun C n' ρ hP hice => ?_, a5, b5⟩
  have := (a3 C n' ρ hP hice).append (b3 C n' ρ hP hice)
  rwa [List.take_append_drop] at this
theorem opens_struct {α : Type} {d : Kn α} {wf : α → Prop} {fs : Array Field} (ht : P.underlying t = some (.struct fs)) (hl : P.cellsOf t = d.sz) (h : OpensFs P d (fs.toList.map fun f => (f.type, f.offset)) 0 wf) : Opens P d t wf := by
  intro H enc W base spare held fuel cs x hx
  obtain ⟨xs, n, _, _, hcl, hxl, hf⟩ := DataW.trod_struct ht hx
  refine h enc W base spare held n cs (hcl.trans hl) (fun g hg => ?_)
  obtain ⟨f, hfm, rfl⟩ := List.mem_map.1 hg
  obtain ⟨i, hi, rfl⟩ := List.getElem_of_mem hfm
  have hi' : i < fs.size := by simpa using hi
  have := hf i _ (by simp [Array.getElem?_eq_getElem hi'] : fs[i]? = some fs.toList[i])
  rw [List.getElem?_eq_getElem (by omega)] at this
  exact ⟨_, this⟩
theorem opens_array {α : Type} {d : Kn α} {wf : α → Prop} {n c : Nat} (ht : P.underlying t = some (.array n e)) (hl : P.cellsOf t = d.sz) (hc : P.cellsOf e = c) (h : OpensFs P d ((List.range n).map fun i => (e, i * c)) 0 wf) : Opens P d t wf := by
  intro H enc W base spare held fuel cs x hx
  obtain ⟨xs, m, _, _, hcl, hxl, hf⟩ := DataW.trod_array ht hx
  refine h enc W base spare held m cs (hcl.trans hl) (fun g hg => ?_)
  obtain ⟨i, hi, rfl⟩ := List.mem_map.1 hg
  have hi' : i < n := by simpa using hi
  have := hf i hi'
  rw [List.getElem?_eq_getElem (by omega), hc] at this
  exact ⟨_, by rw [hc]; exact this⟩
-- ---- arguments
/-- An argument as the model has it. -/
def Fa (P : Program) (W : World) (a v : Value) : Prop := ∀ (C : Cx) (n : Nat) (ρ : Rho), C.P = P → (∀ b, b < W.heap.size → ρ.ice b) → VR C n ρ W a v
theorem arg_agg {α : Type} {H : Type} {enc : TypeId × Value → H} {W : World} {b0 : Nat} {r : Reach} {spare : Nat → Bool} {held : Bool} {base : Nat} {v : Value} {dd : DataW H} {p : List MemPlace} {d : Kn α} {wf : α → Prop}
    (hs : (∃ fs, P.underlying t = some (.struct fs)) ∨ (∃ n e, P.underlying t = some (.array n e))) (ho : Opens P d t wf) (hv : Value.okWide P W r b0 t v) (h : DataW.Trod enc P W base spare held t v dd p) : ∃ a, Fa P W (.agg (d.enc a).toArray) v ∧ wf a := by
  obtain ⟨fuel, hf⟩ := h
  have hv' : ∃ cs, v = .agg cs := by
    unfold Value.okWide at hv
    rcases hs with ⟨fs, hs⟩ | ⟨n, e, hs⟩ <;> rw [hs] at hv <;> obtain ⟨cs, rfl, _⟩ := hv <;> exact ⟨cs, rfl⟩
  obtain ⟨cs, rfl⟩ := hv'
  obtain ⟨a, h3, h5⟩ := ho enc W base spare held fuel _ _ hf
  refine ⟨a, fun C n ρ hP hi => ?_, h5⟩
  have := VR.agg_of (h3 C n ρ hP hi)
  simpa [Value.cells] using this
theorem arg_one {α : Type} {H : Type} {enc : TypeId × Value → H} {W : World} {spare : Nat → Bool} {held : Bool} {base : Nat} {v : Value} {dd : DataW H} {p : List MemPlace} {d : Kn α} {wf : α → Prop} {V : α → Value}
    (hd : ∀ a, d.enc a = [V a]) (hc : v.cells = #[v]) (ho : Opens P d t wf) (h : DataW.Trod enc P W base spare held t v dd p) : ∃ a, Fa P W (V a) v ∧ wf a := by
  obtain ⟨fuel, hf⟩ := h
  rw [hc] at hf
  obtain ⟨a, h3, h5⟩ := ho enc W base spare held fuel _ _ hf
  refine ⟨a, fun C n ρ hP hi => ?_, h5⟩
  obtain ⟨v', q1, q2⟩ := (h3 C n ρ hP hi).2 0 (V a) (by rw [hd]; rfl)
  simp at q1
  rw [q1]
  exact q2
theorem law_calls {T : Tb} {F : FuncId} {args1 : List Value} {args : Array Value} {W : World}
    (hv : ∀ (C : Cx) (n : Nat) (ρ : Rho), C.P = P → (∀ b, b < W.heap.size → ρ.ice b) → VRL C n ρ W args1 args.toList)
    (hT : ∀ C : Cx, C.P = P → TbOk C T) (hE : Entered P F) (hr : Rn P T F args1 (fun _ => none) 0 0 (fun v _ _ => v = .bool true)) :
    Calls P F args W fun e W' => e = .returned (.bool true) ∧ Below W.heap.size W W' := by
  obtain ⟨v, g', n', h1, rfl⟩ := hr
  let C : Cx := ⟨P, 0, W.heap.size, W⟩
  let ρ : Rho := ⟨fun _ => (0, 0), fun b => b < W.heap.size, fun b => b < W.heap.size⟩
  have hC : C.P = P := rfl
  have hb : HR C ρ ⟨fun _ => none, 0, 0⟩ W := ⟨Below.refl _ _, Nat.le_refl _, Nat.le_refl _, Nat.le_refl _, fun i o hi => by (cases hi), fun i j _ _ hi _ => absurd rfl hi, fun b hb => ⟨hb, fun i _ hi => absurd rfl hi⟩, fun b hb => ⟨hb, fun i _ hi => absurd rfl hi⟩⟩
  have h2 : run C.P T F args1 ⟨fun _ => none, 0, 0⟩ = some (.returned (.bool true), ⟨g', n', 0⟩) := h1
  have h4 := run_ok (hT C hC) h2
  have hvl := hv C 0 ρ hC (fun b hb => hb)
  have h5 : ∀ (ρ : Rho) (w : World) (args' : Array Value), HR C ρ ⟨fun _ => none, 0, 0⟩ w → VRL C 0 ρ w args1 args'.toList → Calls C.P F args' w fun e' w' => ∃ ρ', Good C ρ ⟨fun _ => none, 0, 0⟩ w ρ' ⟨g', n', 0⟩ w' ∧ EndR C n' ρ' w' (.returned (.bool true)) e' := by
    rcases h4 with h4 | ⟨v, hv1, h4⟩
    · exact h4.2
    · obtain ⟨ρ', w', v', h6, _⟩ := h4 ρ W args hb hvl
      rw [show C.P = P from rfl, callFunc_enter hE] at h6
      rcases h6 with h6 | ⟨h6, _⟩ <;> cases h6
  have h3 := h5 ρ W args hb hvl
  refine h3.mono fun e W' ⟨ρ', hg, he⟩ => ⟨?_, hg.hr.below⟩
  cases e with
  | returned v' => exact congrArg Ending.returned (VR.eq1 he rfl)
  | panicked _ => exact he.elim
  | outgrown => exact he.elim
/-- A table of plain functions. -/
def tb (l c q : List FuncId) (z : List FuncId := []) : Tb := { ok := fun F => l.contains F, ext := fun _ => none, clean := fun F => c.contains F, quiet := fun F => q.contains F || z.contains F, froz := fun F => z.contains F }
theorem tb_ok {l c q z : List FuncId} (hd : P.follows .mixedOrders = true) (hl : l.all (okFn P) = true) : ∀ C : Cx, C.P = P → TbOk C (tb l c q z) := by
  intro C hC
  subst hC
  exact ⟨hd, fun F hF => List.all_eq_true.1 hl F (List.contains_iff_mem.1 hF), fun F g hg => by cases hg⟩
/-- The same, with contracts of one's own. -/
def tbx (l c q z : List FuncId) (x : FuncId → Option (List Value → Hp → Option (Ending × Hp))) : Tb := { ok := fun F => l.contains F, ext := x, clean := fun F => c.contains F, quiet := fun F => q.contains F || z.contains F, froz := fun F => z.contains F }
theorem tbx_ok {l c q z : List FuncId} {x : FuncId → Option (List Value → Hp → Option (Ending × Hp))} (hd : P.follows .mixedOrders = true) (hl : l.all (okFn P) = true)
    (hx : ∀ C : Cx, C.P = P → ∀ F g, x F = some g → ∀ args H e H', g args H = some (e, H') → FnOk C F args H e H' ∧ H' = H) : ∀ C : Cx, C.P = P → TbOk C (tbx l c q z x) := by
  intro C hC
  have hxx := hx C hC
  subst hC
  exact ⟨hd, fun F hF => List.all_eq_true.1 hl F (List.contains_iff_mem.1 hF), fun F g hg args H e H' h => ⟨(hxx F g hg args H e H' h).1, fun _ => (hxx F g hg args H e H' h).2⟩⟩
/-- 'abi.NoEscape': what it is given. -/
def idExt : List Value → Hp → Option (Ending × Hp) := fun a H => match a with | [v] => some (.returned v, H) | _ => none
theorem id_ok {F : FuncId} {fn : Func} (hf : P.funcs[F]? = some fn) (hb : fn.body = none) (hn : (fn.name == "runtime.NumGoroutine") = false) (h1 : Extern.findNext fn = none) (h2 : Extern.find fn = some Extern.AbiNoEscape.same) {C : Cx} (hC : C.P = P) {args : List Value} {H H' : Hp} {e : Ending} (h : idExt args H = some (e, H')) : FnOk C F args H e H' ∧ H' = H := by
  subst hC
  match args, h with
  | [v], h =>
    cases h
    refine ⟨.inr ⟨v, rfl, fun ρ w args' hr hv => ?_⟩, rfl⟩
    obtain ⟨l⟩ := args'
    obtain ⟨v', r, hl, h3, h4⟩ := hv.uncons
    have h5 : r = [] := List.length_eq_zero_iff.1 (by rw [← h4.1]; rfl)
    subst h5
    have hl' : l = [v'] := hl
    subst hl'
    have hn' : ¬ fn.name = "runtime.NumGoroutine" := by simpa using hn
    refine OpOk.pure hr (v' := v') ?_ h3
    have hs : (Extern.AbiNoEscape.same #[v']).run C.P w = .ok v' w := rfl
    simp [callFunc, hf, hn', hb, h1, h2, hs]
/-- A value that is no struct and no array is one cell. -/
theorem one_cells {W : World} {r : Reach} {b0 : Nat} {v : Value} (hs : (∃ k, P.underlying t = some (.int k)) ∨ P.underlying t = some .bool ∨ P.underlying t = some .string ∨ (∃ e, P.underlying t = some (.slice e))) (hv : Value.okWide P W r b0 t v) : v.cells = #[v] := by
  unfold Value.okWide at hv
  cases v <;> first
    | rfl
    | (exfalso; rcases hs with ⟨k, hs⟩ | hs | hs | ⟨e, hs⟩ <;> rw [hs] at hv <;> simp [Cell.okWide, Cell.ok, hs] at hv)
end Go.L1
