/- How the interpreter's values and heap stand to the model's: a value is the model's with its places renamed, capacities aside. -/
import Derived.Test.YtokbhihfooaijaaL1B
import Derived.Below
import Derived.Laws.Sem
import Derived.Laws.Cells
import Derived.Laws.IdiomCopy
import Derived.ChangeKeysEq
namespace Go.L1
open Go.RowKit
set_option linter.unusedVariables false
set_option linter.unusedSimpArgs false
def okX : Operand → Bool | .const v => flat v | .global _ => false | _ => true
def okDst (N : Nat) (o : Oper) : Bool := match o.dst with | some d => decide (d < N) | none => true
def okOper (N : Nat) (o : Oper) : Bool := okDst N o && o.op.operands.toList.all okX
def okCode (N : Nat) : Code → Bool
  | .region _ ops _ => ops.toList.all (okOper N)
  | .seq x y => okCode N x && okCode N y
  | .cond c x y => okX c && okCode N x && okCode N y
  | .block _ c => okCode N c
  | .loop c => okCode N c
  | .scope c => okCode N c
  | .rangeFunc f ps a b => okX f && ps.toList.all (fun t => decide (t < N)) && okCode N a && okCode N b
  | _ => true
structure Cx where
  P : Program
  fence : Nat
  base : Nat
  w0 : World
/-- Where objects lie; which blocks stay as they are for good, and which as long as a call lasts. -/
structure Rho where
  at_ : Nat → Nat × Nat
  ice : Nat → Prop
  snow : Nat → Prop
instance : CoeFun Rho fun _ => Nat → Nat × Nat := ⟨Rho.at_⟩
def Rho.cool (ρ : Rho) (s : Array Value) (b : Nat) : Prop := ρ.ice b ∨ (s ≠ #[] ∧ ρ.snow b)
inductive VR (C : Cx) (n : Nat) (ρ : Rho) (w : World) : Value → Value → Prop where
  | atom {v : Value} (h : flat1 v = true) : VR C n ρ w v v
  | ptr {i off : Nat} (h : i < n) : VR C n ρ w (.pointer (some ⟨i, off, none⟩)) (.pointer (some ⟨(ρ i).1, (ρ i).2 + off, none⟩))
  | slice {i off len b o cap : Nat} (h : i < n) (hb : b = (ρ i).1) (ho : 0 < len → o = (ρ i).2 + off) (hc : len ≤ cap)
      (hf : C.fence ≤ i → ∃ (c : Array Value) (e : TypeId) (fz : Nat × Nat), w.heap[b]? = some (Obj.cells c e fz) ∧ ∀ sz, szOf C.P e = some sz → o + cap * sz ≤ c.size) :
      VR C n ρ w (.slice (some ⟨i, off, none⟩) len len) (.slice (some ⟨b, o, none⟩) len cap)
  | map {i : Nat} (h : i < n) : VR C n ρ w (.map (some i)) (.map (some (ρ i).1))
  | hollow {a : Addr} {cap : Nat} : VR C n ρ w (.slice (some ⟨0, 0, some 0⟩) 0 0) (.slice (some a) 0 cap)
  | func {f : FuncId} {a a' b b' : Array Value} (ha : a.size = a'.size) (ha' : ∀ j, j < a.size → VR C n ρ w (a.getD j undef) (a'.getD j undef))
      (hb : b.size = b'.size) (hb' : ∀ j, j < b.size → VR C n ρ w (b.getD j undef) (b'.getD j undef)) : VR C n ρ w (.func (.func f) a b) (.func (.func f) a' b')
  | yield {i : Nat} (h : i < n) : VR C n ρ w (.func (.yield i) #[] #[]) (.func (.yield (ρ i).1) #[] #[])
  | agg {a a' : Array Value} (ha : a.size = a'.size) (ha' : ∀ j, j < a.size → VR C n ρ w (a.getD j undef) (a'.getD j undef)) : VR C n ρ w (.agg a) (.agg a')
  | tuple {a a' : Array Value} (ha : a.size = a'.size) (ha' : ∀ j, j < a.size → VR C n ρ w (a.getD j undef) (a'.getD j undef)) : VR C n ρ w (.tuple a) (.tuple a')
  | iface {t : TypeId} {v v' : Value} (h : VR C n ρ w v v') : VR C n ρ w (.iface t v) (.iface t v')
  | frz0 {s : Array Value} {p : Array FieldStep} {f : FuncId} {a : Option Addr} {cap : Nat} : VR C n ρ w (.func (.via 0 p f false) s #[]) (.slice a 0 cap)
  | frz {s vs c : Array Value} {p : Array FieldStep} {f : FuncId} {e : TypeId} {z : Nat × Nat} {k b o cap : Nat} (hc : k ≤ cap) (hb : w.heap[b]? = some (Obj.cells c e z)) (hi : ρ.cool s b) (hl : o + vs.size ≤ c.size)
      (hv : ∀ j, j < vs.size → VR C n ρ w (vs.getD j undef) (c.getD (o + j) undef)) : VR C n ρ w (.func (.via k p f false) s vs) (.slice (some ⟨b, o, none⟩) k cap)
  | fpl {s vs c : Array Value} {p : Array FieldStep} {f : FuncId} {e : TypeId} {z : Nat × Nat} {k b o : Nat} (hb : w.heap[b]? = some (Obj.cells c e z)) (hi : ρ.cool s b) (hl : o + vs.size ≤ c.size)
      (hv : ∀ j, j < vs.size → VR C n ρ w (vs.getD j undef) (c.getD (o + j) undef)) : VR C n ρ w (.func (.via k p f true) s vs) (.pointer (some ⟨b, o + k, none⟩))
/-- Blocks of cells keep their kind and their length. -/
def Keeps (w w' : World) : Prop := ∀ (b : Nat) (c : Array Value) (e : TypeId) (fz : Nat × Nat), w.heap[b]? = some (Obj.cells c e fz) → ∃ (c' : Array Value) (fz' : Nat × Nat), w'.heap[b]? = some (Obj.cells c' e fz') ∧ c'.size = c.size
theorem Keeps.refl (w : World) : Keeps w w := fun _ c _ fz h => ⟨c, fz, h, rfl⟩
theorem Keeps.trans {a b c : World} (h : Keeps a b) (k : Keeps b c) : Keeps a c := fun i x e fz hx => by
  obtain ⟨y, fy, hy, sy⟩ := h i x e fz hx
  obtain ⟨z, fz', hz, sz⟩ := k i y e fy hy
  exact ⟨z, fz', hz, sz.trans sy⟩
structure More (n : Nat) (ρ : Rho) (w : World) (n' : Nat) (ρ' : Rho) (w' : World) : Prop where
  le : n ≤ n'
  rho : ∀ i, i < n → ρ' i = ρ i
  keeps : Keeps w w'
  ice : ∀ b, ρ.ice b → ρ'.ice b ∧ w'.heap[b]? = w.heap[b]?
  snow : ∀ b, ρ.snow b → ρ'.snow b ∧ w'.heap[b]? = w.heap[b]?
theorem More.refl (n : Nat) (ρ : Rho) (w : World) : More n ρ w n ρ w := ⟨Nat.le_refl _, fun _ _ => rfl, Keeps.refl w, fun _ h => ⟨h, rfl⟩, fun _ h => ⟨h, rfl⟩⟩
theorem More.cool {n ρ w n' ρ' w'} (m : More n ρ w n' ρ' w') {s : Array Value} {b : Nat} (h : ρ.cool s b) : ρ'.cool s b ∧ w'.heap[b]? = w.heap[b]? := by
  rcases h with h | ⟨h1, h⟩
  · exact ⟨.inl (m.ice b h).1, (m.ice b h).2⟩
  · exact ⟨.inr ⟨h1, (m.snow b h).1⟩, (m.snow b h).2⟩
theorem More.trans {n ρ w n' ρ' w' n'' ρ'' w''} (h : More n ρ w n' ρ' w') (k : More n' ρ' w' n'' ρ'' w'') : More n ρ w n'' ρ'' w'' :=
  ⟨Nat.le_trans h.le k.le, fun i hi => (k.rho i (Nat.lt_of_lt_of_le hi h.le)).trans (h.rho i hi), h.keeps.trans k.keeps,
   fun b hb => ⟨(k.ice b (h.ice b hb).1).1, ((k.ice b (h.ice b hb).1).2).trans (h.ice b hb).2⟩, fun b hb => ⟨(k.snow b (h.snow b hb).1).1, ((k.snow b (h.snow b hb).1).2).trans (h.snow b hb).2⟩⟩
theorem VR.mono {C : Cx} {n ρ w n' ρ' w'} (m : More n ρ w n' ρ' w') {v v' : Value} (h : VR C n ρ w v v') : VR C n' ρ' w' v v' := by
  induction h with
  | atom h => exact .atom h
  | ptr h => rw [← m.rho _ h]; exact .ptr (Nat.lt_of_lt_of_le h m.le)
  | slice h hb ho hc hf =>
    refine .slice (Nat.lt_of_lt_of_le h m.le) (hb.trans (by rw [m.rho _ h])) (fun hl => (ho hl).trans (by rw [m.rho _ h])) hc fun hi => ?_
    obtain ⟨c, e, fz, hc, hs⟩ := hf hi
    obtain ⟨c', fz', hc', hz⟩ := m.keeps _ _ _ _ hc
    exact ⟨c', e, fz', hc', fun sz h => by rw [hz]; exact hs sz h⟩
  | map h => rw [← m.rho _ h]; exact .map (Nat.lt_of_lt_of_le h m.le)
  | hollow => exact .hollow
  | func ha _ hb _ iha ihb => exact .func ha iha hb ihb
  | yield h => rw [← m.rho _ h]; exact .yield (Nat.lt_of_lt_of_le h m.le)
  | agg ha _ ih => exact .agg ha ih
  | tuple ha _ ih => exact .tuple ha ih
  | iface _ ih => exact .iface ih
  | frz0 => exact .frz0
  | frz hc hb hi hl _ ih => exact .frz hc ((m.cool hi).2.trans hb) (m.cool hi).1 hl ih
  | fpl hb hi hl _ ih => exact .fpl ((m.cool hi).2.trans hb) (m.cool hi).1 hl ih
theorem VR.undef {C : Cx} {n ρ w} : VR C n ρ w undef undef := .tuple rfl fun j hj => absurd hj (by simp)
theorem VR.eq1 {C : Cx} {n ρ w} {v v' : Value} (h : VR C n ρ w v v') (hv : flat1 v = true) : v' = v := by
  cases h <;> first | rfl | (simp [flat1] at hv; done)
theorem VR.int {C : Cx} {n ρ w} {k : IntKind} {x : Int} {v' : Value} (h : VR C n ρ w (.int k x) v') : v' = .int k x := h.eq1 rfl
theorem VR.bool {C : Cx} {n ρ w} {x : Bool} {v' : Value} (h : VR C n ρ w (.bool x) v') : v' = .bool x := h.eq1 rfl
theorem VR.string {C : Cx} {n ρ w} {x : ByteArray} {v' : Value} (h : VR C n ρ w (.string x) v') : v' = .string x := h.eq1 rfl
theorem getD_get {a : Array Value} {j : Nat} (h : j < a.size) : a.getD j undef = a[j] := by simp [Array.getD, h]
theorem arr_ext {a a' : Array Value} (h : a.size = a'.size) (h' : ∀ j, j < a.size → a'.getD j undef = a.getD j undef) : a' = a := by
  refine Array.ext h.symm fun j h1 h2 => ?_
  have := h' j h2
  rwa [getD_get h1, getD_get h2] at this
theorem mem_flat {p : Value → Bool} {a : Array Value} (h : a.toList.all p = true) {j : Nat} (hj : j < a.size) : p (a.getD j undef) = true := by
  rw [getD_get hj]
  exact List.all_eq_true.1 h _ (by rw [← Array.getElem_toList]; exact List.getElem_mem _)
theorem VR.eq2 {C : Cx} {n ρ w} {v v' : Value} (h : VR C n ρ w v v') (hv : flat2 v = true) : v' = v := by
  cases h with
  | agg ha ha' => exact congrArg Value.agg (arr_ext ha fun j hj => (ha' j hj).eq1 (mem_flat hv hj))
  | tuple ha ha' => exact congrArg Value.tuple (arr_ext ha fun j hj => (ha' j hj).eq1 (mem_flat hv hj))
  | atom h => rfl
  | _ => simp [flat2, flat1] at hv
theorem VR.eqF {C : Cx} {n ρ w} {v v' : Value} (h : VR C n ρ w v v') (hv : flat v = true) : v' = v := by
  cases h with
  | tuple ha ha' => exact congrArg Value.tuple (arr_ext ha fun j hj => (ha' j hj).eq2 (mem_flat hv hj))
  | agg ha ha' => exact (VR.agg (C := C) (n := n) (ρ := ρ) (w := w) ha ha').eq2 hv
  | iface h => exact congrArg _ (h.eq2 hv)
  | atom h => rfl
  | _ => simp [flat, flat2, flat1] at hv
theorem VR.of1 {C : Cx} {n ρ w} {v : Value} (h : flat1 v = true) : VR C n ρ w v v := .atom h
theorem VR.of2 {C : Cx} {n ρ w} {v : Value} (h : flat2 v = true) : VR C n ρ w v v := by
  cases v with
  | agg a => exact .agg rfl fun j hj => .atom (mem_flat h hj)
  | tuple a => exact .tuple rfl fun j hj => .atom (mem_flat h hj)
  | _ => exact .atom h
theorem VR.ofF {C : Cx} {n ρ w} {v : Value} (h : flat v = true) : VR C n ρ w v v := by
  cases v with
  | tuple a => exact .tuple rfl fun j hj => .of2 (mem_flat h hj)
  | iface t v => exact .iface (.of2 h)
  | _ => exact .of2 h
theorem VR.one_eq {C : Cx} {n ρ w} {v v' : Value} (h : VR C n ρ w v v') : v'.oneCell' = one v := by
  cases h with
  | atom h => cases ‹Value› <;> first | rfl | (simp [flat1] at h)
  | _ => rfl
-- lists of cells
def VRL (C : Cx) (n : Nat) (ρ : Rho) (w : World) (l l' : List Value) : Prop := l.length = l'.length ∧ ∀ (j : Nat) (v : Value), l[j]? = some v → ∃ v' : Value, l'[j]? = some v' ∧ VR C n ρ w v v'
theorem VRL.nil {C n ρ w} : VRL C n ρ w [] [] := ⟨rfl, fun _ _ h => by simp at h⟩
theorem VRL.cons {C n ρ w v v' l l'} (h : VR C n ρ w v v') (t : VRL C n ρ w l l') : VRL C n ρ w (v :: l) (v' :: l') :=
  ⟨by simp [t.1], fun j u hu => by cases j with
    | zero => simp at hu; subst hu; exact ⟨v', rfl, h⟩
    | succ j => exact t.2 j u (by simpa using hu)⟩
theorem VRL.uncons {C n ρ w v l l'} (h : VRL C n ρ w (v :: l) l') : ∃ v' r, l' = v' :: r ∧ VR C n ρ w v v' ∧ VRL C n ρ w l r := by
  cases l' with
  | nil => simp [VRL] at h
  | cons a r =>
    obtain ⟨u, hu, hv⟩ := h.2 0 v rfl
    simp at hu; subst hu
    exact ⟨_, r, rfl, hv, by simpa [VRL] using h.1, fun j u hu => h.2 (j + 1) u hu⟩
theorem VRL.mono {C n ρ w n' ρ' w'} (m : More n ρ w n' ρ' w') {l l'} (h : VRL C n ρ w l l') : VRL C n' ρ' w' l l' :=
  ⟨h.1, fun j v hv => let ⟨u, h1, h2⟩ := h.2 j v hv; ⟨u, h1, h2.mono m⟩⟩
theorem VRL.append {C n ρ w l l' m m'} (h : VRL C n ρ w l l') (k : VRL C n ρ w m m') : VRL C n ρ w (l ++ m) (l' ++ m') := by
  refine ⟨by simp [h.1, k.1], fun j v hv => ?_⟩
  by_cases hj : j < l.length
  · rw [List.getElem?_append_left hj] at hv
    rw [List.getElem?_append_left (by rw [← h.1]; exact hj)]
    exact h.2 j v hv
  · rw [List.getElem?_append_right (by omega)] at hv
    rw [List.getElem?_append_right (by rw [← h.1]; omega), ← h.1]
    exact k.2 _ v hv
theorem VRL.take {C n ρ w l l'} (h : VRL C n ρ w l l') (k : Nat) : VRL C n ρ w (l.take k) (l'.take k) := by
  refine ⟨by simp [h.1], fun j v hv => ?_⟩
  rw [List.getElem?_take] at hv ⊢
  split at hv
  · rename_i hk; rw [if_pos hk]; exact h.2 j v hv
  · cases hv
theorem VRL.drop {C n ρ w l l'} (h : VRL C n ρ w l l') (k : Nat) : VRL C n ρ w (l.drop k) (l'.drop k) := by
  refine ⟨by simp [h.1], fun j v hv => ?_⟩
  rw [List.getElem?_drop] at hv ⊢
  exact h.2 _ v hv
theorem VRL.set {C n ρ w l l' v v'} (h : VRL C n ρ w l l') (k : Nat) (hv : VR C n ρ w v v') : VRL C n ρ w (l.set k v) (l'.set k v') := by
  refine ⟨by simp [h.1], fun j u hu => ?_⟩
  rw [List.getElem?_set] at hu ⊢
  split at hu
  · rename_i hk
    subst hk
    split at hu
    · cases hu; rw [if_pos rfl, if_pos (by rw [← h.1]; assumption)]; exact ⟨v', rfl, hv⟩
    · cases hu
  · rename_i hk; rw [if_neg hk]; exact h.2 j u hu
theorem VRL.wrList {C n ρ w} : ∀ {x x' : List Value} {l l' : List Value} (off : Nat), VRL C n ρ w l l' → VRL C n ρ w x x' → VRL C n ρ w (wrList l off x) (wrList l' off x')
  | [], x', l, l', off, h, hx => by
    have : x' = [] := by cases x' with | nil => rfl | cons _ _ => simp [VRL] at hx
    subst this; exact h
  | v :: x, x', l, l', off, h, hx => by
    obtain ⟨v', r, rfl, hv, hr⟩ := hx.uncons
    exact VRL.wrList (off + 1) (h.set off hv) hr
theorem VRL.cells {C n ρ w v v'} (h : VR C n ρ w v v') : VRL C n ρ w v.cells.toList v'.cells.toList := by
  have go : ∀ {v v' : Value}, VR C n ρ w v v' → v.cells = #[v] → v'.cells = #[v'] → VRL C n ρ w v.cells.toList v'.cells.toList := fun h e e' => by rw [e, e']; exact .cons h .nil
  cases h with
  | agg ha ha' =>
    refine ⟨by simpa [Value.cells] using ha, fun j u hu => ?_⟩
    simp only [Value.cells, Array.getElem?_toList] at hu ⊢
    obtain ⟨hj, rfl⟩ := Array.getElem?_eq_some_iff.1 hu
    exact ⟨_, Array.getElem?_eq_getElem (by rw [← ha]; exact hj), by have := ha' j hj; rwa [getD_get hj, getD_get (by rw [← ha]; exact hj)] at this⟩
  | atom h => cases v <;> first | exact go (.atom h) rfl rfl | (simp [flat1] at h)
  | ptr h => exact go (.ptr h) rfl rfl
  | slice h hb ho hc hf => exact go (.slice h hb ho hc hf) rfl rfl
  | map h => exact go (.map h) rfl rfl
  | hollow => exact go .hollow rfl rfl
  | func ha ha' hb hb' => exact go (.func ha ha' hb hb') rfl rfl
  | yield h => exact go (.yield h) rfl rfl
  | tuple ha ha' => exact go (.tuple ha ha') rfl rfl
  | iface h => exact go (.iface h) rfl rfl
  | frz0 => exact go .frz0 rfl rfl
  | frz hc hb hi hl hv => exact go (.frz hc hb hi hl hv) rfl rfl
  | fpl hb hi hl hv => exact go (.fpl hb hi hl hv) rfl rfl
theorem VR.agg_of {C n ρ w l l'} (h : VRL C n ρ w l l') : VR C n ρ w (.agg l.toArray) (.agg l'.toArray) := by
  refine .agg (by simpa using h.1) fun j hj => ?_
  have hj1 : j < l.length := by simpa using hj
  obtain ⟨u, hu, hv⟩ := h.2 j l[j] (List.getElem?_eq_getElem hj1)
  obtain ⟨hj2, rfl⟩ := List.getElem?_eq_some_iff.1 hu
  rw [getD_get hj, getD_get (by simpa using hj2)]
  simpa using hv
theorem VR.tuple_of {C n ρ w l l'} (h : VRL C n ρ w l l') : VR C n ρ w (.tuple l.toArray) (.tuple l'.toArray) := by
  refine .tuple (by simpa using h.1) fun j hj => ?_
  have hj1 : j < l.length := by simpa using hj
  obtain ⟨u, hu, hv⟩ := h.2 j l[j] (List.getElem?_eq_getElem hj1)
  obtain ⟨hj2, rfl⟩ := List.getElem?_eq_some_iff.1 hu
  rw [getD_get hj, getD_get (by simpa using hj2)]
  simpa using hv
theorem VR.agg_list {C n ρ w a v'} (h : VR C n ρ w (.agg a) v') : ∃ a', v' = .agg a' ∧ VRL C n ρ w a.toList a'.toList := by
  have hc := VRL.cells h
  cases h with
  | atom h => simp [flat1] at h
  | agg ha ha' => exact ⟨_, rfl, hc⟩
theorem VR.tuple_list {C n ρ w a v'} (h : VR C n ρ w (.tuple a) v') : ∃ a', v' = .tuple a' ∧ VRL C n ρ w a.toList a'.toList := by
  cases h with
  | atom h => simp [flat1] at h
  | tuple ha ha' => exact ⟨_, rfl, VRL.cells (.agg ha ha')⟩
-- ---- the heap
def cold (fz : Nat × Nat) (n : Nat) : Prop := ∀ off, off < n → (fz.1 ≤ off && off < fz.2) = false
def OR (C : Cx) (n : Nat) (ρ : Rho) (w : World) (i : Nat) : Ob → Prop
  | .cells e vs => ∃ (c : Array Value) (e' : TypeId) (fz : Nat × Nat), w.heap[(ρ i).1]? = some (Obj.cells c e' fz) ∧ (∀ (j : Nat) (v : Value), vs[j]? = some v → ∃ v' : Value, c[(ρ i).2 + j]? = some v' ∧ VR C n ρ w v v') ∧ (C.fence ≤ i → e' = e ∧ C.base ≤ (ρ i).1 ∧ cold fz c.size ∧ (lone C.P e = true → (ρ i).2 = 0 ∧ c.size = vs.length))
  | .map es => C.fence ≤ i ∧ C.base ≤ (ρ i).1 ∧ ∃ (en : Array MapEntry) (ck : Nat), w.heap[(ρ i).1]? = some (Obj.map en ck) ∧ en.size = es.length ∧ ∀ (j : Nat) (e : Value × Value), es[j]? = some e → ∃ e' : MapEntry, en[j]? = some e' ∧ e'.key = e.1 ∧ flat2 e.1 = true ∧ VR C n ρ w e.2 e'.val
  | .loop σ ps a b st pe => C.fence ≤ i ∧ C.base ≤ (ρ i).1 ∧ ∃ (fn : FuncId) (tmps : Array Value) (D : Nat), w.heap[(ρ i).1]? = some (Obj.loop { state := st, pending := pe, fn, tmps, params := ps.toArray, assign := a, body := b, defers := D }) ∧
      (∀ t, VR C n ρ w (σ t) (tmps.getD t undef)) ∧ okCode tmps.size a = true ∧ okCode tmps.size b = true ∧ ps.all (fun t => decide (t < tmps.size)) = true ∧ okAssign a = true ∧ noRange b = true
structure HR (C : Cx) (ρ : Rho) (H : Hp) (w : World) : Prop where
  below : Below C.base C.w0 w
  hbase : C.base ≤ w.heap.size
  fm : C.fence ≤ H.mark
  mn : H.mark ≤ H.next
  ob : ∀ i o, H.get i = some o → i < H.next ∧ OR C H.next ρ w i o
  apart : ∀ i j, i ≠ j → C.fence ≤ i → H.get i ≠ none → H.get j ≠ none → (ρ i).1 ≠ (ρ j).1
  ice : ∀ b, ρ.ice b → b < w.heap.size ∧ ∀ i, C.fence ≤ i → H.get i ≠ none → (ρ i).1 ≠ b
  snow : ∀ b, ρ.snow b → b < w.heap.size ∧ ∀ i, H.mark ≤ i → H.get i ≠ none → (ρ i).1 ≠ b
/-- Blocks that nothing may write. -/
def Hp.still (H : Hp) (ρ : Rho) (b : Nat) : Prop := ∀ i, H.mark ≤ i → H.get i ≠ none → (ρ i).1 ≠ b
theorem HR.stillIce {C ρ H w} (hr : HR C ρ H w) {b : Nat} (h : ρ.ice b) : H.still ρ b := fun i hi hg => (hr.ice b h).2 i (Nat.le_trans hr.fm hi) hg
theorem HR.stillSnow {C ρ H w} (hr : HR C ρ H w) {b : Nat} (h : ρ.snow b) : H.still ρ b := (hr.snow b h).2
theorem HR.more {C ρ H w n' ρ' w'} (hr : HR C ρ H w) (h1 : H.next ≤ n') (h2 : ∀ i, i < H.next → ρ' i = ρ i) (h3 : Keeps w w') (h4 : ρ'.ice = ρ.ice) (h5 : ρ'.snow = ρ.snow) (h6 : ∀ b, b < w.heap.size → H.still ρ b → w'.heap[b]? = w.heap[b]?) : More H.next ρ w n' ρ' w' :=
  ⟨h1, h2, h3, fun b h => ⟨by rw [h4]; exact h, h6 b (hr.ice b h).1 (hr.stillIce h)⟩, fun b h => ⟨by rw [h5]; exact h, h6 b (hr.snow b h).1 (hr.stillSnow h)⟩⟩
theorem OR.block {C n ρ w i o} (h : OR C n ρ w i o) : (ρ i).1 < w.heap.size := by
  cases o with
  | cells e vs => obtain ⟨c, e', fz, hc, _⟩ := h; exact (Array.getElem?_eq_some_iff.1 hc).1
  | map es => obtain ⟨_, _, en, ck, hc, _⟩ := h; exact (Array.getElem?_eq_some_iff.1 hc).1
  | loop σ ps a b st pe => obtain ⟨_, _, fn, tmps, D, hc, _⟩ := h; exact (Array.getElem?_eq_some_iff.1 hc).1
/-- An object whose block lies as it lay. -/
theorem OR.same {C n ρ w i o n' ρ' w'} (m : More n ρ w n' ρ' w') (hi : i < n) (h : OR C n ρ w i o) (hb : w'.heap[(ρ i).1]? = w.heap[(ρ i).1]?) : OR C n' ρ' w' i o := by
  have hr := m.rho i hi
  cases o with
  | cells e vs =>
    obtain ⟨c, e', fz, hc, hv, hf⟩ := h
    refine ⟨c, e', fz, by rw [hr, hb]; exact hc, fun j v hj => ?_, by rw [hr]; exact hf⟩
    obtain ⟨v', h1, h2⟩ := hv j v hj
    exact ⟨v', by rw [hr]; exact h1, h2.mono m⟩
  | map es =>
    obtain ⟨h1, h2, en, ck, hc, hs, hv⟩ := h
    refine ⟨h1, by rw [hr]; exact h2, en, ck, by rw [hr, hb]; exact hc, hs, fun j v hj => ?_⟩
    obtain ⟨v', g1, g2, g3, g4⟩ := hv j v hj
    exact ⟨v', g1, g2, g3, g4.mono m⟩
  | loop σ ps a b st pe =>
    obtain ⟨h1, h2, fn, tmps, D, hc, hv, h3⟩ := h
    exact ⟨h1, by rw [hr]; exact h2, fn, tmps, D, by rw [hr, hb]; exact hc, fun t => (hv t).mono m, h3⟩
end Go.L1
