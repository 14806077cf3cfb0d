/- Small words of our own for the walks of this seat: a scope through whose end no goto leaves is walked as what it holds; copy out of a text. -/
import Derived.WalkMore
import Derived.Calls
import Derived.Laws.IdiomCopy
import Derived.Deep.RegionLaw
import Derived.Below
import Derived.Lib.ConvBytes
import Derived.Laws.Slices
import Derived.RowKit3
import Derived.OwnWalk
import Derived.Lib.Hide
namespace Go.XW
set_option linter.unusedVariables false
theorem wp_scope_body {P : Program} {fn : Func} {R : Ending → World → Prop} {c : Code} {a : Act} {w : World} (h : c.wp P (bodyPost P fn R) a w) : (Code.scope c).wp P (bodyPost P fn R) a w :=
  wp_scope_straight (wp_mono h (fun e a w q => by cases e <;> exact q))
/-- A text's bytes as cells. -/
def strCells (t : ByteArray) : List Value := t.data.toList.map fun b => Value.int .u8 b.toNat
theorem strCells_length (t : ByteArray) : (strCells t).length = t.size := by rw [strCells, List.length_map, Array.length_toList]; rfl
theorem run_copy_str {P : Program} (w : World) (dT sT ty elem : TypeId) (b o dLen dCap : Nat) (t : ByteArray)
    (hu : P.underlying dT = some (.slice elem)) (hs : (P.info? elem).map (·.size) = some 1) (hfit : t.size ≤ dLen)
    (hc : ∀ j, j < t.size → (w.cell? ⟨b, o + j, none⟩).isSome = true) (hf : ∀ j, j < t.size → w.frozen? ⟨b, o + j, none⟩ = false) :
    (Builtin.copy_ #[dT, sT] ty #[.slice (some ⟨b, o, none⟩) dLen dCap, .string t]).run P w = .ok (goInt t.size) (w.setCells b o (strCells t)) := by
  have hl : (strCells t).length = t.size := strCells_length t
  have hst := run_storeCells_cells (P := P) b o (strCells t) 0 w (by simpa [hl] using hc) (by simpa [hl] using hf) (by
    intro v hv
    obtain ⟨x, _, rfl⟩ := List.mem_map.1 hv
    rfl)
  cases hq : P.info? elem with
  | none => simp [hq] at hs
  | some i =>
    have hm : Nat.min t.size dLen = t.size := Nat.min_eq_left hfit
    simp [Builtin.copy_, run_underlying hu, Builtin.lenOf, Builtin.firstCells, sizeOf, typeInfo, hq, hm]
    rw [show (List.map (fun b : UInt8 => Value.int .u8 b.toNat) t.data.toList) = strCells t from rfl, List.take_of_length_le (by omega), hst]
    simp
/-- copy out of a text, as one step of a region that draws. -/
theorem step_copy_str {P : Program} {ops : Array Oper} {o : Oper} {a : Act} {w : World} {K : Act → World → Prop} {Q : Exit → Act → World → Prop} {E : Prop} (hgd : o.guard = none) (d s : Operand) (dT sT : TypeId)
    (ho : o.op = .call { callee := .builtin .copy, args := #[d, s], argTypes := #[dT, sT] }) (elem : TypeId) (hu : P.underlying dT = some (.slice elem)) (hsz : (P.info? elem).map (·.size) = some 1)
    (b off dLen dCap : Nat) (t : ByteArray) (hd : a.eval d = .slice (some ⟨b, off, none⟩) dLen dCap) (hs : a.eval s = .string t) (hfit : t.size ≤ dLen)
    (hc : ∀ j, j < t.size → (w.cell? ⟨b, off + j, none⟩).isSome = true) (hf : ∀ j, j < t.size → w.frozen? ⟨b, off + j, none⟩ = false)
    (h : K (a.put o.dst (goInt t.size)) (w.setCells b off (strCells t))) :
    if Region.wanted o (yielded ops a.tmps) = true then Oper.wp P o a w K Q else E := by
  have hw : Region.wanted o (yielded ops a.tmps) = true := by simp [Region.wanted, hgd]
  rw [if_pos hw]
  have hrun := run_copy_str (P := P) w dT sT o.type elem b off dLen dCap t hu hsz hfit hc hf
  unfold Oper.wp
  simp [execOp, ho, resolve, invoke, builtin, hd, hs, hrun, Result.andThen]
  exact h
theorem heap_setCells (b : Nat) : ∀ (vs : List Value) (o : Nat) (w : World) (k : Nat), k ≠ b → (w.setCells b o vs).heap[k]? = w.heap[k]?
  | [], _, _, _, _ => rfl
  | v :: r, o, w, k, h => by
    rw [World.setCells, heap_setCells b r (o + 1) _ k h]
    simp [World.setCell, Array.getElem?_modify, Ne.symm h]
theorem size_setCells (b : Nat) : ∀ (vs : List Value) (o : Nat) (w : World), (w.setCells b o vs).heap.size = w.heap.size
  | [], _, _ => rfl
  | v :: r, o, w => by rw [World.setCells, size_setCells b r (o + 1)]; simp [World.setCell]
open Go.RowKit in
theorem below_setCells {B b : Nat} {w0 : World} (hB : B ≤ b) : ∀ (vs : List Value) (o : Nat) (w : World), Below B w0 w → Below B w0 (w.setCells b o vs)
  | [], _, _, h => h
  | v :: r, o, _, h => below_setCells hB r (o + 1) _ (h.setCell hB v)
theorem bytesWorld_free (w : World) (e : TypeId) (s : ByteArray) (j : Nat) (hj : j < s.size) : (Lib.bytesWorld w e s).frozen? ⟨w.heap.size, j, none⟩ = false := by
  have h2 : s.size ≤ (Lib.bytesCells w e s).size := by rw [Lib.bytesCells, Array.size_append, Array.size_map]; exact Nat.le_add_right _ _
  simp only [World.frozen?, Lib.bytesWorld_at_new]
  simp
  omega
/-- 'xs[i:]' of a row, i below its capacity. -/
theorem slice_from {P : Program} (W : World) {t e : TypeId} {z : Value} {bytes : Nat} (ht : P.underlying t = some (.slice e)) (hi : (P.info? e).map (fun i => (i.zero, i.size, i.bytes)) = some (some z, 1, bytes)) {g n cp i : Nat} (h1 : i ≤ n) (h2 : i < cp) :
    (Instr.slice t (.slice (some ⟨g, 0, none⟩) n cp) (some (.int .i64 (i : Int))) none none).run P W = .ok (.slice (some ⟨g, i, none⟩) (n - i) (cp - i)) W := by
  obtain ⟨i0, hq, hz0, hz1, hz2⟩ := info_parts hi
  have hel : P.elem t = e := by simp [Program.elem, ht]
  have hu : P.underlying t = some (.slice (P.elem t)) := by rw [hel]; exact ht
  have ha : (⟨g, 0, none⟩ : Addr).add i = ⟨g, i, none⟩ := by unfold Addr.add; split <;> simp_all
  rw [run_slice_l W t (some ⟨g, 0, none⟩) n cp hu .i64 (i : Int) (Int.natCast_nonneg _) (by omega), hel]
  simp [sizeOf, typeInfo, hq, hz1, sliced, Result.andThen, show cp ≠ i by omega, ha]
open Go.RowKit in
theorem some_of {W0 w1 : World} {g n i m : Nat} {f : Nat → Value} (HC : Hid (∀ j, j < n → W0.cell? ⟨g, j, none⟩ = some (f j))) (hb : Below W0.drew.heap.size W0.drew w1) (hz : g < W0.heap.size) (h : i + m ≤ n) :
    ∀ j, j < m → (w1.cell? ⟨g, i + j, none⟩).isSome = true := fun j hj => by
  rw [hb.cell (p := ⟨g, i + j, none⟩) (by simpa using hz)]
  exact Option.isSome_iff_exists.2 ⟨_, HC (i + j) (by omega)⟩
open Go.RowKit in
theorem free_of {W0 w1 : World} {g n i m : Nat} (HF : Hid (∀ j, j < n → W0.frozen? ⟨g, j, none⟩ = false)) (hb : Below W0.drew.heap.size W0.drew w1) (hz : g < W0.heap.size) (h : i + m ≤ n) :
    ∀ j, j < m → w1.frozen? ⟨g, i + j, none⟩ = false := fun j hj => by
  rw [hb.frozen (p := ⟨g, i + j, none⟩) (by simpa using hz)]
  exact HF (i + j) (by omega)
section
variable {P : Program} {ops : Array Oper} {Q : Exit → Act → World → Prop}
theorem enters_lit {f : FuncId} {fn : Func} (hf : P.funcs[f]? = some fn) (hname : (fn.name == "runtime.NumGoroutine") = false) (hb : fn.body.isSome = true) (args : Array Value) (w : World) : (callFunc f args).run P w = .ok (.enter f args) w := by
  have h1 : fn.name ≠ "runtime.NumGoroutine" := by simpa using hname
  obtain ⟨c, hc⟩ := Option.isSome_iff_exists.1 hb
  simp [callFunc, hf, h1, hc]
/-- A call of a literal that a place holds, by its contract: in a plain region. -/
theorem lit_call {rest : List Oper} {oi : Oper} {a : Act} {w : World} (N : Option Tmp) (hd : oi.dst = N) (hg : oi.guard = none) {f : FuncId} {fn : Func} {t : Tmp} {caps : Array Value} {as : Array Operand} {ts : Array TypeId} (hf : P.funcs[f]? = some fn) (hname : (fn.name == "runtime.NumGoroutine") = false) (hb : fn.body.isSome = true) (args : Array Value)
    (hop : oi.op = .call { callee := .value (.tmp t), args := as, argTypes := ts }) (hc : a.eval (.tmp t) = .func (.func f) #[] caps) (hargs : as.map a.eval ++ caps = args)
    (h : Calls P f args w fun e w' => ∃ v, e = .returned v ∧ wpList P ops Q rest (a.put N v) w') : wpList P ops Q (oi :: rest) a w := by
  refine wpList_plain hg fun K hK => ?_
  have he := enters_lit hf hname hb args w
  have hrun : (execOp a.eval oi).run P w = .ok (.enter f args) w := by
    unfold execOp
    simp [hop, resolve, Deferred.ofValue, invoke, hc, hargs, he]
  unfold Oper.wp
  rw [hrun, Oper.upon_enter]
  refine h.mono fun e w'' hh => ?_
  obtain ⟨v, rfl, hk⟩ := hh
  subst hd
  exact hK _ _ hk
/-- The same, in a region that draws. -/
theorem lit_goes {oi : Oper} {N : Option Tmp} {a : Act} {w : World} {K : Act → World → Prop} {f : FuncId} {fn : Func} {t : Tmp} {caps : Array Value} {as : Array Operand} {ts : Array TypeId} (hf : P.funcs[f]? = some fn) (hname : (fn.name == "runtime.NumGoroutine") = false) (hb : fn.body.isSome = true) (args : Array Value)
    (hw : Region.wanted oi (yielded ops a.tmps) = true) (hN : oi.dst = N) (hop : oi.op = .call { callee := .value (.tmp t), args := as, argTypes := ts }) (hc : a.eval (.tmp t) = .func (.func f) #[] caps) (hargs : as.map a.eval ++ caps = args)
    (h : Calls P f args w fun e w' => ∃ v, e = .returned v ∧ K (a.put N v) w') : if Region.wanted oi (yielded ops a.tmps) = true then Oper.wp P oi a w K Q else K (a.put N undef) w := by
  have he := enters_lit hf hname hb args w
  have hrun : (execOp a.eval oi).run P w = .ok (.enter f args) w := by
    unfold execOp
    simp [hop, resolve, Deferred.ofValue, invoke, hc, hargs, he]
  rw [if_pos hw]
  subst hN
  unfold Oper.wp
  rw [hrun, Oper.upon_enter]
  refine h.mono fun e w'' hh => ?_
  obtain ⟨v, rfl, hk⟩ := hh
  exact hk
end
/-- An array of numbers at a computed place. -/
def sel (l : List Int) (j : Int) : Int := l.getD j.toNat 0
theorem sel_row {w : World} {g : Nat} {t : TypeId} {k : IntKind} {l : List Int} {j : Int} (hb : w.heap[g]? = some (.cells (l.map (Value.int k)).toArray t (0, 0))) (h0 : 0 ≤ j) (h1 : j < (l.length : Int)) :
    w.cell? ⟨g, j.toNat, none⟩ = some (.int k (sel l j)) := by
  rw [cell_of_row w g j.toNat _ t (0, 0) hb, List.getElem?_toArray, List.getElem?_map, List.getElem?_eq_getElem (by omega), sel, List.getD_eq_getElem?_getD, List.getElem?_eq_getElem (by omega)]
  rfl
end Go.XW
