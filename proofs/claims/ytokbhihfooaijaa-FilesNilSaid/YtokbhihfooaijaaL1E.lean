/- Each operation of the interpreter is the model's: those that hang on values alone, loads, stores, new objects. -/
import Derived.Test.YtokbhihfooaijaaL1D
namespace Go.L1
open Go.RowKit
set_option linter.unusedVariables false
set_option linter.unusedSimpArgs false
def EnvR (C : Cx) (n : Nat) (ρ : Rho) (w : World) (σ : Env) (a : Act) : Prop := ∀ t, VR C n ρ w (σ t) (a.tmps.getD t undef)
variable {C : Cx} {ρ : Rho} {H H' : Hp} {w : World} {σ : Env} {a : Act} {v : Value}
theorem EnvR.ev (he : EnvR C H.next ρ w σ a) {x : Operand} (hx : okX x = true) : VR C H.next ρ w (ev σ x) (a.eval x) := by
  cases x with
  | tmp t => exact he t
  | const v => exact .ofF hx
  | global g => cases hx
  | func f => exact .func rfl (fun j hj => absurd hj (by simp)) rfl (fun j hj => absurd hj (by simp))
def OpOk (C : Cx) (ρ : Rho) (H : Hp) (w : World) (r : Result Next) (v : Value) (H' : Hp) : Prop :=
  ∃ ρ' w' v', (r = .ok (.value v') w' ∨ (r = .ok .skip w' ∧ v' = undef)) ∧ Good C ρ H w ρ' H' w' ∧ VR C H'.next ρ' w' v v'
theorem OpOk.pure (hr : HR C ρ H w) {r : Result Next} {v' : Value} (h : r = .ok (.value v') w) (hv : VR C H.next ρ w v v') : OpOk C ρ H w r v H :=
  ⟨ρ, w, v', .inl h, Good.refl hr, hv⟩
theorem run_ti {P : Program} {t : TypeId} {i : TypeInfo} (h : P.info? t = some i) (w : World) : (typeInfo t).run P w = .ok i w := by simp [typeInfo, h]
theorem run_sz {P : Program} {t : TypeId} {n : Nat} (h : szOf P t = some n) (w : World) : (sizeOf t).run P w = .ok n w := by
  obtain ⟨i, hi, rfl⟩ := Option.map_eq_some_iff.1 h
  simp [sizeOf, run_ti hi]
theorem run_zero {P : Program} {t : TypeId} {z : Value} (h : zeroOf P t = some z) (w : World) : (zeroValue t).run P w = .ok z w := by
  obtain ⟨z0, h0, hz⟩ := Option.bind_eq_some_iff.1 h
  obtain ⟨i, hi, hz0⟩ := Option.bind_eq_some_iff.1 h0
  split at hz
  · cases hz; simp [zeroValue, run_ti hi, hz0]
  · cases hz
theorem zero_flat {P : Program} {t : TypeId} {z : Value} (h : zeroOf P t = some z) : flat2 z = true ∧ z.cells.toList.all one = true := by
  obtain ⟨z0, h0, hz⟩ := Option.bind_eq_some_iff.1 h
  split at hz
  · rename_i hf; cases hz; simpa using hf
  · cases hz
theorem run_agg {P : Program} {t : TypeId} {b : Bool} (h : aggOf P t = some b) (w : World) : (isAgg t).run P w = .ok b w := by
  obtain ⟨d, hd, hb⟩ := Option.map_eq_some_iff.1 h
  subst hb
  simp only [isAgg, Sem.run_bind, run_underlying hd, Result.andThen_ok]
  split <;> simp_all
/-- Cells of a row. -/
theorem read_at {n : Nat} {b o : Nat} {vs : List Value} {c : Array Value} {e' : TypeId} {z : Nat × Nat} (hc : w.heap[b]? = some (Obj.cells c e' z)) (hv : ∀ (j : Nat) (v : Value), vs[j]? = some v → ∃ v' : Value, c[o + j]? = some v' ∧ VR C n ρ w v v') {off k : Nat} {l : List Value} (hl : rdCells vs off k = some l) :
    ∃ l', (loadCells ⟨b, o + off, none⟩ k).run C.P w = .ok l'.toArray w ∧ VRL C n ρ w l l' := by
  unfold rdCells at hl
  split at hl
  · rename_i hfit
    cases hl
    have hin : ∀ j, j < vs.length → o + j < c.size := fun j hj => by
      obtain ⟨v', h2, _⟩ := hv j _ (List.getElem?_eq_getElem hj)
      exact (Array.getElem?_eq_some_iff.1 h2).1
    let l' := ((c.toList.drop (o + off)).take k)
    have hlen : l'.length = k := by
      simp only [l', List.length_take, List.length_drop, Array.length_toList]
      by_cases h0 : k = 0
      · omega
      · have := hin (off + k - 1) (by omega); omega
    have hget : ∀ j, j < k → l'[j]? = c[o + off + j]? := fun j hj => by
      simp only [l']
      rw [List.getElem?_take, if_pos hj, List.getElem?_drop, Array.getElem?_toList]
    refine ⟨l', ?_, by simp [hlen]; omega, fun j v hj => ?_⟩
    · have := run_loadCells_list (P := C.P) w ⟨b, o + off, none⟩ l' (fun j v hj => by
        have hjk : j < k := by rw [← hlen]; exact (List.getElem?_eq_some_iff.1 hj).1
        rw [addr_add, cell_of hc, ← hget j hjk]; exact hj)
      rwa [hlen] at this
    · rw [List.getElem?_take] at hj
      split at hj
      · rename_i hjk
        rw [List.getElem?_drop] at hj
        obtain ⟨v', h2, h3⟩ := hv _ v hj
        exact ⟨v', by rw [hget j hjk, ← h2]; congr 1; omega, h3⟩
      · cases hj
  · cases hl
theorem OR.read {n : Nat} {i : Nat} {e : TypeId} {vs : List Value} (h : OR C n ρ w i (.cells e vs)) {off k : Nat} {l : List Value} (hl : rdCells vs off k = some l) :
    ∃ l', (loadCells ⟨(ρ i).1, (ρ i).2 + off, none⟩ k).run C.P w = .ok l'.toArray w ∧ VRL C n ρ w l l' := by
  obtain ⟨c, e', fz, hc, hv, _⟩ := h
  exact read_at hc hv hl
theorem frz_cells {n : Nat} {vs c : Array Value} {o : Nat} (hl : o + vs.size ≤ c.size) (hv : ∀ j, j < vs.size → VR C n ρ w (vs.getD j undef) (c.getD (o + j) undef)) : ∀ (j : Nat) (v : Value), vs.toList[j]? = some v → ∃ v' : Value, c[o + j]? = some v' ∧ VR C n ρ w v v' := by
  intro j v hj
  rw [Array.getElem?_toList] at hj
  obtain ⟨hjs, rfl⟩ := Array.getElem?_eq_some_iff.1 hj
  refine ⟨c[o + j]'(by omega), Array.getElem?_eq_getElem _, ?_⟩
  have := hv j hjs
  rwa [getD_get hjs, getD_get (by omega)] at this
theorem part_ok {n : Nat} {t : TypeId} {cs cs' : List Value} {off : Nat} (hv : VRL C n ρ w cs cs') (h : part C.P t cs off = some v) :
    ∃ v', (Go.part t cs'.toArray off).run C.P w = .ok v' w ∧ VR C n ρ w v v' := by
  obtain ⟨g, hg, h⟩ := Option.bind_eq_some_iff.1 h
  cases g with
  | true =>
    simp only [if_true] at h
    obtain ⟨k, hk, h⟩ := Option.bind_eq_some_iff.1 h
    obtain ⟨l, hl, rfl⟩ := Option.map_eq_some_iff.1 h
    unfold rdCells at hl
    split at hl
    · cases hl
      refine ⟨.agg ((cs'.drop off).take k).toArray, ?_, VR.agg_of ((hv.drop off).take k)⟩
      simp only [Go.part, Sem.run_bind, run_agg hg, Result.andThen_ok, if_true, run_sz hk, Sem.run_pure]
      congr 2
      apply Array.ext'
      simp [List.extract_eq_take_drop]
    · cases hl
  | false =>
    simp only [Bool.false_eq_true, if_false] at h
    obtain ⟨v', h1, h2⟩ := hv.2 _ v h
    refine ⟨v', ?_, h2⟩
    simp [Go.part, run_agg hg, h1]
theorem fpl_inv {n k : Nat} {p : Array FieldStep} {f : FuncId} {s vs : Array Value} {x' : Value} (hx : VR C n ρ w (.func (.via k p f true) s vs) x') : ∃ b o c e z, x' = .pointer (some ⟨b, o + k, none⟩) ∧ w.heap[b]? = some (Obj.cells c e z) ∧ o + vs.size ≤ c.size ∧ ∀ j, j < vs.size → VR C n ρ w (vs.getD j undef) (c.getD (o + j) undef) := by
  cases hx with
  | atom hf => simp [flat1] at hf
  | fpl hb hi hl hv => exact ⟨_, _, _, _, _, rfl, hb, hl, hv⟩
theorem loadAt_ok (hr : HR C ρ H w) {t : TypeId} {x x' : Value} (hx : VR C H.next ρ w x x') (h : loadAt C.P t x H = some v) :
    ∃ v', (Instr.loadAt t x').run C.P w = .ok v' w ∧ VR C H.next ρ w v v' := by
  unfold loadAt at h
  split at h
  · rename_i i off
    split at h
    · rename_i e vs hg
      cases hx with
      | atom hf => simp [flat1] at hf
      | ptr hi =>
        have ho := (hr.ob i _ hg).2
        obtain ⟨g, hgg, h⟩ := Option.bind_eq_some_iff.1 h
        cases g with
        | true =>
          simp only [if_true] at h
          obtain ⟨k, hk, h⟩ := Option.bind_eq_some_iff.1 h
          obtain ⟨l, hl, rfl⟩ := Option.map_eq_some_iff.1 h
          obtain ⟨l', h1, h2⟩ := ho.read hl
          exact ⟨.agg l'.toArray, by simp [Instr.loadAt, Instr.sureAddr, loadVar, run_agg hgg, run_sz hk, h1], VR.agg_of h2⟩
        | false =>
          simp only [Bool.false_eq_true, if_false] at h
          obtain ⟨c, e', fz, hc, hv, _⟩ := ho
          obtain ⟨v', h1, h2⟩ := hv _ v h
          exact ⟨v', by simp [Instr.loadAt, Instr.sureAddr, loadVar, run_agg hgg, cell_of hc, h1], h2⟩
    · cases h
  · rename_i off p f s vs
    obtain ⟨b, o, c, e, z, rfl, hc, hl, hv⟩ := fpl_inv hx
    have hv' := frz_cells hl hv
    obtain ⟨g, hgg, h⟩ := Option.bind_eq_some_iff.1 h
    cases g with
    | true =>
      simp only [if_true] at h
      obtain ⟨k, hk, h⟩ := Option.bind_eq_some_iff.1 h
      obtain ⟨l, hl, rfl⟩ := Option.map_eq_some_iff.1 h
      obtain ⟨l', h1, h2⟩ := read_at hc hv' hl
      exact ⟨.agg l'.toArray, by simp [Instr.loadAt, Instr.sureAddr, loadVar, run_agg hgg, run_sz hk, h1], VR.agg_of h2⟩
    | false =>
      simp only [Bool.false_eq_true, if_false] at h
      obtain ⟨v', h1, h2⟩ := hv' _ v h
      exact ⟨v', by simp [Instr.loadAt, Instr.sureAddr, loadVar, run_agg hgg, cell_of hc, h1], h2⟩
  · cases h
theorem storeAt_ok (hr : HR C ρ H w) {t : TypeId} {x x' y y' : Value} (hx : VR C H.next ρ w x x') (hy : VR C H.next ρ w y y') (h : storeAt C.P t x y H = some H') :
    ∃ w', (Instr.storeAt t x' y').run C.P w = .ok () w' ∧ Good C ρ H w ρ H' w' := by
  unfold storeAt at h
  split at h
  · rename_i i off
    split at h
    · rename_i hm
      split at h
      · rename_i e vs hg
        split at h
        · rename_i hs
          simp only [Bool.and_eq_true, decide_eq_true_eq] at hs
          obtain ⟨vs', hw, rfl⟩ := Option.map_eq_some_iff.1 h
          unfold wrCells at hw
          split at hw
          · rename_i hfit
            cases hw
            cases hx with
            | atom hf => simp [flat1] at hf
            | ptr hi =>
              have hc := VRL.cells hy
              obtain ⟨h1, h2⟩ := hr.write hm hg hfit hc hs.2
              refine ⟨_, ?_, h2⟩
              have hsz : szOf C.P t = some y'.cells.size := by rw [← hs.1]; have := hc.1; simpa using this
              simp [Instr.storeAt, Instr.sureAddr, storeVar, run_sz hsz, h1]
          · cases hw
        · cases h
      · cases h
    · cases h
  · cases h
theorem pureRun_run {α : Type} {P : Program} : ∀ {e : Sem α} {x : α}, pureRun P e = some x → ∀ w, e.run P w = .ok x w
  | .pure a, x, h, w => by simp [pureRun] at h; subst h; rfl
  | .program k, x, h, w => by simp only [Sem.run]; exact pureRun_run (e := k P) h w
  | .mark m k, x, h, w => by simp only [Sem.run]; exact pureRun_run (e := k) h w
theorem eqGuard_int {op : BinOp} {t : TypeId} {x y : Operand} {a b : Value} (P : Program) (w : World) (ha : flat1 a = true) (h : a ≠ .nilIface ∨ b ≠ .nilIface) : (eqGuard op t x y a b).run P w = .ok () w := by
  unfold eqGuard
  cases op <;> simp <;> (cases a <;> simp [flat1] at ha h ⊢ <;> (try (cases b <;> simp at h ⊢)))
theorem binInt_ok {op : BinOp} {k : IntKind} {x y : Int} {r : Value} (h : binInt op k x y = some r) (P : Program) (w : World) :
    ((match op with | .add | .sub | .mul => Op.intArith op k x y | .quo | .rem => Op.intDiv op k x y | .and | .or | .xor | .andNot => Op.intBits op k x y | _ => Op.intCmp op x y : Sem Value)).run P w = .ok r w := by
  cases op <;> simp [binInt] at h <;> first
    | (subst h; simp [Op.intArith, Op.intBits, Op.intCmp]; done)
    | (obtain ⟨h0, rfl⟩ := h; simp [Op.intDiv, h0]; done)
theorem equal_bool {P : Program} {t : TypeId} (ht : P.underlying t = some .bool) (x y : Bool) (w : World) : (Op.equal t (.bool x) (.bool y)).run P w = .ok (x == y) w := by
  show (Op.equalIn (9999 + 1) t (.bool x) (.bool y)).run P w = _
  rw [Op.equalIn]
  simp [run_underlying ht]
theorem bin_ok {op : BinOp} {t : TypeId} {ox oy : Operand} {x y x' y' : Value} {n : Nat} (hx : VR C n ρ w x x') (hy : VR C n ρ w y y') (h : bin C.P op t ox oy x y = some v) :
    ∃ v', (do eqGuard op t ox oy x' y'; binOp op t x' y' : Sem Value).run C.P w = .ok v' w ∧ VR C n ρ w v v' := by
  unfold bin at h
  split at h
  · rename_i k a k' b
    cases hx.int
    cases hy.int
    split at h
    · rename_i hs
      refine ⟨v, ?_, ?_⟩
      · rw [Sem.run_bind, eqGuard_int _ _ rfl (.inl (by simp)), Result.andThen_ok]
        unfold binShift at h
        split at h
        · cases h
        · rename_i hb
          rcases hs with rfl | rfl <;> simp at h <;> subst h <;> simp [binOp, Op.shift, hb]
      · unfold binShift at h
        split at h
        · cases h
        · rcases hs with rfl | rfl <;> simp at h <;> subst h <;> exact .of1 rfl
    · rename_i hs
      split at h
      · rename_i hk
        subst hk
        refine ⟨v, ?_, ?_⟩
        · rw [Sem.run_bind, eqGuard_int _ _ rfl (.inl (by simp)), Result.andThen_ok]
          have h1 := binInt_ok h C.P w
          cases op <;> first | (simp at hs; done) | (simpa [binOp] using h1)
        · cases op <;> simp [binInt] at h <;> first | (subst h; exact .of1 rfl) | (obtain ⟨_, rfl⟩ := h; exact .of1 rfl)
      · cases h
  · rename_i s1 s2
    cases hx.string
    cases hy.string
    refine ⟨v, ?_, ?_⟩
    · rw [Sem.run_bind, eqGuard_int _ _ rfl (.inl (by simp)), Result.andThen_ok]
      unfold binStr at h
      cases op <;> simp at h
      · obtain ⟨h1, rfl⟩ := h
        have : ¬ IntKind.i64.max < (s1.size + s2.size : Int) := by
          rw [show IntKind.i64.max = 9223372036854775807 from rfl]; omega
        simp [binOp, Op.stringOp, this]
        omega
      · subst h; simp [binOp, Op.stringOp]
      · subst h; simp [binOp, Op.stringOp]
    · unfold binStr at h
      cases op <;> simp at h
      · obtain ⟨h1, rfl⟩ := h; exact .of1 rfl
      · subst h; exact .of1 rfl
      · subst h; exact .of1 rfl
  · rename_i b1 b2
    cases hx.bool
    cases hy.bool
    split at h
    · split at h
      · rename_i hu
        cases h
        exact ⟨_, by rw [Sem.run_bind, eqGuard_int _ _ rfl (.inl (by simp)), Result.andThen_ok]; simp [binOp, equal_bool hu], .of1 rfl⟩
      · cases h
    · split at h
      · rename_i hu
        cases h
        exact ⟨_, by rw [Sem.run_bind, eqGuard_int _ _ rfl (.inl (by simp)), Result.andThen_ok]; simp [binOp, equal_bool hu], .of1 rfl⟩
      · cases h
    · cases h
  · rename_i p1 p2
    split at h
    · rename_i hab
      subst hab
      split at h
      · rename_i el hu
        split at h
        · rename_i z hz
          have hxy : ∃ A, x' = .pointer (some A) ∧ y' = .pointer (some A) := by
            cases hx with
            | atom hf => simp [flat1] at hf
            | ptr hi =>
              cases hy with
              | atom hf => simp [flat1] at hf
              | ptr hi' => exact ⟨_, rfl, rfl⟩
          obtain ⟨A, rfl, rfl⟩ := hxy
          have he : (Op.equal t (.pointer (some A)) (.pointer (some A))).run C.P w = .ok true w := by
            show (Op.equalIn (9999 + 1) t _ _).run C.P w = _
            rw [Op.equalIn]
            simp [run_underlying hu, run_sz hz, sameAddr]
          cases op <;> (try (cases h; done)) <;> cases h
          · exact ⟨_, by simp [eqGuard, binOp, he], .of1 rfl⟩
          · exact ⟨_, by simp [eqGuard, binOp, he], .of1 rfl⟩
        · cases h
      · cases h
    · cases h
  · rename_i xs ys
    split at h
    · rename_i hf
      simp only [Bool.and_eq_true] at hf
      cases hx.eq2 (show flat2 (.agg xs) = true from hf.1)
      cases hy.eq2 (show flat2 (.agg ys) = true from hf.2)
      split at h
      · rename_i b hb
        cases h
        exact ⟨_, pureRun_run hb w, .of1 rfl⟩
      · cases h
    · cases h
  · cases h
end Go.L1
