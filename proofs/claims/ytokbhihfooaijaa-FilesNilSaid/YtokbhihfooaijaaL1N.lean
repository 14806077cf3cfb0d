/- A step, and a region in the text's order, is the model's. -/
import Derived.Test.YtokbhihfooaijaaL1M
import Derived.TacticsIn
import Derived.RangeFuncIn
namespace Go.L1
open Go.RowKit
set_option linter.unusedVariables false
set_option linter.unusedSimpArgs false
variable {C : Cx} {ρ : Rho} {H H' : Hp} {w : World} {σ : Env} {a : Act} {v : Value}
def EndR (C : Cx) (n : Nat) (ρ : Rho) (w : World) : Ending → Ending → Prop
  | .returned v, .returned v' => VR C n ρ w v v'
  | .panicked ch, .panicked ch' => ch' = ch
  | _, _ => False
def Entered (P : Program) (g : FuncId) : Prop := ∃ fn, P.funcs[g]? = some fn ∧ (fn.name == "runtime.NumGoroutine") = false ∧ fn.body.isSome = true
/-- What a call says it does, it does. -/
def FnOk (C : Cx) (g : FuncId) (args : List Value) (H : Hp) (e : Ending) (H' : Hp) : Prop :=
  (Entered C.P g ∧ ∀ (ρ : Rho) (w : World) (args' : Array Value), HR C ρ H w → VRL C H.next ρ w args args'.toList →
    Calls C.P g args' w fun e' w' => ∃ ρ', Good C ρ H w ρ' H' w' ∧ EndR C H'.next ρ' w' e e') ∨
  (∃ v, e = .returned v ∧ ∀ (ρ : Rho) (w : World) (args' : Array Value), HR C ρ H w → VRL C H.next ρ w args args'.toList → OpOk C ρ H w ((callFunc g args').run C.P w) v H')
/-- What a round says it does, it does. -/
def YlOk (C : Cx) (i : Nat) (args : List Value) (H : Hp) (e : Ending) (H' : Hp) : Prop :=
  ∀ (ρ : Rho) (w : World) (args' : Array Value), HR C ρ H w → VRL C H.next ρ w args args'.toList →
    ∃ (f : FuncId) (tmps : Array Value) (a b : Code), (Instr.yield (ρ i).1 args').run C.P w = .ok (.round (ρ i).1 f tmps a b) w ∧
      RoundIn Fence.wide 0 C.P (ρ i).1 f tmps a b w fun e' w' => ∃ ρ', Good C ρ H w ρ' H' w' ∧ EndR C H'.next ρ' w' e e'
structure FnsOk (C : Cx) (call : Fns) : Prop where
  fn : ∀ g args H e H', call.fn g args H = some (e, H') → FnOk C g args H e H'
  yl : ∀ i args H e H', call.yl i args H = some (e, H') → YlOk C i args H e H'
/-- Frames of functions, and of rounds. -/
abbrev FR (r : Option Nat) : Fence := { Fence.wide with round := r }
theorem calls_FR {r : Option Nat} {n : Nat} {P : Program} {f : FuncId} {args : Array Value} {w : World} {R : Ending → World → Prop} (h : Calls P f args w R) : CallsIn (FR r) n P f args w R :=
  (callsIn_wide (n := n)).2 h
/-- The marks of loops over functions among the deferred calls. -/
def Mk (lo : Nat) (ρ : Rho) (H : Hp) (w : World) (ds : List Deferred) : Prop :=
  lo ≤ w.heap.size ∧ ds.Pairwise (fun d e => d.target ≠ e.target) ∧ ∀ d ∈ ds, ∃ D, d = { target := .collected D, args := #[] } ∧ lo ≤ D ∧ H.still ρ D ∧ w.heap[D]? = some (.deferred (some []))
theorem Mk.nil {lo : Nat} (h : lo ≤ w.heap.size) : Mk lo ρ H w [] := ⟨h, .nil, fun d h => by cases h⟩
theorem Mk.good {lo : Nat} {ρ' : Rho} {w' : World} {ds : List Deferred} (h : Mk lo ρ H w ds) (g : Good C ρ H w ρ' H' w') : Mk lo ρ' H' w' ds := by
  refine ⟨Nat.le_trans h.1 g.size, h.2.1, fun d hd => ?_⟩
  obtain ⟨D, e, h1, h2, h3⟩ := h.2.2 d hd
  have hlt := (Array.getElem?_eq_some_iff.1 h3).1
  refine ⟨D, e, h1, fun i hi hg => ?_, by rw [g.calm D hlt h2]; exact h3⟩
  rw [g.mark] at hi
  rcases g.born i hi hg with ⟨j, q1, q2, q3⟩ | q1
  · rw [← q3]; exact h2 j q1 q2
  · omega
theorem EnvR.mono {n n' : Nat} {ρ' : Rho} {w' : World} (m : More n ρ w n' ρ' w') (h : EnvR C n ρ w σ a) : EnvR C n' ρ' w' σ a := fun t => (h t).mono m
theorem put_env {n N : Nat} {d : Option Tmp} {v' : Value} (hN : a.tmps.size = N) (hd : match d with | some d => d < N | none => True) (h : EnvR C n ρ w σ a) (hv : VR C n ρ w v v') : EnvR C n ρ w (put d v σ) (a.put d v') := by
  cases d with
  | none => exact h
  | some d =>
    intro t
    simp only [put, Act.put]
    by_cases e : t = d
    · subst e
      rw [if_pos rfl]
      have : t < a.tmps.size := by rw [hN]; exact hd
      simpa [Array.getD, this] using hv
    · rw [if_neg e]
      have h1 := h t
      have h2 : (a.tmps.setIfInBounds d v').getD t undef = a.tmps.getD t undef := by
        simp only [Array.getD_eq_getD_getElem?, Array.getElem?_setIfInBounds_ne (Ne.symm e)]
      rw [h2]
      exact h1
theorem put_size {N : Nat} {d : Option Tmp} {v' : Value} (hN : a.tmps.size = N) : (a.put d v').tmps.size = N := by
  cases d with
  | none => exact hN
  | some d => simpa [Act.put] using hN
theorem put_defers {d : Option Tmp} {v' : Value} : (a.put d v').defers = a.defers := by cases d <;> rfl
theorem VR.bool_back {n : Nat} {x : Value} {b : Bool} (h : VR C n ρ w x (.bool b)) : x = .bool b := by cases h; rfl
theorem yield_eq {n : Nat} {ops : Array Oper} (he : EnvR C n ρ w σ a) : yield1 ops σ = yielded ops a.tmps := by
  funext j
  unfold yield1 yielded
  cases hd : (ops[j]?).bind (·.dst) with
  | none => rfl
  | some d =>
    simp only [Option.bind_some]
    have h1 := he d
    cases ht : a.tmps[d]? with
    | none =>
      have : a.tmps.getD d undef = undef := by simp [Array.getD_eq_getD_getElem?, ht]
      rw [this] at h1
      cases hs : σ d with
      | bool b => rw [hs] at h1; cases h1.bool
      | _ => rfl
    | some u =>
      have : a.tmps.getD d undef = u := by simp [Array.getD_eq_getD_getElem?, ht]
      rw [this] at h1
      cases u with
      | bool b => rw [h1.bool_back]
      | _ =>
        cases hs : σ d with
        | bool b => rw [hs] at h1; cases h1.bool
        | _ => rfl
theorem callFunc_enter {P : Program} {g : FuncId} (h : Entered P g) (args : Array Value) (w : World) : (callFunc g args).run P w = .ok (.enter g args) w := by
  obtain ⟨fn, hf, hn, hb⟩ := h
  have h1 : fn.name ≠ "runtime.NumGoroutine" := by simpa using hn
  obtain ⟨c, hc⟩ := Option.isSome_iff_exists.1 hb
  simp [callFunc, hf, h1, hc]
theorem evals (he : EnvR C H.next ρ w σ a) : ∀ {l : List Operand}, l.all okX = true → VRL C H.next ρ w (l.map (ev σ)) (l.map a.eval)
  | [], _ => .nil
  | x :: l, h => by
    simp only [List.all_cons, Bool.and_eq_true] at h
    exact .cons (he.ev h.1) (evals he h.2)
/-- A step. -/
theorem step_ok {call : Fns} (hcall : FnsOk C call) (hr : HR C ρ H w) (he : EnvR C H.next ρ w σ a) {o : Oper} (hx : o.op.operands.toList.all okX = true) {e : Ending} (h : step1 C.P call o σ H = some (e, H')) {K : Act → World → Prop} {Q : Exit → Act → World → Prop}
    (hK : ∀ v ρ' w' v', e = .returned v → Good C ρ H w ρ' H' w' → VR C H'.next ρ' w' v v' → K (a.put o.dst v') w') (hQ : ∀ ch ρ' w', e = .panicked ch → Good C ρ H w ρ' H' w' → Q (.panic ch) a w') (r : Option Nat) : o.wpIn (FR r) 0 C.P a w K Q := by
  have hxl : ∀ x ∈ o.op.operands.toList, okX x = true := List.all_eq_true.1 hx
  have hnd : ∀ c, o.op ≠ .defer c := fun c hc => by unfold step1 at h; simp only [hc] at h; simp [op1, op0] at h
  have hsem : o.semAt (FR r).round a.eval = execOp a.eval o := Oper.semAt_eq _ _ _ hnd
  have plain : ∀ v, e = .returned v → OpOk C ρ H w ((execOp a.eval o).run C.P w) v H' → o.wpIn (FR r) 0 C.P a w K Q := fun v hv hop => by
    obtain ⟨ρ', w', v', h1, h2, h3⟩ := hop
    have hk := hK v ρ' w' v' hv h2 h3
    refine ⟨fun _ _ => trivial, ?_⟩
    rw [hsem]
    rcases h1 with h1 | ⟨h1, rfl⟩
    · rw [h1]; exact hk
    · rw [h1]; exact hk
  unfold step1 at h
  split at h
  · rename_i c hop
    unfold callOf at h
    have hargs : c.args.toList.all okX = true := by
      rw [hop] at hx
      simp only [Op.operands, Call.operands, Array.toList_append, List.all_append, Bool.and_eq_true] at hx
      exact hx.2
    have hev := evals he hargs
    have hevA : (c.args.map a.eval).toList = c.args.toList.map a.eval := by simp
    split at h
    · rename_i b hc
      obtain ⟨r, hr2, h2⟩ := Option.map_eq_some_iff.1 h
      obtain ⟨v, H2⟩ := r
      cases h2
      refine plain v rfl ?_
      have hb := builtin1_ok (ty := o.type) (cs := c.args.map fun | .const _ => true | _ => false) (args := c.args.map a.eval) hr (by rw [hevA]; exact hev) hr2
      obtain ⟨ρ', w', v', h1, h2, h3⟩ := hb
      refine ⟨ρ', w', v', ?_, h2, h3⟩
      have e1 : (execOp a.eval o).run C.P w = (Go.builtin b c.argTypes o.type (c.args.map fun | .const _ => true | _ => false) (c.args.map a.eval)).run C.P w := by
        unfold execOp
        simp only [hop, resolve, hc, Sem.run_bind, Sem.run_pure, Result.andThen_ok, invoke]
        rfl
      rw [e1]
      exact h1
    · rename_i f hc
      split at h
      · rename_i g first caps hf
        have hcl := hcall.fn _ _ _ _ _ h
        have hfx : okX f = true := hxl f (by rw [hop]; simp [Op.operands, Call.operands, hc])
        have hvf := he.ev hfx
        rw [hf] at hvf
        have hfun : ∃ first' caps', a.eval f = .func (.func g) first' caps' ∧ VRL C H.next ρ w first.toList first'.toList ∧ VRL C H.next ρ w caps.toList caps'.toList := by
          have gen : ∀ {x : Value}, VR C H.next ρ w (.func (.func g) first caps) x → ∃ first' caps', x = .func (.func g) first' caps' ∧ VRL C H.next ρ w first.toList first'.toList ∧ VRL C H.next ρ w caps.toList caps'.toList := fun h => by
            cases h with
            | atom hf => simp [flat1] at hf
            | func h1 h2 h3 h4 => exact ⟨_, _, rfl, VRL.cells (.agg h1 h2), VRL.cells (.agg h3 h4)⟩
          exact gen hvf
        obtain ⟨first', caps', hfe, hv1, hv2⟩ := hfun
        have hvl : VRL C H.next ρ w (first.toList ++ c.args.toList.map (ev σ) ++ caps.toList) (first' ++ c.args.map a.eval ++ caps').toList := by
          simp only [Array.toList_append, hevA]
          exact (hv1.append hev).append hv2
        rcases hcl with ⟨hent, hg⟩ | ⟨v, hv, hg⟩
        case inr =>
          refine plain v hv ?_
          have e1 : (execOp a.eval o).run C.P w = (callFunc g (first' ++ c.args.map a.eval ++ caps')).run C.P w := by
            unfold execOp
            simp only [hop, resolve, hc, Deferred.ofValue, hfe, Sem.run_bind, Sem.run_pure, Result.andThen_ok, invoke]
          rw [e1]
          exact hg ρ w _ hr hvl
        have hca := hg ρ w (first' ++ c.args.map a.eval ++ caps') hr hvl
        have e1 : (execOp a.eval o).run C.P w = .ok (.enter g (first' ++ c.args.map a.eval ++ caps')) w := by
          unfold execOp
          simp only [hop, resolve, hc, Deferred.ofValue, hfe, Sem.run_bind, Sem.run_pure, Result.andThen_ok, invoke]
          exact callFunc_enter hent _ _
        refine ⟨fun _ _ => trivial, ?_⟩
        rw [hsem, e1, Oper.uponIn_enter]
        refine ⟨fun hh => (by cases hh), calls_FR (hca.mono fun e' w' hh => ?_)⟩
        obtain ⟨ρ', h1, h2⟩ := hh
        cases e with
        | returned v => cases e' with
          | returned v' => exact hK v ρ' w' v' rfl h1 h2
          | _ => exact h2.elim
        | panicked ch => cases e' with
          | panicked ch' =>
            have h3 : ch' = ch := h2
            subst h3
            exact hQ _ ρ' w' rfl h1
          | _ => exact h2.elim
        | outgrown => cases e' <;> exact h2.elim
      · rename_i i fa fb hf
        split at h
        · rename_i hz
          have hfx : okX f = true := hxl f (by rw [hop]; simp [Op.operands, Call.operands, hc])
          have hvf := he.ev hfx
          rw [hf] at hvf
          have hfe : a.eval f = .func (.yield (ρ i).1) #[] #[] := by
            have gen : ∀ {x : Value}, VR C H.next ρ w (.func (.yield i) fa fb) x → x = .func (.yield (ρ i).1) #[] #[] := fun h => by
              cases h with
              | atom hf => simp [flat1] at hf
              | yield h => rfl
            exact gen hvf
          have hvl : VRL C H.next ρ w (c.args.toList.map (ev σ)) (c.args.map a.eval).toList := by rw [hevA]; exact hev
          obtain ⟨ff, tmps, ca, cb, hy, hro⟩ := hcall.yl _ _ _ _ _ h ρ w _ hr hvl
          have e1 : (execOp a.eval o).run C.P w = .ok (.round (ρ i).1 ff tmps ca cb) w := by
            unfold execOp
            simp only [hop, resolve, hc, Deferred.ofValue, hfe, Sem.run_bind, Sem.run_pure, Result.andThen_ok, invoke]
            simpa using hy
          refine ⟨fun _ _ => trivial, ?_⟩
          rw [hsem, e1, Oper.uponIn_round]
          refine ⟨fun hh => (by cases hh), RoundIn.mono (show RoundIn (FR r) (0 - 1) C.P (ρ i).1 ff tmps ca cb w _ from hro) fun e' w' hh => ?_⟩
          obtain ⟨ρ', h1, h2⟩ := hh
          cases e with
          | returned v => cases e' with
            | returned v' => exact hK v ρ' w' v' rfl h1 h2
            | _ => exact h2.elim
          | panicked ch => cases e' with
            | panicked ch' =>
              have h3 : ch' = ch := h2
              subst h3
              exact hQ _ ρ' w' rfl h1
            | _ => exact h2.elim
          | outgrown => cases e' <;> exact h2.elim
        · cases h
      · cases h
    · cases h
  · rename_i x hop
    split at h
    · rename_i t v hx2
      split at h
      · rename_i hfl
        cases h
        have hxv := he.ev (hxl x (by rw [hop]; simp [Op.operands]))
        rw [hx2] at hxv
        have hxe := hxv.eqF (show flat (.iface t v) = true from hfl)
        have e1 : (execOp a.eval o).run C.P w = .halt (.panic (.iface t v)) w := by
          unfold execOp
          simp only [hop, hxe]
          simp [Instr.panic]
        refine ⟨fun _ _ => trivial, ?_⟩
        rw [hsem, e1, Oper.uponIn_panic]
        exact hQ _ ρ w rfl (Good.refl hr)
      · cases h
    · cases h
  · obtain ⟨r, hr2, h2⟩ := Option.map_eq_some_iff.1 h
    obtain ⟨v, H2⟩ := r
    cases h2
    exact plain v rfl (op1_ok hr he hxl hr2)
/-- Where a piece of code ends: what is asked of the model there. -/
def Ends (C : Cx) (lo N : Nat) (ρ : Rho) (H : Hp) (w : World) (r : Exit × Env × Hp) (Q : Exit → Act → World → Prop) : Prop :=
  ∀ a' w' ρ', Good C ρ H w ρ' r.2.2 w' → EnvR C r.2.2.next ρ' w' r.2.1 a' → a'.tmps.size = N → Mk lo ρ' r.2.2 w' a'.defers → Q r.1 a' w'
theorem Ends.from {lo N : Nat} {ρ' : Rho} {H1 : Hp} {w' : World} {r : Exit × Env × Hp} {Q : Exit → Act → World → Prop} (h : Ends C lo N ρ H w r Q) (g : Good C ρ H w ρ' H1 w') : Ends C lo N ρ' H1 w' r Q :=
  fun a' w'' ρ'' g2 he hN hd => h a' w'' ρ'' (g.trans g2) he hN hd
theorem dst_lt {N : Nat} {o : Oper} (h : okOper N o = true) : match o.dst with | some d => d < N | none => True := by
  simp only [okOper, Bool.and_eq_true] at h
  have h1 := h.1
  unfold okDst at h1
  split <;> simp_all
theorem execOps_ok {call : Fns} (hcall : FnsOk C call) (ro : Option Nat) {ops : Array Oper} {lo N : Nat} {Q : Exit → Act → World → Prop} : ∀ {l : List Oper} {ρ : Rho} {H : Hp} {w : World} {σ : Env} {a : Act} {r : Exit × Env × Hp}, l.all (okOper N) = true → HR C ρ H w → EnvR C H.next ρ w σ a → a.tmps.size = N → Mk lo ρ H w a.defers →
    execOps C.P call ops l σ H = some r → Ends C lo N ρ H w r Q → wpListIn (FR ro) 0 C.P ops Q l a w
  | [], ρ, H, w, σ, a, r, _, hr, he, hN, hd, h, hQ => by
    cases h
    exact wpListIn_nil (hQ a w ρ (Good.refl hr) he hN hd)
  | o :: l, ρ, H, w, σ, a, r, hok, hr, he, hN, hd, h, hQ => by
    simp only [List.all_cons, Bool.and_eq_true] at hok
    have hdst := dst_lt hok.1
    have hx : o.op.operands.toList.all okX = true := by have := hok.1; simp only [okOper, Bool.and_eq_true] at this; exact this.2
    unfold execOps at h
    rw [yield_eq he] at h
    unfold wpListIn
    split at h
    · rename_i hw
      rw [if_pos hw]
      obtain ⟨⟨e, H1⟩, hs, h2⟩ := Option.bind_eq_some_iff.1 h
      refine step_ok hcall hr he hx hs (fun v ρ' w' v' hev hg hv => ?_) (fun ch ρ' w' hev hg => ?_) ro
      · subst hev
        exact execOps_ok hcall ro hok.2 hg.hr (put_env hN hdst (he.mono hg.more) hv) (put_size hN) (by rw [put_defers]; exact hd.good hg) h2 (hQ.from hg)
      · subst hev
        simp only at h2
        cases h2
        exact hQ a w' ρ' hg (he.mono hg.more) hN (hd.good hg)
    · rename_i hw
      rw [if_neg hw]
      exact ⟨fun _ _ => trivial, execOps_ok hcall ro hok.2 hr (put_env hN hdst he VR.undef) (put_size hN) (by rw [put_defers]; exact hd) h hQ⟩
end Go.L1
