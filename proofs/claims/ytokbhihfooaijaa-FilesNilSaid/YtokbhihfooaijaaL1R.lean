/- What the interpreter answers, the model does. -/
import Derived.Test.YtokbhihfooaijaaL1X
import Derived.Scope
import Derived.LoopNIn
namespace Go.L1
open Go.RowKit
set_option linter.unusedVariables false
set_option linter.unusedSimpArgs false
variable {C : Cx} {ρ : Rho} {H H' : Hp} {w : World} {σ : Env} {a : Act} {v : Value}
def okFn (P : Program) (F : FuncId) : Bool := match P.funcs[F]? with
  | some fn => match fn.body with
    | some c => okCode fn.ntmps c && !(fn.name == "runtime.NumGoroutine")
    | none => true
  | none => true
def LpsOk (C : Cx) (k : Nat) (lp : Lps) : Prop := ∀ (ro : Option Nat) (lo N : Nat) (c : Code) (σ : Env) (H : Hp) (r : Exit × Env × Hp), okCode N c = true → (ro = none ∨ noRange c = true) → lp c σ H = some r →
  ∀ (ρ : Rho) (w : World) (a : Act) (Q : Exit → Act → World → Prop), HR C ρ H w → EnvR C H.next ρ w σ a → a.tmps.size = N → Mk lo ρ H w a.defers → Ends C lo N ρ H w r Q → Code.roundsIn (FR ro) 0 C.P c Q k a w
/-- A scope through whose end no goto leaves. -/
theorem wpIn_scope_straight {F : Fence} {n : Nat} {P : Program} {Q : Exit → Act → World → Prop} {c : Code} (h : c.wpIn F n P (Exit.noGoto Q) a w) : (Code.scope c).wpIn F n P Q a w := by
  intro b k cs hro hb hr
  have s0 : ∀ {a : Act} {w : World}, step P (Go.lone (b.atR a (.code (.scope c) :: k)) cs w) = .next (Go.lone (b.atR a (.code c :: .inScope c :: k)) cs w) := step_lone_go (by simp [stepG, stepG.exec, Frame.atR])
  have s1 : ∀ {a : Act} {w : World}, step P (Go.lone (b.atR a (.inScope c :: k)) cs w) = .next (Go.lone (b.atR a k) cs w) := step_lone_go (by simp [stepG, stepG.exec, Frame.atR])
  have h0 : (Go.lone (b.atR a (.code (.scope c) :: k)) cs w).fenced P F := fenced_calm hb hr rfl
  obtain ⟨e, a₁, w₁, hq, harr⟩ := h b (.inScope c :: k) cs hro hb hr
  cases e with
  | normal => exact ⟨.normal, a₁, w₁, hq, .head h0 s0 (StepsIn.trans harr (.one (fenced_calm hb hr rfl) s1))⟩
  | exit id =>
    have hx : exitTo id (.inScope c :: k) = exitTo id k := by simp [exitTo]
    exact ⟨.exit id, a₁, w₁, hq, fun k' hk => .head h0 s0 (harr.1 k' (by rw [hx]; exact hk)), fun hr' hk => let ⟨k₁, h1, h2⟩ := harr.2 hr' (by rw [hx]; exact hk); ⟨k₁, h1, .head h0 s0 h2⟩⟩
  | goto l => exact hq.elim
  | ret => exact ⟨_, a₁, w₁, hq, .of_steps (.one h0 s0) harr⟩
  | panic ch => exact ⟨_, a₁, w₁, hq, .of_steps (.one h0 s0) harr⟩
  | outgrown => exact ⟨_, a₁, w₁, hq, .of_steps (.one h0 s0) harr⟩
theorem endR_ret {i : Nat} {v : Value} {H2 : Hp} {r : Exit × Env × Hp} (h : endR i σ (.returned v, H2) = some r) : ∃ s p a b st pe, H2.get i = some (.loop s p a b st pe) ∧ st ≠ .busy ∧
    ((pe = none ∧ r = (.normal, σ, H2.put i none)) ∨ (pe = some .ret ∧ r = (.ret, σ, H2.put i none)) ∨ ∃ id, pe = some (.exit id) ∧ r = (.exit id, σ, H2.put i none)) := by
  unfold endR at h
  simp only at h
  split at h
  · cases h
  · rename_i s p a b st hb hg
    cases h
    exact ⟨_, _, _, _, _, _, hg, fun e => (by subst e; first | exact hb _ | exact hb rfl | exact absurd rfl hb), .inl ⟨rfl, rfl⟩⟩
  · rename_i s p a b st hb hg
    cases h
    exact ⟨_, _, _, _, _, _, hg, fun e => (by subst e; first | exact hb _ | exact hb rfl | exact absurd rfl hb), .inr (.inl ⟨rfl, rfl⟩)⟩
  · rename_i s p a b st id hb hg
    cases h
    exact ⟨_, _, _, _, _, _, hg, fun e => (by subst e; first | exact hb _ | exact hb rfl | exact absurd rfl hb), .inr (.inr ⟨_, rfl, rfl⟩)⟩
  · cases h
/-- The record of a loop is turned: nothing else is. -/
theorem loop_put {w' : World} {l : Nat} {r r' : Loop} (h : w'.heap[l]? = some (.loop r)) : (∀ k, k ≠ l → (w'.putObj l (.loop r')).heap[k]? = w'.heap[k]?) ∧ (w'.putObj l (.loop r')).heap.size = w'.heap.size ∧ Calm w' (w'.putObj l (.loop r')) ∧ Keeps w' (w'.putObj l (.loop r')) :=
  ⟨fun k hk => World.putObj_heap_other hk, World.putObj_size, ⟨rfl, rfl, rfl⟩, fun b c e fz hb => ⟨c, fz, by rw [World.putObj_heap_other (fun e => by subst e; rw [h] at hb; cases hb)]; exact hb, rfl⟩⟩
theorem turn_loop (hr : HR C ρ H w) {i : Nat} {s : Env} {p : List Tmp} {ca cb : Code} {st st' : LoopState} {pe pe' : Option Code} (hm : H.mark ≤ i) (hg : H.get i = some (.loop s p ca cb st pe)) :
    ∃ (fn : FuncId) (tmps : Array Value) (D : Nat), w.heap[(ρ i).1]? = some (.loop { state := st, pending := pe, fn, tmps, params := p.toArray, assign := ca, body := cb, defers := D }) ∧
      Good C ρ H w ρ (H.put i (some (.loop s p ca cb st' pe'))) (w.putObj (ρ i).1 (.loop { state := st', pending := pe', fn, tmps, params := p.toArray, assign := ca, body := cb, defers := D })) := by
  obtain ⟨h1, h2, fn, tmps, D, hc, hv, h3⟩ := (hr.ob i _ hg).2
  obtain ⟨q1, q2, q3, q4⟩ := loop_put (r' := { state := st', pending := pe', fn, tmps, params := p.toArray, assign := ca, body := cb, defers := D }) hc
  refine ⟨fn, tmps, D, hc, hr.turn hm hg q1 q2 q3 q4 h2 ⟨h1, h2, fn, tmps, D, World.putObj_heap_same (Array.getElem?_eq_some_iff.1 hc).1, fun t => (hv t).cells_same fun b c e fz hb => ?_, h3⟩⟩
  rw [q1 b (fun e => by subst e; rw [hc] at hb; cases hb)]
  exact hb
theorem setPs_ok {n N : Nat} : ∀ {ps : List Tmp} {args args' : List Value} {σ : Env} {tmps : Array Value}, tmps.size = N → (∀ t, VR C n ρ w (σ t) (tmps.getD t undef)) → VRL C n ρ w args args' → ps.all (fun t => decide (t < N)) = true →
    ((ps.zip args').foldl (fun tmps (p : Tmp × Value) => tmps.setIfInBounds p.1 p.2) tmps).size = N ∧ ∀ t, VR C n ρ w (setPs ps args σ t) (((ps.zip args').foldl (fun tmps (p : Tmp × Value) => tmps.setIfInBounds p.1 p.2) tmps).getD t undef)
  | [], args, args', σ, tmps, hN, hv, _, _ => by simpa [setPs, hN] using hv
  | q :: ps, args, args', σ, tmps, hN, hv, ha, hp => by
    simp only [List.all_cons, Bool.and_eq_true, decide_eq_true_eq] at hp
    cases args with
    | nil =>
      have : args' = [] := List.length_eq_zero_iff.1 (by rw [← ha.1]; rfl)
      subst this
      simpa [setPs, hN] using hv
    | cons x args =>
      obtain ⟨x', r, rfl, hx, hr⟩ := ha.uncons
      have h1 := put_env (a := { tmps := tmps, defers := [] }) (d := some q) hN hp.1 hv hx
      exact setPs_ok (ps := ps) (args := args) (args' := r) (σ := put (some q) x σ) (tmps := tmps.setIfInBounds q x') (by simpa using hN) h1 hr hp.2
theorem execC_ok {T : Tb} {call : Fns} {lp : Lps} {k N : Nat} (hm : C.P.follows .mixedOrders = true) (hcall : FnsOk C call) (hq : QuietOk T.quiet call) (hlp : LpsOk C k lp) (ro : Option Nat) (lo : Nat) : ∀ (c : Code) (σ : Env) (H : Hp) (r : Exit × Env × Hp), okCode N c = true → (ro = none ∨ noRange c = true) → execC C.P T call lp c σ H = some r →
    ∀ (ρ : Rho) (w : World) (a : Act) (Q : Exit → Act → World → Prop), HR C ρ H w → EnvR C H.next ρ w σ a → a.tmps.size = N → Mk lo ρ H w a.defers → Ends C lo N ρ H w r Q → c.wpIn (FR ro) 0 C.P Q a w := by
  intro c
  induction c with
  | skip => intro σ H r hok hnr h ρ w a Q hr he hN hd hQ; cases h; exact wpIn_skip (hQ a w ρ (Good.refl hr) he hN hd)
  | label l => intro σ H r hok hnr h ρ w a Q hr he hN hd hQ; cases h; exact wpIn_label (hQ a w ρ (Good.refl hr) he hN hd)
  | exit id => intro σ H r hok hnr h ρ w a Q hr he hN hd hQ; cases h; exact wpIn_exit (hQ a w ρ (Good.refl hr) he hN hd)
  | ret => intro σ H r hok hnr h ρ w a Q hr he hN hd hQ; cases h; exact wpIn_ret (hQ a w ρ (Good.refl hr) he hN hd)
  | region id ops draw =>
    intro σ H r hok hnr h ρ w a Q hr he hN hd hQ
    unfold execC at h
    cases draw with
    | true => exact draw_ok ro hm hcall hq hok hr he hN hd h hQ
    | false => exact wpIn_region_list (execOps_ok hcall ro hok hr he hN hd h hQ)
  | seq x y ihx ihy =>
    intro σ H r hok hnr h ρ w a Q hr he hN hd hQ
    simp only [okCode, Bool.and_eq_true] at hok
    unfold execC at h
    obtain ⟨⟨e, σ1, H1⟩, h1, h2⟩ := Option.bind_eq_some_iff.1 h
    refine wpIn_seq (ihx σ H _ hok.1 (hnr.imp id fun h => ((Bool.and_eq_true _ _).mp h).1) h1 ρ w a _ hr he hN hd fun a' w' ρ' g he' hN' hd' => ?_)
    cases e with
    | normal => exact ihy σ1 H1 r hok.2 (hnr.imp id fun h => ((Bool.and_eq_true _ _).mp h).2) h2 ρ' w' a' Q g.hr he' hN' hd' (hQ.from g)
    | _ => cases h2; exact hQ a' w' ρ' g he' hN' hd'
  | cond c x y ihx ihy =>
    intro σ H r hok hnr h ρ w a Q hr he hN hd hQ
    simp only [okCode, Bool.and_eq_true] at hok
    unfold execC at h
    have hc := he.ev hok.1.1
    split at h
    · rename_i t ht
      rw [ht] at hc
      refine wpIn_cond hc.bool ?_
      cases t with
      | true => exact ihx σ H r hok.1.2 (hnr.imp id fun h => ((Bool.and_eq_true _ _).mp h).1) h ρ w a Q hr he hN hd hQ
      | false => exact ihy σ H r hok.2 (hnr.imp id fun h => ((Bool.and_eq_true _ _).mp h).2) h ρ w a Q hr he hN hd hQ
    · cases h
  | block id c ih =>
    intro σ H r hok hnr h ρ w a Q hr he hN hd hQ
    unfold execC at h
    obtain ⟨⟨e, σ1, H1⟩, h1, h2⟩ := Option.map_eq_some_iff.1 h
    refine wpIn_block (ih σ H _ hok hnr h1 ρ w a _ hr he hN hd fun a' w' ρ' g he' hN' hd' => ?_)
    cases e with
    | exit j =>
      simp only at h2
      unfold Exit.inBlock
      simp only
      by_cases hj : j = id
      · rw [if_pos hj] at h2 ⊢
        subst h2
        exact hQ a' w' ρ' g he' hN' hd'
      · rw [if_neg hj] at h2 ⊢
        subst h2
        exact hQ a' w' ρ' g he' hN' hd'
    | _ => subst h2; exact hQ a' w' ρ' g he' hN' hd'
  | loop c ih =>
    intro σ H r hok hnr h ρ w a Q hr he hN hd hQ
    unfold execC at h
    exact wpIn_loop_rounds k (hlp ro lo N c σ H r hok hnr h ρ w a Q hr he hN hd hQ)
  | scope c ih =>
    intro σ H r hok hnr h ρ w a Q hr he hN hd hQ
    unfold execC at h
    obtain ⟨⟨e, σ1, H1⟩, h1, h2⟩ := Option.bind_eq_some_iff.1 h
    refine wpIn_scope_straight (ih σ H _ hok hnr h1 ρ w a _ hr he hN hd fun a' w' ρ' g he' hN' hd' => ?_)
    cases e with
    | goto l => cases h2
    | _ => cases h2; exact hQ a' w' ρ' g he' hN' hd'
  | rangeFunc f ps ca cb =>
    intro σ H r hok hnr h ρ w a Q hr he hN hd hQ
    obtain rfl : ro = none := hnr.resolve_right (by simp [noRange])
    simp only [okCode, Bool.and_eq_true] at hok
    unfold execC at h
    have hf := he.ev hok.1.1.1
    split at h
    · rename_i g first caps hev
      split at h
      · rename_i hg
        simp only [Bool.and_eq_true] at hg
        rw [hev] at hf
        have hfun : ∃ first' caps', a.eval f = .func (.func g) first' caps' ∧ VRL C H.next ρ w first.toList first'.toList ∧ VRL C H.next ρ w caps.toList caps'.toList := by
          have gen : ∀ {x : Value}, VR C H.next ρ w (.func (.func g) first caps) x → ∃ first' caps', x = .func (.func g) first' caps' ∧ VRL C H.next ρ w first.toList first'.toList ∧ VRL C H.next ρ w caps.toList caps'.toList := fun h => by
            cases h with
            | atom hf => simp [flat1] at hf
            | func h1 h2 h3 h4 => exact ⟨_, _, rfl, VRL.cells (.agg h1 h2), VRL.cells (.agg h3 h4)⟩
          exact gen hf
        obtain ⟨first', caps', hfe, hv1, hv2⟩ := hfun
        obtain ⟨⟨e, H2⟩, hc, hend⟩ := Option.bind_eq_some_iff.1 h
        refine wpIn_rangeFunc fun fn _ => ?_
        obtain ⟨wD, hwD⟩ : ∃ wD, w.alloc (.deferred (some [])) = wD := ⟨_, rfl⟩
        have gD : Good C ρ H w ρ H wD := by rw [← hwD]; exact hr.extra rfl ⟨rfl, rfl, rfl⟩
        have hDs : wD.heap.size = w.heap.size + 1 := by rw [← hwD]; exact World.size_alloc _ _
        have hDb : wD.heap[w.heap.size]? = some (.deferred (some [])) := by rw [← hwD]; exact World.alloc_heap_new w _
        obtain ⟨rec, hrec⟩ : ∃ rec : Loop, rec = { state := .ready, pending := none, fn, tmps := a.tmps, params := ps, assign := ca, body := cb, defers := w.heap.size } := ⟨_, rfl⟩
        obtain ⟨w1, hw1⟩ : ∃ w1, wD.alloc (.loop rec) = w1 := ⟨_, rfl⟩
        have hl1 : w1.heap[wD.heap.size]? = some (.loop rec) := by rw [← hw1]; exact World.alloc_heap_new wD _
        have heD := he.mono gD.more
        have gL : Good C ρ H wD (up ρ H.next (wD.heap.size, 0)) (H.new (.loop σ ps.toList ca cb .ready none)) w1 := by
          have hmo : More H.next ρ wD (H.next + 1) (up ρ H.next (wD.heap.size, 0)) w1 := by rw [← hw1]; exact more_push gD.hr rfl
          have hfl : C.fence ≤ H.next := Nat.le_trans hr.fm hr.mn
          have hoo : OR C (H.next + 1) (up ρ H.next (wD.heap.size, 0)) w1 H.next (.loop σ ps.toList ca cb .ready none) :=
            ⟨hfl, by rw [up_same]; exact gD.hr.hbase, fn, a.tmps, w.heap.size, by rw [up_same]; rw [hl1, hrec], fun t => (heD t).mono hmo, by rw [hN]; exact hok.1.2, by rw [hN]; exact hok.2, by rw [hN]; exact hok.1.1.2, hg.1.2, hg.2⟩
          exact gD.hr.fresh (by rw [← hw1]; rfl) (by rw [← hw1]; exact ⟨rfl, rfl, rfl⟩) hoo
        have g1 := gD.trans gL
        have hlD : w.heap.size + 1 = wD.heap.size := hDs.symm
        refine ⟨w.heap.size + 1, [{ target := .collected w.heap.size, args := #[] }], w1, { target := .fn (.func g) caps', args := first' ++ #[.func (.yield (w.heap.size + 1)) #[] #[]] }, w1, g,
          (first' ++ #[.func (.yield (w.heap.size + 1)) #[] #[]]) ++ caps', w1, ?_, ?_, fun _ _ => trivial, ?_, fun hh => (by cases hh), ?_⟩
        · have := run_enterLoop_outer (P := C.P) (w := w) fn a.tmps ps ca cb
          rw [this, ← hw1, hrec, ← hwD]
        · simp only [resolve, hfe, Deferred.ofValue]
          simp [go_sem]
        · have hent : Entered C.P g := by
            have hb := hg.1.1
            unfold enterB at hb
            split at hb
            · rename_i fn' hfn'
              simp only [Bool.and_eq_true, Bool.not_eq_true'] at hb
              exact ⟨fn', hfn', hb.1, hb.2⟩
            · cases hb
          simp only [invoke]
          exact callFunc_enter hent _ _
        · have hargs : VRL C (H.next + 1) (up ρ H.next (wD.heap.size, 0)) w1 (first.toList ++ [Value.func (.yield H.next) #[] #[]] ++ caps.toList) ((first' ++ #[Value.func (.yield (w.heap.size + 1)) #[] #[]]) ++ caps').toList := by
            have hy : VR C (H.next + 1) (up ρ H.next (wD.heap.size, 0)) w1 (.func (.yield H.next) #[] #[]) (.func (.yield (w.heap.size + 1)) #[] #[]) := by
              have := VR.yield (C := C) (n := H.next + 1) (ρ := up ρ H.next (wD.heap.size, 0)) (w := w1) (i := H.next) (by omega)
              rw [up_same] at this
              rw [hlD]
              exact this
            simp only [Array.toList_append]
            exact ((hv1.mono g1.more).append (.cons hy .nil)).append (hv2.mono g1.more)
          have hstill : H.still ρ w.heap.size := fun i hi hgi hx => by
            obtain ⟨o, ho⟩ := Option.ne_none_iff_exists'.1 hgi
            have := (hr.ob i o ho).2.block
            omega
          have hmk : Mk lo ρ H wD ([{ target := .collected w.heap.size, args := #[] }] ++ a.defers) := by
            have hd' := hd.good gD
            refine ⟨hd'.1, List.pairwise_cons.2 ⟨fun d hdm hx => ?_, hd.2.1⟩, fun d hdm => ?_⟩
            · obtain ⟨D, e0, _, _, h3⟩ := hd.2.2 d hdm
              rw [e0] at hx
              have hlt := (Array.getElem?_eq_some_iff.1 h3).1
              have : w.heap.size = D := by simpa using hx
              omega
            · rcases List.mem_cons.1 hdm with rfl | hdm
              · exact ⟨w.heap.size, rfl, hd.1, hstill, hDb⟩
              · exact hd'.2.2 d hdm
          rcases hcall.fn _ _ _ _ _ hc with ⟨hent, hcs⟩ | ⟨v, hv, hop⟩
          · refine calls_FR ((hcs _ w1 _ gL.hr hargs).mono fun e' w' hh => ?_)
            obtain ⟨ρ', g2, hE⟩ := hh
            have hrho : ρ' H.next = (wD.heap.size, 0) := by rw [g2.more.rho H.next (by show H.next < H.next + 1; omega), up_same]
            cases e with
            | returned v =>
              cases e' with
              | returned v' =>
                obtain ⟨s, p, xa, xb, st, pe, hget, hst, hcase⟩ := endR_ret hend
                obtain ⟨_, hbs, fn', tmps', D', hcell, _⟩ := (g2.hr.ob _ _ hget).2
                rw [hrho] at hcell hbs
                obtain ⟨q1, q2, q3, q4⟩ := loop_put (r' := { ({ state := st, pending := pe, fn := fn', tmps := tmps', params := p.toArray, assign := xa, body := xb, defers := D' } : Loop) with state := .exhausted }) hcell
                have hmm : H2.mark ≤ H.next := by rw [g2.mark]; exact hr.mn
                have g3 := g2.hr.gone hmm hget (by rw [hrho]; exact q1) q2 q3 q4 (by rw [hrho]; exact hbs)
                have gA := (g1.trans g2).trans g3
                have hrun := run_endLoop (P := C.P) hcell hst
                rw [← hlD] at hrun
                refine ⟨pe, _, hrun, ?_⟩
                have hk2 := hmk.good ((gL.trans g2).trans g3)
                have he2 := he.mono gA.more
                rw [← hlD] at hk2 he2 gA
                rcases hcase with ⟨rfl, rfl⟩ | ⟨rfl, rfl⟩ | ⟨id, rfl, rfl⟩
                · exact hQ _ _ ρ' gA he2 hN hk2
                · exact wpIn_ret (hQ _ _ ρ' gA he2 hN hk2)
                · exact wpIn_exit (hQ _ _ ρ' gA he2 hN hk2)
              | _ => exact hE.elim
            | panicked ch =>
              cases e' with
              | panicked ch' =>
                have h3 : ch' = ch := hE
                subst h3
                cases hend
                exact hQ _ _ ρ' (g1.trans g2) (he.mono (g1.trans g2).more) hN (hmk.good (gL.trans g2))
              | _ => exact hE.elim
            | outgrown => cases e' <;> exact hE.elim
          · have hent : Entered C.P g := by
              have hb := hg.1.1
              unfold enterB at hb
              split at hb
              · rename_i fn' hfn'
                simp only [Bool.and_eq_true, Bool.not_eq_true'] at hb
                exact ⟨fn', hfn', hb.1, hb.2⟩
              · cases hb
            obtain ⟨_, _, _, hx, _⟩ := hop _ w1 _ gL.hr hargs
            rw [callFunc_enter hent] at hx
            rcases hx with hx | ⟨hx, _⟩ <;> cases hx
      · cases h
    · cases h
  | goto l => intro σ H r hok hnr h; cases h
  | _ => intro σ H r hok hnr h; cases h
-- ---- results
theorem results_ok {fn : Func} (hr : HR C ρ H w) (he : EnvR C H.next ρ w σ a) {l : List Value} (h : resList C.P σ H fn.results.toList = some l) :
    ∃ v', (results fn a.tmps).run C.P w = .ok v' w ∧ VR C H.next ρ w (packed l) v' := by
  have gen : ∀ (rs : List ResultVar) (l : List Value), resList C.P σ H rs = some l → ∃ l', (rs.mapM (fun r => match r with | .tmp t => pure (a.tmps.getD t undef) | .cell b t => do loadVar t (← asAddr (a.tmps.getD b undef)) : ResultVar → Sem Value)).run C.P w = .ok l' w ∧ VRL C H.next ρ w l l' := by
    intro rs
    induction rs with
    | nil => intro l h; cases h; exact ⟨[], rfl, .nil⟩
    | cons r rs ih =>
      intro l h
      cases r with
      | tmp t =>
        obtain ⟨l1, h1, h2⟩ := Option.map_eq_some_iff.1 h
        subst h2
        obtain ⟨l', g1, g2⟩ := ih l1 h1
        exact ⟨a.tmps.getD t undef :: l', by rw [List.mapM_cons, Sem.run_bind]; simp only [Sem.run_pure, Result.andThen_ok, Sem.run_bind]; rw [g1]; rfl, .cons (he t) g2⟩
      | cell b t =>
        obtain ⟨v, h1, h2⟩ := Option.bind_eq_some_iff.1 h
        obtain ⟨l1, h3, h4⟩ := Option.map_eq_some_iff.1 h2
        subst h4
        obtain ⟨l', g1, g2⟩ := ih l1 h3
        obtain ⟨v', q1, q2⟩ := loadAt_ok hr (he b) h1
        have hp : ∃ ad, a.tmps.getD b undef = .pointer (some ad) := by
          cases hb : a.tmps.getD b undef <;> rw [hb] at q1 <;> first | (simp [Instr.loadAt, Instr.sureAddr] at q1; done) | skip
          rename_i ad
          cases ad with
          | none => simp [Instr.loadAt, Instr.sureAddr] at q1
          | some ad => exact ⟨ad, rfl⟩
        obtain ⟨ad, had⟩ := hp
        rw [had] at q1
        have q3 : (loadVar t ad).run C.P w = .ok v' w := by simpa [Instr.loadAt, Instr.sureAddr] using q1
        have q4 : (do loadVar t (← asAddr (a.tmps.getD b undef)) : Sem Value).run C.P w = .ok v' w := by rw [had]; simpa [asAddr] using q3
        exact ⟨v' :: l', by rw [List.mapM_cons, Sem.run_bind]; rw [show _ = _ from q4]; simp only [Result.andThen_ok, Sem.run_bind]; rw [g1]; rfl, .cons q2 g2⟩
  obtain ⟨l', h1, h2⟩ := gen _ _ h
  have hrun : (fn.results.mapM (fun r => match r with | .tmp t => pure (a.tmps.getD t undef) | .cell b t => do loadVar t (← asAddr (a.tmps.getD b undef)) : ResultVar → Sem Value)).run C.P w = .ok l'.toArray w := by
    rw [Array.mapM_eq_mapM_toList, Sem.run_map, h1]
    rfl
  refine ⟨if h : l'.toArray.size = 1 then l'.toArray[0] else .tuple l'.toArray, ?_, ?_⟩
  · unfold results
    simp only [Sem.run_bind]
    refine (congrArg (fun r => Result.andThen r _) (show _ = Result.ok l'.toArray w from hrun)).trans ?_
    rfl
  · cases l with
    | nil =>
      have : l' = [] := List.length_eq_zero_iff.1 (by rw [← h2.1]; rfl)
      subst this
      exact VR.undef
    | cons x l =>
      obtain ⟨x', r, rfl, hx, hr2⟩ := h2.uncons
      cases l with
      | nil =>
        have : r = [] := List.length_eq_zero_iff.1 (by rw [← hr2.1]; rfl)
        subst this
        exact hx
      | cons y l =>
        obtain ⟨y', r', rfl, hy, hr3⟩ := hr2.uncons
        exact VR.tuple_of h2
-- ---- what a call leaves of what was there
/-- The heap as it was, in the world behind: what was there was not written. -/
theorem HR.back {ρ' : Rho} {w' : World} {H1 H2 : Hp} (hr : HR C ρ H w) (hg : H1.get = H.get) (hn : H1.next = H.next) (hm : H1.mark = H.next) (g : Good C ρ H1 w ρ' H2 w') : Good C ρ H w ρ H w' := by
  have hsame : ∀ b, b < w.heap.size → w'.heap[b]? = w.heap[b]? := fun b hb => g.calm b hb fun i hi hgi => by
    rw [hg] at hgi
    obtain ⟨o, ho⟩ := Option.ne_none_iff_exists'.1 hgi
    have := (hr.ob i o ho).1
    omega
  have hmo : More H.next ρ w H.next ρ w' := hr.more (Nat.le_refl _) (fun _ _ => rfl) g.more.keeps rfl rfl (fun b hb _ => hsame b hb)
  refine ⟨hmo, ⟨g.hr.below, g.hr.hbase, hr.fm, hr.mn, fun i o hi => ⟨(hr.ob i o hi).1, (hr.ob i o hi).2.same hmo (hr.ob i o hi).1 (hsame _ (hr.ob i o hi).2.block)⟩, hr.apart,
    fun b hb => ⟨Nat.lt_of_lt_of_le (hr.ice b hb).1 g.size, (hr.ice b hb).2⟩, fun b hb => ⟨Nat.lt_of_lt_of_le (hr.snow b hb).1 g.size, (hr.snow b hb).2⟩⟩, rfl, fun _ _ => rfl, g.size, fun b hb _ => hsame b hb, rfl, fun i hi hgi => .inl ⟨i, hi, hgi, rfl⟩⟩
-- ---- rows by their cells
theorem sub_cells {n o : Nat} {vs l : List Value} {c : Array Value} {off k : Nat} (hv : ∀ (j : Nat) (v : Value), vs[j]? = some v → ∃ v' : Value, c[o + j]? = some v' ∧ VR C n ρ w v v') (hl : rdCells vs off k = some l) :
    VRL C n ρ w l ((c.toList.drop (o + off)).take k) ∧ l.length = k ∧ (0 < k → o + off + k ≤ c.size) := by
  unfold rdCells at hl
  split at hl
  · rename_i hfit
    cases hl
    have hin : ∀ j, j < vs.length → o + j < c.size := fun j hj => by
      obtain ⟨v', h2, _⟩ := hv j _ (List.getElem?_eq_getElem hj)
      exact (Array.getElem?_eq_some_iff.1 h2).1
    have hk : 0 < k → o + off + k ≤ c.size := fun h0 => by have := hin (off + k - 1) (by omega); omega
    refine ⟨⟨?_, fun j v hj => ?_⟩, by simp; omega, hk⟩
    · simp only [List.length_take, List.length_drop, Array.length_toList]
      by_cases h0 : k = 0
      · omega
      · have := hk (by omega); omega
    · rw [List.getElem?_take] at hj ⊢
      split at hj
      · rename_i hjk
        rw [List.getElem?_drop] at hj
        obtain ⟨v', h2, h3⟩ := hv _ v hj
        exact ⟨v', by rw [if_pos hjk, List.getElem?_drop, Array.getElem?_toList, ← h2]; congr 1; omega, h3⟩
      · cases hj
  · cases hl
theorem frz_of {n o : Nat} {r : List Value} {c : Array Value} (h : VRL C n ρ w r ((c.toList.drop o).take r.length)) : ∀ j, j < r.toArray.size → VR C n ρ w (r.toArray.getD j undef) (c.getD (o + j) undef) := by
  intro j hj
  have hj' : j < r.length := by simpa using hj
  obtain ⟨u, hu, hv⟩ := h.2 j r[j] (List.getElem?_eq_getElem hj')
  rw [List.getElem?_take, if_pos hj', List.getElem?_drop, Array.getElem?_toList] at hu
  obtain ⟨hc, rfl⟩ := Array.getElem?_eq_some_iff.1 hu
  rw [getD_get hj, getD_get hc]
  simpa using hv
theorem mapM_len {f : Value → Option Value} : ∀ {l r : List Value}, l.mapM f = some r → r.length = l.length
  | [], r, h => by simp at h; subst h; rfl
  | x :: l, r, h => by
    rw [List.mapM_cons] at h
    cases hx : f x with
    | none => simp [hx] at h
    | some y => cases hl : l.mapM f with
      | none => simp [hx, hl] at h
      | some t => simp [hx, hl] at h; subst h; simp [mapM_len hl]
theorem mapM_rel {n1 n2 : Nat} {ρ1 ρ2 : Rho} {f : Value → Option Value} (hf : ∀ v v' u, VR C n1 ρ1 w v v' → f v = some u → VR C n2 ρ2 w u v') : ∀ {l l' r : List Value}, VRL C n1 ρ1 w l l' → l.mapM f = some r → VRL C n2 ρ2 w r l'
  | [], l', r, h, hm => by
    simp at hm; subst hm
    have : l' = [] := List.length_eq_zero_iff.1 (by rw [← h.1]; rfl)
    subst this; exact .nil
  | x :: l, l', r, h, hm => by
    obtain ⟨x', t', rfl, h1, h2⟩ := h.uncons
    rw [List.mapM_cons] at hm
    cases hx : f x with
    | none => simp [hx] at hm
    | some y => cases hl : l.mapM f with
      | none => simp [hx, hl] at hm
      | some t => simp [hx, hl] at hm; subst hm; exact .cons (hf _ _ _ h1 hx) (mapM_rel hf h2 hl)
theorem freeze_rel {g : Nat → Option Ob} {s : Array Value} {lo n n1 : Nat} {ρ1 : Rho}
    (hA : ∀ i e vs, lo ≤ i → g i = some (.cells e vs) → OR C n ρ w i (.cells e vs) ∧ ρ1.cool s (ρ i).1)
    (hB : ∀ a b, (a = #[] ∨ s ≠ #[]) → ρ.cool a b → ρ1.cool s b)
    (hC : s ≠ #[] → ∀ v v', VR C n ρ w v v' → VR C n1 ρ1 w v v') : ∀ (k : Nat) (v v' u : Value), VR C n ρ w v v' → freeze C.P g s lo k v = some u → VR C n1 ρ1 w u v'
  | 0, v, v', u, hv, h => by cases h
  | k + 1, v, v', u, hv, h => by
    have ih := freeze_rel hA hB hC k
    unfold freeze at h
    split at h
    · cases h; have := hv.eq1 rfl; subst this; exact .frz0
    · cases h
      cases hv with
      | atom hf => simp [flat1] at hf
      | hollow => exact .frz0
    · rename_i i off m cp
      split at h
      · rename_i hi
        split at h
        · rename_i e vs hg
          obtain ⟨sz, hsz, h1⟩ := Option.bind_eq_some_iff.1 h
          split at h1
          · cases h1
          · rename_i hz
            obtain ⟨l, hl, h2⟩ := Option.bind_eq_some_iff.1 h1
            obtain ⟨r, hr, rfl⟩ := Option.map_eq_some_iff.1 h2
            obtain ⟨hor, hcool⟩ := hA i e vs hi hg
            cases hv with
            | atom hf => simp [flat1] at hf
            | slice hin hb ho hc hf =>
              rename_i b o cap
              obtain ⟨c, e', z, hcb, hcv, _⟩ := hor
              obtain ⟨q1, q2, q3⟩ := sub_cells hcv hl
              have hlr := mapM_len hr
              by_cases h0 : m = 0
              · subst h0
                have : r = [] := List.length_eq_zero_iff.1 (by rw [hlr, q2]; simp)
                subst this
                exact .frz0
              · have hpos : 0 < m * sz := Nat.mul_pos (by omega) (by omega)
                have ho' := ho (by omega)
                subst hb ho'
                have q4 := mapM_rel ih q1 hr
                have hrl : r.length = m * sz := by rw [hlr, q2]
                rw [← hrl] at q4
                exact .frz hc hcb hcool (by have := q3 hpos; simp; omega) (frz_of q4)
        · cases h
      · cases h
    · rename_i m p f a vs
      split at h
      · rename_i ha
        obtain ⟨r, hr, rfl⟩ := Option.map_eq_some_iff.1 h
        have hlr := mapM_len hr
        obtain ⟨a', cap, rfl, hc, ⟨rfl, rfl⟩ | ⟨b, o, c, e, z, rfl, hb, hi, hl, hvv⟩⟩ := frz_inv hv
        · have : r = [] := List.length_eq_zero_iff.1 (by rw [hlr]; rfl)
          subst this
          exact .frz0
        · obtain ⟨q1, q2, q3⟩ := sub_cells (frz_cells hl hvv) (off := 0) (k := vs.size) (l := vs.toList) (by
            unfold rdCells
            have hz : vs.toList.length = vs.size := Array.length_toList
            rw [if_pos (by omega), List.drop_zero, ← hz, List.take_length])
          have q4 := mapM_rel ih q1 hr
          have hrl : r.length = vs.size := by rw [hlr]; exact Array.length_toList
          rw [← hrl, Nat.add_zero] at q4
          exact .frz hc hb (hB _ _ ha hi) (by simp; omega) (frz_of q4)
      · cases h
    · split at h
      · cases h
      · rename_i hs; cases h; exact hC hs _ _ hv
    · obtain ⟨r, hr, rfl⟩ := Option.map_eq_some_iff.1 h
      obtain ⟨cs', rfl, hl⟩ := hv.agg_list
      have := VR.agg_of (mapM_rel ih hl hr)
      simpa using this
    · obtain ⟨r, hr, rfl⟩ := Option.map_eq_some_iff.1 h
      obtain ⟨cs', rfl, hl⟩ := hv.tuple_list
      have := VR.tuple_of (mapM_rel ih hl hr)
      simpa using this
    · obtain ⟨r, hr, rfl⟩ := Option.map_eq_some_iff.1 h
      cases hv with
      | atom hf => simp [flat1] at hf
      | iface h1 => exact .iface (ih _ _ _ h1 hr)
    · split at h
      · cases h
      · rename_i hs; cases h; exact hC hs _ _ hv
    · split at h
      · cases h
      · rename_i hs; cases h; exact hC hs _ _ hv
    · split at h
      · cases h
      · rename_i hs; cases h; exact hC hs _ _ hv
    · split at h
      · rename_i hf; cases h; have := hv.eq1 hf; subst this; exact .atom hf
      · cases h
/-- All blocks stay as they are while a clean call lasts. -/
def cold1 (ρ : Rho) (w : World) : Rho := ⟨ρ.at_, ρ.ice, fun b => b < w.heap.size⟩
theorem more_cold (hr : HR C ρ H w) : More H.next ρ w H.next (cold1 ρ w) w := ⟨Nat.le_refl _, fun _ _ => rfl, Keeps.refl w, fun _ h => ⟨h, rfl⟩, fun b h => ⟨(hr.snow b h).1, rfl⟩⟩
theorem HR.cold1 (hr : HR C ρ H w) : HR C (cold1 ρ w) ⟨H.get, H.next, H.next⟩ w :=
  ⟨hr.below, hr.hbase, Nat.le_trans hr.fm hr.mn, Nat.le_refl _, fun i o hi => ⟨(hr.ob i o hi).1, OR.same (n' := H.next) (more_cold hr) (hr.ob i o hi).1 (hr.ob i o hi).2 rfl⟩, hr.apart, hr.ice,
   fun b hb => ⟨hb, fun i hi hg => by
    obtain ⟨o, ho⟩ := Option.ne_none_iff_exists'.1 hg
    have h1 := (hr.ob i o ho).1
    have h2 : H.next ≤ i := hi
    omega⟩⟩
theorem snap_ok (hr : HR C ρ H w) {args args1 args' : List Value} (ha : VRL C H.next ρ w args args') (hm : args.mapM (freeze C.P H.get tg 0 9) = some args1) : VRL C H.next (L1.cold1 ρ w) w args1 args' :=
  mapM_rel (freeze_rel (fun i e vs _ hg => ⟨(hr.ob i _ hg).2, .inr ⟨by simp, (hr.ob i _ hg).2.block⟩⟩)
    (fun a b _ hc => .inr ⟨by simp, by rcases hc with h | ⟨_, h⟩; exact (hr.ice b h).1; exact (hr.snow b h).1⟩)
    (fun _ v v' h => h.mono (more_cold hr)) 9) ha hm
theorem iced_ok {ρ' : Rho} {w' : World} {H2 : Hp} (hr : HR C ρ H w) (g : Good C (L1.cold1 ρ w) ⟨H.get, H.next, H.next⟩ w ρ' H2 w') {u v' : Value} (hv : VR C H2.next ρ' w' v v') (hf : freeze C.P H2.get #[] H.next 9 v = some u) :
    ∃ ρ3, Good C ρ H w ρ3 H w' ∧ VR C H.next ρ3 w' u v' := by
  have hnone : ∀ i, H.next ≤ i → H.get i ≠ none → False := fun i hi hg => by
    obtain ⟨o, ho⟩ := Option.ne_none_iff_exists'.1 hg
    have := (hr.ob i o ho).1
    omega
  have hsame : ∀ b, b < w.heap.size → w'.heap[b]? = w.heap[b]? := fun b hb => g.calm b hb fun i hi hgi => (hnone i hi hgi).elim
  let ρ3 : Rho := ⟨ρ.at_, fun b => ρ'.ice b ∨ (w.heap.size ≤ b ∧ b < w'.heap.size), ρ.snow⟩
  have hmo : More H.next ρ w H.next ρ3 w' := ⟨Nat.le_refl _, fun _ _ => rfl, g.more.keeps, fun b h => ⟨.inl (g.more.ice b h).1, hsame b (hr.ice b h).1⟩, fun b h => ⟨h, hsame b (hr.snow b h).1⟩⟩
  refine ⟨ρ3, ⟨hmo, ⟨g.hr.below, g.hr.hbase, hr.fm, hr.mn, fun i o hi => ⟨(hr.ob i o hi).1, (hr.ob i o hi).2.same hmo (hr.ob i o hi).1 (hsame _ (hr.ob i o hi).2.block)⟩, hr.apart, fun b hb => ?_,
    fun b hb => ⟨Nat.lt_of_lt_of_le (hr.snow b hb).1 g.size, (hr.snow b hb).2⟩⟩, rfl, fun _ _ => rfl, g.size, fun b hb _ => hsame b hb, rfl, fun i hi hgi => .inl ⟨i, hi, hgi, rfl⟩⟩,
    freeze_rel (s := #[]) (fun i e vs hi hg => ?_) (fun a b ha hc => ?_) (fun h => absurd rfl h) 9 v v' u hv hf⟩
  · rcases hb with hb | ⟨h1, h2⟩
    · refine ⟨(g.hr.ice b hb).1, fun i hi hgi => ?_⟩
      obtain ⟨o, ho⟩ := Option.ne_none_iff_exists'.1 hgi
      have hlt := (hr.ob i o ho).1
      have e1 : H2.get i = H.get i := g.old i hlt
      have e2 : ρ' i = ρ i := g.more.rho i hlt
      have := (g.hr.ice b hb).2 i hi (by rw [e1]; exact hgi)
      rw [e2] at this
      exact this
    · refine ⟨h2, fun i hi hgi => ?_⟩
      obtain ⟨o, ho⟩ := Option.ne_none_iff_exists'.1 hgi
      have := (hr.ob i o ho).2.block
      show (ρ i).1 ≠ b
      omega
  · refine ⟨(g.hr.ob i _ hg).2, .inl (.inr ⟨?_, (g.hr.ob i _ hg).2.block⟩)⟩
    rcases g.born i hi (by rw [hg]; simp) with ⟨j, h1, h2, _⟩ | h1
    · exact (hnone j h1 h2).elim
    · exact h1
  · have ha : a = #[] := by rcases ha with h | h; exact h; exact absurd rfl h
    subst ha
    rcases hc with h | ⟨h, _⟩
    · exact .inl (.inl h)
    · exact absurd rfl h
theorem env_ok {n : Nat} {args : List Value} {args' : Array Value} (N : Nat) (hargs : VRL C n ρ w args args'.toList) : EnvR C n ρ w (fun i => args.getD i undef) { tmps := args' ++ Array.replicate (N - args'.size) undef, defers := [] } := by
  have hsz : args'.size = args.length := by rw [hargs.1, Array.length_toList]
  intro t
  by_cases ht : t < args.length
  · obtain ⟨u, hu, hv⟩ := hargs.2 t args[t] (List.getElem?_eq_getElem ht)
    have e1 : args.getD t undef = args[t] := by simp [List.getD_eq_getElem?_getD, List.getElem?_eq_getElem ht]
    have e2 : (args' ++ Array.replicate (N - args'.size) undef).getD t undef = u := by
      rw [Array.getD_eq_getD_getElem?, Array.getElem?_append_left (by omega)]
      rw [Array.getElem?_toList] at hu
      rw [hu]; rfl
    show VR C n ρ w (args.getD t undef) ((args' ++ Array.replicate (N - args'.size) undef).getD t undef)
    rw [e1, e2]; exact hv
  · have e1 : args.getD t undef = undef := by simp [List.getD_eq_getElem?_getD, List.getElem?_eq_none (by omega : args.length ≤ t)]
    have e2 : (args' ++ Array.replicate (N - args'.size) undef).getD t undef = undef := by
      rw [Array.getD_eq_getD_getElem?, Array.getElem?_append_right (by omega)]
      by_cases h9 : t - args'.size < N - args'.size
      · simp [h9]
      · simp [h9]
    show VR C n ρ w (args.getD t undef) ((args' ++ Array.replicate (N - args'.size) undef).getD t undef)
    rw [e1, e2]; exact VR.undef
/-- What is known of the functions that are asked. -/
structure TbOk (C : Cx) (T : Tb) : Prop where
  draws : C.P.follows .mixedOrders = true
  fns : ∀ F, T.ok F = true → okFn C.P F = true
  ext : ∀ F g, T.ext F = some g → ∀ args H e H', g args H = some (e, H') → FnOk C F args H e H' ∧ (T.quiet F = true → H' = H)
theorem both_ok {T : Tb} (hT : TbOk C T) : ∀ k, FnsOk C (both C.P T k).1 ∧ LpsOk C k (both C.P T k).2 ∧ QuietOk T.quiet (both C.P T k).1 := by
  intro k
  induction k with
  | zero => exact ⟨⟨fun _ _ _ _ _ h => by (cases h), fun _ _ _ _ _ h => by (cases h)⟩, fun _ _ _ _ _ _ _ _ _ h => by (cases h), fun _ _ _ _ _ _ h => by (cases h)⟩
  | succ k ih =>
    obtain ⟨ih1, ih2, ih3⟩ := ih
    refine ⟨⟨?_, ?_⟩, ?_, ?_⟩
    · intro F args H e H' h
      simp only [both] at h
      unfold runWith at h
      split at h
      · rename_i g hg
        exact (hT.ext F g hg args H e H' h).1
      · obtain ⟨fn, hfn, h1⟩ := Option.bind_eq_some_iff.1 h
        obtain ⟨c, hc, h2⟩ := Option.bind_eq_some_iff.1 h1
        by_cases hok : (T.ok F && decide (args.length ≤ fn.ntmps)) = true
        · rw [if_neg (by simp [hok])] at h2
          simp only [Bool.and_eq_true, decide_eq_true_eq] at hok
          have hfo := hT.fns F hok.1
          unfold okFn at hfo
          rw [hfn] at hfo
          simp only [hc, Bool.and_eq_true, Bool.not_eq_true'] at hfo
          refine .inl ⟨⟨fn, hfn, hfo.2, by rw [hc]; rfl⟩, fun ρ w args' hr hargs => ?_⟩
          have hsz : args'.size = args.length := by rw [hargs.1, Array.length_toList]
          have henv := env_ok fn.ntmps hargs
          have hN : ({ tmps := args' ++ Array.replicate (fn.ntmps - args'.size) undef, defers := [] } : Act).tmps.size = fn.ntmps := by
            simp only [Array.size_append, Array.size_replicate]; omega
          -- its end
          have fin : ∀ (ρ : Rho) (H1 : Hp) (r : Exit × Env × Hp) (e1 : Ending) (H2 : Hp) (R : Ending → World → Prop), HR C ρ H1 w → leave C.P fn r = some (e1, H2) →
              (∀ ρ' w' e', Good C ρ H1 w ρ' H2 w' → EndR C H2.next ρ' w' e1 e' → R e' w') → Ends C w.heap.size fn.ntmps ρ H1 w r (bodyPostM (FR none) 0 C.P fn R) := by
            intro ρ H1 r e1 H2 R hr1 hl hR a' w' ρ' g he' hN' hd'
            unfold leave at hl
            split at hl
            · rename_i hre
              obtain ⟨l, hl1, hl2⟩ := Option.map_eq_some_iff.1 hl
              cases hl2
              rw [hre]
              refine leaves_marks (by simp) hr1 (fun w'' g' he'' => ?_) _ _ g he' hd'
              obtain ⟨v', q1, q2⟩ := results_ok g'.hr he'' hl1
              exact ⟨v', q1, hR ρ' w'' _ g' q2⟩
            · rename_i hre
              obtain ⟨l, hl1, hl2⟩ := Option.map_eq_some_iff.1 hl
              cases hl2
              rw [hre]
              refine leaves_marks (by simp) hr1 (fun w'' g' he'' => ?_) _ _ g he' hd'
              obtain ⟨v', q1, q2⟩ := results_ok g'.hr he'' hl1
              exact ⟨v', q1, hR ρ' w'' _ g' q2⟩
            · rename_i ch hre
              cases hl
              rw [hre]
              exact leaves_marks (u := .panicking ch) (by simp) hr1 (fun w'' g' he'' => (hR ρ' w'' (.panicked ch) g' rfl : R (.panicked ch) w'')) _ _ g he' hd'
            · cases hl
          refine callsIn_wide.1 (callsIn_of_wp_marks (F := FR none) (n := 0) hfn hc trivial ?_)
          split at h2
          · split at h2
            · obtain ⟨args1, ha1, h3⟩ := Option.bind_eq_some_iff.1 h2
              obtain ⟨⟨e1, H2⟩, h4, h5⟩ := Option.bind_eq_some_iff.1 h3
              obtain ⟨r, h6, h7⟩ := Option.bind_eq_some_iff.1 h4
              refine execC_ok hT.draws ih1 ih3 ih2 none w.heap.size c _ _ r hfo.1 (.inl rfl) h6 (L1.cold1 ρ w) w _ _ hr.cold1 (env_ok fn.ntmps (snap_ok hr hargs ha1)) hN (Mk.nil (Nat.le_refl _)) (fin _ _ r e1 H2 _ hr.cold1 h7 fun ρ' w' e' g hE => ?_)
              unfold iced at h5
              cases e1 with
              | returned v =>
                simp only at h5
                cases e' with
                | returned v' =>
                  obtain ⟨u, hu, h8⟩ := Option.map_eq_some_iff.1 h5
                  cases h8
                  exact iced_ok hr g hE hu
                | _ => exact hE.elim
              | panicked ch =>
                cases e' with
                | panicked ch' =>
                  cases h5
                  have hch : ch' = ch := hE
                  subst hch
                  obtain ⟨ρ3, h8, _⟩ := iced_ok (v := .bool true) (u := .bool true) (v' := .bool true) hr g (.of1 rfl) rfl
                  exact ⟨ρ3, h8, rfl⟩
                | _ => exact hE.elim
              | outgrown => cases e' <;> exact hE.elim
            · cases h2
          split at h2
          · obtain ⟨⟨e1, H2⟩, h3, h4⟩ := Option.bind_eq_some_iff.1 h2
            obtain ⟨r, h5, h6⟩ := Option.bind_eq_some_iff.1 h3
            have hr1 : HR C ρ ⟨H.get, H.next, H.next⟩ w := ⟨hr.below, hr.hbase, Nat.le_trans hr.fm hr.mn, Nat.le_refl _, hr.ob, hr.apart, hr.ice, fun b hb => ⟨(hr.snow b hb).1, fun i hi hg => by
              obtain ⟨o, ho⟩ := Option.ne_none_iff_exists'.1 hg
              have h1 := (hr.ob i o ho).1
              have h2 : H.next ≤ i := hi
              omega⟩⟩
            refine execC_ok hT.draws ih1 ih3 ih2 none w.heap.size c _ _ r hfo.1 (.inl rfl) h5 ρ w _ _ hr1 henv hN (Mk.nil (Nat.le_refl _)) (fin _ _ r e1 H2 _ hr1 h6 fun ρ' w' e' g hE => ?_)
            unfold fenced at h4
            cases e1 with
            | returned v =>
              simp only at h4
              cases e' with
              | returned v' =>
                split at h4
                · rename_i hfl
                  cases h4
                  have hve := VR.eqF hE hfl
                  subst hve
                  exact ⟨ρ, hr.back (H1 := ⟨H.get, H.next, H.next⟩) rfl rfl rfl g, VR.ofF hfl⟩
                · split at h4
                  · split at h4
                    · rename_i hpl
                      cases h4
                      have hE : VR C H2.next ρ' w' v v' := hE
                      obtain ⟨i, off, rfl, hi⟩ := place_is hpl
                      have hrho : ρ' i = ρ i := g.more.rho i hi
                      refine ⟨ρ, hr.back (H1 := ⟨H.get, H.next, H.next⟩) rfl rfl rfl g, ?_⟩
                      show VR C H.next ρ w' _ v'
                      cases hE with
                      | atom hf => simp [flat1] at hf
                      | ptr h => rw [hrho]; exact .ptr hi
                    · cases h4
                  · cases h4
                    exact ⟨ρ', ⟨g.more, ⟨g.hr.below, g.hr.hbase, hr.fm, Nat.le_trans hr.mn g.more.le, g.hr.ob, g.hr.apart, g.hr.ice, fun b hb => ⟨(g.hr.snow b hb).1, fun i hi hgi => by
                      by_cases hin : i < H.next
                      · have e1 : H2.get i = H.get i := g.old i hin
                        have e2 : ρ' i = ρ i := g.more.rho i hin
                        rw [g.snow] at hb
                        rw [e2]; exact (hr.snow b hb).2 i hi (by rw [← e1]; exact hgi)
                      · exact (g.hr.snow b hb).2 i (by rw [g.mark]; show H.next ≤ i; omega) hgi⟩⟩, rfl, fun i hi => g.old i (Nat.lt_of_lt_of_le hi hr.mn), g.size, fun b hb hs => g.calm b hb (fun i hi hgi => hs i (Nat.le_trans hr.mn hi) hgi), g.snow, fun i hi hgi => by
                        by_cases hin : i < H.next
                        · have e1 : H2.get i = H.get i := g.old i hin
                          have e2 : ρ' i = ρ i := g.more.rho i hin
                          exact .inl ⟨i, hi, by rw [← e1]; exact hgi, by rw [e2]⟩
                        · rcases g.born i (by show H.next ≤ i; omega) hgi with ⟨j, h1, h2, h3⟩ | h1
                          · exact .inl ⟨j, Nat.le_trans hr.mn h1, h2, h3⟩
                          · exact .inr h1⟩, hE⟩
              | _ => exact hE.elim
            | panicked ch =>
              cases e' with
              | panicked ch' =>
                cases h4
                have : ch' = ch := hE
                subst this
                exact ⟨ρ, hr.back (H1 := ⟨H.get, H.next, H.next⟩) rfl rfl rfl g, rfl⟩
              | _ => exact hE.elim
            | outgrown => cases e' <;> exact hE.elim
          · split at h2
            · cases h2
            · obtain ⟨r, h5, h6⟩ := Option.bind_eq_some_iff.1 h2
              exact execC_ok hT.draws ih1 ih3 ih2 none w.heap.size c _ _ r hfo.1 (.inl rfl) h5 ρ w _ _ hr henv hN (Mk.nil (Nat.le_refl _)) (fin _ _ r e H' _ hr h6 fun ρ' w' e' g hE => ⟨ρ', g, hE⟩)
        · rw [if_pos (by simp [hok])] at h2; cases h2
    · intro i args H e H' h
      simp only [both] at h
      unfold yieldWith at h
      split at h
      · rename_i σ0 ps ca cb pe hget
        split at h
        · rename_i hcond
          obtain ⟨⟨x1, σ1, H1⟩, h1, h2⟩ := Option.bind_eq_some_iff.1 h
          intro ρ w args' hr hargs
          obtain ⟨hfi, hbs, fn, tmps, D, hcell, hσ, hoa, hob, hps, hasg, hnr⟩ := (hr.ob i _ hget).2
          have hsz : args'.size = args.length := by rw [hargs.1, Array.length_toList]
          have hy := run_yield (P := C.P) (args := args') hcell (by simp [hsz, hcond.2])
          refine ⟨_, _, _, _, hy, roundIn_of_wpIn (F := Fence.wide) trivial ?_⟩
          have hsp := setPs_ok (args := args) (args' := args'.toList) rfl hσ hargs hps
          have hfold : ((ps.toArray.zip args').foldl (fun tmps (t, a) => tmps.setIfInBounds t a) tmps) = ((ps.zip args'.toList).foldl (fun tmps (p : Tmp × Value) => tmps.setIfInBounds p.1 p.2) tmps) := by
            rw [← Array.foldl_toList, Array.toList_zip]
          simp only
          rw [hfold]
          cases x1 with
          | normal =>
            simp only at h2
            obtain ⟨H1', hb1, h3⟩ := Option.bind_eq_some_iff.1 h2
            obtain ⟨⟨x2, σ2, H2⟩, h4, h5⟩ := Option.bind_eq_some_iff.1 h3
            refine execC_ok hT.draws ih1 ih3 ih2 (some (ρ i).1) w.heap.size ca _ H _ hoa (.inr (okAssign_range hasg)) h1 ρ w _ _ hr hsp.2 hsp.1 (Mk.nil (Nat.le_refl _)) ?_
            intro a1 w1 ρ1 g1 he1 hN1 hd1
            have hri : ρ1 i = ρ i := g1.more.rho i (hr.ob i _ hget).1
            unfold busyAt at hb1
            split at hb1
            · rename_i s p xa xb pe1 hget1
              cases hb1
              obtain ⟨fn1, tmps1, D1, hcell1, gT⟩ := turn_loop (st' := .busy) (pe' := pe1) g1.hr (by rw [g1.mark]; exact hcond.1) hget1
              rw [hri] at hcell1 gT
              refine ⟨_, run_beginRound hcell1 rfl, ?_⟩
              have g12 := g1.trans gT
              refine execC_ok hT.draws ih1 ih3 ih2 (some (ρ i).1) w.heap.size cb _ _ _ hob (.inr hnr) h4 ρ1 _ _ _ gT.hr (he1.mono gT.more) hN1 (hd1.good gT) ?_
              intro a2 w3 ρ2 g3 he2 hN2 hd2
              have g13 := g12.trans g3
              have hri2 : ρ2 i = ρ i := g13.more.rho i (hr.ob i _ hget).1
              unfold endY at h5
              simp only at h5
              split at h5
              · rename_i s2 p2 xa2 xb2 st2 pe2 hget2
                have fin : ∀ (jump : Option Code), e = .returned (.bool jump.isNone) → H' = H2.put i (some (.loop s2 p2 xa2 xb2 (if jump.isNone then .ready else .done) jump)) → ∃ v w', (Instr.endRound (ρ i).1 jump).run C.P w3 = .ok v w' ∧ ∃ ρ', Good C ρ H w ρ' H' w' ∧ EndR C H'.next ρ' w' e (.returned v) := by
                  intro jump he hH
                  obtain ⟨fn2, tmps2, D2, hcell2, gE⟩ := turn_loop (st' := if jump.isNone then .ready else .done) (pe' := jump) g3.hr (by rw [g13.mark]; exact hcond.1) hget2
                  rw [hri2] at hcell2 gE
                  subst he hH
                  exact ⟨_, _, run_endRound jump hcell2, ρ2, g13.trans gE, .of1 rfl⟩
                cases x2 with
                | normal => cases h5; exact fin none rfl rfl
                | ret => cases h5; exact fin (some .ret) rfl rfl
                | exit id => cases h5; exact fin (some (.exit id)) rfl rfl
                | _ => cases h5
              · cases h5
            · cases hb1
          | _ => cases h2
        · cases h
      · cases h
    · intro ro lo N c σ H r hok hnr h ρ w a Q hr he hN hd hQ
      simp only [both] at h
      unfold round at h
      obtain ⟨⟨e, σ1, H1⟩, h1, h2⟩ := Option.bind_eq_some_iff.1 h
      rw [roundsIn_succ]
      refine execC_ok hT.draws ih1 ih3 ih2 ro lo c σ H _ hok hnr h1 ρ w a _ hr he hN hd fun a' w' ρ' g he' hN' hd' => ?_
      cases e with
      | normal => exact ih2 ro lo N c σ1 H1 r hok hnr h2 ρ' w' a' Q g.hr he' hN' hd' (hQ.from g)
      | _ => cases h2; exact hQ a' w' ρ' g he' hN' hd'
    · intro F hF args H e H' h
      simp only [both] at h
      unfold runWith at h
      split at h
      · rename_i g hg
        exact (hT.ext F g hg args H e H' h).2 hF
      · obtain ⟨fn, hfn, h1⟩ := Option.bind_eq_some_iff.1 h
        obtain ⟨c, hc, h2⟩ := Option.bind_eq_some_iff.1 h1
        split at h2
        · cases h2
        split at h2
        · split at h2
          · obtain ⟨_, _, h3⟩ := Option.bind_eq_some_iff.1 h2
            obtain ⟨⟨e1, H2⟩, h4, h5⟩ := Option.bind_eq_some_iff.1 h3
            unfold iced at h5
            cases e1 with
            | returned v => obtain ⟨u, _, h8⟩ := Option.map_eq_some_iff.1 h5; cases h8; rfl
            | panicked ch => cases h5; rfl
            | outgrown => cases h5
          · cases h2
        · split at h2
          · obtain ⟨⟨e1, H2⟩, h3, h4⟩ := Option.bind_eq_some_iff.1 h2
            unfold fenced at h4
            cases e1 with
            | returned v =>
              simp only [hF, if_true] at h4
              split at h4
              · cases h4; rfl
              · split at h4
                · cases h4; rfl
                · cases h4
            | panicked ch => cases h4; rfl
            | outgrown => cases h4
          · first | (cases h2; done) | (split at h2 <;> first | (cases h2; done) | (rename_i hnq; exact absurd hF (by simpa using hnq)))
/-- **What the interpreter answers, the model does.** -/
theorem run_ok {T : Tb} (hT : TbOk C T) {F : FuncId} {args : List Value} {e : Ending} (h : run C.P T F args H = some (e, H')) : FnOk C F args H e H' := by
  obtain ⟨k, hk⟩ := run_iff.1 h
  exact (both_ok hT k).1.fn F args H e H' hk
end Go.L1
