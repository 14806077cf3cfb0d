/- A region that draws its order does what it does in the text's order, if its plan holds: a step, and all. -/
import Derived.Test.YtokbhihfooaijaaL1P
import Derived.OrdersIn
namespace Go.L1
open Go.RowKit
set_option linter.unusedVariables false
set_option linter.unusedSimpArgs false
variable {C : Cx} {ρ : Rho} {H H' : Hp} {w : World} {σ : Env} {a : Act} {v : Value}
section
variable {q : FuncId → Bool} {call : Fns} {ops : Array Oper} {tr : List (Env × Hp)} {lo N : Nat} (hplan : Plan C.P q ops) (hq : QuietOk q call) (ht : traceOps C.P call ops ops.toList σ H = some tr)
  (hchk : ∀ p ∈ planOf C.P q ops, chk C.P call ops tr p)
include hplan ht
/-- What comes up next sees its own slots as in the text's order. -/
theorem On.looks {L : Nat → Prop} {w' : World} {ρ' : Rho} {k : Nat} {τ : Env} (h : On C lo q ops N tr ρ σ H w L a w' ρ' k τ) {i : Nat} {o : Oper} (ho : ops.toList[i]? = some o) (hi : ¬ L i)
    (hpre : ∀ e ∈ o.after.toList, Region.binds .any e = true → L e.on) : ∀ t ∈ Oper.looksAt ops o, τ t = (tr.getD i d0).1 t := by
  intro t htl
  have hil := (List.getElem?_eq_some_iff.1 ho).1
  have hsl := trace_slot ht hplan.once t i (by omega)
  by_cases hex : ∃ (j : Nat) (p : Oper), ops.toList[j]? = some p ∧ p.dst = some t
  · obtain ⟨j, p, hp, hd⟩ := hex
    have uniq : ∀ j' p', ops.toList[j']? = some p' → p'.dst = some t → j' = j := fun j' p' hp' hd' => once_spec hplan.once hp' hp hd' hd
    by_cases hij : i = j
    · subst hij
      rw [h.not t fun j' p' hp' hd' => by rw [uniq j' p' hp' hd']; exact hi, hsl.2 fun j' p' hp' hd' => by rw [uniq j' p' hp' hd']; exact Nat.le_refl _]
    · rcases hplan.slot i j o p t ho hp hij hd htl with ha | ha
      · obtain ⟨h1, h2⟩ := ahead_spec (D := L) hplan.lt i o ho h.closed hpre j ha
        rw [h.yes t j p hp hd h1, hsl.1 j p hp hd h2]
      · have hnl : ¬ L j := fun hj => hi (ahead_spec (D := L) hplan.lt j p hp h.closed (h.closed j p hp hj) i ha).1
        have hlt := ahead_lt hplan.lt hp ha
        rw [h.not t fun j' p' hp' hd' => by rw [uniq j' p' hp' hd']; exact hnl, hsl.2 fun j' p' hp' hd' => by rw [uniq j' p' hp' hd']; omega]
  · have none : ∀ (j : Nat) (p : Oper), ops.toList[j]? = some p → p.dst = some t → False := fun j p hp hd => hex ⟨j, p, hp, hd⟩
    rw [h.not t fun j p hp hd => (none j p hp hd).elim, hsl.2 fun j p hp hd => (none j p hp hd).elim]
include hq hchk
/-- What comes up next does what it does in the text's order; the cut behind it. -/
theorem On.step {L : Nat → Prop} {w' : World} {ρ' : Rho} {k : Nat} {τ : Env} (h : On C lo q ops N tr ρ σ H w L a w' ρ' k τ) {i : Nat} {o : Oper} (ho : ops.toList[i]? = some o) (hi : ¬ L i)
    (hpre : ∀ e ∈ o.after.toList, Region.binds .any e = true → L e.on) :
    ∃ k', k' ≤ ops.toList.length ∧ (∀ e p, ops.toList[e]? = some p → sortOf C.P q p.op = 2 → (e < k' ↔ L e ∨ e = i)) ∧
      ((Region.wanted o (yield1 ops τ) = true ∧ ∃ v, step1 C.P call o τ (tr.getD k d0).2 = some (.returned v, (tr.getD k' d0).2) ∧ (tr.getD (i + 1) d0).1 = put o.dst v (tr.getD i d0).1) ∨
       (Region.wanted o (yield1 ops τ) = false ∧ (tr.getD k' d0).2 = (tr.getD k d0).2 ∧ (tr.getD (i + 1) d0).1 = put o.dst undef (tr.getD i d0).1)) := by
  have hl := On.looks hplan ht h ho hi hpre
  have hw := wanted_congr (ops := ops) (o := o) hl
  have hst := fun H2 => congr_all (P := C.P) (call := call) (ops := ops) (o := o) hl H2
  rw [hw]
  simp only [hst]
  have hil := (List.getElem?_eq_some_iff.1 ho).1
  have hat := trace_at ht ho
  have ahi : ∀ e p, ops.toList[e]? = some p → ahead (masks ops.toList []) e i = true → L e ∧ e < i := fun e p hp ha => ahead_spec (D := L) hplan.lt i o ho h.closed hpre e ha
  have ihe : ∀ e p, ops.toList[e]? = some p → ahead (masks ops.toList []) i e = true → ¬ L e ∧ i < e := fun e p hp ha =>
    ⟨fun hL => hi (ahead_spec (D := L) hplan.lt e p hp h.closed (h.closed e p hp hL) i ha).1, ahead_lt hplan.lt hp ha⟩
  rcases sort_le C.P q o.op with hs | hs | hs
  · refine ⟨k, h.kle, fun e p hp h2 => ⟨fun hlt => .inl ((h.cut e p hp h2).1 hlt), fun hh => ?_⟩, ?_⟩
    · rcases hh with hh | rfl
      · exact (h.cut e p hp h2).2 hh
      · rw [ho] at hp; cases hp; rw [hs] at h2; cases h2
    · rcases hat with ⟨g1, v, g2, g3⟩ | ⟨g1, g2, g3⟩
      · exact .inl ⟨g1, v, (sort0 hs g2).2.2 _, g3⟩
      · exact .inr ⟨g1, rfl, g3⟩
  · refine ⟨k, h.kle, fun e p hp h2 => ⟨fun hlt => .inl ((h.cut e p hp h2).1 hlt), fun hh => ?_⟩, ?_⟩
    · rcases hh with hh | rfl
      · exact (h.cut e p hp h2).2 hh
      · rw [ho] at hp; cases hp; rw [hs] at h2; cases h2
    · rcases hat with ⟨g1, v, g2, g3⟩ | ⟨g1, g2, g3⟩
      · refine .inl ⟨g1, v, ?_, g3⟩
        have hni : (tr.getD (i + 1) d0).2 = (tr.getD i d0).2 := heap_next hq ht ho (by rw [hs]; decide)
        rw [hni] at g2
        -- at any cut next to a turn that doesn't wait
        have at_ : ∀ e p, ops.toList[e]? = some p → sortOf C.P q p.op = 2 → (e < i → ¬ L e) → (i < e → L e) → e ≠ i → step1 C.P call o (tr.getD i d0).1 (tr.getD (if e < i then e else e + 1) d0).2 = some (.returned v, (tr.getD (if e < i then e else e + 1) d0).2) := by
          intro e p hp h2 hlo hhi hne
          have hmem := mem_plan (P := C.P) (q := q) (ops := ops) ho hp hs h2 (fun ha => by
            obtain ⟨a1, a2⟩ := ihe e p hp ha
            exact a1 (hhi a2)) (fun ha => by
            obtain ⟨a1, a2⟩ := ahi e p hp ha
            exact hlo a2 a1)
          have hc := hchk _ hmem
          unfold chk at hc
          simp only [opAt_eq ho] at hc
          obtain ⟨e', H'', c1, c2⟩ := hc g1
          rw [g2] at c1
          cases c1
          exact c2
        by_cases hki : k ≤ i
        · rcases first_in (fun e => ∃ p, ops.toList[e]? = some p ∧ sortOf C.P q p.op = 2) k i with hno | ⟨e, e1, e2, ⟨p, hp, h2⟩, e4⟩
          · have := heap_cut hq ht hki (by omega) fun e p h1 h2 hp h3 => hno e h1 h2 ⟨p, hp, h3⟩
            rw [← this]; exact g2
          · have hcut := heap_cut hq ht e1 (by omega) fun e' p' h1 h2 hp' h3 => e4 e' h1 h2 ⟨p', hp', h3⟩
            have := at_ e p hp h2 (fun _ hL => by have := (h.cut e p hp h2).2 hL; omega) (fun hh => by omega) (by omega)
            rw [if_pos e2, hcut] at this
            exact this
        · rcases last_in (fun e => ∃ p, ops.toList[e]? = some p ∧ sortOf C.P q p.op = 2) i k with hno | ⟨e, e1, e2, ⟨p, hp, h2⟩, e4⟩
          · have := heap_cut hq ht (k := i) (m := k) (by omega) h.kle fun e p h1 h2 hp h3 => hno e h1 h2 ⟨p, hp, h3⟩
            rw [this]; exact g2
          · have hne : e ≠ i := fun hh => by subst hh; rw [ho] at hp; cases hp; rw [hs] at h2; cases h2
            have hcut := heap_cut hq ht (k := e + 1) (m := k) (by omega) h.kle fun e' p' h1 h2 hp' h3 => e4 e' (by omega) h2 ⟨p', hp', h3⟩
            have := at_ e p hp h2 (fun hh => by omega) (fun _ => (h.cut e p hp h2).1 e2) hne
            rw [if_neg (by omega), ← hcut] at this
            exact this
      · exact .inr ⟨g1, rfl, g3⟩
  · -- a turn: all turns ahead of it have come up, no later one
    have hcutL : ∀ e p, ops.toList[e]? = some p → sortOf C.P q p.op = 2 → e ≠ i → (L e ↔ e < i) := fun e p hp h2 hne => by
      rcases hplan.acts e i p o hp ho hne h2 hs with ha | ha
      · obtain ⟨a1, a2⟩ := ahi e p hp ha; exact ⟨fun _ => a2, fun _ => a1⟩
      · obtain ⟨a1, a2⟩ := ihe e p hp ha; exact ⟨fun hL => absurd hL a1, fun hlt => by omega⟩
    have hki : k ≤ i := by
      rcases Nat.lt_or_ge i k with hlt | hge
      · exact absurd ((h.cut i o ho hs).1 hlt) hi
      · exact hge
    have hheap : (tr.getD i d0).2 = (tr.getD k d0).2 := heap_cut hq ht hki (by omega) fun e p h1 h2 hp h3 => by
      have := (hcutL e p hp h3 (by omega)).2 h2
      have := (h.cut e p hp h3).2 this
      omega
    refine ⟨i + 1, by omega, fun e p hp h2 => ?_, ?_⟩
    · by_cases hne : e = i
      · subst hne; exact ⟨fun _ => .inr rfl, fun _ => Nat.lt_succ_self _⟩
      · exact ⟨fun hlt => .inl ((hcutL e p hp h2 hne).2 (by omega)), fun hh => by
          rcases hh with hh | hh
          · have := (hcutL e p hp h2 hne).1 hh; omega
          · exact absurd hh hne⟩
    · rcases hat with ⟨g1, v, g2, g3⟩ | ⟨g1, g2, g3⟩
      · exact .inl ⟨g1, v, by rw [← hheap]; exact g2, g3⟩
      · exact .inr ⟨g1, by rw [← hheap]; exact g2, g3⟩
omit hq ht hchk in
/-- The state behind it. -/
theorem On.next {L : Nat → Prop} {w' w'' : World} {ρ' ρ'' : Rho} {k k' : Nat} {τ : Env} {v v' : Value} {i : Nat} {o : Oper} (h : On C lo q ops N tr ρ σ H w L a w' ρ' k τ) (ho : ops.toList[i]? = some o) (hok : okOper N o = true) (hi : ¬ L i)
    (hpre : ∀ e ∈ o.after.toList, Region.binds .any e = true → L e.on) (hk : k' ≤ ops.toList.length) (hcut : ∀ e p, ops.toList[e]? = some p → sortOf C.P q p.op = 2 → (e < k' ↔ L e ∨ e = i))
    (hg : Good C ρ' (tr.getD k d0).2 w' ρ'' (tr.getD k' d0).2 w'') (hv : VR C (tr.getD k' d0).2.next ρ'' w'' v v') (hput : (tr.getD (i + 1) d0).1 = put o.dst v (tr.getD i d0).1) :
    On C lo q ops N tr ρ σ H w (fun j => L j ∨ j = i) (a.put o.dst v') w'' ρ'' k' (put o.dst v τ) := by
  refine ⟨h.good.trans hg, put_env h.size (dst_lt hok) (h.env.mono hg.more) hv, put_size h.size, (by rw [put_defers]; exact h.defers.good hg), hk, hcut, fun t hn => ?_, fun t j p hp hd hL => ?_, fun j p hp hL e he hb => ?_⟩
  · have hod : o.dst ≠ some t := fun hd => hn i o ho hd (.inr rfl)
    have e1 : put o.dst v τ t = τ t := by
      unfold put
      cases hdd : o.dst with
      | none => rfl
      | some d => simp only; rw [if_neg]; intro e; subst e; exact hod hdd
    rw [e1]
    exact h.not t fun j p hp hd hL => hn j p hp hd (.inl hL)
  · by_cases hji : j = i
    · subst hji
      rw [ho] at hp
      cases hp
      rw [hput]
      unfold put
      rw [hd]
      simp
    · have hLj : L j := hL.resolve_right hji
      have hod : o.dst ≠ some t := fun hd' => hji (once_spec hplan.once hp ho hd hd')
      have e1 : put o.dst v τ t = τ t := by
        unfold put
        cases hdd : o.dst with
        | none => rfl
        | some d => simp only; rw [if_neg]; intro e; subst e; exact hod hdd
      rw [e1]
      exact h.yes t j p hp hd hLj
  · rcases hL with hL | hL
    · exact .inl (h.closed j p hp hL e he hb)
    · subst hL
      rw [ho] at hp
      cases hp
      exact .inl (hpre e he hb)
/-- In whatever order they come up. -/
theorem any_ok (ro : Option Nat) (hcall : FnsOk C call) (hok : ops.toList.all (okOper N) = true) {Q : Exit → Act → World → Prop} (hQ : Ends C lo N ρ H w (.normal, (tr.getD ops.toList.length d0)) Q) :
    ∀ (fuel : Nat) (listed : Array Bool) (rem : List Nat) (a : Act) (w' : World) (ρ' : Rho) (k : Nat) (τ : Env), listed.size = ops.size → rem.length = fuel → rem.Nodup → (∀ j, j < ops.size → (j ∈ rem ↔ listed.getD j false = false)) →
      On C lo q ops N tr ρ σ H w (fun j => listed.getD j false = true) a w' ρ' k τ → wpAnyIn (FR ro) 0 C.P .any ops Q fuel listed a w' := by
  have hlen : ops.toList.length = ops.size := Array.length_toList
  -- none ready: all have come up
  have done : ∀ (listed : Array Bool) (a : Act) (w' : World) (ρ' : Rho) (k : Nat) (τ : Env), listed.size = ops.size → On C lo q ops N tr ρ σ H w (fun j => listed.getD j false = true) a w' ρ' k τ → Region.ready .any ops listed = [] → (∀ j, j < ops.size → listed.getD j false = true) ∧ Q .normal a w' := by
    intro listed a w' ρ' k τ hsz h hr
    have all : ∀ j, j < ops.size → listed.getD j false = true := by
      intro j
      induction j using Nat.strongRecOn with
      | _ j ih =>
        intro hj
        cases hlj : listed.getD j false with
        | true => rfl
        | false =>
          exfalso
          have hjl : j < ops.toList.length := by omega
          have ho : ops[j]? = some ops.toList[j] := by rw [← Array.getElem?_toList]; exact List.getElem?_eq_getElem hjl
          have hmem : j ∈ Region.ready .any ops listed := by
            rw [mem_ready]
            refine ⟨?_, _, ho, fun e he hb => ?_⟩
            · have : j < listed.size := by omega
              simp only [Array.getD, this, dif_pos] at hlj ⊢
              exact hlj
            · have := hplan.lt j _ (by rw [Array.getElem?_toList]; exact ho) e (by simpa using he) hb
              exact ih e.on this (by omega)
          rw [hr] at hmem
          cases hmem
    refine ⟨all, ?_⟩
    have hτ : τ = (tr.getD ops.toList.length d0).1 := by
      funext t
      have hsl := trace_slot ht hplan.once t ops.toList.length (Nat.le_refl _)
      by_cases hex : ∃ (j : Nat) (p : Oper), ops.toList[j]? = some p ∧ p.dst = some t
      · obtain ⟨j, p, hp, hd⟩ := hex
        have hj := (List.getElem?_eq_some_iff.1 hp).1
        rw [h.yes t j p hp hd (all j (by omega)), hsl.1 j p hp hd hj]
      · have none : ∀ (j : Nat) (p : Oper), ops.toList[j]? = some p → p.dst = some t → False := fun j p hp hd => hex ⟨j, p, hp, hd⟩
        rw [h.not t fun j p hp hd => (none j p hp hd).elim, hsl.2 fun j p hp hd => (none j p hp hd).elim]
    have hH := heap_cut hq ht h.kle (Nat.le_refl _) fun e p h1 h2 hp h3 => by
      have := (h.cut e p hp h3).2 (all e (by omega))
      omega
    refine hQ a w' ρ' ?_ ?_ h.size (by show Mk lo ρ' (tr.getD ops.toList.length d0).2 w' a.defers; rw [hH]; exact h.defers)
    · show Good C ρ H w ρ' (tr.getD ops.toList.length d0).2 w'
      rw [hH]; exact h.good
    · show EnvR C (tr.getD ops.toList.length d0).2.next ρ' w' (tr.getD ops.toList.length d0).1 a
      rw [hH, ← hτ]; exact h.env
  intro fuel
  induction fuel with
  | zero =>
    intro listed rem a w' ρ' k τ hsz hrem hnd hmem h
    have hnil : rem = [] := List.length_eq_zero_iff.1 hrem
    subst hnil
    have hr : Region.ready .any ops listed = [] := by
      rw [List.eq_nil_iff_forall_not_mem]
      intro j hj
      obtain ⟨h1, o, ho, _⟩ := mem_ready.1 hj
      have hjs := (Array.getElem?_eq_some_iff.1 ho).1
      have := (hmem j hjs).2 (by
        have hj2 : j < listed.size := by omega
        simp only [Array.getD, hj2, dif_pos] at h1 ⊢
        exact h1)
      cases this
    exact ⟨hr, (done listed a w' ρ' k τ hsz h hr).2⟩
  | succ fuel ih =>
    intro listed rem a w' ρ' k τ hsz hrem hnd hmem h
    refine ⟨fun hr => (done listed a w' ρ' k τ hsz h hr).2, fun i hi => ?_⟩
    obtain ⟨h1, o, ho, hpre⟩ := mem_ready.1 hi
    have his := (Array.getElem?_eq_some_iff.1 ho).1
    have hil : i < listed.size := by omega
    have hif : listed.getD i false = false := by simp only [Array.getD, hil, dif_pos] at h1 ⊢; exact h1
    have hni : ¬ listed.getD i false = true := by rw [hif]; simp
    have hol : ops.toList[i]? = some o := by rw [Array.getElem?_toList]; exact ho
    have hoo : okOper N o = true := List.all_eq_true.1 hok o (List.mem_of_getElem? hol)
    have hxx : o.op.operands.toList.all okX = true := by simp only [okOper, Bool.and_eq_true] at hoo; exact hoo.2
    have hpre' : ∀ e ∈ o.after.toList, Region.binds .any e = true → listed.getD e.on false = true := fun e he hb => hpre e (by simpa using he) hb
    obtain ⟨k', hk', hcut, hcase⟩ := On.step hplan hq ht hchk h hol hni hpre'
    -- the next state, told by the list
    have next : ∀ (a2 : Act) (w2 : World) (ρ2 : Rho) (τ2 : Env), On C lo q ops N tr ρ σ H w (fun j => listed.getD j false = true ∨ j = i) a2 w2 ρ2 k' τ2 → wpAnyIn (FR ro) 0 C.P .any ops Q fuel (listed.setIfInBounds i true) a2 w2 := by
      intro a2 w2 ρ2 τ2 h2
      have hL : (fun j => listed.getD j false = true ∨ j = i) = fun j => (listed.setIfInBounds i true).getD j false = true := by
        funext j
        apply propext
        by_cases hji : j = i
        · subst hji
          simp [Array.getD, hil]
        · rw [getD_set_ne false (Ne.symm hji)]
          simp [hji]
      rw [hL] at h2
      have himem : i ∈ rem := (hmem i his).2 hif
      refine ih _ (rem.erase i) a2 w2 ρ2 k' τ2 (by simpa using hsz) (by rw [List.length_erase_of_mem himem]; omega) (hnd.erase i) (fun j hj => ?_) h2
      rw [List.Nodup.mem_erase_iff hnd]
      by_cases hji : j = i
      · subst hji
        simp [Array.getD, hil]
      · rw [getD_set_ne false (Ne.symm hji)]
        simp only [hmem j hj, ne_eq, hji, not_false_eq_true, true_and]
    unfold Go.wpOpIn
    simp only [ho]
    have hy : yielded ops a.tmps = yield1 ops τ := (yield_eq h.env).symm
    rw [hy]
    rcases hcase with ⟨g1, v, g2, g3⟩ | ⟨g1, g2, g3⟩
    · rw [if_pos g1]
      refine step_ok hcall h.good.hr h.env hxx g2 (fun u ρ2 w2 v' hu hg hv => ?_) (fun ch ρ2 w2 hu => by cases hu) ro
      cases hu
      exact next _ _ ρ2 _ (On.next hplan h hol hoo hni hpre' hk' hcut hg hv g3)
    · rw [if_neg (by rw [g1]; simp)]
      have hg : Good C ρ' (tr.getD k d0).2 w' ρ' (tr.getD k' d0).2 w' := by rw [g2]; exact Good.refl h.good.hr
      exact ⟨fun _ _ => trivial, next _ _ ρ' _ (On.next hplan h hol hoo hni hpre' hk' hcut hg VR.undef g3)⟩
end
theorem load_new {P : Program} {t : TypeId} {v r : Value} {H : Hp} {x : Ob} (hn : H.get H.next = none) (h : loadAt P t v H = some r) : loadAt P t v (H.new x) = some r := by
  unfold loadAt at h ⊢
  split at h
  · rename_i i off
    have hne : i ≠ H.next := fun e => by subst e; rw [hn] at h; cases h
    have e : (H.new x).get i = H.get i := by show (if i = H.next then some x else H.get i) = _; rw [if_neg hne]
    simp only [e]
    exact h
  · simpa using h
  · cases h
theorem fresh_chk {q : FuncId → Bool} {call : Fns} {ops : Array Oper} {tr : List (Env × Hp)} (hq : QuietOk q call) (ht : traceOps C.P call ops ops.toList σ H = some tr) (hn : H.get H.next = none) {p : Nat × Nat} (hp : p ∈ planOf C.P q ops) (hf : fresh1 C.P q ops.toList p = true) : chk C.P call ops tr p := by
  obtain ⟨i, e⟩ := p
  unfold fresh1 at hf
  simp only [Bool.and_eq_true, decide_eq_true_eq] at hf
  obtain ⟨⟨⟨hie, hl⟩, hb⟩, hno⟩ := hf
  have hmem := (List.mem_filter.1 hp).1
  unfold pairsOf at hmem
  obtain ⟨i', hi', hm2⟩ := List.mem_flatMap.1 hmem
  obtain ⟨e', he', hpe⟩ := List.mem_map.1 hm2
  cases hpe
  have hiL := List.mem_range.1 hi'
  have heL := List.mem_range.1 he'
  have ho1 := List.getElem?_eq_getElem hiL
  have ho2 := List.getElem?_eq_getElem heL
  rw [opAt_eq ho1] at hl
  rw [opAt_eq ho2] at hb
  have hno' : ∀ j o, j < e → ops.toList[j]? = some o → sortOf C.P q o.op ≠ 2 := fun j o hj ho h2 => by
    have := List.all_eq_true.1 hno j (List.mem_range.2 hj)
    rw [opAt_eq ho, h2] at this
    cases this
  have htl := trace_len ht
  have h0 : (tr.getD 0 d0).2 = H := by rw [htl.2]
  have hi0 : (tr.getD i d0).2 = H := (heap_cut hq ht (Nat.zero_le _) (by omega) fun j o _ hj ho => hno' j o (by omega) ho).trans h0
  have he0 : (tr.getD e d0).2 = H := (heap_cut hq ht (Nat.zero_le _) (by omega) fun j o _ hj ho => hno' j o hj ho).trans h0
  have hx : (tr.getD (e + 1) d0).2 = H ∨ ∃ x, (tr.getD (e + 1) d0).2 = H.new x := by
    rcases trace_at ht ho2 with ⟨_, v, g2, _⟩ | ⟨_, g2, _⟩
    · rw [he0] at g2
      generalize ops.toList[e] = o2 at hb g2
      obtain ⟨d, op, ty, pos, af, gd⟩ := o2
      cases op <;> first | (simp at hb; done) | skip
      simp only [step1, op1] at g2
      obtain ⟨⟨u, H2⟩, g3, g4⟩ := Option.map_eq_some_iff.1 g2
      obtain ⟨_, _, g5⟩ := Option.bind_eq_some_iff.1 g3
      obtain ⟨_, _, g6⟩ := Option.bind_eq_some_iff.1 g5
      obtain ⟨_, _, g7⟩ := Option.bind_eq_some_iff.1 g6
      split at g7
      · obtain ⟨l, _, g8⟩ := Option.map_eq_some_iff.1 g7
        right
        have e1 := (Prod.mk.inj g4).2
        have e2 := (Prod.mk.inj g8).2
        exact ⟨_, e1.symm.trans e2.symm⟩
      · cases g7
    · left; rw [g2, he0]
  unfold chk
  simp only [opAt_eq ho1]
  rw [if_neg (by omega)]
  intro g1
  rcases trace_at ht ho1 with ⟨_, v, g2, _⟩ | ⟨g2, _, _⟩
  · rw [hi0] at g2 ⊢
    have hH : (tr.getD (i + 1) d0).2 = H := (heap_cut hq ht (Nat.zero_le _) (by omega) fun j o _ hj ho => hno' j o (by omega) ho).trans h0
    rw [hH] at g2
    refine ⟨_, _, g2, ?_⟩
    rcases hx with hx | ⟨x, hx⟩
    · rw [hx]; exact g2
    · rw [hx]
      generalize ops.toList[i] = o1 at hl g2
      obtain ⟨d, op, ty, pos, af, gd⟩ := o1
      cases op <;> first | (simp at hl; done) | skip
      simp only [step1, op1] at g2 ⊢
      obtain ⟨⟨u, H2⟩, g3, g4⟩ := Option.map_eq_some_iff.1 g2
      obtain ⟨r, g5, g6⟩ := Option.map_eq_some_iff.1 g3
      cases g6
      have := (Prod.mk.inj g4).1
      rw [load_new hn g5]
      simp [this]
  · rw [g1] at g2; cases g2
theorem draw_ok (ro : Option Nat) {lo : Nat} {q : FuncId → Bool} {call : Fns} {ops : Array Oper} {N id : Nat} (hm : C.P.follows .mixedOrders = true) (hcall : FnsOk C call) (hq : QuietOk q call) (hok : ops.toList.all (okOper N) = true) (hr : HR C ρ H w) (he : EnvR C H.next ρ w σ a) (hN : a.tmps.size = N) (hd : Mk lo ρ H w a.defers)
    {r : Exit × Env × Hp} (h : execDraw C.P q call ops σ H = some r) {Q : Exit → Act → World → Prop} (hQ : Ends C lo N ρ H w r Q) : (Code.region id ops true).wpIn (FR ro) 0 C.P Q a w := by
  unfold execDraw at h
  split at h
  · rename_i hp
    have hplan := plan_of hp
    obtain ⟨tr, ht, h2⟩ := Option.bind_eq_some_iff.1 h
    split at h2
    · rename_i hchk0
      cases h2
      have hn : H.get H.next = none := by
        cases hg : H.get H.next with
        | none => rfl
        | some o => exact absurd (hr.ob _ _ hg).1 (Nat.lt_irrefl _)
      have hchk : ∀ p ∈ planOf C.P q ops, chk C.P call ops tr p := fun p hp => by
        cases hf : fresh1 C.P q ops.toList p with
        | true => exact fresh_chk hq ht hn hp hf
        | false => exact hchk0 p (List.mem_filter.2 ⟨hp, by rw [hf]; rfl⟩)
      have hD : Good C ρ H w ρ H { w with drawn := w.drawn + 1 } := hr.drew rfl ⟨rfl, rfl, rfl⟩
      have hlen : ops.toList.length = ops.size := Array.length_toList
      have htl := trace_len ht
      have hlast : tr.getLastD (σ, H) = tr.getD ops.toList.length d0 := by
        cases tr with
        | nil => simp at htl
        | cons x tr =>
          rw [List.getLastD_cons, List.getD_eq_getElem?_getD]
          simp only [List.length_cons] at htl
          have hl : ops.toList.length = tr.length := by omega
          rw [hl]
          cases tr with
          | nil => rfl
          | cons y tr => simp [List.getLastD_eq_getLast?, List.getLast?_eq_getElem?]
      rw [hlast] at hQ
      refine wpIn_region_any hm (any_ok hplan hq ht hchk ro hcall hok (hQ) ops.size _ (List.range ops.size) a _ ρ 0 σ (by simp) (by simp) List.nodup_range (fun j hj => ?_) ⟨?_, ?_, hN, by rw [htl.2]; exact hd.good hD, Nat.zero_le _, fun e o ho h2 => ?_, fun t _ => rfl, fun t j o ho hd hL => ?_, fun j o ho hL => ?_⟩)
      · simp [Array.getD, hj]
      · rw [htl.2]; exact hD
      · rw [htl.2]; exact he.mono hD.more
      · have hes := (List.getElem?_eq_some_iff.1 ho).1
        have hes' : e < ops.size := by omega
        simp [Array.getD, hes']
      · exfalso
        have hes := (List.getElem?_eq_some_iff.1 ho).1
        have hes' : j < ops.size := by omega
        simp [Array.getD, hes'] at hL
      · exfalso
        have hes := (List.getElem?_eq_some_iff.1 ho).1
        have hes' : j < ops.size := by omega
        simp [Array.getD, hes'] at hL
    · cases h2
  · cases h
end Go.L1
