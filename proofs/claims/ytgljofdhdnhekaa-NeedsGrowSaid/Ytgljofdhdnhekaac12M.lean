/- Plain: needs.Round finds a circle just if there is one. -/
import Derived.Test.Ytgljofdhdnhekaac12K
namespace Go.Proofs.Ytgljofdhdnhekaa.L
open Go.L1 Go.IntWalk
set_option linter.unusedVariables false
set_option linter.unusedSimpArgs false
set_option maxHeartbeats 4000000
inductive Topo (l : List Lib) : List ByteArray → Prop where
  | nil : Topo l []
  | cons {x : ByteArray} {L : List ByteArray} (h : Topo l L) (hx : x ∉ L) (he : ∀ y, Edge l x y → y ∈ L) : Topo l (x :: L)
theorem Topo.closed {l : List Lib} {L : List ByteArray} (h : Topo l L) {x y : ByteArray} (hx : x ∈ L) (e : Edge l x y) : y ∈ L := by
  induction h with
  | nil => cases hx
  | cons h hn he ih =>
    rcases List.mem_cons.1 hx with rfl | hx
    · exact List.mem_cons_of_mem _ (he _ e)
    · exact List.mem_cons_of_mem _ (ih hx)
theorem Topo.reach {l : List Lib} {L : List ByteArray} (h : Topo l L) {x y : ByteArray} (hx : x ∈ L) (e : Rch l x y) : y ∈ L := by
  induction e with
  | refl => exact hx
  | tail _ e ih => exact h.closed ih e
theorem Topo.none {l : List Lib} {L : List ByteArray} (h : Topo l L) {x y : ByteArray} (hx : x ∈ L) (e : Edge l x y) (k : Rch l y x) : False := by
  induction h with
  | nil => cases hx
  | cons h hn he ih =>
    rcases List.mem_cons.1 hx with rfl | hx
    · exact hn (h.reach (he _ e) k)
    · exact ih hx
def DS.busy (s : DS) (x : ByteArray) : Bool := s.isO x || s.isD x
def free (l : List Lib) (s : DS) : Nat := l.countP fun y => !s.busy y.name
theorem free_mono {l : List Lib} {s s' : DS} (h : ∀ x, s.busy x = true → s'.busy x = true) : free l s' ≤ free l s := by
  unfold free
  refine List.countP_mono_left fun y hy hp => ?_
  simp only [Bool.not_eq_true'] at hp ⊢
  cases hb : s.busy y.name with
  | false => rfl
  | true => rw [h _ hb] at hp; cases hp
theorem count_lt {α : Type} {p q : α → Bool} : ∀ {l : List α}, (∀ x ∈ l, p x = true → q x = true) → (∃ x ∈ l, q x = true ∧ p x = false) → l.countP p < l.countP q
  | [], _, ⟨x, hx, _⟩ => by cases hx
  | y :: l, h, ⟨x, hx, h1, h2⟩ => by
    rw [List.countP_cons, List.countP_cons]
    have hm : l.countP p ≤ l.countP q := List.countP_mono_left fun z hz => h z (List.mem_cons_of_mem _ hz)
    rcases List.mem_cons.1 hx with rfl | hx
    · simp [h1, h2]; omega
    · have := count_lt (fun z hz => h z (List.mem_cons_of_mem _ hz)) ⟨x, hx, h1, h2⟩
      have hy := h y (List.mem_cons_self ..)
      split
      · rename_i hp; rw [if_pos (hy hp)]; omega
      · split <;> omega
theorem isO_op (s : DS) (name x : ByteArray) (b : Bool) : DS.isO { s with op := mput s.op name b } x = if x = name then b else s.isO x := by
  unfold DS.isO; rw [mget_put]; split <;> rfl
/-- What a call leaves as it was, and what it may turn. -/
structure Kept (l : List Lib) (r : ByteArray) (s s' : DS) : Prop where
  o : ∀ x, s'.isO x = s.isO x
  d : ∀ x, s.isD x = true → s'.isD x = true
  nd : ∀ x, s'.isD x = true → s.isD x = true ∨ s.isO x = false
  cyc : s'.rd = true → s.rd = true ∨ Cyc l r
  rd : s'.rd = false → s.rd = false
  topo : s'.rd = false → ∀ L, (∀ x, s.isD x = true ↔ x ∈ L) → Topo l L → ∃ L', (∀ x, s'.isD x = true ↔ x ∈ L') ∧ Topo l L'
theorem Kept.refl {l : List Lib} {r : ByteArray} {s : DS} : Kept l r s s := ⟨fun _ => rfl, fun _ h => h, fun _ h => .inl h, .inl, id, fun _ L h1 h2 => ⟨L, h1, h2⟩⟩
theorem Kept.trans {l : List Lib} {r : ByteArray} {a b c : DS} (h : Kept l r a b) (k : Kept l r b c) : Kept l r a c := by
  refine ⟨fun x => (k.o x).trans (h.o x), fun x hx => k.d x (h.d x hx), fun x hx => ?_, fun hc => ?_, fun hc => h.rd (k.rd hc), fun hc L h1 h2 => ?_⟩
  · rcases k.nd x hx with hx | hx
    · exact h.nd x hx
    · right; rw [← h.o]; exact hx
  · rcases k.cyc hc with hc | hc
    · exact h.cyc hc
    · exact .inr hc
  · obtain ⟨L', h3, h4⟩ := h.topo (k.rd hc) L h1 h2
    exact k.topo hc L' h3 h4
theorem Kept.free {l : List Lib} {r : ByteArray} {s s' : DS} (h : Kept l r s s') : free l s' ≤ free l s := free_mono fun x hx => by
  unfold DS.busy at hx ⊢
  rw [h.o]
  cases ho : s.isO x with
  | true => rfl
  | false => rw [ho] at hx; exact h.d x hx
theorem dfs (l : List Lib) (r : ByteArray) : ∀ (f : Nat) (name : ByteArray) (st : DS), (findL l name).isSome = true → Rch l r name → st.isO name = false → st.isD name = false → (∀ x, st.isO x = true → Rch l x name) → free l st ≤ f →
    ∃ st', inS (tabS l) f name st = some st' ∧ Kept l r st st' ∧ st'.isD name = true := by
  intro f
  induction f with
  | zero =>
    intro name st hp hr ho hd hs hf
    exfalso
    obtain ⟨y, hy, hyn⟩ := List.mem_map.1 (findL_mem hp)
    have : 0 < free l st := List.countP_pos_iff.2 ⟨y, hy, by rw [hyn]; simp [DS.busy, ho, hd]⟩
    omega
  | succ f ih =>
    intro name st hp hr ho hd hs hf
    have hf1 : free l { st with op := mput st.op name true } ≤ f := by
      have : free l { st with op := mput st.op name true } < free l st := by
        obtain ⟨y, hy, hyn⟩ := List.mem_map.1 (findL_mem hp)
        refine count_lt (fun z hz hpz => ?_) ⟨y, hy, by rw [hyn]; simp [DS.busy, ho, hd], by rw [hyn]; unfold DS.busy; rw [isO_op, if_pos rfl]; rfl⟩
        unfold DS.busy at hpz ⊢
        rw [isO_op] at hpz
        by_cases e : z.name = name
        · rw [e, ho, hd]; rfl
        · rw [if_neg e] at hpz; exact hpz
      omega
    simp only [inS]
    rw [tab_get]
    obtain ⟨nd, hnd⟩ := Option.isSome_iff_exists.1 hp
    rw [hnd, Option.getD_some]
    have hgo : ∀ (rest : List ByteArray) (s1 : DS), (∀ s ∈ rest, s ∈ nd) → s1.isO name = true → (∀ x, s1.isO x = true → Rch l x name) → free l s1 ≤ f →
        ∃ s2, rest.foldlM (stepIn (tabS l) (inS (tabS l) f)) s1 = some s2 ∧ Kept l r s1 s2 ∧ (s2.rd = false → ∀ s ∈ rest, (findL l s).isSome = true → s2.isD s = true) := by
      intro rest
      induction rest with
      | nil => intro s1 _ _ _ _; exact ⟨s1, rfl, .refl, fun _ s hs => by cases hs⟩
      | cons s rest ihr =>
        intro s1 hsub hso hst hfr
        have hstep : ∃ s1', stepIn (tabS l) (inS (tabS l) f) s1 s = some s1' ∧ Kept l r s1 s1' ∧ (s1'.rd = false → (findL l s).isSome = true → s1'.isD s = true) := by
          unfold stepIn
          rw [tab_get]
          cases h1 : (findL l s).isSome with
          | false => exact ⟨s1, by simp, .refl, fun _ h => by cases h⟩
          | true =>
            have he : Edge l name s := ⟨by rw [hnd]; exact hsub s (List.mem_cons_self ..), h1⟩
            cases h2 : s1.isD s with
            | true => exact ⟨s1, by simp, .refl, fun _ _ => h2⟩
            | false =>
              cases h3 : s1.isO s with
              | true =>
                refine ⟨{ s1 with rd := true }, by simp, ⟨fun _ => rfl, fun _ h => h, fun _ h => .inl h, fun _ => .inr ?_, fun h => (by cases h), fun h => (by cases h)⟩, fun h => (by cases h)⟩
                exact ⟨name, s, hr, he, hst s h3⟩
              | false =>
                obtain ⟨s', q1, q2, q3⟩ := ih s s1 h1 (.tail hr he) h3 h2 (fun x hx => .tail (hst x hx) he) hfr
                exact ⟨s', by simpa using q1, q2, fun _ _ => q3⟩
        obtain ⟨s1', q1, q2, q3⟩ := hstep
        obtain ⟨s2, p1, p2, p3⟩ := ihr s1' (fun x hx => hsub x (List.mem_cons_of_mem _ hx)) (by rw [q2.o]; exact hso) (fun x hx => hst x (by rw [← q2.o]; exact hx)) (Nat.le_trans q2.free hfr)
        refine ⟨s2, by rw [List.foldlM_cons, q1]; exact p1, q2.trans p2, fun hrd x hx hfx => ?_⟩
        rcases List.mem_cons.1 hx with rfl | hx
        · exact p2.d _ (q3 (p2.rd hrd) hfx)
        · exact p3 hrd x hx hfx
    obtain ⟨s2, q1, q2, q3⟩ := hgo nd _ (fun s hs => hs) (by rw [isO_op, if_pos rfl]) (fun x hx => by
      rw [isO_op] at hx
      split at hx
      · rename_i e; subst e; exact .refl
      · exact hs x hx) hf1
    rw [q1]
    refine ⟨_, rfl, ⟨fun x => ?_, fun x hx => ?_, fun x hx => ?_, fun hc => q2.cyc hc, fun hc => q2.rd hc, fun hc L h1 h2 => ?_⟩, ?_⟩
    · show (mget (mput s2.op name false) x).getD false = st.isO x
      rw [mget_put]
      split
      · rename_i e; subst e; rw [ho]; rfl
      · rename_i e
        have := q2.o x
        rw [isO_op, if_neg e] at this
        exact this
    · show (mget (mput s2.dn name true) x).getD false = true
      rw [mget_put]
      split
      · rfl
      · exact q2.d x hx
    · have hx : (mget (mput s2.dn name true) x).getD false = true := hx
      rw [mget_put] at hx
      split at hx
      · rename_i e; subst e; exact .inr ho
      · rename_i e
        rcases q2.nd x hx with h | h
        · exact .inl h
        · rw [isO_op, if_neg e] at h; exact .inr h
    · obtain ⟨L', h3, h4⟩ := q2.topo hc L h1 h2
      have hnn : name ∉ L' := fun hm => by
        rcases q2.nd name ((h3 name).2 hm) with h | h
        · have h : st.isD name = true := h
          rw [hd] at h; cases h
        · rw [isO_op, if_pos rfl] at h; cases h
      refine ⟨name :: L', fun x => ?_, .cons h4 hnn fun y hy => ?_⟩
      · show (mget (mput s2.dn name true) x).getD false = true ↔ x ∈ name :: L'
        rw [mget_put, List.mem_cons]
        by_cases e : x = name
        · simp [e]
        · rw [if_neg e]
          simp only [e, false_or]
          exact h3 x
      · refine (h3 y).1 (q3 hc y ?_ hy.2)
        have := hy.1
        rw [hnd] at this
        exact this
    · show (mget (mput s2.dn name true) name).getD false = true
      rw [mget_put, if_pos rfl]; rfl
/-- needs.Round's answer. -/
theorem round_ok (l : List Lib) (root : ByteArray) (hr : (findL l root).isSome = true) : ∃ b, roundS' l root l.length = some b ∧ (b = true ↔ Cyc l root) := by
  have hw := rel_wk l root
  unfold roundS'
  rw [hw.names]
  have hnm : ∀ x ∈ (ofS l root).names, Rch l root x ∧ (findL l x).isSome = true := fun x hx => ⟨(names_iff hr).1 hx, (ofS_ok l root).within x hx⟩
  have hgo : ∀ (rest : List ByteArray) (s1 : DS), (∀ s ∈ rest, Rch l root s ∧ (findL l s).isSome = true) → (∀ x, s1.isO x = false) →
      ∃ s2, rest.foldlM (roundFo (tabS l) l.length) s1 = some s2 ∧ Kept l root s1 s2 ∧ ∀ s ∈ rest, s2.isD s = true := by
    intro rest
    induction rest with
    | nil => intro s1 _ _; exact ⟨s1, rfl, .refl, fun s hs => by cases hs⟩
    | cons s rest ihr =>
      intro s1 hsub hso
      have hstep : ∃ s1', roundFo (tabS l) l.length s1 s = some s1' ∧ Kept l root s1 s1' ∧ s1'.isD s = true := by
        unfold roundFo
        cases h2 : s1.isD s with
        | true => exact ⟨s1, by simp, .refl, h2⟩
        | false =>
          obtain ⟨s', q1, q2, q3⟩ := dfs l root l.length s s1 (hsub s (List.mem_cons_self ..)).2 (hsub s (List.mem_cons_self ..)).1 (hso s) h2 (fun x hx => by rw [hso x] at hx; cases hx) (List.countP_le_length ..)
          exact ⟨s', by simpa using q1, q2, q3⟩
      obtain ⟨s1', q1, q2, q3⟩ := hstep
      obtain ⟨s2, p1, p2, p3⟩ := ihr s1' (fun x hx => hsub x (List.mem_cons_of_mem _ hx)) (fun x => by rw [q2.o]; exact hso x)
      refine ⟨s2, by rw [List.foldlM_cons, q1]; exact p1, q2.trans p2, fun x hx => ?_⟩
      rcases List.mem_cons.1 hx with rfl | hx
      · exact p2.d _ q3
      · exact p3 x hx
  obtain ⟨s2, q1, q2, q3⟩ := hgo _ ds0 hnm (fun x => rfl)
  refine ⟨s2.rd, by rw [q1]; rfl, fun hc => ?_, fun hc => ?_⟩
  · rcases q2.cyc hc with h | h
    · cases h
    · exact h
  · cases hb : s2.rd with
    | true => rfl
    | false =>
      exfalso
      obtain ⟨L, h1, h2⟩ := q2.topo hb [] (fun x => by simp [DS.isD, ds0, mget]) .nil
      obtain ⟨x, y, k1, k2, k3⟩ := hc
      exact h2.none ((h1 x).1 (q3 x ((names_iff hr).2 k1))) k2 k3
theorem round_none (l : List Lib) (root : ByteArray) (hr : (findL l root).isSome = false) : roundS' l root l.length = some false ∧ rroundS l root = false := by
  have h : (ofS l root).names = [] := by unfold ofS; rw [hr, if_neg (by simp)]
  refine ⟨?_, ?_⟩
  · unfold roundS'; rw [(rel_wk l root).names, h]; rfl
  · unfold rroundS; rw [h]; rfl
theorem round_eq (l : List Lib) (root : ByteArray) : roundS' l root l.length = some (rroundS l root) := by
  cases hr : (findL l root).isSome with
  | false => rw [(round_none l root hr).1, (round_none l root hr).2]
  | true =>
    obtain ⟨b, h1, h2⟩ := round_ok l root hr
    rw [h1]
    congr 1
    rw [Bool.eq_iff_iff, h2, rround_iff hr]
end Go.Proofs.Ytgljofdhdnhekaa.L

