/- Plain: what is cut, protected, covered; the row of pages. -/
import Derived.Test.Ytnlgindlmlbfiaac15J
namespace Go.Proofs.Ytnlgindlmlbfiaa.L
open Go.L1 Go.IntWalk
set_option linter.unusedVariables false
set_option linter.unusedSimpArgs false
set_option maxHeartbeats 4000000
theorem put_mem {acc : List Rg} {r a : Rg} (h : a ∈ putS acc r) : a ∈ acc ∨ (r.f < r.t ∧ a.t = r.t) := by
  unfold putS at h
  by_cases h0 : r.f ≥ r.t
  · rw [if_pos h0] at h; exact .inl h
  · rw [if_neg h0] at h
    split at h
    · rw [List.mem_singleton.1 h]; exact .inr ⟨by omega, rfl⟩
    · rename_i x hx
      split at h
      · rcases List.mem_append.1 h with h | h
        · exact .inl (List.dropLast_subset _ h)
        · rw [List.mem_singleton.1 h]; exact .inr ⟨by omega, rfl⟩
      · rcases List.mem_append.1 h with h | h
        · exact .inl h
        · rw [List.mem_singleton.1 h]; exact .inr ⟨by omega, rfl⟩
theorem part_may {x : Rg} (hx : may x = true) {a b : Int} (h1 : x.f ≤ a) (h2 : a < b) (h3 : b ≤ x.t) : may (part x a b) = true ∧ tagOf (part x a b) = tagOf x := by
  have h := (may_iff x).1 hx
  have e1 : IntKind.i64.wrap (a - x.f) = a - x.f := i64_in _ (by omega)
  have e2 : x.k = 1 → IntKind.i64.wrap (x.g + (a - x.f)) = x.g + (a - x.f) := fun hk => i64_in _ (by omega)
  refine ⟨?_, ?_⟩
  · rw [may_iff]
    unfold part
    simp only
    by_cases hk : x.k = 1
    · rw [if_pos hk, e1, e2 hk]; omega
    · rw [if_neg hk]; omega
  · rw [tag_iff]
    unfold part
    simp only
    refine ⟨trivial, trivial, trivial, ?_⟩
    by_cases hk : x.k = 1
    · rw [if_pos hk, if_pos hk, if_pos hk, e1, e2 hk]; omega
    · rw [if_neg hk, if_neg hk]
theorem in_part (x : Rg) (a b p : Int) : In (part x a b) p ↔ a ≤ p ∧ p < b := Iff.rfl
theorem cut_can {f t : Int} : ∀ {l acc : List Rg}, Can l → Can acc → (∀ a ∈ acc, ∀ x ∈ l, a.t ≤ x.f) → Can (cutGo f t l acc) ∧ ∀ p v, Has (cutGo f t l acc) p v ↔ Has acc p v ∨ (Has l p v ∧ ¬ (f ≤ p ∧ p < t))
  | [], acc, _, ha, _ => ⟨ha, fun p v => by simp [cutGo, Has.nil]⟩
  | x :: l, acc, hl, ha, hb => by
    have hx := hl.pos (List.mem_cons_self ..)
    have hxm := hl.may x (List.mem_cons_self ..)
    have hax : ∀ a ∈ acc, a.t ≤ x.f := fun a hm => hb a hm x (List.mem_cons_self ..)
    unfold cutGo
    by_cases hc : f ≥ t ∨ x.t ≤ f ∨ x.f ≥ t
    · rw [if_pos hc]
      obtain ⟨q1, q2, _⟩ := put_can ha (r := x) (fun _ => hxm) hax
      obtain ⟨t1, t2⟩ := cut_can (f := f) (t := t) hl.tail q1 (fun a hm y hy => by
        have hy' := (hl.ahead y hy).1
        rcases put_mem hm with h | ⟨_, h⟩
        · have := hax a h; omega
        · omega)
      refine ⟨t1, fun p v => ?_⟩
      rw [t2, q2, Has.cons]
      have hno : In x p → ¬ (f ≤ p ∧ p < t) := fun hi => by unfold In at hi; omega
      constructor
      · rintro ((h | h) | h)
        · exact .inl h
        · exact .inr ⟨.inl h, hno h.1⟩
        · exact .inr ⟨.inr h.1, h.2⟩
      · rintro (h | ⟨h | h, h'⟩)
        · exact .inl (.inl h)
        · exact .inl (.inr h)
        · exact .inr ⟨h, h'⟩
    · rw [if_neg hc]
      obtain ⟨q1, q2, _⟩ := put_can ha (r := part x x.f f) (fun (h : x.f < f) => (part_may hxm (Int.le_refl _) h (by omega)).1) hax
      obtain ⟨r1, r2, _⟩ := put_can q1 (r := part x t x.t) (fun (h : t < x.t) => (part_may hxm (by omega) h (Int.le_refl _)).1) (fun a hm => by
        show a.t ≤ t
        rcases put_mem hm with h | ⟨_, h⟩
        · have := hax a h; omega
        · have : a.t = f := h; omega)
      obtain ⟨t1, t2⟩ := cut_can (f := f) (t := t) hl.tail r1 (fun a hm y hy => by
        have hy' := (hl.ahead y hy).1
        rcases put_mem hm with h | ⟨_, h⟩
        · rcases put_mem h with h | ⟨_, h⟩
          · have := hax a h; omega
          · have : a.t = f := h; omega
        · have : a.t = x.t := h; omega)
      refine ⟨t1, fun p v => ?_⟩
      rw [t2, r2, q2, Has.cons, in_part, in_part]
      have g1 : x.f < f → tagOf (part x x.f f) = tagOf x := fun h => (part_may hxm (Int.le_refl _) h (by omega)).2
      have g2 : t < x.t → tagOf (part x t x.t) = tagOf x := fun h => (part_may hxm (by omega) h (Int.le_refl _)).2
      constructor
      · rintro (((h | ⟨h, h'⟩) | ⟨h, h'⟩) | h)
        · exact .inl h
        · exact .inr ⟨.inl ⟨⟨h.1, by omega⟩, (g1 (by omega)) ▸ h'⟩, by omega⟩
        · exact .inr ⟨.inl ⟨⟨by omega, h.2⟩, (g2 (by omega)) ▸ h'⟩, by omega⟩
        · exact .inr ⟨.inr h.1, h.2⟩
      · rintro (h | ⟨⟨⟨h1, h2⟩, h3⟩ | h, h'⟩)
        · exact .inl (.inl (.inl h))
        · by_cases hp : p < f
          · exact .inl (.inl (.inr ⟨⟨h1, hp⟩, (g1 (by omega)).trans h3⟩))
          · exact .inl (.inr ⟨⟨by omega, h2⟩, (g2 (by omega)).trans h3⟩)
        · exact .inr ⟨h, h'⟩
def perV (p f t q : Int) (w : Int × Int × Int × Int) : Int × Int × Int × Int := if f ≤ q ∧ q < t then (p, w.2) else w
theorem prot_can {p f t : Int} (hp : 0 ≤ p ∧ p ≤ 7) : ∀ {l acc : List Rg}, Can l → Can acc → (∀ a ∈ acc, ∀ x ∈ l, a.t ≤ x.f) → Can (protGo p f t l acc) ∧ ∀ q v, Has (protGo p f t l acc) q v ↔ Has acc q v ∨ ∃ w, Has l q w ∧ perV p f t q w = v
  | [], acc, _, ha, _ => ⟨ha, fun q v => by simp [protGo, Has.nil]⟩
  | x :: l, acc, hl, ha, hb => by
    have hx := hl.pos (List.mem_cons_self ..)
    have hxm := hl.may x (List.mem_cons_self ..)
    have hax : ∀ a ∈ acc, a.t ≤ x.f := fun a hm => hb a hm x (List.mem_cons_self ..)
    unfold protGo
    by_cases hc : max x.f f ≥ min x.t t
    · rw [if_pos hc]
      obtain ⟨q1, q2, _⟩ := put_can ha (r := x) (fun _ => hxm) hax
      obtain ⟨t1, t2⟩ := prot_can (f := f) (t := t) hp hl.tail q1 (fun a hm y hy => by
        have hy' := (hl.ahead y hy).1
        rcases put_mem hm with h | ⟨_, h⟩
        · have := hax a h; omega
        · omega)
      refine ⟨t1, fun q v => ?_⟩
      rw [t2, q2]
      have hno : In x q → ∀ w, perV p f t q w = w := fun hi w => by unfold In at hi; exact if_neg (by omega)
      constructor
      · rintro ((h | h) | ⟨w, h, h'⟩)
        · exact .inl h
        · exact .inr ⟨v, Has.cons.2 (.inl h), hno h.1 v⟩
        · exact .inr ⟨w, Has.cons.2 (.inr h), h'⟩
      · rintro (h | ⟨w, h, h'⟩)
        · exact .inl (.inl h)
        · rcases Has.cons.1 h with h | h
          · rw [hno h.1] at h'; subst h'; exact .inl (.inr h)
          · exact .inr ⟨w, h, h'⟩
    · rw [if_neg hc]
      have hmid : may (perm (part x (max x.f f) (min x.t t)) p) = true ∧ tagOf (perm (part x (max x.f f) (min x.t t)) p) = (p, (tagOf x).2) := by
        obtain ⟨m1, m2⟩ := part_may hxm (a := max x.f f) (b := min x.t t) (by omega) (by omega) (by omega)
        refine ⟨?_, ?_⟩
        · rw [may_iff] at m1 ⊢
          unfold perm
          simp only at m1 ⊢
          omega
        · rw [← m2]; rfl
      obtain ⟨q1, q2, _⟩ := put_can ha (r := part x x.f (max x.f f)) (fun (h : x.f < max x.f f) => (part_may hxm (Int.le_refl _) h (by omega)).1) hax
      obtain ⟨s1, s2, _⟩ := put_can q1 (r := perm (part x (max x.f f) (min x.t t)) p) (fun _ => hmid.1) (fun a hm => by
        show a.t ≤ max x.f f
        rcases put_mem hm with h | ⟨_, h⟩
        · have := hax a h; omega
        · have : a.t = max x.f f := h; omega)
      obtain ⟨r1, r2, _⟩ := put_can s1 (r := part x (min x.t t) x.t) (fun (h : min x.t t < x.t) => (part_may hxm (by omega) h (Int.le_refl _)).1) (fun a hm => by
        show a.t ≤ min x.t t
        rcases put_mem hm with h | ⟨_, h⟩
        · rcases put_mem h with h | ⟨_, h⟩
          · have := hax a h; omega
          · have : a.t = max x.f f := h; omega
        · have : a.t = min x.t t := h; omega)
      obtain ⟨t1, t2⟩ := prot_can (f := f) (t := t) hp hl.tail r1 (fun a hm y hy => by
        have hy' := (hl.ahead y hy).1
        rcases put_mem hm with h | ⟨_, h⟩
        · rcases put_mem h with h | ⟨_, h⟩
          · rcases put_mem h with h | ⟨_, h⟩
            · have := hax a h; omega
            · have : a.t = max x.f f := h; omega
          · have : a.t = min x.t t := h; omega
        · have : a.t = x.t := h; omega)
      refine ⟨t1, fun q v => ?_⟩
      have g1 : x.f < max x.f f → tagOf (part x x.f (max x.f f)) = tagOf x := fun h => (part_may hxm (Int.le_refl _) h (by omega)).2
      have g2 : min x.t t < x.t → tagOf (part x (min x.t t) x.t) = tagOf x := fun h => (part_may hxm (by omega) h (Int.le_refl _)).2
      rw [t2, r2, s2, q2, hmid.2]
      have i2 : In (perm (part x (max x.f f) (min x.t t)) p) q ↔ max x.f f ≤ q ∧ q < min x.t t := Iff.rfl
      rw [in_part, in_part, i2]
      constructor
      · rintro ((((h | ⟨h, h'⟩) | ⟨h, h'⟩) | ⟨h, h'⟩) | ⟨w, h, h'⟩)
        · exact .inl h
        · exact .inr ⟨v, Has.cons.2 (.inl ⟨⟨h.1, by omega⟩, (g1 (by omega)) ▸ h'⟩), if_neg (by omega)⟩
        · exact .inr ⟨tagOf x, Has.cons.2 (.inl ⟨⟨by omega, by omega⟩, rfl⟩), by unfold perV; rw [if_pos (by omega)]; exact h'⟩
        · exact .inr ⟨v, Has.cons.2 (.inl ⟨⟨by omega, h.2⟩, (g2 (by omega)) ▸ h'⟩), if_neg (by omega)⟩
        · exact .inr ⟨w, Has.cons.2 (.inr h), h'⟩
      · rintro (h | ⟨w, h, h'⟩)
        · exact .inl (.inl (.inl (.inl h)))
        · rcases Has.cons.1 h with ⟨⟨h1, h2⟩, rfl⟩ | h
          · unfold perV at h'
            split at h'
            · exact .inl (.inl (.inr ⟨by omega, h'⟩))
            · by_cases hq : q < f
              · exact .inl (.inl (.inl (.inr ⟨by omega, (g1 (by omega)).trans h'⟩)))
              · exact .inl (.inr ⟨by omega, (g2 (by omega)).trans h'⟩)
          · exact .inr ⟨w, h, h'⟩
theorem covers_go {t : Int} : ∀ {l : List Rg} {at_ : Int}, Can l → (coversGo t l at_ ≥ t ↔ ∀ q, at_ ≤ q → q < t → ∃ v, Has l q v)
  | [], at_, _ => by
    unfold coversGo
    constructor
    · intro h q h1 h2; omega
    · intro h
      apply Classical.byContradiction
      intro hn
      obtain ⟨v, hv⟩ := h at_ (Int.le_refl _) (by omega)
      exact Has.nil hv
  | x :: l, at_, hl => by
    have hx := hl.pos (List.mem_cons_self ..)
    unfold coversGo
    by_cases h1 : at_ ≥ t
    · rw [if_pos (.inl h1)]
      exact ⟨fun _ q h2 h3 => by omega, fun _ => h1⟩
    · by_cases h2 : x.f > at_
      · rw [if_pos (.inr h2)]
        refine ⟨fun h => absurd h h1, fun h => ?_⟩
        obtain ⟨v, y, hy, hi, _⟩ := h at_ (Int.le_refl _) (by omega)
        rcases List.mem_cons.1 hy with rfl | hy
        · unfold In at hi; omega
        · have := (hl.ahead y hy).1; unfold In at hi; omega
      · rw [if_neg (by omega), covers_go hl.tail]
        constructor
        · intro h q h3 h4
          by_cases h5 : q < x.t
          · exact ⟨_, Has.cons.2 (.inl ⟨⟨by omega, h5⟩, rfl⟩)⟩
          · obtain ⟨v, hv⟩ := h q (by omega) h4
            exact ⟨v, Has.cons.2 (.inr hv)⟩
        · intro h q h3 h4
          obtain ⟨v, hv⟩ := h q (by omega) h4
          rcases Has.cons.1 hv with ⟨hv, _⟩ | hv
          · unfold In at hv; omega
          · exact ⟨v, hv⟩
theorem covers_iff {l : List Rg} (hl : Can l) {f t : Int} : coversS l f t = true ↔ ∀ q, f ≤ q → q < t → ∃ v, Has l q v := by
  unfold coversS
  rw [decide_eq_true_eq, covers_go hl]
/-- The row of what pages have. -/
theorem row_can {PS : List PG} {F : Nat → PG} (h : Pgs PS F) (hF : ∀ q : Nat, q < 4096 → (F q).2 = true → (F q).1.f = q ∧ (F q).1.t = q + 1 ∧ may (F q).1 = true) : Can (rowS PS) ∧ ∀ p v, Has (rowS PS) p v ↔ ∃ q : Nat, q < 4096 ∧ p = q ∧ (F q).2 = true ∧ tagOf (F q).1 = v := by
  have key : ∀ i, i ≤ 4096 → Can ((PS.take i).foldl rowStep []) ∧ (∀ a ∈ (PS.take i).foldl rowStep [], a.t ≤ i) ∧ ∀ p v, Has ((PS.take i).foldl rowStep []) p v ↔ ∃ q : Nat, q < i ∧ p = q ∧ (F q).2 = true ∧ tagOf (F q).1 = v := by
    intro i
    induction i with
    | zero => intro _; exact ⟨Can.nil, fun a ha => (by cases ha), fun p v => ⟨fun h => absurd h Has.nil, fun ⟨q, hq, _⟩ => by omega⟩⟩
    | succ i ih =>
      intro hi
      obtain ⟨k1, k2, k3⟩ := ih (by omega)
      have hpi := h.at_ i (by omega)
      rw [List.take_add_one, hpi, List.foldl_append]
      simp only [Option.toList_some, List.foldl_cons, List.foldl_nil]
      generalize (PS.take i).foldl rowStep [] = acc at *
      unfold rowStep
      cases hb : (F i).2 with
      | false =>
        rw [if_neg (by simp)]
        refine ⟨k1, fun a ha => by have := k2 a ha; omega, fun p v => ?_⟩
        rw [k3]
        constructor
        · rintro ⟨q, h1, h2⟩; exact ⟨q, by omega, h2⟩
        · rintro ⟨q, h1, h2, h3, h4⟩
          by_cases e : q = i
          · subst e; rw [hb] at h3; cases h3
          · exact ⟨q, by omega, h2, h3, h4⟩
      | true =>
        rw [if_pos rfl]
        obtain ⟨f1, f2, f3⟩ := hF i (by omega) hb
        obtain ⟨q1, q2, q3⟩ := put_can k1 (r := (F i).1) (fun _ => f3) (fun a ha => by rw [f1]; exact k2 a ha)
        refine ⟨q1, fun a ha => by have := q3 a ha; push_cast; omega, fun p v => ?_⟩
        rw [q2, k3]
        constructor
        · rintro (⟨q, h1, h2⟩ | ⟨h1, h2⟩)
          · exact ⟨q, by omega, h2⟩
          · refine ⟨i, by omega, by unfold In at h1; omega, hb, h2⟩
        · rintro ⟨q, h1, h2, h3, h4⟩
          by_cases e : q = i
          · subst e; exact .inr ⟨by unfold In; omega, h4⟩
          · exact .inl ⟨q, by omega, h2, h3, h4⟩
  have := key 4096 (Nat.le_refl _)
  rw [List.take_of_length_le (by rw [h.len]; exact Nat.le_refl _)] at this
  exact ⟨this.1, this.2.2⟩
theorem pageOf_may {x : Rg} (hx : may x = true) {q : Int} (h : In x q) : may (pageOf x q) = true ∧ tagOf (pageOf x q) = tagOf x := by
  have hm := (may_iff x).1 hx
  unfold In at h
  refine ⟨?_, ?_⟩
  · rw [may_iff]
    unfold pageOf
    simp only
    by_cases hk : x.k = 1
    · rw [if_pos hk]; omega
    · rw [if_neg hk]; omega
  · rw [tag_iff]
    unfold pageOf
    simp only
    refine ⟨trivial, trivial, trivial, ?_⟩
    by_cases hk : x.k = 1
    · rw [if_pos hk, if_pos hk, if_pos hk]; omega
    · rw [if_neg hk, if_neg hk]
/-- What a page has, as Spread tells it. -/
theorem pgAt_ok {l : List Rg} (hl : Can l) (q : Nat) : ((pgAt l q).2 = true → (pgAt l q).1.f = q ∧ (pgAt l q).1.t = q + 1 ∧ may (pgAt l q).1 = true ∧ Has l q (tagOf (pgAt l q).1)) ∧ ((pgAt l q).2 = false → ∀ v, ¬ Has l q v) := by
  unfold pgAt
  cases h : (findS q l).2 with
  | true =>
    rw [if_pos rfl]
    obtain ⟨h1, h2⟩ := find_iff h
    obtain ⟨m1, m2⟩ := pageOf_may (hl.may _ h1) h2
    exact ⟨fun _ => ⟨rfl, rfl, m1, _, h1, h2, m2.symm⟩, fun h => (by cases h)⟩
  | false =>
    rw [if_neg (by simp)]
    exact ⟨fun h => (by cases h), fun _ v ⟨x, hx, hi, _⟩ => find_none h x hx hi⟩
end Go.Proofs.Ytnlgindlmlbfiaa.L

