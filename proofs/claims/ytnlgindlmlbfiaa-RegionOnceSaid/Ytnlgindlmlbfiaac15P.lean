/- Plain: rows of regions, by what each page has. -/
import Derived.Test.Ytnlgindlmlbfiaac15H
namespace Go.Proofs.Ytnlgindlmlbfiaa.L
open Go.L1 Go.IntWalk
set_option linter.unusedVariables false
set_option linter.unusedSimpArgs false
set_option maxHeartbeats 4000000
/-- What all pages of a region have in common. -/
def tagOf (r : Rg) : Int × Int × Int × Int := (r.p, r.k, r.l, if r.k = 1 then r.g - r.f else 0)
def In (r : Rg) (p : Int) : Prop := r.f ≤ p ∧ p < r.t
def Has (l : List Rg) (p : Int) (v : Int × Int × Int × Int) : Prop := ∃ x ∈ l, In x p ∧ tagOf x = v
def Apart (a b : Rg) : Prop := a.t ≤ b.f ∧ (a.t = b.f → tagOf a ≠ tagOf b)
structure Can (l : List Rg) : Prop where
  may : ∀ x ∈ l, may x = true
  pw : l.Pairwise Apart
theorem may_iff (r : Rg) : may r = true ↔ (0 ≤ r.f ∧ r.f < r.t ∧ r.t ≤ 4096 ∧ 0 ≤ r.p ∧ r.p ≤ 7) ∧ ((r.k = 1 ∧ 0 ≤ r.l ∧ 0 ≤ r.g ∧ r.g ≤ 1073741824 - (r.t - r.f)) ∨ (1 < r.k ∧ r.k ≤ 4 ∧ r.l = -1 ∧ r.g = 0)) := by
  unfold L.may
  rw [decide_eq_true_eq]
  omega
theorem one_iff {a b : Rg} (ha : may a = true) : one a b = true ↔ a.t = b.f ∧ a.p = b.p ∧ a.k = b.k ∧ a.l = b.l ∧ (a.k ≠ 1 ∨ b.g = a.g + a.t - a.f) := by
  unfold one
  rw [may_iff] at ha
  rw [decide_eq_true_eq, i64_in (a.g + a.t) (by omega), i64_in (a.g + a.t - a.f) (by omega)]
theorem tag_iff {a b : Rg} : tagOf a = tagOf b ↔ a.p = b.p ∧ a.k = b.k ∧ a.l = b.l ∧ (if a.k = 1 then a.g - a.f else 0) = (if b.k = 1 then b.g - b.f else 0) := by
  unfold tagOf
  simp only [Prod.mk.injEq]
theorem one_tag {a b : Rg} (ha : may a = true) : one a b = true ↔ a.t = b.f ∧ tagOf a = tagOf b := by
  rw [one_iff ha, tag_iff]
  constructor
  · rintro ⟨h1, h2, h3, h4, h5⟩
    refine ⟨h1, h2, h3, h4, ?_⟩
    rw [← h3]
    split <;> omega
  · rintro ⟨h1, h2, h3, h4, h5⟩
    refine ⟨h1, h2, h3, h4, ?_⟩
    rw [← h3] at h5
    split at h5 <;> omega
theorem rg_ext {a b : Rg} (ha : may a = true) (hb : may b = true) (h1 : a.f = b.f) (h2 : a.t = b.t) (h3 : tagOf a = tagOf b) : a = b := by
  rw [tag_iff] at h3
  rw [may_iff] at ha hb
  obtain ⟨q1, q2, q3, q4⟩ := h3
  obtain ⟨af, at_, ap, ak, al, ag⟩ := a
  obtain ⟨bf, bt, bp, bk, bl, bg⟩ := b
  simp only at *
  subst h1 h2 q1 q2 q3
  congr 1
  split at q4 <;> omega
theorem Has.nil {p v} : ¬ Has [] p v := fun ⟨x, hx, _⟩ => by cases hx
theorem Has.append {a b : List Rg} {p v} : Has (a ++ b) p v ↔ Has a p v ∨ Has b p v := by
  unfold Has
  constructor
  · rintro ⟨x, hx, h⟩
    rcases List.mem_append.1 hx with hx | hx
    · exact .inl ⟨x, hx, h⟩
    · exact .inr ⟨x, hx, h⟩
  · rintro (⟨x, hx, h⟩ | ⟨x, hx, h⟩)
    · exact ⟨x, List.mem_append_left _ hx, h⟩
    · exact ⟨x, List.mem_append_right _ hx, h⟩
theorem Has.cons {x : Rg} {l : List Rg} {p v} : Has (x :: l) p v ↔ (In x p ∧ tagOf x = v) ∨ Has l p v := by
  rw [show x :: l = [x] ++ l from rfl, Has.append]
  unfold Has
  simp
theorem Can.nil : Can [] := ⟨fun x hx => (by cases hx), List.Pairwise.nil⟩
theorem Can.tail {x : Rg} {l : List Rg} (h : Can (x :: l)) : Can l := ⟨fun y hy => h.may y (List.mem_cons_of_mem _ hy), (List.pairwise_cons.1 h.pw).2⟩
theorem Can.ahead {x : Rg} {l : List Rg} (h : Can (x :: l)) : ∀ y ∈ l, Apart x y := (List.pairwise_cons.1 h.pw).1
theorem Can.pos {l : List Rg} (h : Can l) {x : Rg} (hx : x ∈ l) : 0 ≤ x.f ∧ x.f < x.t ∧ x.t ≤ 4096 := by
  have := (may_iff x).1 (h.may x hx); omega
theorem Can.fn {l : List Rg} (h : Can l) {p : Int} {v w} (h1 : Has l p v) (h2 : Has l p w) : v = w := by
  induction l with
  | nil => exact absurd h1 Has.nil
  | cons x l ih =>
    rw [Has.cons] at h1 h2
    have ha := h.ahead
    rcases h1 with ⟨h1, rfl⟩ | h1
    · rcases h2 with ⟨h2, rfl⟩ | ⟨y, hy, h2, _⟩
      · rfl
      · have := (ha y hy).1; unfold In at h1 h2; omega
    · rcases h2 with ⟨h2, rfl⟩ | h2
      · obtain ⟨y, hy, h1, _⟩ := h1
        have := (ha y hy).1; unfold In at h1 h2; omega
      · exact ih h.tail h1 h2
/-- A row is told by what its pages have. -/
theorem Can.ext : ∀ {l m : List Rg}, Can l → Can m → (∀ p v, Has l p v ↔ Has m p v) → l = m
  | [], [], _, _, _ => rfl
  | [], y :: m, _, hm, h => by
    have hp := hm.pos (List.mem_cons_self ..)
    exact absurd ((h y.f (tagOf y)).2 ⟨y, List.mem_cons_self .., ⟨Int.le_refl _, hp.2.1⟩, rfl⟩) Has.nil
  | x :: l, [], hl, _, h => by
    have hp := hl.pos (List.mem_cons_self ..)
    exact absurd ((h x.f (tagOf x)).1 ⟨x, List.mem_cons_self .., ⟨Int.le_refl _, hp.2.1⟩, rfl⟩) Has.nil
  | x :: l, y :: m, hl, hm, h => by
    have px := hl.pos (List.mem_cons_self ..)
    have py := hm.pos (List.mem_cons_self ..)
    have hx : Has (y :: m) x.f (tagOf x) := (h _ _).1 ⟨x, List.mem_cons_self .., ⟨Int.le_refl _, px.2.1⟩, rfl⟩
    have hy : Has (x :: l) y.f (tagOf y) := (h _ _).2 ⟨y, List.mem_cons_self .., ⟨Int.le_refl _, py.2.1⟩, rfl⟩
    have lo : ∀ {z : Rg} {q : List Rg} {p v}, Can (z :: q) → Has (z :: q) p v → z.f ≤ p := fun {z q p v} hc hh => by
      rw [Has.cons] at hh
      rcases hh with ⟨hh, _⟩ | ⟨w, hw, hh, _⟩
      · exact hh.1
      · have := (hc.ahead w hw).1; have := hc.pos (List.mem_cons_self ..); unfold In at hh; omega
    have hf : x.f = y.f := by have := lo hm hx; have := lo hl hy; omega
    have ht : tagOf x = tagOf y := by
      rw [hf] at hx
      exact hm.fn hx ⟨y, List.mem_cons_self .., ⟨Int.le_refl _, py.2.1⟩, rfl⟩
    have key : ∀ {z w : Rg} {q r : List Rg}, Can (z :: q) → Can (w :: r) → (∀ p v, Has (z :: q) p v ↔ Has (w :: r) p v) → z.f = w.f → tagOf z = tagOf w → ¬ z.t < w.t := fun {z w q r} hz hw hh hf ht hlt => by
      have pz := hz.pos (List.mem_cons_self ..)
      have h1 : Has (z :: q) z.t (tagOf w) := (hh _ _).2 ⟨w, List.mem_cons_self .., ⟨by omega, hlt⟩, rfl⟩
      rw [Has.cons] at h1
      rcases h1 with ⟨h1, _⟩ | ⟨b, hb, h1, h2⟩
      · unfold In at h1; omega
      · have := hz.ahead b hb
        have hbt : z.t = b.f := by have := this.1; unfold In at h1; omega
        exact this.2 hbt (ht.trans h2.symm)
    have h1 := key hl hm h hf ht
    have h2 := key hm hl (fun p v => (h p v).symm) hf.symm ht.symm
    have e : x = y := rg_ext (hl.may x (List.mem_cons_self ..)) (hm.may y (List.mem_cons_self ..)) hf (by omega) ht
    subst e
    congr 1
    refine Can.ext hl.tail hm.tail fun p v => ?_
    have hh := h p v
    rw [Has.cons, Has.cons] at hh
    constructor
    · intro hq
      rcases hh.1 (.inr hq) with ⟨hi, _⟩ | hq'
      · obtain ⟨z, hz, hz1, _⟩ := hq
        have := (hl.ahead z hz).1; unfold In at hi hz1; omega
      · exact hq'
    · intro hq
      rcases hh.2 (.inr hq) with ⟨hi, _⟩ | hq'
      · obtain ⟨z, hz, hz1, _⟩ := hq
        have := (hm.ahead z hz).1; unfold In at hi hz1; omega
      · exact hq'
theorem Can.one {r : Rg} (h : L.may r = true) : Can [r] := ⟨fun x hx => by rw [List.mem_singleton.1 hx]; exact h, by simp⟩
theorem has_one {r : Rg} {p v} : Has [r] p v ↔ In r p ∧ tagOf r = v := by rw [Has.cons]; simp [Has.nil]
/-- One more region behind all others. -/
theorem put_can {acc : List Rg} {r : Rg} (h : Can acc) (hr : r.f < r.t → may r = true) (he : ∀ a ∈ acc, a.t ≤ r.f) : Can (putS acc r) ∧ (∀ p v, Has (putS acc r) p v ↔ Has acc p v ∨ (In r p ∧ tagOf r = v)) ∧ ∀ a ∈ putS acc r, a.t ≤ max r.f r.t := by
  unfold putS
  by_cases h0 : r.f ≥ r.t
  · rw [if_pos h0]
    refine ⟨h, fun p v => ⟨.inl, ?_⟩, fun a ha => by have := he a ha; omega⟩
    rintro (h | ⟨h, _⟩)
    · exact h
    · unfold In at h; omega
  · rw [if_neg h0]
    have hm := hr (by omega)
    rcases List.eq_nil_or_concat acc with rfl | ⟨ys, x, hacc⟩
    · simp only [List.getLast?_nil]
      exact ⟨Can.one hm, fun p v => by rw [has_one]; simp [Has.nil], fun a ha => by rw [List.mem_singleton.1 ha]; omega⟩
    · rw [List.concat_eq_append] at hacc
      subst hacc
      simp only [List.getLast?_append, List.getLast?_singleton, Option.some_or]
      have hxm : may x = true := h.may x (by simp)
      have hpw := List.pairwise_append.1 h.pw
      have hmx := (may_iff x).1 hxm
      have hmr := (may_iff r).1 hm
      have hxe := he x (by simp)
      by_cases ho : one x r = true
      · rw [if_pos ho]
        obtain ⟨o1, o2⟩ := (one_tag hxm).1 ho
        obtain ⟨_, o3, o4, o5, o6⟩ := (one_iff hxm).1 ho
        rw [List.dropLast_concat]
        have hm2 : may ({ x with t := r.t } : Rg) = true := by
          rw [may_iff]
          simp only
          omega
        have ht2 : tagOf ({ x with t := r.t } : Rg) = tagOf x := rfl
        refine ⟨⟨fun a ha => ?_, List.pairwise_append.2 ⟨hpw.1, by simp, fun a ha b hb => ?_⟩⟩, fun p v => ?_, fun a ha => ?_⟩
        · rcases List.mem_append.1 ha with ha | ha
          · exact h.may a (by simp [ha])
          · rw [List.mem_singleton.1 ha]; exact hm2
        · rw [List.mem_singleton.1 hb]
          exact hpw.2.2 a ha x (by simp)
        · rw [Has.append, Has.append, has_one, has_one, ht2, or_assoc]
          refine or_congr Iff.rfl ?_
          unfold In
          simp only
          constructor
          · rintro ⟨⟨h1, h2⟩, h3⟩
            by_cases hp : p < x.t
            · exact .inl ⟨⟨h1, hp⟩, h3⟩
            · exact .inr ⟨⟨by omega, h2⟩, o2 ▸ h3⟩
          · rintro (⟨⟨h1, h2⟩, h3⟩ | ⟨⟨h1, h2⟩, h3⟩)
            · exact ⟨⟨h1, by omega⟩, h3⟩
            · exact ⟨⟨by omega, h2⟩, o2 ▸ h3⟩
        · rcases List.mem_append.1 ha with ha | ha
          · have := he a (by simp [ha]); omega
          · rw [List.mem_singleton.1 ha]; simp only; omega
      · rw [if_neg ho]
        refine ⟨⟨fun a ha => ?_, List.pairwise_append.2 ⟨h.pw, by simp, fun a ha b hb => ?_⟩⟩, fun p v => ?_, fun a ha => ?_⟩
        · rcases List.mem_append.1 ha with ha | ha
          · exact h.may a ha
          · rw [List.mem_singleton.1 ha]; exact hm
        · rw [List.mem_singleton.1 hb]
          refine ⟨he a ha, fun e => ?_⟩
          rcases List.mem_append.1 ha with ha | ha
          · have := (hpw.2.2 a ha x (by simp)).1
            omega
          · rw [List.mem_singleton.1 ha] at e ⊢
            exact fun e2 => ho ((one_tag hxm).2 ⟨e, e2⟩)
        · rw [Has.append, has_one]
        · rcases List.mem_append.1 ha with ha | ha
          · have := he a ha; omega
          · rw [List.mem_singleton.1 ha]; omega
/-- Add: of a row and one that meets none. -/
theorem addGo_can {r : Rg} (hr : may r = true) : ∀ {l acc : List Rg} {ad : Bool}, Can l → Can acc → (∀ a ∈ acc, ∀ x ∈ l, a.t ≤ x.f) → (ad = false → ∀ a ∈ acc, a.t ≤ r.f) → (ad = true → ∀ x ∈ l, r.t ≤ x.f) →
    match addGo r l acc ad with
    | none => ∃ x ∈ l, x.f < r.t ∧ r.f < x.t
    | some rs => Can rs ∧ (∀ x ∈ l, ¬ (x.f < r.t ∧ r.f < x.t)) ∧ ∀ p v, Has rs p v ↔ Has acc p v ∨ Has l p v ∨ (ad = false ∧ In r p ∧ tagOf r = v)
  | [], acc, ad, hl, ha, h1, h2, h3 => by
    unfold addGo
    cases ad with
    | true => exact ⟨ha, fun x hx => (by cases hx), fun p v => (by simp [Has.nil])⟩
    | false =>
      obtain ⟨p1, p2, _⟩ := put_can ha (fun _ => hr) (h2 rfl)
      refine ⟨p1, fun x hx => (by cases hx), fun p v => ?_⟩
      simp only [Bool.false_eq_true, if_false]
      rw [p2]
      simp [Has.nil]
  | x :: l, acc, ad, hl, ha, h1, h2, h3 => by
    have hx := hl.pos (List.mem_cons_self ..)
    have hrr := (may_iff r).1 hr
    have hxm := hl.may x (List.mem_cons_self ..)
    unfold addGo
    by_cases hov : x.f < r.t ∧ r.f < x.t
    · rw [if_pos hov]
      exact ⟨x, List.mem_cons_self .., hov⟩
    · rw [if_neg hov]
      by_cases had : ad = false ∧ x.f ≥ r.t
      · rw [if_pos had]
        obtain ⟨p1, p2, p3⟩ := put_can ha (fun _ => hr) (h2 had.1)
        obtain ⟨q1, q2, q3⟩ := put_can p1 (r := x) (fun _ => hxm) (fun a hm => by have := p3 a hm; omega)
        have := addGo_can hr (l := l) (acc := putS (putS acc r) x) (ad := true) hl.tail q1 (fun a hm y hy => by have := q3 a hm; have := (hl.ahead y hy).1; omega) (fun h => by cases h) (fun _ y hy => by have := (hl.ahead y hy).1; omega)
        cases hg : addGo r l (putS (putS acc r) x) true with
        | none => rw [hg] at this; obtain ⟨y, hy, h⟩ := this; exact ⟨y, List.mem_cons_of_mem _ hy, h⟩
        | some rs =>
          rw [hg] at this
          obtain ⟨t1, t2, t3⟩ := this
          refine ⟨t1, fun y hy => ?_, fun p v => ?_⟩
          · rcases List.mem_cons.1 hy with rfl | hy
            · exact hov
            · exact t2 y hy
          · rw [t3, q2, p2, Has.cons]
            simp only [had.1, Bool.true_eq_false, false_and, or_false, true_and]
            constructor
            · rintro (((h | h) | h) | h)
              · exact .inl h
              · exact .inr (.inr h)
              · exact .inr (.inl (.inl h))
              · exact .inr (.inl (.inr h))
            · rintro (h | (h | h) | h)
              · exact .inl (.inl (.inl h))
              · exact .inl (.inr h)
              · exact .inr h
              · exact .inl (.inl (.inr h))
      · rw [if_neg had]
        obtain ⟨q1, q2, q3⟩ := put_can ha (r := x) (fun _ => hxm) (fun a hm => h1 a hm x (List.mem_cons_self ..))
        have := addGo_can hr (l := l) (acc := putS acc x) (ad := ad) hl.tail q1 (fun a hm y hy => by have := q3 a hm; have := (hl.ahead y hy).1; omega) (fun h a hm => by
          have := q3 a hm
          have : ¬ x.f ≥ r.t := fun e => had ⟨h, e⟩
          omega) (fun h y hy => by have := h3 h x (List.mem_cons_self ..); have := (hl.ahead y hy).1; omega)
        cases hg : addGo r l (putS acc x) ad with
        | none => rw [hg] at this; obtain ⟨y, hy, h⟩ := this; exact ⟨y, List.mem_cons_of_mem _ hy, h⟩
        | some rs =>
          rw [hg] at this
          obtain ⟨t1, t2, t3⟩ := this
          refine ⟨t1, fun y hy => ?_, fun p v => ?_⟩
          · rcases List.mem_cons.1 hy with rfl | hy
            · exact hov
            · exact t2 y hy
          · rw [t3, q2, Has.cons]
            constructor
            · rintro ((h | h) | h | h)
              · exact .inl h
              · exact .inr (.inl (.inl h))
              · exact .inr (.inl (.inr h))
              · exact .inr (.inr h)
            · rintro (h | (h | h) | h)
              · exact .inl (.inl h)
              · exact .inl (.inr h)
              · exact .inr (.inl h)
              · exact .inr (.inr h)
/-- P15.1: Add. -/
theorem add_can {l : List Rg} {r : Rg} (hl : Can l) :
    (may r = false ∧ addS l r = ([], 1)) ∨ (may r = true ∧ (∃ p, In r p ∧ ∃ v, Has l p v) ∧ addS l r = ([], 13)) ∨ (may r = true ∧ (∀ p, In r p → ∀ v, ¬ Has l p v) ∧ (addS l r).2 = 0 ∧ Can (addS l r).1 ∧ ∀ p v, Has (addS l r).1 p v ↔ Has l p v ∨ (In r p ∧ tagOf r = v)) := by
  unfold addS
  cases hm : may r with
  | false => exact .inl ⟨rfl, rfl⟩
  | true =>
    right
    have := addGo_can hm (l := l) (acc := []) (ad := false) hl Can.nil (fun a ha => by cases ha) (fun _ a ha => by cases ha) (fun h => by cases h)
    have hrr := (may_iff r).1 hm
    simp only [if_true]
    cases hg : addGo r l [] false with
    | none =>
      rw [hg] at this
      obtain ⟨x, hx, h1, h2⟩ := this
      have hp := hl.pos hx
      refine .inl ⟨trivial, ⟨max x.f r.f, ?_, _, x, hx, ?_, rfl⟩, rfl⟩
      · unfold In; omega
      · unfold In; omega
    | some rs =>
      rw [hg] at this
      obtain ⟨t1, t2, t3⟩ := this
      refine .inr ⟨trivial, ?_, rfl, t1, fun p v => ?_⟩
      · rintro p hp v ⟨x, hx, hxp, _⟩
        have := t2 x hx
        unfold In at hp hxp
        omega
      · rw [t3]; simp [Has.nil]
end Go.Proofs.Ytnlgindlmlbfiaa.L

