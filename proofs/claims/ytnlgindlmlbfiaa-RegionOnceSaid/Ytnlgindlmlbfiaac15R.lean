/- Plain: what is put back. -/
import Derived.Test.Ytnlgindlmlbfiaac15Q
namespace Go.Proofs.Ytnlgindlmlbfiaa.L
open Go.L1 Go.IntWalk
set_option linter.unusedVariables false
set_option linter.unusedSimpArgs false
set_option maxHeartbeats 4000000
def sumP (l : List Rg) : Int := (l.map fun x => x.t - x.f).sum
theorem sum_put {acc : List Rg} {r : Rg} (ha : ∀ x ∈ acc, may x = true) : sumP (putS acc r) = sumP acc + (if r.f < r.t then r.t - r.f else 0) := by
  unfold putS
  by_cases h0 : r.f ≥ r.t
  · rw [if_pos h0, if_neg (by omega)]; omega
  · rw [if_neg h0, if_pos (by omega)]
    split
    · rename_i h
      rw [List.getLast?_eq_none_iff] at h
      subst h
      simp [sumP]
    · rename_i x hx
      obtain ⟨ys, rfl⟩ := List.getLast?_eq_some_iff.1 hx
      split
      · rename_i ho
        have := ((one_tag (ha x (by simp))).1 ho).1
        rw [List.dropLast_concat]
        unfold sumP
        simp only [List.map_append, List.map_cons, List.map_nil, List.sum_append, List.sum_cons, List.sum_nil]
        omega
      · unfold sumP
        simp only [List.map_append, List.map_cons, List.map_nil, List.sum_append, List.sum_cons, List.sum_nil]
        omega
theorem put_may {acc : List Rg} {r : Rg} (h : Can acc) (hr : r.f < r.t → may r = true) (he : ∀ a ∈ acc, a.t ≤ r.f) : ∀ x ∈ putS acc r, may x = true := (put_can h hr he).1.may
theorem sum_add {l : List Rg} {r : Rg} (hl : Can l) (h : (addS l r).2 = 0) : sumP (addS l r).1 = sumP l + (r.t - r.f) := by
  have key : may r = true → ∀ {l acc : List Rg} {ad : Bool} {rs}, Can l → Can acc → (∀ a ∈ acc, ∀ x ∈ l, a.t ≤ x.f) → (ad = false → ∀ a ∈ acc, a.t ≤ r.f) → addGo r l acc ad = some rs → sumP rs = sumP acc + sumP l + (if ad = true then 0 else r.t - r.f) := by
    intro hm l
    have hmr := (may_iff r).1 hm
    induction l with
    | nil =>
      intro acc ad rs hl ha h1 h2 hg
      unfold addGo at hg
      cases hg
      cases ad with
      | true => simp [sumP]
      | false =>
        simp only [Bool.false_eq_true, if_false]
        rw [sum_put ha.may, if_pos (by omega)]
        simp [sumP]
    | cons x l ih =>
      intro acc ad rs hl ha h1 h2 hg
      have hx := hl.pos (List.mem_cons_self ..)
      have hxm := hl.may x (List.mem_cons_self ..)
      unfold addGo at hg
      have hs : sumP (x :: l) = (x.t - x.f) + sumP l := rfl
      by_cases hov : x.f < r.t ∧ r.f < x.t
      · rw [if_pos hov] at hg; cases hg
      · rw [if_neg hov] at hg
        by_cases had : ad = false ∧ x.f ≥ r.t
        · rw [if_pos had] at hg
          obtain ⟨p1, _, p3⟩ := put_can ha (fun _ => hm) (h2 had.1)
          obtain ⟨q1, _, q3⟩ := put_can p1 (r := x) (fun _ => hxm) (fun a hq => by have := p3 a hq; omega)
          have := ih hl.tail q1 (fun a hq y hy => by have := q3 a hq; have := (hl.ahead y hy).1; omega) (fun h => by cases h) hg
          rw [this, sum_put p1.may, sum_put ha.may, if_pos (by omega), if_pos (by omega), hs, had.1]
          simp only [if_true, Bool.false_eq_true, if_false]
          omega
        · rw [if_neg had] at hg
          obtain ⟨q1, _, q3⟩ := put_can ha (r := x) (fun _ => hxm) (fun a hq => h1 a hq x (List.mem_cons_self ..))
          have := ih hl.tail q1 (fun a hq y hy => by have := q3 a hq; have := (hl.ahead y hy).1; omega) (fun h a hq => by
            have := q3 a hq
            have : ¬ x.f ≥ r.t := fun e => had ⟨h, e⟩
            omega) hg
          rw [this, sum_put ha.may, if_pos (by omega), hs]
          omega
  unfold addS at h ⊢
  split at h
  · rename_i hm
    rw [if_pos hm]
    cases hg : addGo r l [] false with
    | none => rw [hg] at h; cases h
    | some rs =>
      have := key hm hl Can.nil (fun a ha => by cases ha) (fun _ a ha => by cases ha) hg
      simp only
      rw [this]
      simp [sumP]
  · cases h
theorem sum_le {l : List Rg} (hl : Can l) : 0 ≤ sumP l ∧ sumP l ≤ 4096 := by
  have key : ∀ (l : List Rg) (a : Int), Can l → a ≤ 4096 → (∀ x ∈ l, a ≤ x.f) → 0 ≤ sumP l ∧ sumP l ≤ 4096 - a := by
    intro l
    induction l with
    | nil => intro a _ h1 _; simp [sumP]; omega
    | cons x l ih =>
      intro a hl h1 hx
      have hp := hl.pos (List.mem_cons_self ..)
      have := ih x.t hl.tail hp.2.2 (fun y hy => (hl.ahead y hy).1)
      have := hx x (List.mem_cons_self ..)
      have hs : sumP (x :: l) = (x.t - x.f) + sumP l := rfl
      rw [hs]
      omega
  have := key l 0 hl (by omega) (fun x hx => (hl.pos hx).1)
  omega
theorem pages_sum {l : List Rg} (hl : Can l) : pagesGo l 0 = sumP l := by
  have key : ∀ (l : List Rg) (n : Int), Can l → 0 ≤ n → n + sumP l ≤ 1000000 → pagesGo l n = n + sumP l := by
    intro l
    induction l with
    | nil => intro n _ _ _; simp [pagesGo, sumP]
    | cons x l ih =>
      intro n hl h0 h1
      have hp := hl.pos (List.mem_cons_self ..)
      have hs : sumP (x :: l) = (x.t - x.f) + sumP l := rfl
      have := (sum_le hl.tail).1
      rw [hs] at h1
      unfold pagesGo
      rw [i64_in (x.t - x.f) (by omega), i64_in (n + (x.t - x.f)) (by omega), ih _ hl.tail (by omega) (by omega), hs]
      omega
  have := sum_le hl
  rw [key l 0 hl (Int.le_refl _) (by omega)]
  omega
theorem cut_back {l : List Rg} (hl : Can l) {r : Rg} (h : (addS l r).2 = 0) : cutGo r.f r.t (addS l r).1 [] = l ∧ may r = true ∧ Can (addS l r).1 ∧ ∀ p v, Has (addS l r).1 p v ↔ Has l p v ∨ (In r p ∧ tagOf r = v) := by
  rcases add_can (r := r) hl with ⟨_, h2⟩ | ⟨_, _, h2⟩ | ⟨h1, h2, _, h4, h5⟩
  · rw [h2] at h; cases h
  · rw [h2] at h; cases h
  · obtain ⟨c1, c2⟩ := cut_can (f := r.f) (t := r.t) h4 Can.nil (fun a ha => by cases ha)
    refine ⟨Can.ext c1 hl fun p v => ?_, h1, h4, h5⟩
    rw [c2, h5]
    constructor
    · rintro (h | ⟨h | ⟨h, _⟩, hn⟩)
      · exact absurd h Has.nil
      · exact h
      · exact absurd h hn
    · intro h
      exact .inr ⟨.inl h, fun hn => h2 p hn v h⟩
theorem prot_back {m : List Rg} (hm : Can m) {r : Rg} (hr : may r = true) (hh : ∀ p, In r p → Has m p (tagOf r)) {p : Int} (hp : 0 ≤ p ∧ p ≤ 7) : (protS m r.f r.t p).2 = 0 ∧ Can (protS m r.f r.t p).1 ∧ (protS (protS m r.f r.t p).1 r.f r.t r.p) = (m, 0) := by
  have hmr := (may_iff r).1 hr
  have hc : coversS m r.f r.t = true := (covers_iff hm).2 fun q a b => ⟨_, hh q ⟨a, b⟩⟩
  have e1 : protS m r.f r.t p = (protGo p r.f r.t m [], 0) := by unfold protS; rw [if_neg (by omega), if_pos hc]
  obtain ⟨p1, p2⟩ := prot_can (f := r.f) (t := r.t) hp hm Can.nil (fun a ha => by cases ha)
  have hc2 : coversS (protGo p r.f r.t m []) r.f r.t = true := (covers_iff p1).2 fun q a b => ⟨_, (p2 q _).2 (.inr ⟨_, hh q ⟨a, b⟩, rfl⟩)⟩
  obtain ⟨q1, q2⟩ := prot_can (p := r.p) (f := r.f) (t := r.t) (by omega) p1 Can.nil (fun a ha => by cases ha)
  refine ⟨by rw [e1], by rw [e1]; exact p1, ?_⟩
  rw [e1]
  have e2 : protS (protGo p r.f r.t m []) r.f r.t r.p = (protGo r.p r.f r.t (protGo p r.f r.t m []) [], 0) := by unfold protS; rw [if_neg (by omega), if_pos hc2]
  show protS (protGo p r.f r.t m []) r.f r.t r.p = (m, 0)
  rw [e2]
  congr 1
  refine Can.ext q1 hm fun q v => ?_
  rw [q2]
  have hin : ∀ w, Has m q w → perV r.p r.f r.t q (perV p r.f r.t q w) = w := fun w hw => by
    unfold perV
    by_cases hq : r.f ≤ q ∧ q < r.t
    · have := hm.fn hw (hh q hq)
      rw [if_pos hq, if_pos hq, this]; rfl
    · rw [if_neg hq, if_neg hq]
  constructor
  · rintro (h | ⟨w, h, rfl⟩)
    · exact absurd h Has.nil
    · rcases (p2 q w).1 h with h' | ⟨w', h', rfl⟩
      · exact absurd h' Has.nil
      · rw [hin w' h']; exact h'
  · intro h
    exact .inr ⟨_, (p2 q _).2 (.inr ⟨v, h, rfl⟩), hin v h⟩
def LV (v : Value) (l : List Rg) : Prop := v = rv #[] l ∨ (v = .slice none 0 0 ∧ l = [])
theorem sop_sn {gg : Nat → Option Ob} {lo : Nat} {a : Array Value} (o : Sop) : L1.freeze Try.prog gg a lo 9 o.v = some o.v := sn_agg (l := [_, _, _, _, _, _, _, _, _, _, _]) (sn_plains rfl)
theorem rg_sn {gg : Nat → Option Ob} {lo : Nat} {a : Array Value} (o : Rg) : L1.freeze Try.prog gg a lo 9 o.v = some o.v := sn_agg (l := [_, _, _, _, _, _]) (sn_plains rfl)
theorem nil_sn {gg : Nat → Option Ob} {lo : Nat} : L1.freeze Try.prog gg tg lo 9 (.slice none 0 0) = some (rv tg []) := sn_none
theorem xor7 {p : Int} (h : 0 ≤ p ∧ p ≤ 7) : IntKind.i64.wrap ((BitVec.ofInt IntKind.i64.bits p ^^^ BitVec.ofInt IntKind.i64.bits 7).toNat : Nat) = 7 - p := by
  have : p = 0 ∨ p = 1 ∨ p = 2 ∨ p = 3 ∨ p = 4 ∨ p = 5 ∨ p = 6 ∨ p = 7 := by omega
  rcases this with rfl | rfl | rfl | rfl | rfl | rfl | rfl | rfl <;> decide
abbrev XO := Int × Int × Int × Int × Bool × Int × Int × Int × Int × Int × Int
def toSop (x : XO) : Sop := ⟨x.1, x.2.1, x.2.2.1, x.2.2.2.1, x.2.2.2.2.1, ⟨x.2.2.2.2.2.1, x.2.2.2.2.2.2.1, x.2.2.2.2.2.2.2.1, x.2.2.2.2.2.2.2.2.1, x.2.2.2.2.2.2.2.2.2.1, x.2.2.2.2.2.2.2.2.2.2⟩⟩
abbrev sov (s : Array Value) (l : List Sop) : Value := fz s l.length (l.flatMap Sop.c)
end Go.Proofs.Ytnlgindlmlbfiaa.L

