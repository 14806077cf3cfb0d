/- Plain: what is found, keys, gaps; the two Gaps walked. -/
import Derived.Test.Ytnlgindlmlbfiaac15R
import Derived.Test.YtnlgindlmlbfiaaL1W
namespace Go.Proofs.Ytnlgindlmlbfiaa.L
open Go.L1 Go.IntWalk
set_option linter.unusedVariables false
set_option linter.unusedSimpArgs false
set_option maxHeartbeats 4000000
set_option maxRecDepth 20000
theorem part_sop (o : Sop) : L1.part Try.prog 26 (Sop.c o) 0 = some o.v := rfl
theorem lv_sn {gg : Nat → Option Ob} {lo : Nat} {v : Value} {l : List Rg} (h : LV v l) : L1.freeze Try.prog gg tg lo 9 v = some (rv tg l) := by
  rcases h with rfl | ⟨rfl, rfl⟩
  · exact rv_sn
  · exact nil_sn
theorem key_ne (ox oy : Operand) (k0 k1 : Int) : bin Try.prog .neq 50 ox oy (.agg #[.int .i64 k0, .int .i64 k1]) (.agg #[.int .i64 k0, .int .i64 k1]) = some (.bool false) := by
  simp only [bin]
  rw [if_pos (by rfl)]
  have hg : pureRun Try.prog (eqGuard .neq 50 ox oy (.agg #[.int .i64 k0, .int .i64 k1]) (.agg #[.int .i64 k0, .int .i64 k1])) = some () := by
    have : Try.prog.eqGuardType Try.prog.depth 50 = false := by kernel_rfl
    simp [eqGuard, pr_bind, pr_prog, pr_pure, this]
  have he : pureRun Try.prog (Op.equalIn Op.maxDepth 50 (.agg #[.int .i64 k0, .int .i64 k1]) (.agg #[.int .i64 k0, .int .i64 k1])) = some true := by
    show pureRun Try.prog (Op.equalIn (9998 + 1 + 1) 50 (.agg #[.int .i64 k0, .int .i64 k1]) (.agg #[.int .i64 k0, .int .i64 k1])) = _
    unfold Op.equalIn
    rw [pr_bind, pr_under Try.underlying50]
    have hs : Try.prog.stoodInHeld 50 = false := by kernel_rfl
    have q0 : ∀ v0 v1 : Value, pureRun Try.prog (Go.part 3 #[v0, v1] 0) = some v0 := fun _ _ => rfl
    have q1 : ∀ v0 v1 : Value, pureRun Try.prog (Go.part 3 #[v0, v1] 1) = some v1 := fun _ _ => rfl
    have qi : ∀ x y : Int, pureRun Try.prog (Op.equalIn 9999 3 (.int .i64 x) (.int .i64 y)) = some (x == y) := fun x y => pr_int 9998 x y Try.underlying3
    simp [pr_bind, pr_prog, pr_pure, hs, q0, q1, qi]
  have hb : pureRun Try.prog (binOp .neq 50 (.agg #[.int .i64 k0, .int .i64 k1]) (.agg #[.int .i64 k0, .int .i64 k1])) = some (.bool false) := by
    have : binOp .neq 50 (.agg #[.int .i64 k0, .int .i64 k1]) (.agg #[.int .i64 k0, .int .i64 k1]) = (do let r ← Op.equal 50 (.agg #[.int .i64 k0, .int .i64 k1]) (.agg #[.int .i64 k0, .int .i64 k1]); pure (.bool !r)) := by simp [binOp]
    rw [this, pr_bind, show Op.equal 50 (.agg #[.int .i64 k0, .int .i64 k1]) (.agg #[.int .i64 k0, .int .i64 k1]) = Op.equalIn Op.maxDepth 50 (.agg #[.int .i64 k0, .int .i64 k1]) (.agg #[.int .i64 k0, .int .i64 k1]) from rfl, he]
    rfl
  have := pr_bind Try.prog (eqGuard .neq 50 ox oy (.agg #[.int .i64 k0, .int .i64 k1]) (.agg #[.int .i64 k0, .int .i64 k1])) (fun _ => binOp .neq 50 (.agg #[.int .i64 k0, .int .i64 k1]) (.agg #[.int .i64 k0, .int .i64 k1]))
  rw [hg, Option.bind_some, hb] at this
  rw [this]
theorem key_eq (ox oy : Operand) (k0 k1 : Int) : bin Try.prog .eql 50 ox oy (.agg #[.int .i64 k0, .int .i64 k1]) (.agg #[.int .i64 k0, .int .i64 k1]) = some (.bool true) := by
  simp only [bin]
  rw [if_pos (by rfl)]
  have hg : pureRun Try.prog (eqGuard .eql 50 ox oy (.agg #[.int .i64 k0, .int .i64 k1]) (.agg #[.int .i64 k0, .int .i64 k1])) = some () := by
    have : Try.prog.eqGuardType Try.prog.depth 50 = false := by kernel_rfl
    simp [eqGuard, pr_bind, pr_prog, pr_pure, this]
  have he : pureRun Try.prog (Op.equalIn Op.maxDepth 50 (.agg #[.int .i64 k0, .int .i64 k1]) (.agg #[.int .i64 k0, .int .i64 k1])) = some true := by
    show pureRun Try.prog (Op.equalIn (9998 + 1 + 1) 50 (.agg #[.int .i64 k0, .int .i64 k1]) (.agg #[.int .i64 k0, .int .i64 k1])) = _
    unfold Op.equalIn
    rw [pr_bind, pr_under Try.underlying50]
    have hs : Try.prog.stoodInHeld 50 = false := by kernel_rfl
    have q0 : ∀ v0 v1 : Value, pureRun Try.prog (Go.part 3 #[v0, v1] 0) = some v0 := fun _ _ => rfl
    have q1 : ∀ v0 v1 : Value, pureRun Try.prog (Go.part 3 #[v0, v1] 1) = some v1 := fun _ _ => rfl
    have qi : ∀ x y : Int, pureRun Try.prog (Op.equalIn 9999 3 (.int .i64 x) (.int .i64 y)) = some (x == y) := fun x y => pr_int 9998 x y Try.underlying3
    simp [pr_bind, pr_prog, pr_pure, hs, q0, q1, qi]
  have hb : pureRun Try.prog (binOp .eql 50 (.agg #[.int .i64 k0, .int .i64 k1]) (.agg #[.int .i64 k0, .int .i64 k1])) = some (.bool true) := by
    have : binOp .eql 50 (.agg #[.int .i64 k0, .int .i64 k1]) (.agg #[.int .i64 k0, .int .i64 k1]) = (do let r ← Op.equal 50 (.agg #[.int .i64 k0, .int .i64 k1]) (.agg #[.int .i64 k0, .int .i64 k1]); pure (.bool r)) := by simp [binOp]
    rw [this, pr_bind, show Op.equal 50 (.agg #[.int .i64 k0, .int .i64 k1]) (.agg #[.int .i64 k0, .int .i64 k1]) = Op.equalIn Op.maxDepth 50 (.agg #[.int .i64 k0, .int .i64 k1]) (.agg #[.int .i64 k0, .int .i64 k1]) from rfl, he]
    rfl
  have := pr_bind Try.prog (eqGuard .eql 50 ox oy (.agg #[.int .i64 k0, .int .i64 k1]) (.agg #[.int .i64 k0, .int .i64 k1])) (fun _ => binOp .eql 50 (.agg #[.int .i64 k0, .int .i64 k1]) (.agg #[.int .i64 k0, .int .i64 k1]))
  rw [hg, Option.bind_some, hb] at this
  rw [this]
theorem rg_eq (ox oy : Operand) (k0 k1 k2 k3 k4 k5 : Int) : bin Try.prog .eql 23 ox oy (.agg #[.int .i64 k0, .int .i64 k1, .int .i64 k2, .int .i64 k3, .int .i64 k4, .int .i64 k5]) (.agg #[.int .i64 k0, .int .i64 k1, .int .i64 k2, .int .i64 k3, .int .i64 k4, .int .i64 k5]) = some (.bool true) := by
  simp only [bin]
  rw [if_pos (by rfl)]
  have hg : pureRun Try.prog (eqGuard .eql 23 ox oy (.agg #[.int .i64 k0, .int .i64 k1, .int .i64 k2, .int .i64 k3, .int .i64 k4, .int .i64 k5]) (.agg #[.int .i64 k0, .int .i64 k1, .int .i64 k2, .int .i64 k3, .int .i64 k4, .int .i64 k5])) = some () := by
    have : Try.prog.eqGuardType Try.prog.depth 23 = false := by kernel_rfl
    simp [eqGuard, pr_bind, pr_prog, pr_pure, this]
  have he : pureRun Try.prog (Op.equalIn Op.maxDepth 23 (.agg #[.int .i64 k0, .int .i64 k1, .int .i64 k2, .int .i64 k3, .int .i64 k4, .int .i64 k5]) (.agg #[.int .i64 k0, .int .i64 k1, .int .i64 k2, .int .i64 k3, .int .i64 k4, .int .i64 k5])) = some true := by
    show pureRun Try.prog (Op.equalIn (9998 + 1 + 1) 23 (.agg #[.int .i64 k0, .int .i64 k1, .int .i64 k2, .int .i64 k3, .int .i64 k4, .int .i64 k5]) (.agg #[.int .i64 k0, .int .i64 k1, .int .i64 k2, .int .i64 k3, .int .i64 k4, .int .i64 k5])) = _
    unfold Op.equalIn
    rw [pr_bind, pr_under Try.underlying23]
    have hs : Try.prog.stoodInHeld 23 = false := by kernel_rfl
    have q0 : ∀ v0 v1 v2 v3 v4 v5 : Value, pureRun Try.prog (Go.part 3 #[v0, v1, v2, v3, v4, v5] 0) = some v0 := fun _ _ _ _ _ _ => rfl
    have q1 : ∀ v0 v1 v2 v3 v4 v5 : Value, pureRun Try.prog (Go.part 3 #[v0, v1, v2, v3, v4, v5] 1) = some v1 := fun _ _ _ _ _ _ => rfl
    have q2 : ∀ v0 v1 v2 v3 v4 v5 : Value, pureRun Try.prog (Go.part 3 #[v0, v1, v2, v3, v4, v5] 2) = some v2 := fun _ _ _ _ _ _ => rfl
    have q3 : ∀ v0 v1 v2 v3 v4 v5 : Value, pureRun Try.prog (Go.part 3 #[v0, v1, v2, v3, v4, v5] 3) = some v3 := fun _ _ _ _ _ _ => rfl
    have q4 : ∀ v0 v1 v2 v3 v4 v5 : Value, pureRun Try.prog (Go.part 3 #[v0, v1, v2, v3, v4, v5] 4) = some v4 := fun _ _ _ _ _ _ => rfl
    have q5 : ∀ v0 v1 v2 v3 v4 v5 : Value, pureRun Try.prog (Go.part 3 #[v0, v1, v2, v3, v4, v5] 5) = some v5 := fun _ _ _ _ _ _ => rfl
    have qi : ∀ x y : Int, pureRun Try.prog (Op.equalIn 9999 3 (.int .i64 x) (.int .i64 y)) = some (x == y) := fun x y => pr_int 9998 x y Try.underlying3
    simp [pr_bind, pr_prog, pr_pure, hs, q0, q1, q2, q3, q4, q5, qi]
  have hb : pureRun Try.prog (binOp .eql 23 (.agg #[.int .i64 k0, .int .i64 k1, .int .i64 k2, .int .i64 k3, .int .i64 k4, .int .i64 k5]) (.agg #[.int .i64 k0, .int .i64 k1, .int .i64 k2, .int .i64 k3, .int .i64 k4, .int .i64 k5])) = some (.bool true) := by
    have : binOp .eql 23 (.agg #[.int .i64 k0, .int .i64 k1, .int .i64 k2, .int .i64 k3, .int .i64 k4, .int .i64 k5]) (.agg #[.int .i64 k0, .int .i64 k1, .int .i64 k2, .int .i64 k3, .int .i64 k4, .int .i64 k5]) = (do let r ← Op.equal 23 (.agg #[.int .i64 k0, .int .i64 k1, .int .i64 k2, .int .i64 k3, .int .i64 k4, .int .i64 k5]) (.agg #[.int .i64 k0, .int .i64 k1, .int .i64 k2, .int .i64 k3, .int .i64 k4, .int .i64 k5]); pure (.bool r)) := by simp [binOp]
    rw [this, pr_bind, show Op.equal 23 (.agg #[.int .i64 k0, .int .i64 k1, .int .i64 k2, .int .i64 k3, .int .i64 k4, .int .i64 k5]) (.agg #[.int .i64 k0, .int .i64 k1, .int .i64 k2, .int .i64 k3, .int .i64 k4, .int .i64 k5]) = Op.equalIn Op.maxDepth 23 (.agg #[.int .i64 k0, .int .i64 k1, .int .i64 k2, .int .i64 k3, .int .i64 k4, .int .i64 k5]) (.agg #[.int .i64 k0, .int .i64 k1, .int .i64 k2, .int .i64 k3, .int .i64 k4, .int .i64 k5]) from rfl, he]
    rfl
  have := pr_bind Try.prog (eqGuard .eql 23 ox oy (.agg #[.int .i64 k0, .int .i64 k1, .int .i64 k2, .int .i64 k3, .int .i64 k4, .int .i64 k5]) (.agg #[.int .i64 k0, .int .i64 k1, .int .i64 k2, .int .i64 k3, .int .i64 k4, .int .i64 k5])) (fun _ => binOp .eql 23 (.agg #[.int .i64 k0, .int .i64 k1, .int .i64 k2, .int .i64 k3, .int .i64 k4, .int .i64 k5]) (.agg #[.int .i64 k0, .int .i64 k1, .int .i64 k2, .int .i64 k3, .int .i64 k4, .int .i64 k5]))
  rw [hg, Option.bind_some, hb] at this
  rw [this]
theorem find_has {l : List Rg} (hl : Can l) {p : Int} (h : (findS p l).2 = true) : Has l p (tagOf (findS p l).1) ∧ In (findS p l).1 p ∧ may (findS p l).1 = true := by
  obtain ⟨h1, h2⟩ := find_iff h
  exact ⟨⟨_, h1, h2, rfl⟩, h2, hl.may _ h1⟩
theorem find_not {l : List Rg} {p : Int} (h : (findS p l).2 = false) : (findS p l).1 = Rg.zero ∧ ∀ v, ¬ Has l p v := by
  refine ⟨?_, fun v ⟨x, hx, hi, _⟩ => find_none h x hx hi⟩
  induction l with
  | nil => rfl
  | cons x l ih =>
    unfold findS at h ⊢
    split
    · rename_i hc; rw [if_pos hc] at h; cases h
    · rename_i hc; rw [if_neg hc] at h; exact ih h
theorem find_true {l : List Rg} (hl : Can l) {p : Int} {v} (h : Has l p v) : (findS p l).2 = true ∧ tagOf (findS p l).1 = v := by
  cases hb : (findS p l).2 with
  | false => exact absurd h ((find_not hb).2 v)
  | true => exact ⟨rfl, hl.fn (find_has hl hb).1 h⟩
def keyT (v : Int × Int × Int × Int) (p : Int) : (Int × Int) × Bool := if v.2.1 = 1 then ((v.2.2.1, v.2.2.2 + p), true) else ((0, 0), false)
theorem key_tag {r : Rg} {p : Int} (hm : may r = true) (hi : In r p) : keyS r p = keyT (tagOf r) p := by
  rw [may_iff] at hm
  unfold In at hi
  unfold keyS keyT tagOf
  by_cases h : r.k = 1
  · rw [if_neg (by omega), if_pos h, i64_in (r.g + p) (by omega), i64_in (r.g + p - r.f) (by omega)]
    simp only [h, if_true]
    rw [show r.g + p - r.f = r.g - r.f + p by omega]
  · rw [if_pos (by omega), if_neg h]
theorem key_zero (p : Int) : keyS Rg.zero p = ((0, 0), false) := rfl
/-- Gap. -/
def gapGo (n : Int) : List Rg → Int → Int
  | [], a => a
  | x :: l, a => if x.f ≥ a ∧ x.f - a ≥ n then a else gapGo n l (max a x.t)
def gapS (l : List Rg) (f t n : Int) : Int × Bool := if n < 1 then (0, false) else if gapGo n l (max f 0) ≥ min t 4096 ∨ n > min t 4096 - gapGo n l (max f 0) then (0, false) else (gapGo n l (max f 0), true)
theorem gap_go {n : Int} (hn : 1 ≤ n) : ∀ {l : List Rg} {a : Int}, Can l → a ≤ gapGo n l a ∧ (∀ x ∈ l, gapGo n l a + n ≤ x.f ∨ x.t ≤ gapGo n l a) ∧ ∀ s, a ≤ s → s < gapGo n l a → ∃ q, s ≤ q ∧ q < s + n ∧ ∃ v, Has l q v
  | [], a, _ => ⟨Int.le_refl _, fun x hx => (by cases hx), fun s h1 h2 => (by unfold gapGo at h2; omega)⟩
  | x :: l, a, hl => by
    have hx := hl.pos (List.mem_cons_self ..)
    unfold gapGo
    by_cases hc : x.f ≥ a ∧ x.f - a ≥ n
    · rw [if_pos hc]
      refine ⟨Int.le_refl _, fun y hy => ?_, fun s h1 h2 => by omega⟩
      rcases List.mem_cons.1 hy with rfl | hy
      · omega
      · have := (hl.ahead y hy).1; omega
    · rw [if_neg hc]
      obtain ⟨h1, h2, h3⟩ := gap_go hn (l := l) (a := max a x.t) hl.tail
      refine ⟨by omega, fun y hy => ?_, fun s s1 s2 => ?_⟩
      · rcases List.mem_cons.1 hy with rfl | hy
        · right; omega
        · exact h2 y hy
      · by_cases hs : s < max a x.t
        · have hst : s < x.t := by omega
          by_cases hf : x.f ≤ s
          · exact ⟨s, Int.le_refl _, by omega, _, x, List.mem_cons_self .., ⟨hf, hst⟩, rfl⟩
          · exact ⟨x.f, by omega, by omega, _, x, List.mem_cons_self .., ⟨Int.le_refl _, hx.2.1⟩, rfl⟩
        · obtain ⟨q, q1, q2, v, hv⟩ := h3 s (by omega) s2
          exact ⟨q, q1, q2, v, by rw [Has.cons]; exact .inr hv⟩
theorem keeps_law {l : List Rg} (hl : Can l) (f t p : Int) : (f ≤ p ∧ p < t → findS p (cutGo f t l []) = (Rg.zero, false)) ∧ (¬ (f ≤ p ∧ p < t) → (findS p (cutGo f t l [])).2 = (findS p l).2 ∧ (findS p (cutGo f t l [])).1.p = (findS p l).1.p ∧ (findS p (cutGo f t l [])).1.k = (findS p l).1.k ∧ (findS p (cutGo f t l [])).1.l = (findS p l).1.l ∧ keyS (findS p (cutGo f t l [])).1 p = keyS (findS p l).1 p) := by
  obtain ⟨hc, hh⟩ := cut_can (f := f) (t := t) hl Can.nil (fun a ha => by cases ha)
  constructor
  · intro h
    have : (findS p (cutGo f t l [])).2 = false := by
      cases hb : (findS p (cutGo f t l [])).2 with
      | false => rfl
      | true =>
        rcases (hh p _).1 (find_has hc hb).1 with h' | h'
        · exact absurd h' Has.nil
        · exact absurd h h'.2
    exact Prod.ext (find_not this).1 this
  · intro h
    cases hb : (findS p l).2 with
    | true =>
      obtain ⟨a1, a2, a3⟩ := find_has hl hb
      obtain ⟨b1, b2⟩ := find_true hc ((hh p _).2 (.inr ⟨a1, h⟩))
      obtain ⟨c1, c2, c3⟩ := find_has hc b1
      have ht := tag_iff.1 b2
      exact ⟨b1, ht.1, ht.2.1, ht.2.2.1, by rw [key_tag c3 c2, key_tag a3 a2, b2]⟩
    | false =>
      obtain ⟨a1, a2⟩ := find_not hb
      have : (findS p (cutGo f t l [])).2 = false := by
        cases hb : (findS p (cutGo f t l [])).2 with
        | false => rfl
        | true =>
          rcases (hh p _).1 (find_has hc hb).1 with h' | h'
          · exact absurd h' Has.nil
          · exact absurd h'.1 (a2 _)
      obtain ⟨b1, b2⟩ := find_not this
      exact ⟨this, by rw [a1, b1], by rw [a1, b1], by rw [a1, b1], by rw [a1, b1]⟩
theorem prot_law {l : List Rg} (hl : Can l) {f t pm : Int} (h : (protS l f t pm).2 = 0) (p : Int) : (findS p (protS l f t pm).1).2 = (findS p l).2 ∧ ((findS p l).2 = true → (findS p (protS l f t pm).1).1.p = (if f ≤ p ∧ p < t then pm else (findS p l).1.p) ∧ (findS p (protS l f t pm).1).1.k = (findS p l).1.k) ∧ keyS (findS p (protS l f t pm).1).1 p = keyS (findS p l).1 p := by
  obtain ⟨p1, p2, p3, p4⟩ := prot_iff hl h
  rw [p4]
  obtain ⟨hc, hh⟩ := prot_can (f := f) (t := t) p1 hl Can.nil (fun a ha => by cases ha)
  cases hb : (findS p l).2 with
  | true =>
    obtain ⟨a1, a2, a3⟩ := find_has hl hb
    obtain ⟨b1, b2⟩ := find_true hc ((hh p _).2 (.inr ⟨_, a1, rfl⟩))
    obtain ⟨c1, c2, c3⟩ := find_has hc b1
    refine ⟨b1, fun _ => ?_, ?_⟩
    · unfold perV at b2
      split at b2
      · rename_i hi
        rw [if_pos hi]
        exact ⟨congrArg Prod.fst b2, congrArg (fun x => x.2.1) b2⟩
      · rename_i hi
        rw [if_neg hi]
        have ht := tag_iff.1 b2
        exact ⟨ht.1, ht.2.1⟩
    · rw [key_tag c3 c2, key_tag a3 a2, b2]
      unfold perV
      split <;> rfl
  | false =>
    obtain ⟨a1, a2⟩ := find_not hb
    have : (findS p (protGo pm f t l [])).2 = false := by
      cases hb : (findS p (protGo pm f t l [])).2 with
      | false => rfl
      | true =>
        rcases (hh p _).1 (find_has hc hb).1 with h' | ⟨w, h', _⟩
        · exact absurd h' Has.nil
        · exact absurd h' (a2 _)
    obtain ⟨b1, b2⟩ := find_not this
    exact ⟨this, fun h => (by cases h), by rw [a1, b1]⟩
theorem prot_ok (l : List Rg) (f t p : Int) (h : 0 ≤ p ∧ p ≤ 7) : (protS l f t p).2 = 0 ↔ f < t ∧ coversS l f t = true := by
  unfold protS
  constructor
  · intro h
    split at h
    · cases h
    · split at h
      · exact ⟨by omega, by assumption⟩
      · cases h
  · rintro ⟨h1, h2⟩
    rw [if_neg (by omega), if_pos h2]
def Free (l : List Rg) (n s : Int) : Prop := ∀ q, s ≤ q → q < s + n → ∀ v, ¬ Has l q v
theorem gap_free {n : Int} (hn : 1 ≤ n) {l : List Rg} (hl : Can l) (a : Int) : a ≤ gapGo n l a ∧ Free l n (gapGo n l a) ∧ ∀ s, a ≤ s → s < gapGo n l a → ¬ Free l n s := by
  obtain ⟨h1, h2, h3⟩ := gap_go hn (a := a) hl
  refine ⟨h1, ?_, fun s s1 s2 hf => ?_⟩
  · rintro q q1 q2 v ⟨x, hx, hi, _⟩
    have := h2 x hx
    unfold In at hi
    omega
  · obtain ⟨q, q1, q2, v, hv⟩ := h3 s s1 s2
    exact hf q q1 q2 v hv
theorem gap_at {l : List Rg} (hl : Can l) {f t n s : Int} (hn : 1 ≤ n) (h1 : max f 0 ≤ s) (h2 : s < min t 4096 ∧ n ≤ min t 4096 - s) (h3 : ∀ s', max f 0 ≤ s' → s' < s → ¬ Free l n s') (hf : Free l n s) : gapS l f t n = (s, true) := by
  obtain ⟨g1, g2, g3⟩ := gap_free hn hl (max f 0)
  have e : gapGo n l (max f 0) = s := by
    by_cases h4 : gapGo n l (max f 0) < s
    · exact absurd g2 (h3 _ g1 h4)
    · by_cases h5 : s < gapGo n l (max f 0)
      · exact absurd hf (g3 s h1 h5)
      · omega
  unfold gapS
  rw [if_neg (by omega), e, if_neg (by omega)]
theorem gap_end {l : List Rg} (hl : Can l) {f t n s : Int} (hn : 1 ≤ n) (h2 : ¬ (s < min t 4096 ∧ n ≤ min t 4096 - s)) (h3 : ∀ s', max f 0 ≤ s' → s' < s → ¬ Free l n s') : gapS l f t n = (0, false) := by
  obtain ⟨g1, g2, g3⟩ := gap_free hn hl (max f 0)
  unfold gapS
  rw [if_neg (by omega)]
  by_cases h4 : gapGo n l (max f 0) < s
  · exact absurd g2 (h3 _ g1 h4)
  · rw [if_pos (by omega)]
/-- What Gap says. -/
theorem gap_says {l : List Rg} (hl : Can l) {f t n : Int} (hn : 1 ≤ n) : ((gapS l f t n).2 = true → max f 0 ≤ (gapS l f t n).1 ∧ (gapS l f t n).1 + n ≤ min t 4096 ∧ Free l n (gapS l f t n).1 ∧ ∀ s, max f 0 ≤ s → s < (gapS l f t n).1 → ¬ Free l n s) ∧ ((gapS l f t n).2 = false → (gapS l f t n).1 = 0 ∧ ∀ s, max f 0 ≤ s → s + n ≤ min t 4096 → ¬ Free l n s) := by
  obtain ⟨g1, g2, g3⟩ := gap_free hn hl (max f 0)
  unfold gapS
  rw [if_neg (by omega)]
  split
  · refine ⟨fun h => (by cases h), fun _ => ⟨rfl, fun s s1 s2 => g3 s s1 (by omega)⟩⟩
  · exact ⟨fun _ => ⟨g1, by omega, g2, g3⟩, fun h => (by cases h)⟩
theorem gap_run (l : List Rg) (f t n : Int) (hl : Can l) : Rf Try.prog T 21 [rv tg l, .int .i64 f, .int .i64 t, .int .i64 n] (fun v => v = .tuple #[.int .i64 (gapS l f t n).1, .bool (gapS l f t n).2]) := by
  refine c_froz Try.func21 rfl rfl rfl rfl rfl rfl ?_
  intro g n0
  have hll := lenR hl
  by_cases h1 : n < 1
  · have e : gapS l f t n = (0, false) := if_pos h1
    rw [e]
    repeat' (first
      | ((with_reducible apply g_op); first
        | ((with_reducible apply g_move); first
          | ((with_reducible apply w_pure (v := .int _ _)); exact rfl; exact rfl))
        | ((with_reducible apply g_bin); first
          | ((with_reducible apply w_pure (v := .bool _)); exact rfl; exact rfl))
        | ((with_reducible apply g_assign); first
          | ((with_reducible apply w_pure (v := .int _ _)); exact rfl; exact rfl)
          | ((with_reducible apply w_pure (v := .bool _)); exact rfl; exact rfl))
        | ((with_reducible apply g_call); first
          | ((with_reducible apply w_max); exact rfl; exact rfl)
          | ((with_reducible apply w_min); exact rfl; exact rfl)))
      | with_reducible refine w_seq ?_
      | with_reducible refine w_nil ?_
      | with_reducible refine w_region ?_
      | with_reducible refine w_scope ?_
      | ((with_reducible apply w_ifd); exact rfl; all_goals (intro hc; first | (exfalso; omega) | skip))
      | ((with_reducible apply w_ret (v := .tuple #[.int _ _, .bool _])); exact rfl))
    exact fr_plain rfl rfl
  · repeat' (first
      | ((with_reducible apply g_op); first
        | ((with_reducible apply g_move); first
          | ((with_reducible apply w_pure (v := .int _ _)); exact rfl; exact rfl)
          | ((with_reducible apply w_pure (v := .func _ _ _)); exact rfl; exact rfl))
        | ((with_reducible apply g_bin); first
          | ((with_reducible apply w_pure (v := .bool _)); exact rfl; exact rfl))
        | ((with_reducible apply g_assign); first
          | ((with_reducible apply w_pure (v := .int _ _)); exact rfl; exact rfl)
          | ((with_reducible apply w_pure (v := .bool _)); exact rfl; exact rfl))
        | ((with_reducible apply g_call); first
          | ((with_reducible apply w_max); exact rfl; exact rfl)
          | ((with_reducible apply w_min); exact rfl; exact rfl)
          | ((with_reducible apply w_call (v := .int _ _)); exact rfl)))
      | with_reducible refine w_seq ?_
      | with_reducible refine w_nil ?_
      | with_reducible refine w_region ?_
      | with_reducible refine w_skip ?_
      | with_reducible refine w_block ?_
      | with_reducible refine w_label ?_
      | with_reducible refine w_scope ?_
      | ((with_reducible apply w_ifd); exact rfl; all_goals (intro hc; first | (exfalso; omega) | skip)))
    refine w_rngK [(10, 10), (13, 13), (22, 42)] l (fun i rest (a : Int) σ g' n' => σ 22 = .int .i64 (i : Nat) ∧ σ 10 = .int .i64 a ∧ 0 ≤ a ∧ gapGo n rest a = gapGo n l (max f 0) ∧ n0 ≤ n') ?_ ?_ (max f 0) ⟨rfl, rfl, by omega, rfl, Nat.le_refl _⟩
    · rintro i x rest a σ g2 n2 hx hlt ⟨k22, k10, ha, hgo, hn⟩ ih
      refine w_keep (i := 22) k22 (w_keep (i := 10) k10 ?_)
      have hxp := hl.pos (List.mem_of_getElem? hx)
      simp only [gapGo] at hgo
      by_cases hc : x.f ≥ a ∧ x.f - a ≥ n
      · rw [if_pos hc] at hgo
        by_cases he : a ≥ min t 4096 ∨ n > min t 4096 - a
        · have e : gapS l f t n = (0, false) := by unfold gapS; rw [if_neg h1, ← hgo, if_pos he]
          rw [e]
          repeat' (first
            | ((with_reducible apply g_op); first
              | ((with_reducible apply g_load); first
                | ((with_reducible apply w_fl (v := .agg #[_, _, _, _, _, _])); exact rfl; exact (fun _ => rfl); assumption; exact rfl)
                | ((with_reducible apply w_load (v := .int _ _)); exact rfl; (first | assumption | (simp (disch := omega) only [upd_same, upd_ne]; first | done | assumption | exact rfl) | exact rfl); exact rfl))
              | ((with_reducible apply g_move); first
                | ((with_reducible apply w_pure (v := .int _ _)); exact rfl; exact rfl)
                | ((with_reducible apply w_pure (v := .bool _)); exact rfl; exact rfl))
              | ((with_reducible apply g_bin); first
                | ((with_reducible apply w_wrap); exact rfl; exact rfl; first | exact i64_in _ (by omega) | exact u64_in _ (by omega) | exact u8_in _ (by omega))
                | ((with_reducible apply w_pure (v := .bool _)); exact rfl; exact rfl))
              | ((with_reducible apply g_fld); first
                | ((with_reducible apply w_fldp (o := 0)); exact rfl; exact rfl; exact rfl; exact (by decide)))
              | ((with_reducible apply g_pick); first
                | ((with_reducible apply w_pk1 (v := .bool _)); exact rfl; exact rfl; (first | assumption | exact decide_eq_true (by assumption) | exact decide_eq_false (by assumption) | exact decide_eq_true (by omega) | exact decide_eq_false (by omega) | exact beq_iff_eq.2 (by omega) | exact beq_eq_false_iff_ne.2 (by omega) | exact bne_iff_ne.2 (by omega) | exact bne_eq_false_iff_eq.2 (by omega)))
                | ((with_reducible apply w_pk0 (v := .bool _)); exact rfl; exact rfl; (first | assumption | exact decide_eq_true (by assumption) | exact decide_eq_false (by assumption) | exact decide_eq_true (by omega) | exact decide_eq_false (by omega) | exact beq_iff_eq.2 (by omega) | exact beq_eq_false_iff_ne.2 (by omega) | exact bne_iff_ne.2 (by omega) | exact bne_eq_false_iff_eq.2 (by omega))))
              | ((with_reducible apply g_assign); first
                | ((with_reducible apply w_pure (v := .int _ _)); exact rfl; exact rfl)
                | ((with_reducible apply w_pure (v := .bool _)); exact rfl; exact rfl))
              | ((with_reducible apply g_store); first
                | ((with_reducible apply w_store (us := [_, _, _, _, _, _]) (ws := [_, _, _, _, _, _])); exact rfl; exact rfl; (first | assumption | (simp (disch := omega) only [upd_same, upd_ne]; first | done | assumption | exact rfl) | exact rfl); omega; exact rfl; exact rfl; exact rfl))
              | ((with_reducible apply g_ix); first
                | ((with_reducible apply w_fx (sz := 6)); exact rfl; exact rfl; exact rfl; exact rfl; exact rfl; exact (fun _ => rfl); assumption; exact rfl))
              | ((with_reducible apply w_alloc (ls := [_, _, _, _, _, _])); exact rfl; exact rfl))
            | ((with_reducible apply g_gd); first
              | ((with_reducible apply w_gd_t); exact rfl; all_goals (intro hc; first | (exfalso; omega) | skip))
              | ((with_reducible apply w_gd_f); exact rfl; all_goals (intro hc; first | (exfalso; omega) | skip)))
            | with_reducible refine w_seq ?_
            | with_reducible refine w_nil ?_
            | with_reducible refine w_region ?_
            | with_reducible refine w_skip ?_
            | with_reducible refine w_block ?_
            | ((with_reducible apply w_exit); exact rfl)
            | ((with_reducible apply w_yes); exact rfl)
            | ((with_reducible apply w_ifd); exact rfl; all_goals (intro hc; first | (exfalso; omega) | skip))
            | ((with_reducible apply w_ret (v := .tuple #[.int _ _, .bool _])); exact rfl))
          all_goals first | (exfalso; omega) | exact fr_plain rfl rfl
        · have e : gapS l f t n = (a, true) := by unfold gapS; rw [if_neg h1, ← hgo, if_neg he]
          rw [e]
          repeat' (first
            | ((with_reducible apply g_op); first
              | ((with_reducible apply g_load); first
                | ((with_reducible apply w_fl (v := .agg #[_, _, _, _, _, _])); exact rfl; exact (fun _ => rfl); assumption; exact rfl)
                | ((with_reducible apply w_load (v := .int _ _)); exact rfl; (first | assumption | (simp (disch := omega) only [upd_same, upd_ne]; first | done | assumption | exact rfl) | exact rfl); exact rfl))
              | ((with_reducible apply g_move); first
                | ((with_reducible apply w_pure (v := .int _ _)); exact rfl; exact rfl)
                | ((with_reducible apply w_pure (v := .bool _)); exact rfl; exact rfl))
              | ((with_reducible apply g_bin); first
                | ((with_reducible apply w_wrap); exact rfl; exact rfl; first | exact i64_in _ (by omega) | exact u64_in _ (by omega) | exact u8_in _ (by omega))
                | ((with_reducible apply w_pure (v := .bool _)); exact rfl; exact rfl))
              | ((with_reducible apply g_fld); first
                | ((with_reducible apply w_fldp (o := 0)); exact rfl; exact rfl; exact rfl; exact (by decide)))
              | ((with_reducible apply g_pick); first
                | ((with_reducible apply w_pk1 (v := .bool _)); exact rfl; exact rfl; (first | assumption | exact decide_eq_true (by assumption) | exact decide_eq_false (by assumption) | exact decide_eq_true (by omega) | exact decide_eq_false (by omega) | exact beq_iff_eq.2 (by omega) | exact beq_eq_false_iff_ne.2 (by omega) | exact bne_iff_ne.2 (by omega) | exact bne_eq_false_iff_eq.2 (by omega)))
                | ((with_reducible apply w_pk0 (v := .bool _)); exact rfl; exact rfl; (first | assumption | exact decide_eq_true (by assumption) | exact decide_eq_false (by assumption) | exact decide_eq_true (by omega) | exact decide_eq_false (by omega) | exact beq_iff_eq.2 (by omega) | exact beq_eq_false_iff_ne.2 (by omega) | exact bne_iff_ne.2 (by omega) | exact bne_eq_false_iff_eq.2 (by omega))))
              | ((with_reducible apply g_assign); first
                | ((with_reducible apply w_pure (v := .int _ _)); exact rfl; exact rfl)
                | ((with_reducible apply w_pure (v := .bool _)); exact rfl; exact rfl))
              | ((with_reducible apply g_store); first
                | ((with_reducible apply w_store (us := [_, _, _, _, _, _]) (ws := [_, _, _, _, _, _])); exact rfl; exact rfl; (first | assumption | (simp (disch := omega) only [upd_same, upd_ne]; first | done | assumption | exact rfl) | exact rfl); omega; exact rfl; exact rfl; exact rfl))
              | ((with_reducible apply g_ix); first
                | ((with_reducible apply w_fx (sz := 6)); exact rfl; exact rfl; exact rfl; exact rfl; exact rfl; exact (fun _ => rfl); assumption; exact rfl))
              | ((with_reducible apply w_alloc (ls := [_, _, _, _, _, _])); exact rfl; exact rfl))
            | ((with_reducible apply g_gd); first
              | ((with_reducible apply w_gd_t); exact rfl; all_goals (intro hc; first | (exfalso; omega) | skip))
              | ((with_reducible apply w_gd_f); exact rfl; all_goals (intro hc; first | (exfalso; omega) | skip)))
            | with_reducible refine w_seq ?_
            | with_reducible refine w_nil ?_
            | with_reducible refine w_region ?_
            | with_reducible refine w_skip ?_
            | with_reducible refine w_block ?_
            | ((with_reducible apply w_exit); exact rfl)
            | ((with_reducible apply w_ifd); exact rfl; all_goals (intro hc; first | (exfalso; omega) | skip))
            | ((with_reducible apply w_ret (v := .tuple #[.int _ _, .bool _])); exact rfl))
          all_goals first | (exfalso; omega) | exact fr_plain rfl rfl
      · rw [if_neg hc] at hgo
        repeat' (first
          | ((with_reducible apply g_op); first
            | ((with_reducible apply g_load); first
              | ((with_reducible apply w_fl (v := .agg #[_, _, _, _, _, _])); exact rfl; exact (fun _ => rfl); assumption; exact rfl)
              | ((with_reducible apply w_load (v := .int _ _)); exact rfl; (first | assumption | (simp (disch := omega) only [upd_same, upd_ne]; first | done | assumption | exact rfl) | exact rfl); exact rfl))
            | ((with_reducible apply g_move); first
              | ((with_reducible apply w_pure (v := .int _ _)); exact rfl; exact rfl)
              | ((with_reducible apply w_pure (v := .bool _)); exact rfl; exact rfl))
            | ((with_reducible apply g_bin); first
              | ((with_reducible apply w_wrap); exact rfl; exact rfl; first | exact i64_in _ (by omega) | exact u64_in _ (by omega) | exact u8_in _ (by omega))
              | ((with_reducible apply w_pure (v := .bool _)); exact rfl; exact rfl))
            | ((with_reducible apply g_fld); first
              | ((with_reducible apply w_fldp (o := 0)); exact rfl; exact rfl; exact rfl; exact (by decide))
              | ((with_reducible apply w_fldp (o := 1)); exact rfl; exact rfl; exact rfl; exact (by decide)))
            | ((with_reducible apply g_pick); first
              | ((with_reducible apply w_pk1 (v := .bool _)); exact rfl; exact rfl; (first | assumption | exact decide_eq_true (by assumption) | exact decide_eq_false (by assumption) | exact decide_eq_true (by omega) | exact decide_eq_false (by omega) | exact beq_iff_eq.2 (by omega) | exact beq_eq_false_iff_ne.2 (by omega) | exact bne_iff_ne.2 (by omega) | exact bne_eq_false_iff_eq.2 (by omega)))
              | ((with_reducible apply w_pk0 (v := .bool _)); exact rfl; exact rfl; (first | assumption | exact decide_eq_true (by assumption) | exact decide_eq_false (by assumption) | exact decide_eq_true (by omega) | exact decide_eq_false (by omega) | exact beq_iff_eq.2 (by omega) | exact beq_eq_false_iff_ne.2 (by omega) | exact bne_iff_ne.2 (by omega) | exact bne_eq_false_iff_eq.2 (by omega))))
            | ((with_reducible apply g_assign); first
              | ((with_reducible apply w_pure (v := .int _ _)); exact rfl; exact rfl))
            | ((with_reducible apply g_call); first
              | ((with_reducible apply w_max); exact rfl; exact rfl))
            | ((with_reducible apply g_store); first
              | ((with_reducible apply w_store (us := [_, _, _, _, _, _]) (ws := [_, _, _, _, _, _])); exact rfl; exact rfl; (first | assumption | (simp (disch := omega) only [upd_same, upd_ne]; first | done | assumption | exact rfl) | exact rfl); omega; exact rfl; exact rfl; exact rfl))
            | ((with_reducible apply g_ix); first
              | ((with_reducible apply w_fx (sz := 6)); exact rfl; exact rfl; exact rfl; exact rfl; exact rfl; exact (fun _ => rfl); assumption; exact rfl))
            | ((with_reducible apply w_alloc (ls := [_, _, _, _, _, _])); exact rfl; exact rfl))
          | ((with_reducible apply g_gd); first
            | ((with_reducible apply w_gd_t); exact rfl; all_goals (intro hc; first | (exfalso; omega) | skip)))
          | with_reducible refine w_seq ?_
          | with_reducible refine w_nil ?_
          | with_reducible refine w_region ?_
          | with_reducible refine w_skip ?_
          | with_reducible refine w_block ?_
          | with_reducible refine w_blk ?_
          | ((with_reducible apply w_no); exact rfl)
          | ((with_reducible apply w_ifd); exact rfl; all_goals (intro hc; first | (exfalso; omega) | skip)))
        all_goals first | (exfalso; omega) | exact ih (max a x.t) _ _ _ (by repeat' (first | with_reducible exact Fr.mix | with_reducible exact Fr.rfl' | with_reducible refine Fr.put ?_ ?_ | with_reducible refine Fr.mix2 ?_ ?_ | with_reducible refine Fr.put0 ?_ | exact rfl)) ⟨by push_cast; rfl, rfl, by omega, hgo, by omega⟩
    · rintro a σ g2 n2 ⟨k22, k10, ha, hgo, hn⟩
      refine w_keep (i := 22) k22 (w_keep (i := 10) k10 ?_)
      simp only [gapGo] at hgo
      by_cases he : a ≥ min t 4096 ∨ n > min t 4096 - a
      · have e : gapS l f t n = (0, false) := by unfold gapS; rw [if_neg h1, ← hgo, if_pos he]
        rw [e]
        repeat' (first
          | ((with_reducible apply g_op); first
            | ((with_reducible apply g_move); first
              | ((with_reducible apply w_pure (v := .int _ _)); exact rfl; exact rfl)
              | ((with_reducible apply w_pure (v := .bool _)); exact rfl; exact rfl))
            | ((with_reducible apply g_bin); first
              | ((with_reducible apply w_wrap); exact rfl; exact rfl; first | exact i64_in _ (by omega) | exact u64_in _ (by omega) | exact u8_in _ (by omega))
              | ((with_reducible apply w_pure (v := .bool _)); exact rfl; exact rfl))
            | ((with_reducible apply g_pick); first
              | ((with_reducible apply w_pk1 (v := .bool _)); exact rfl; exact rfl; (first | assumption | exact decide_eq_true (by assumption) | exact decide_eq_false (by assumption) | exact decide_eq_true (by omega) | exact decide_eq_false (by omega) | exact beq_iff_eq.2 (by omega) | exact beq_eq_false_iff_ne.2 (by omega) | exact bne_iff_ne.2 (by omega) | exact bne_eq_false_iff_eq.2 (by omega)))
              | ((with_reducible apply w_pk0 (v := .bool _)); exact rfl; exact rfl; (first | assumption | exact decide_eq_true (by assumption) | exact decide_eq_false (by assumption) | exact decide_eq_true (by omega) | exact decide_eq_false (by omega) | exact beq_iff_eq.2 (by omega) | exact beq_eq_false_iff_ne.2 (by omega) | exact bne_iff_ne.2 (by omega) | exact bne_eq_false_iff_eq.2 (by omega))))
            | ((with_reducible apply g_assign); first
              | ((with_reducible apply w_pure (v := .int _ _)); exact rfl; exact rfl)
              | ((with_reducible apply w_pure (v := .bool _)); exact rfl; exact rfl)))
          | ((with_reducible apply g_gd); first
            | ((with_reducible apply w_gd_f); exact rfl; all_goals (intro hc; first | (exfalso; omega) | skip)))
          | with_reducible refine w_seq ?_
          | with_reducible refine w_nil ?_
          | with_reducible refine w_region ?_
          | ((with_reducible apply w_exit); exact rfl)
          | ((with_reducible apply w_yes); exact rfl)
          | ((with_reducible apply w_ifd); exact rfl; all_goals (intro hc; first | (exfalso; omega) | skip))
          | ((with_reducible apply w_ret (v := .tuple #[.int _ _, .bool _])); exact rfl))
        all_goals first | (exfalso; omega) | exact fr_plain rfl rfl
      · have e : gapS l f t n = (a, true) := by unfold gapS; rw [if_neg h1, ← hgo, if_neg he]
        rw [e]
        repeat' (first
          | ((with_reducible apply g_op); first
            | ((with_reducible apply g_move); first
              | ((with_reducible apply w_pure (v := .int _ _)); exact rfl; exact rfl)
              | ((with_reducible apply w_pure (v := .bool _)); exact rfl; exact rfl))
            | ((with_reducible apply g_bin); first
              | ((with_reducible apply w_wrap); exact rfl; exact rfl; first | exact i64_in _ (by omega) | exact u64_in _ (by omega) | exact u8_in _ (by omega))
              | ((with_reducible apply w_pure (v := .bool _)); exact rfl; exact rfl))
            | ((with_reducible apply g_pick); first
              | ((with_reducible apply w_pk0 (v := .bool _)); exact rfl; exact rfl; (first | assumption | exact decide_eq_true (by assumption) | exact decide_eq_false (by assumption) | exact decide_eq_true (by omega) | exact decide_eq_false (by omega) | exact beq_iff_eq.2 (by omega) | exact beq_eq_false_iff_ne.2 (by omega) | exact bne_iff_ne.2 (by omega) | exact bne_eq_false_iff_eq.2 (by omega))))
            | ((with_reducible apply g_assign); first
              | ((with_reducible apply w_pure (v := .int _ _)); exact rfl; exact rfl)
              | ((with_reducible apply w_pure (v := .bool _)); exact rfl; exact rfl)))
          | ((with_reducible apply g_gd); first
            | ((with_reducible apply w_gd_f); exact rfl; all_goals (intro hc; first | (exfalso; omega) | skip)))
          | with_reducible refine w_seq ?_
          | with_reducible refine w_nil ?_
          | with_reducible refine w_region ?_
          | with_reducible refine w_skip ?_
          | ((with_reducible apply w_exit); exact rfl)
          | ((with_reducible apply w_ifd); exact rfl; all_goals (intro hc; first | (exfalso; omega) | skip))
          | ((with_reducible apply w_ret (v := .tuple #[.int _ _, .bool _])); exact rfl))
        all_goals first | (exfalso; omega) | exact fr_plain rfl rfl
theorem rgap_run (l : List Rg) (f t n : Int) (hl : Can l) : Rf Try.prog T 23 [rv tg l, .int .i64 f, .int .i64 t, .int .i64 n] (fun v => v = .tuple #[.int .i64 (gapS l f t n).1, .bool (gapS l f t n).2]) := by
  refine c_froz Try.func23 rfl rfl rfl rfl rfl rfl ?_
  intro g n0
  have hll := lenR hl
  obtain ⟨lo, hlo⟩ : ∃ lo : Nat, (lo : Int) = max f 0 := ⟨(max f 0).toNat, by omega⟩
  obtain ⟨hi, hhi⟩ : ∃ hi, hi = min t 4096 := ⟨_, rfl⟩
  by_cases h1 : n < 1
  · have e : gapS l f t n = (0, false) := if_pos h1
    rw [e]
    repeat' (first
      | ((with_reducible apply g_op); first
        | ((with_reducible apply g_move); first
          | ((with_reducible apply w_pure (v := .func _ _ _)); exact rfl; exact rfl))
        | ((with_reducible apply g_assign); first
          | ((with_reducible apply w_pure (v := .int _ _)); exact rfl; exact rfl)
          | ((with_reducible apply w_pure (v := .bool _)); exact rfl; exact rfl)))
      | with_reducible refine w_seq ?_
      | with_reducible refine w_nil ?_
      | with_reducible refine w_region ?_)
    refine w_rn (spread_run l hl (by omega) g n0 n0) (fun _ => rfl) ?_
    rintro _ g1 n1 ⟨rfl, ⟨PS, hP, hg1⟩, hfr, hn1⟩
    repeat' (first
      | ((with_reducible apply g_op); first
        | ((with_reducible apply g_move); first
          | ((with_reducible apply w_pure (v := .int _ _)); exact rfl; exact rfl))
        | ((with_reducible apply g_bin); first
          | ((with_reducible apply w_pure (v := .bool _)); exact rfl; exact rfl))
        | ((with_reducible apply g_assign); first
          | ((with_reducible apply w_pure (v := .int _ _)); exact rfl; exact rfl)
          | ((with_reducible apply w_pure (v := .bool _)); exact rfl; exact rfl)
          | ((with_reducible apply w_pure (v := .slice _ _ _)); exact rfl; exact rfl)))
      | with_reducible refine w_seq ?_
      | with_reducible refine w_nil ?_
      | with_reducible refine w_region ?_
      | with_reducible refine w_skip ?_
      | ((with_reducible apply w_ifd); exact rfl; all_goals (intro hc; first | (exfalso; omega) | skip))
      | ((with_reducible apply w_ret (v := .tuple #[.int _ _, .bool _])); exact rfl))
    all_goals exact fr_plain rfl rfl
  · repeat' (first
      | ((with_reducible apply g_op); first
        | ((with_reducible apply g_move); first
          | ((with_reducible apply w_pure (v := .func _ _ _)); exact rfl; exact rfl))
        | ((with_reducible apply g_assign); first
          | ((with_reducible apply w_pure (v := .int _ _)); exact rfl; exact rfl)
          | ((with_reducible apply w_pure (v := .bool _)); exact rfl; exact rfl)))
      | with_reducible refine w_seq ?_
      | with_reducible refine w_nil ?_
      | with_reducible refine w_region ?_)
    refine w_rn (spread_run l hl (by omega) g n0 n0) (fun _ => rfl) ?_
    rintro _ g1 n1 ⟨rfl, ⟨PS, hP, hg1⟩, hfr, hn1⟩
    repeat' (first
      | ((with_reducible apply g_op); first
        | ((with_reducible apply g_move); first
          | ((with_reducible apply w_pure (v := .int _ _)); exact rfl; exact rfl))
        | ((with_reducible apply g_bin); first
          | ((with_reducible apply w_pure (v := .bool _)); exact rfl; exact rfl))
        | ((with_reducible apply g_assign); first
          | ((with_reducible apply w_pure (v := .int _ _)); exact rfl; exact rfl)
          | ((with_reducible apply w_pure (v := .slice _ _ _)); exact rfl; exact rfl)))
      | with_reducible refine w_seq ?_
      | with_reducible refine w_nil ?_
      | with_reducible refine w_region ?_
      | with_reducible refine w_skip ?_
      | with_reducible refine w_block ?_
      | ((with_reducible apply w_ifd); exact rfl; all_goals (intro hc; first | (exfalso; omega) | skip)))
    all_goals (
      refine w_keep (i := 1) (v := .int .i64 (lo : Nat)) (congrArg (Value.int .i64) (by omega)) ?_
      refine w_keep (i := 2) (v := .int .i64 hi) (congrArg (Value.int .i64) (by omega)) ?_
      refine w_keep (i := 11) (v := .int .i64 (lo : Nat)) (congrArg (Value.int .i64) (by omega)) ?_
      refine w_whileK [(8, 9), (11, 13), (23, 53)] (α := Nat) (fun s σ g' n' => σ 11 = .int .i64 (s : Nat) ∧ g' n0 = some (.cells 60 (PS.flatMap pgc)) ∧ lo ≤ s ∧ ∀ s' : Int, max f 0 ≤ s' → s' < s → ¬ Free l n s') (fun s => hi.toNat - s) ?_ lo ⟨rfl, hg1, Nat.le_refl _, fun s' a b => by omega⟩
      rintro s σ g2 n2 ⟨k11, hg2, hs1, hall⟩ ih
      refine w_keep (i := 11) k11 ?_
      by_cases hc : (s : Int) < hi ∧ n ≤ hi - s
      · repeat' (first
          | ((with_reducible apply g_op); first
            | ((with_reducible apply g_move); first
              | ((with_reducible apply w_pure (v := .int _ _)); exact rfl; exact rfl)
              | ((with_reducible apply w_pure (v := .bool _)); exact rfl; exact rfl))
            | ((with_reducible apply g_bin); first
              | ((with_reducible apply w_wrap); exact rfl; exact rfl; first | exact i64_in _ (by omega) | exact u64_in _ (by omega) | exact u8_in _ (by omega))
              | ((with_reducible apply w_pure (v := .bool _)); exact rfl; exact rfl))
            | ((with_reducible apply g_pick); first
              | ((with_reducible apply w_pk1 (v := .bool _)); exact rfl; exact rfl; (first | assumption | exact decide_eq_true (by assumption) | exact decide_eq_false (by assumption) | exact decide_eq_true (by omega) | exact decide_eq_false (by omega) | exact beq_iff_eq.2 (by omega) | exact beq_eq_false_iff_ne.2 (by omega) | exact bne_iff_ne.2 (by omega) | exact bne_eq_false_iff_eq.2 (by omega))))
            | ((with_reducible apply g_assign); first
              | ((with_reducible apply w_pure (v := .int _ _)); exact rfl; exact rfl)
              | ((with_reducible apply w_pure (v := .bool _)); exact rfl; exact rfl)))
          | ((with_reducible apply g_gd); first
            | ((with_reducible apply w_gd_t); exact rfl; all_goals (intro hc; first | (exfalso; omega) | skip)))
          | with_reducible refine w_seq ?_
          | with_reducible refine w_nil ?_
          | with_reducible refine w_region ?_
          | with_reducible refine w_skip ?_
          | with_reducible refine w_block ?_
          | ((with_reducible apply w_ifd); exact rfl; all_goals (intro hc; first | (exfalso; omega) | skip)))
        refine w_whileK [(12, 13), (36, 51)] (α := Nat × Bool) (fun x σ g' n' => σ 12 = .bool x.2 ∧ σ 13 = .int .i64 (x.1 : Nat) ∧ g' n0 = some (.cells 60 (PS.flatMap pgc)) ∧ s ≤ x.1 ∧ (x.1 : Int) ≤ s + n ∧ (x.2 = true ↔ ∀ q : Nat, s ≤ q → q < x.1 → (pgAt l q).2 = false)) (fun x => (s + n).toNat - x.1) ?_ (s, true) ⟨rfl, rfl, hg2, Nat.le_refl _, by dsimp only; omega, ⟨fun _ q a b => by dsimp only at b; omega, fun _ => rfl⟩⟩
        rintro ⟨p, b⟩ σ g3 n3 ⟨k12, k13, hg3, p1, p2, hb⟩ ih2
        dsimp only at k12 k13 p1 p2 hb
        refine w_keep (i := 12) k12 (w_keep (i := 13) k13 ?_)
        by_cases hpt : (p : Int) < s + n
        · have hp4 : p < 4096 := by omega
          have hpp := hP.at_ p hp4
          cases b with
          | true =>
            have hb' := hb.1 rfl
            obtain ⟨z, hz⟩ : ∃ z, z = (pgAt l p).2 := ⟨_, rfl⟩
            repeat' (first
              | ((with_reducible apply g_op); first
                | ((with_reducible apply g_move); first
                  | ((with_reducible apply w_pure (v := .int _ _)); exact rfl; exact rfl)
                  | ((with_reducible apply w_pure (v := .bool _)); exact rfl; exact rfl)
                  | ((with_reducible apply w_pure (v := .slice _ _ _)); exact rfl; exact rfl))
                | ((with_reducible apply g_bin); first
                  | ((with_reducible apply w_wrap); exact rfl; exact rfl; first | exact i64_in _ (by omega) | exact u64_in _ (by omega) | exact u8_in _ (by omega))
                  | ((with_reducible apply w_pure (v := .bool _)); exact rfl; exact rfl))
                | ((with_reducible apply g_fld); first
                  | ((with_reducible apply w_fldp (o := 6)); exact rfl; exact rfl; exact rfl; exact (by decide)))
                | ((with_reducible apply g_ix); first
                  | ((with_reducible apply w_ixr (sz := 7)); exact rfl; exact rfl; exact rfl; exact rfl; omega; omega)))
              | ((with_reducible apply g_gd); first
                | ((with_reducible apply w_want); exact rfl))
              | with_reducible refine w_seq ?_
              | with_reducible refine w_nil ?_
              | with_reducible refine w_region ?_
              | with_reducible refine w_skip ?_
              | with_reducible refine w_block ?_
              | ((with_reducible apply w_ifd); exact rfl; all_goals (intro hc; first | (exfalso; omega) | skip)))
            refine w_load (v := .bool z) rfl hg3 (by rw [show 0 + ((p : Int)).toNat * 7 + 6 = p * 7 + 6 by omega]; exact part_flat pgc_len hpp (by rw [part_one (by kernel_rfl)]; show some (Value.bool (pgAt l p).2) = _; rw [hz])) ?_
            cases z with
            | true =>
              repeat' (first
                | ((with_reducible apply g_op); first
                  | ((with_reducible apply g_move); first
                    | ((with_reducible apply w_pure (v := .int _ _)); exact rfl; exact rfl))
                  | ((with_reducible apply g_bin); first
                    | ((with_reducible apply w_wrap); exact rfl; exact rfl; first | exact i64_in _ (by omega) | exact u64_in _ (by omega) | exact u8_in _ (by omega)))
                  | ((with_reducible apply g_assign); first
                    | ((with_reducible apply w_pure (v := .int _ _)); exact rfl; exact rfl)
                    | ((with_reducible apply w_pure (v := .bool _)); exact rfl; exact rfl))
                  | ((with_reducible apply w_pure (v := .bool _)); exact rfl; exact rfl))
                | ((with_reducible apply g_gd); first
                  | ((with_reducible apply w_want); exact rfl))
                | with_reducible refine w_nil ?_
                | with_reducible refine w_region ?_
                | with_reducible refine w_blk ?_)
              exact ih2 (p + 1, false) _ _ _ (by dsimp only; omega) (by repeat' (first | with_reducible exact Fr.mix | with_reducible exact Fr.rfl' | with_reducible refine Fr.put ?_ ?_ | with_reducible refine Fr.mix2 ?_ ?_ | with_reducible refine Fr.put0 ?_ | exact rfl)) ⟨rfl, by push_cast; rfl, hg3, by dsimp only; omega, by push_cast; omega, ⟨fun h => (by cases h), fun h => (by have := h p p1 (by dsimp only; omega); rw [← hz] at this; cases this)⟩⟩
            | false =>
              repeat' (first
                | ((with_reducible apply g_op); first
                  | ((with_reducible apply g_move); first
                    | ((with_reducible apply w_pure (v := .int _ _)); exact rfl; exact rfl))
                  | ((with_reducible apply g_bin); first
                    | ((with_reducible apply w_wrap); exact rfl; exact rfl; first | exact i64_in _ (by omega) | exact u64_in _ (by omega) | exact u8_in _ (by omega)))
                  | ((with_reducible apply g_assign); first
                    | ((with_reducible apply w_pure (v := .int _ _)); exact rfl; exact rfl)
                    | ((with_reducible apply w_pure (v := .bool _)); exact rfl; exact rfl))
                  | ((with_reducible apply w_pure (v := .bool _)); exact rfl; exact rfl))
                | ((with_reducible apply g_gd); first
                  | ((with_reducible apply w_want); exact rfl))
                | with_reducible refine w_nil ?_
                | with_reducible refine w_region ?_
                | with_reducible refine w_blk ?_)
              exact ih2 (p + 1, true) _ _ _ (by dsimp only; omega) (by repeat' (first | with_reducible exact Fr.mix | with_reducible exact Fr.rfl' | with_reducible refine Fr.put ?_ ?_ | with_reducible refine Fr.mix2 ?_ ?_ | with_reducible refine Fr.put0 ?_ | exact rfl)) ⟨rfl, by push_cast; rfl, hg3, by dsimp only; omega, by push_cast; omega, ⟨fun _ q a b => by
                by_cases e : q = p
                · subst e; exact hz.symm
                · exact hb' q a (by dsimp only at b; omega), fun _ => rfl⟩⟩
          | false =>
            repeat' (first
              | ((with_reducible apply g_op); first
                | ((with_reducible apply g_move); first
                  | ((with_reducible apply w_pure (v := .int _ _)); exact rfl; exact rfl)
                  | ((with_reducible apply w_pure (v := .bool _)); exact rfl; exact rfl))
                | ((with_reducible apply g_bin); first
                  | ((with_reducible apply w_wrap); exact rfl; exact rfl; first | exact i64_in _ (by omega) | exact u64_in _ (by omega) | exact u8_in _ (by omega))
                  | ((with_reducible apply w_pure (v := .bool _)); exact rfl; exact rfl))
                | ((with_reducible apply g_assign); first
                  | ((with_reducible apply w_pure (v := .int _ _)); exact rfl; exact rfl)
                  | ((with_reducible apply w_pure (v := .bool _)); exact rfl; exact rfl))
                | ((with_reducible apply w_pure (v := .bool _)); exact rfl; exact rfl))
              | ((with_reducible apply g_gd); first
                | ((with_reducible apply w_pass); exact rfl))
              | with_reducible refine w_seq ?_
              | with_reducible refine w_nil ?_
              | with_reducible refine w_region ?_
              | with_reducible refine w_skip ?_
              | with_reducible refine w_block ?_
              | with_reducible refine w_blk ?_
              | ((with_reducible apply w_ifd); exact rfl; all_goals (intro hc; first | (exfalso; omega) | skip)))
            exact ih2 (p + 1, false) _ _ _ (by dsimp only; omega) (by repeat' (first | with_reducible exact Fr.mix | with_reducible exact Fr.rfl' | with_reducible refine Fr.put ?_ ?_ | with_reducible refine Fr.mix2 ?_ ?_ | with_reducible refine Fr.put0 ?_ | exact rfl)) ⟨rfl, by push_cast; rfl, hg3, by dsimp only; omega, by push_cast; omega, ⟨fun h => (by cases h), fun h => hb.2 fun q a b => h q a (by dsimp only; omega)⟩⟩
        · have hfree : Free l n s ↔ b = true := by
            rw [hb]
            constructor
            · intro h q a b
              cases hq : (pgAt l q).2 with
              | false => rfl
              | true =>
                obtain ⟨v, hv⟩ := (at_has hl q).1 hq
                exact absurd hv (h q (by omega) (by omega) v)
            · intro h q a b v hv
              have h0 := (at_has hl q.toNat).2 ⟨v, by rwa [show ((q.toNat : Nat) : Int) = q by omega]⟩
              have h2 := h q.toNat (by omega) (by omega)
              rw [h0] at h2; cases h2
          cases b with
          | true =>
            have e := gap_at hl (f := f) (t := t) (n := n) (s := s) (by omega) (by omega) (by omega) hall (hfree.2 rfl)
            rw [e]
            repeat' (first
              | ((with_reducible apply g_op); first
                | ((with_reducible apply g_move); first
                  | ((with_reducible apply w_pure (v := .int _ _)); exact rfl; exact rfl)
                  | ((with_reducible apply w_pure (v := .bool _)); exact rfl; exact rfl))
                | ((with_reducible apply g_bin); first
                  | ((with_reducible apply w_wrap); exact rfl; exact rfl; first | exact i64_in _ (by omega) | exact u64_in _ (by omega) | exact u8_in _ (by omega))
                  | ((with_reducible apply w_pure (v := .bool _)); exact rfl; exact rfl))
                | ((with_reducible apply g_assign); first
                  | ((with_reducible apply w_pure (v := .int _ _)); exact rfl; exact rfl)
                  | ((with_reducible apply w_pure (v := .bool _)); exact rfl; exact rfl)))
              | with_reducible refine w_seq ?_
              | with_reducible refine w_nil ?_
              | with_reducible refine w_region ?_
              | ((with_reducible apply w_exit); exact rfl)
              | ((with_reducible apply w_yes); exact rfl)
              | ((with_reducible apply w_ifd); exact rfl; all_goals (intro hc; first | (exfalso; omega) | skip))
              | ((with_reducible apply w_ret (v := .tuple #[.int _ _, .bool _])); exact rfl))
            exact fr_plain rfl rfl
          | false =>
            repeat' (first
              | ((with_reducible apply g_op); first
                | ((with_reducible apply g_move); first
                  | ((with_reducible apply w_pure (v := .int _ _)); exact rfl; exact rfl)
                  | ((with_reducible apply w_pure (v := .bool _)); exact rfl; exact rfl))
                | ((with_reducible apply g_bin); first
                  | ((with_reducible apply w_wrap); exact rfl; exact rfl; first | exact i64_in _ (by omega) | exact u64_in _ (by omega) | exact u8_in _ (by omega))
                  | ((with_reducible apply w_pure (v := .bool _)); exact rfl; exact rfl))
                | ((with_reducible apply g_assign); first
                  | ((with_reducible apply w_pure (v := .int _ _)); exact rfl; exact rfl)))
              | with_reducible refine w_seq ?_
              | with_reducible refine w_nil ?_
              | with_reducible refine w_region ?_
              | with_reducible refine w_skip ?_
              | with_reducible refine w_blk ?_
              | ((with_reducible apply w_exit); exact rfl)
              | ((with_reducible apply w_no); exact rfl)
              | ((with_reducible apply w_ifd); exact rfl; all_goals (intro hc; first | (exfalso; omega) | skip)))
            exact ih (s + 1) _ _ _ (by omega) (by repeat' (first | with_reducible exact Fr.mix | with_reducible exact Fr.rfl' | with_reducible refine Fr.put ?_ ?_ | with_reducible refine Fr.mix2 ?_ ?_ | with_reducible refine Fr.put0 ?_ | exact rfl)) ⟨by push_cast; rfl, hg3, by omega, fun s' a b => by
              by_cases e : s' = s
              · rw [e]; exact fun h => by have := hfree.1 h; cases this
              · exact hall s' a (by omega)⟩
      · have e := gap_end hl (f := f) (t := t) (n := n) (s := s) (by omega) (by omega) hall
        rw [e]
        repeat' (first
          | ((with_reducible apply g_op); first
            | ((with_reducible apply g_move); first
              | ((with_reducible apply w_pure (v := .int _ _)); exact rfl; exact rfl)
              | ((with_reducible apply w_pure (v := .bool _)); exact rfl; exact rfl))
            | ((with_reducible apply g_bin); first
              | ((with_reducible apply w_wrap); exact rfl; exact rfl; first | exact i64_in _ (by omega) | exact u64_in _ (by omega) | exact u8_in _ (by omega))
              | ((with_reducible apply w_pure (v := .bool _)); exact rfl; exact rfl))
            | ((with_reducible apply g_pick); first
              | ((with_reducible apply w_pk1 (v := .bool _)); exact rfl; exact rfl; (first | assumption | exact decide_eq_true (by assumption) | exact decide_eq_false (by assumption) | exact decide_eq_true (by omega) | exact decide_eq_false (by omega) | exact beq_iff_eq.2 (by omega) | exact beq_eq_false_iff_ne.2 (by omega) | exact bne_iff_ne.2 (by omega) | exact bne_eq_false_iff_eq.2 (by omega)))
              | ((with_reducible apply w_pk0 (v := .bool _)); exact rfl; exact rfl; (first | assumption | exact decide_eq_true (by assumption) | exact decide_eq_false (by assumption) | exact decide_eq_true (by omega) | exact decide_eq_false (by omega) | exact beq_iff_eq.2 (by omega) | exact beq_eq_false_iff_ne.2 (by omega) | exact bne_iff_ne.2 (by omega) | exact bne_eq_false_iff_eq.2 (by omega))))
            | ((with_reducible apply g_assign); first
              | ((with_reducible apply w_pure (v := .int _ _)); exact rfl; exact rfl)
              | ((with_reducible apply w_pure (v := .bool _)); exact rfl; exact rfl)))
          | ((with_reducible apply g_gd); first
            | ((with_reducible apply w_gd_t); exact rfl; all_goals (intro hc; first | (exfalso; omega) | skip)))
          | with_reducible refine w_seq ?_
          | with_reducible refine w_nil ?_
          | with_reducible refine w_region ?_
          | ((with_reducible apply w_exit); exact rfl)
          | ((with_reducible apply w_no); exact rfl)
          | ((with_reducible apply w_ifd); exact rfl; all_goals (intro hc; first | (exfalso; omega) | skip))
          | ((with_reducible apply w_ret (v := .tuple #[.int _ _, .bool _])); exact rfl))
        all_goals first | (exfalso; omega) | exact fr_plain rfl rfl)
end Go.Proofs.Ytnlgindlmlbfiaa.L

