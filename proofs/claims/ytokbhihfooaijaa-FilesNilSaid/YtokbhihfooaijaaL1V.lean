/- Loops that keep the slots which their bodies don't write; regions of loads and stores that change nothing. -/
import Derived.Test.YtokbhihfooaijaaL1U
namespace Go.L1
set_option linter.unusedVariables false
/-- Slots, by ranges. -/
def inR (W : List (Nat × Nat)) (i : Nat) : Bool := match W with | [] => false | p :: W => (Nat.ble p.1 i && Nat.ble i p.2) || inR W i
def subR (W' W : List (Nat × Nat)) : Bool := W'.all fun p => W.any fun q => Nat.ble q.1 p.1 && Nat.ble p.2 q.2
theorem inR_iff {W : List (Nat × Nat)} {i : Nat} : inR W i = true ↔ ∃ p ∈ W, p.1 ≤ i ∧ i ≤ p.2 := by
  induction W with
  | nil => simp [inR]
  | cons p W ih => simp [inR, ih, Nat.ble_eq]
theorem subR_in {W' W : List (Nat × Nat)} (h : subR W' W = true) {i : Nat} (hi : inR W' i = true) : inR W i = true := by
  obtain ⟨p, hp, h1, h2⟩ := inR_iff.1 hi
  have := List.all_eq_true.1 h p hp
  obtain ⟨q, hq, h3⟩ := List.any_eq_true.1 this
  simp only [Bool.and_eq_true, Nat.ble_eq] at h3
  exact inR_iff.2 ⟨q, hq, Nat.le_trans h3.1 h1, Nat.le_trans h2 h3.2⟩
/-- In the slots W as σ, elsewhere as σ0. -/
def mix (W : List (Nat × Nat)) (σ0 σ : Env) : Env := fun i => bif inR W i then σ i else σ0 i
def Fr (W : List (Nat × Nat)) (σ0 σ : Env) : Prop := ∀ i, inR W i = false → σ i = σ0 i
theorem Fr.rfl' {W : List (Nat × Nat)} {σ0 : Env} : Fr W σ0 σ0 := fun _ _ => rfl
theorem Fr.mix {W : List (Nat × Nat)} {σ0 σ : Env} : Fr W σ0 (mix W σ0 σ) := fun i h => by unfold L1.mix; rw [h]; rfl
theorem Fr.put {W : List (Nat × Nat)} {σ0 σ : Env} {d : Tmp} {v : Value} (hd : inR W d = true) (h : Fr W σ0 σ) : Fr W σ0 (L1.put (some d) v σ) := fun i hi => by
  show (if i = d then v else σ i) = σ0 i
  rw [if_neg (by rintro rfl; rw [hd] at hi; cases hi)]
  exact h i hi
theorem Fr.put0 {W : List (Nat × Nat)} {σ0 σ : Env} {v : Value} (h : Fr W σ0 σ) : Fr W σ0 (L1.put none v σ) := h
/-- A slot that is as it was. -/
theorem Fr.mix2 {W W' : List (Nat × Nat)} {σ0 σ1 σ : Env} (hs : subR W' W = true) (h : Fr W σ0 σ1) : Fr W σ0 (L1.mix W' σ1 σ) := fun i hi => by
  have : inR W' i = false := by
    cases hc : inR W' i with
    | false => rfl
    | true => rw [subR_in hs hc] at hi; cases hi
  unfold L1.mix
  rw [this]
  exact h i hi
theorem Fr.eq {W : List (Nat × Nat)} {σ0 σ : Env} (h : Fr W σ0 σ) : L1.mix W σ0 σ = σ := by
  funext i
  unfold L1.mix
  cases hc : inR W i with
  | true => rfl
  | false => exact (h i hc).symm
section
variable {P : Program} {T : Tb} {fn : Func} {k : List It} {σ : Env} {g : Nat → Option Ob} {n m : Nat} {Q : Value → (Nat → Option Ob) → Nat → Prop}
theorem w_whileK {α : Type} {c : Code} (W : List (Nat × Nat)) (I : α → Env → (Nat → Option Ob) → Nat → Prop) (ms : α → Nat)
    (hs : ∀ x σ' g n, I x σ' g n → (∀ y σ'' g' n', ms y < ms x → Fr W σ σ'' → I y σ'' g' n' → Go P T fn (.code (.loop c) :: k) σ'' g' n' m Q) → Go P T fn (.code c :: .code (.loop c) :: k) (mix W σ σ') g n m Q)
    (x : α) (h0 : I x σ g n) : Go P T fn (.code (.loop c) :: k) σ g n m Q :=
  w_while (fun x σ' g n => Fr W σ σ' ∧ I x σ' g n) ms (fun x σ' g n hI ih => by
    have := hs x σ' g n hI.2 (fun y σ'' g' n' hm hf hi => ih y σ'' g' n' hm ⟨hf, hi⟩)
    rwa [hI.1.eq] at this) x ⟨Fr.rfl', h0⟩
theorem w_rngK {α β : Type} {c : Code} (W : List (Nat × Nat)) (ls : List α) (I : Nat → List α → β → Env → (Nat → Option Ob) → Nat → Prop)
    (hs : ∀ i x rest b σ' g n, ls[i]? = some x → i < ls.length → I i (x :: rest) b σ' g n → (∀ b' σ'' g' n', Fr W σ σ'' → I (i + 1) rest b' σ'' g' n' → Go P T fn (.code (.loop c) :: k) σ'' g' n' m Q) → Go P T fn (.code c :: .code (.loop c) :: k) (mix W σ σ') g n m Q)
    (he : ∀ b σ' g n, I ls.length [] b σ' g n → Go P T fn (.code c :: .code (.loop c) :: k) (mix W σ σ') g n m Q)
    (b0 : β) (h0 : I 0 ls b0 σ g n) : Go P T fn (.code (.loop c) :: k) σ g n m Q :=
  w_rng ls (fun i rest b σ' g n => Fr W σ σ' ∧ I i rest b σ' g n) (fun i x rest b σ' g n h1 h2 hI ih => by
    have := hs i x rest b σ' g n h1 h2 hI.2 (fun b' σ'' g' n' hf hi => ih b' σ'' g' n' ⟨hf, hi⟩)
    rwa [hI.1.eq] at this) (fun b σ' g n hI => by
    have := he b σ' g n hI.2
    rwa [hI.1.eq] at this) b0 ⟨Fr.rfl', h0⟩
theorem w_cntK {β : Type} {c : Code} (W : List (Nat × Nat)) (N : Nat) (I : Nat → β → Env → (Nat → Option Ob) → Nat → Prop)
    (hs : ∀ i b σ' g n, i < N → I i b σ' g n → (∀ b' σ'' g' n', Fr W σ σ'' → I (i + 1) b' σ'' g' n' → Go P T fn (.code (.loop c) :: k) σ'' g' n' m Q) → Go P T fn (.code c :: .code (.loop c) :: k) (mix W σ σ') g n m Q)
    (he : ∀ b σ' g n, I N b σ' g n → Go P T fn (.code c :: .code (.loop c) :: k) (mix W σ σ') g n m Q)
    (b0 : β) (h0 : I 0 b0 σ g n) : Go P T fn (.code (.loop c) :: k) σ g n m Q :=
  w_cnt N (fun i b σ' g n => Fr W σ σ' ∧ I i b σ' g n) (fun i b σ' g n h1 hI ih => by
    have := hs i b σ' g n h1 hI.2 (fun b' σ'' g' n' hf hi => ih b' σ'' g' n' ⟨hf, hi⟩)
    rwa [hI.1.eq] at this) (fun b σ' g n hI => by
    have := he b σ' g n hI.2
    rwa [hI.1.eq] at this) b0 ⟨Fr.rfl', h0⟩
-- ---- regions of loads and stores that change nothing
inductive Same (P : Program) (H : Hp) : List Oper → Env → Env → Prop where
  | nil {σ : Env} : Same P H [] σ σ
  | cons {d : Option Tmp} {op : Op} {ty : TypeId} {pos : String} {af : Array Edge} {l : List Oper} {σ σ' : Env} {v : Value} (hc : isCall op = false) (h : op1 P σ op H = some (v, H)) (t : Same P H l (put d v σ) σ') : Same P H (⟨d, op, ty, pos, af, none⟩ :: l) σ σ'
theorem Same.step {call : Fns} {d : Option Tmp} {op : Op} {ty : TypeId} {pos : String} {af : Array Edge} {H : Hp} {σ : Env} {v : Value} (hc : isCall op = false) (h : op1 P σ op H = some (v, H)) : step1 P call ⟨d, op, ty, pos, af, none⟩ σ H = some (.returned v, H) := by
  unfold step1
  cases op <;> first | (simp only [h]; rfl) | (simp [isCall] at hc; done) | (simp [op1, op0] at h; done)
theorem Same.trace {call : Fns} {all : Array Oper} {H : Hp} {l : List Oper} {σ σ' : Env} (h : Same P H l σ σ') : ∃ q, traceOps P call all l σ H = some q ∧ q.length = l.length + 1 ∧ (∀ i, i < q.length → (q.getD i d0).2 = H) ∧ (∀ x, q.getLastD x = (σ', H)) ∧ ∀ i, i < l.length → ∃ e, step1 P call (opAt l i) (q.getD i d0).1 H = some (e, H) := by
  induction h with
  | nil => exact ⟨[(_, H)], rfl, rfl, fun i hi => (by simp at hi; subst hi; rfl), fun _ => rfl, fun i hi => (by simp at hi)⟩
  | @cons d op ty pos af l σ σ' v hc h t ih =>
    obtain ⟨q, h1, h2, h3, h4, h5⟩ := ih
    refine ⟨(σ, H) :: q, ?_, by simp [h2], ?_, ?_, ?_⟩
    · unfold traceOps
      simp only [Region.wanted, if_true, Same.step hc h, Option.bind_some, h1, Option.map_some]
    · intro i hi
      cases i with
      | zero => rfl
      | succ i => simp only [List.length_cons] at hi; simpa using h3 i (by omega)
    · intro x
      cases q with
      | nil => simp at h2
      | cons a q => simpa [List.getLastD] using h4 x
    · intro i hi
      cases i with
      | zero => exact ⟨_, Same.step hc h⟩
      | succ i => simp only [List.length_cons] at hi; simpa [opAt] using h5 i (by omega)
theorem w_same {id : Nat} {l : List Oper} {σ' : Env} (hp : planOk P T.quiet l.toArray = true) (hi : ((planNow P T.quiet l.toArray).all fun p => decide (p.1 < l.length) && decide (p.2 < l.length)) = true) (hs : Same P ⟨g, n, m⟩ l σ σ') (h : Go P T fn k σ' g n m Q) : Go P T fn (.code (.region id l.toArray true) :: k) σ g n m Q := by
  obtain ⟨v, H', h1, h2⟩ := h
  obtain ⟨q, q1, q2, q3, q4, q5⟩ := hs.trace (call := run P T) (all := l.toArray)
  refine ⟨v, H', r_drawc (v := v) (H' := H') hp q1 (fun p hp' => ?_) (by rw [q4]; exact h1), h2⟩
  have hb := List.all_eq_true.1 hi p hp'
  simp only [Bool.and_eq_true, decide_eq_true_eq] at hb
  intro hw
  obtain ⟨e, he⟩ := q5 p.1 hb.1
  refine ⟨e, ⟨g, n, m⟩, ?_, ?_⟩
  · rw [q3 _ (by omega)]; exact he
  · rw [q3 _ (by split <;> omega)]; exact he
/-- The same, with what is told of the end. -/
def SG (P : Program) (H : Hp) (l : List Oper) (σ : Env) (K : Env → Prop) : Prop := ∃ σ', Same P H l σ σ' ∧ K σ'
theorem w_sg {id : Nat} {l : List Oper} (hp : planOk P T.quiet l.toArray = true) (hi : ((planNow P T.quiet l.toArray).all fun p => decide (p.1 < l.length) && decide (p.2 < l.length)) = true) (hs : SG P ⟨g, n, m⟩ l σ (fun σ' => Go P T fn k σ' g n m Q)) : Go P T fn (.code (.region id l.toArray true) :: k) σ g n m Q := by
  obtain ⟨σ', h1, h2⟩ := hs; exact w_same hp hi h1 h2
theorem sg_nil {H : Hp} {K : Env → Prop} (h : K σ) : SG P H [] σ K := ⟨σ, .nil, h⟩
theorem sg_load {t : TypeId} {x : Operand} {i off : Nat} {e : TypeId} {vs : List Value} {v : Value} {d : Option Tmp} {ty : TypeId} {pos : String} {af : Array Edge} {l : List Oper} {K : Env → Prop} (ha : ev σ x = ptr i off) (hg : g i = some (.cells e vs)) (hp : part P t vs off = some v) (h : SG P ⟨g, n, m⟩ l (put d v σ) K) : SG P ⟨g, n, m⟩ (⟨d, .load t x, ty, pos, af, none⟩ :: l) σ K := by
  obtain ⟨σ', h1, h2⟩ := h
  exact ⟨σ', .cons rfl (by simp only [op1, loadAt, ha, hg, hp, Option.map_some]) h1, h2⟩
theorem sg_pure {op : Op} {v : Value} {d : Option Tmp} {ty : TypeId} {pos : String} {af : Array Edge} {l : List Oper} {K : Env → Prop} (ho : pureOp op = true) (h0 : op0 P σ op = some v) (h : SG P ⟨g, n, m⟩ l (put d v σ) K) : SG P ⟨g, n, m⟩ (⟨d, op, ty, pos, af, none⟩ :: l) σ K := by
  obtain ⟨σ', h1, h2⟩ := h
  exact ⟨σ', .cons (nocall ho) (by rw [op1_pure ho, h0]; rfl) h1, h2⟩
theorem sg_store {t : TypeId} {a x : Operand} {i off : Nat} {e : TypeId} {vs us : List Value} {d : Option Tmp} {ty : TypeId} {pos : String} {af : Array Edge} {l : List Oper} {K : Env → Prop} (ha : ev σ a = ptr i off) (hx : (ev σ x).cells.toList = us) (hg : g i = some (.cells e vs)) (hm : m ≤ i) (hz : szOf P t = some us.length) (ho : us.all one = true) (hw : wrCells vs off us = some vs) (h : SG P ⟨g, n, m⟩ l (put d undef σ) K) : SG P ⟨g, n, m⟩ (⟨d, .store t a x, ty, pos, af, none⟩ :: l) σ K := by
  obtain ⟨σ', h1, h2⟩ := h
  refine ⟨σ', .cons rfl ?_ h1, h2⟩
  subst hx
  simp only [op1, storeAt, ha]
  rw [if_pos hm]
  simp only [hg, hz, ho, hw, Bool.and_true, decide_true, if_true, Option.map_some, Hp.put]
  congr 3
  funext j
  split
  · rename_i e; subst e; exact hg.symm
  · rfl
end
end Go.L1
namespace Go.L1
section
variable {P : Program} {T : Tb} {fn : Func} {k : List It} {σ : Env} {g : Nat → Option Ob} {n m : Nat} {Q : Value → (Nat → Option Ob) → Nat → Prop}
/-- Code whose ways meet again: S is all that is told of where. -/
theorem w_meet {c : Code} (S : Env → (Nat → Option Ob) → Nat → Prop) (h1 : ∀ K Q, (∀ σ' g' n', S σ' g' n' → Go P T fn K σ' g' n' m Q) → Go P T fn (.code c :: K) σ g n m Q) (h2 : ∀ σ' g' n', S σ' g' n' → Go P T fn k σ' g' n' m Q) : Go P T fn (.code c :: k) σ g n m Q := h1 k Q h2
/-- The same; the slots that it doesn't write are kept. -/
theorem w_meetK {c : Code} (W : List (Nat × Nat)) (S : Env → (Nat → Option Ob) → Nat → Prop) (h1 : ∀ K Q, (∀ σ' g' n', Fr W σ σ' → S σ' g' n' → Go P T fn K σ' g' n' m Q) → Go P T fn (.code c :: K) σ g n m Q) (h2 : ∀ σ' g' n', S σ' g' n' → Go P T fn k (mix W σ σ') g' n' m Q) : Go P T fn (.code c :: k) σ g n m Q :=
  h1 k Q fun σ' g' n' hf hs => by have := h2 σ' g' n' hs; rwa [hf.eq] at this
end
end Go.L1

namespace Go.L1
theorem ov_none {k : Nat} : ov none k = .slice none 0 0 := rfl
theorem ov_some {i k : Nat} : ov (some i) k = slc i 0 k := rfl
section
variable {α : Type} {e : TypeId} {enc : α → List Value} {P : Program} {T : Tb} {fn : Func} {k : List It} {σ : Env} {g : Nat → Option Ob} {n m : Nat} {Q : Value → (Nat → Option Ob) → Nat → Prop} {b : Bool} {all : Array Oper} {l : List Oper} {d : Option Tmp} {ty : TypeId} {pos : String} {af : Array Edge}
theorem w_own2 {s x : Operand} {ts : Array TypeId} {t e' : TypeId} {sz by_ lo j : Nat} {o : Option Nat} {xs : List α} {y : α} {ns vs : List Value} (ho : Own g lo n e enc o xs) (hs : ev σ s = ov o xs.length) (hx : ev σ x = slc j 0 1) (ht : ts[0]? = some t) (he : rowOf P t = some e) (hz : szOf P e = some sz) (hb : bytesOf P e = some by_) (hle : ∀ x, (enc x).length = sz) (hg : g j = some (.cells e' vs)) (hn : rdCells vs 0 (1 * sz) = some ns) (hy : ns = enc y) (ha : appendable P ts[1]? e sz (slc j 0 1) ns = true) (hl : (xs.length + 1) * by_ ≤ 140737488355328 ∧ xs.length + 1 ≤ 4611686018427387904 ∧ m ≤ lo) (hln : lo ≤ n)
    (h : ∀ g', (∀ q, q < n → some q ≠ o → g' q = g q) → (∀ q, n + 1 ≤ q → g' q = g q) → Own g' lo (n + 1) e enc (some n) (xs ++ [y]) → Go P T fn (.ops b all l :: k) (put d (slc n 0 (xs ++ [y]).length) σ) g' (n + 1) m Q) : Go P T fn (.ops b all (⟨d, .call ⟨.builtin .append, #[s, x], ts⟩, ty, pos, af, none⟩ :: l) :: k) σ g n m Q := w_own1 ho hs hx ht he hz hb hle hg hn hy ha hl hln h
end
end Go.L1
namespace Go.L1
section
variable {P : Program} {T : Tb} {fn : Func} {k : List It} {σ : Env} {g g1 g2 : Nat → Option Ob} {n n1 n2 m : Nat} {Q : Value → (Nat → Option Ob) → Nat → Prop}
theorem st_op {call : Fns} {d : Option Tmp} {op : Op} {ty : TypeId} {pos : String} {af : Array Edge} {H H' : Hp} {v : Value} (hc : isCall op = false) (h : op1 P σ op H = some (v, H')) : step1 P call ⟨d, op, ty, pos, af, none⟩ σ H = some (.returned v, H') := by
  unfold step1
  cases op <;> first | (simp only [h]; rfl) | (simp [isCall] at hc; done) | (simp [op1, op0] at h; done)
theorem st_pure {call : Fns} {d : Option Tmp} {op : Op} {ty : TypeId} {pos : String} {af : Array Edge} {H : Hp} {v : Value} (ho : pureOp op = true) (h0 : op0 P σ op = some v) : step1 P call ⟨d, op, ty, pos, af, none⟩ σ H = some (.returned v, H) :=
  st_op (nocall ho) (by rw [op1_pure ho, h0]; rfl)
theorem st_load {call : Fns} {d : Option Tmp} {ty : TypeId} {pos : String} {af : Array Edge} {t : TypeId} {x : Operand} {i off : Nat} {e : TypeId} {vs : List Value} {v : Value} (ha : ev σ x = ptr i off) (hg : g i = some (.cells e vs)) (hp : part P t vs off = some v) : step1 P call ⟨d, .load t x, ty, pos, af, none⟩ σ ⟨g, n, m⟩ = some (.returned v, ⟨g, n, m⟩) :=
  st_op rfl (by simp only [op1, loadAt, ha, hg, hp, Option.map_some])
theorem st_mput {call : Fns} {d : Option Tmp} {ty : TypeId} {pos : String} {af : Array Edge} {κ β : Type} [DecidableEq κ] {ek : κ → Value} {evv : β → Value} {t kt et : TypeId} {x y u : Operand} {i : Nat} {es : List (κ × β)} {key : κ} {v : β} (hx : ev σ x = .map (some i)) (hy : ev σ y = ek key) (hu : ev σ u = evv v) (ht : mapOf P t = some (kt, et)) (hk : KeyK P kt ek) (hg : g i = some (.map (ents ek evv es))) (hm : m ≤ i) : step1 P call ⟨d, .mapUpdate t x y u, ty, pos, af, none⟩ σ ⟨g, n, m⟩ = some (.returned undef, ⟨upd g i (some (.map (ents ek evv (mput es key v)))), n, m⟩) := by
  obtain ⟨r, h1, h2, h3⟩ := put_ents (ev := evv) hk key v es
  refine st_op rfl ?_
  simp only [op1, ht, Option.bind_some, hx, hy, hu]
  rw [if_pos ⟨hm, hk.ok key⟩]
  simp only [hg, h1, Option.bind_some, h2, if_true, h3]
  rfl
/-- Two loads with what goes with each, then two turns: the second load reads the same behind the first turn. -/
theorem w_mm {id : Nat} {o0 o1 o2 o3 o4 o5 : Oper} {v0 v1 v2 v3 v4 v5 : Value} (hp : planOk P T.quiet [o0, o1, o2, o3, o4, o5].toArray = true) (hf : planNow P T.quiet [o0, o1, o2, o3, o4, o5].toArray = [(2, 4)])
    (hg : [o0, o1, o2, o3, o4, o5].all (fun o => o.guard == none) = true)
    (h0 : step1 P (run P T) o0 σ ⟨g, n, m⟩ = some (.returned v0, ⟨g, n, m⟩)) (h1 : step1 P (run P T) o1 (put o0.dst v0 σ) ⟨g, n, m⟩ = some (.returned v1, ⟨g, n, m⟩))
    (h2 : step1 P (run P T) o2 (put o1.dst v1 (put o0.dst v0 σ)) ⟨g, n, m⟩ = some (.returned v2, ⟨g, n, m⟩)) (h3 : step1 P (run P T) o3 (put o2.dst v2 (put o1.dst v1 (put o0.dst v0 σ))) ⟨g, n, m⟩ = some (.returned v3, ⟨g, n, m⟩))
    (h4 : step1 P (run P T) o4 (put o3.dst v3 (put o2.dst v2 (put o1.dst v1 (put o0.dst v0 σ)))) ⟨g, n, m⟩ = some (.returned v4, ⟨g1, n1, m⟩)) (h5 : step1 P (run P T) o5 (put o4.dst v4 (put o3.dst v3 (put o2.dst v2 (put o1.dst v1 (put o0.dst v0 σ))))) ⟨g1, n1, m⟩ = some (.returned v5, ⟨g2, n2, m⟩))
    (hx : step1 P (run P T) o2 (put o1.dst v1 (put o0.dst v0 σ)) ⟨g1, n1, m⟩ = some (.returned v2, ⟨g1, n1, m⟩))
    (h : Go P T fn k (put o5.dst v5 (put o4.dst v4 (put o3.dst v3 (put o2.dst v2 (put o1.dst v1 (put o0.dst v0 σ)))))) g2 n2 m Q) : Go P T fn (.code (.region id [o0, o1, o2, o3, o4, o5].toArray true) :: k) σ g n m Q := by
  obtain ⟨v, H', e1, e2⟩ := h
  simp only [List.all_cons, List.all_nil, Bool.and_true, Bool.and_eq_true, beq_iff_eq] at hg
  obtain ⟨g0, g1', g2', g3, g4, g5⟩ := hg
  have ht : traceOps P (run P T) [o0, o1, o2, o3, o4, o5].toArray [o0, o1, o2, o3, o4, o5].toArray.toList σ ⟨g, n, m⟩ = some [(σ, ⟨g, n, m⟩), (put o0.dst v0 σ, ⟨g, n, m⟩), (put o1.dst v1 (put o0.dst v0 σ), ⟨g, n, m⟩), (put o2.dst v2 (put o1.dst v1 (put o0.dst v0 σ)), ⟨g, n, m⟩), (put o3.dst v3 (put o2.dst v2 (put o1.dst v1 (put o0.dst v0 σ))), ⟨g, n, m⟩), (put o4.dst v4 (put o3.dst v3 (put o2.dst v2 (put o1.dst v1 (put o0.dst v0 σ)))), ⟨g1, n1, m⟩), (put o5.dst v5 (put o4.dst v4 (put o3.dst v3 (put o2.dst v2 (put o1.dst v1 (put o0.dst v0 σ))))), ⟨g2, n2, m⟩)] := by
    simp only [traceOps, Region.wanted, g0, g1', g2', g3, g4, g5, if_true, h0, h1, h2, h3, h4, h5, Option.bind_some, Option.map_some]
  refine ⟨v, H', r_drawc (v := v) (H' := H') hp ht (fun p hp' => ?_) e1, e2⟩
  rw [hf, List.mem_singleton] at hp'
  subst hp'
  exact fun _ => ⟨_, _, h2, hx⟩
end
end Go.L1
namespace Go.L1
section
variable {P : Program} {T : Tb} {fn : Func} {k : List It} {σ : Env} {g : Nat → Option Ob} {n m : Nat} {Q : Value → (Nat → Option Ob) → Nat → Prop} {b : Bool} {all : Array Oper} {l : List Oper} {d : Option Tmp} {ty : TypeId} {pos : String} {af : Array Edge}
/-- The rest as Go has it, of any number. -/
theorem w_tmod {op : BinOp} {kd : IntKind} {t ty2 : TypeId} {x y : Operand} {a c : Int} (hop : op = .rem) (hx : ev σ x = .int kd a) (hy : ev σ y = .int kd c) (h1 : nilConst P t x = false) (h2 : nilConst P t y = false) (hc : c ≠ 0) (h : Go P T fn (.ops b all l :: k) (put d (.int kd (a.tmod c)) σ) g n m Q) : Go P T fn (.ops b all (⟨d, .binOp op t x y ty2, ty, pos, af, none⟩ :: l) :: k) σ g n m Q := by
  subst hop
  refine w_pure rfl ?_ h
  simp only [op0, h1, h2, Bool.false_eq_true, if_false, hx, hy, bin]
  simp [binInt, hc]
end
end Go.L1
namespace Go.L1
section
variable {P : Program} {T : Tb} {fn : Func} {k : List It} {σ : Env} {g : Nat → Option Ob} {n m : Nat} {Q : Value → (Nat → Option Ob) → Nat → Prop}
/-- Of the heap nothing but this is told on. -/
theorem w_gen (F : (Nat → Option Ob) → Nat → Prop) (h0 : F g n) (h : ∀ G N, F G N → Go P T fn k σ G N m Q) : Go P T fn k σ g n m Q := h g n h0
end
end Go.L1
namespace Go.L1
section
variable {P : Program} {T : Tb} {fn : Func} {k : List It} {σ : Env} {g : Nat → Option Ob} {n m : Nat} {Q : Value → (Nat → Option Ob) → Nat → Prop} {b : Bool} {all : Array Oper} {l : List Oper} {d : Option Tmp} {ty : TypeId} {pos : String} {af : Array Edge}
/-- An append of whatever, none too, to a row of one's own. -/
theorem w_appF {s x : Operand} {ts : Array TypeId} {t e : TypeId} {sz by_ i n0 mm : Nat} {xv : Value} {vs0 ns : List Value} (hs : ev σ s = slc i 0 n0) (hx : ev σ x = xv) (ht : ts[0]? = some t) (he : rowOf P t = some e) (hz : szOf P e = some sz) (hb : bytesOf P e = some by_) (hm : lenOf xv = some mm) (hl : lenList xv ⟨g, n, m⟩ sz = some ns) (ha : appendable P ts[1]? e sz xv ns = true) (hg0 : g i = some (.cells e vs0)) (hlen : n0 * sz = vs0.length) (hns : mm = 0 → ns = []) (hbd : (n0 + mm) * by_ ≤ 140737488355328 ∧ n0 + mm ≤ 4611686018427387904 ∧ m ≤ i) (hin : i < n)
    (h : ∀ r g' n', m ≤ r → r < n' → n ≤ n' → (r = i ∨ n ≤ r) → g' r = some (.cells e (vs0 ++ ns)) → (∀ q, q < n → q ≠ i → g' q = g q) → Go P T fn (.ops b all l :: k) (put d (slc r 0 (n0 + mm)) σ) g' n' m Q) : Go P T fn (.ops b all (⟨d, .call ⟨.builtin .append, #[s, x], ts⟩, ty, pos, af, none⟩ :: l) :: k) σ g n m Q := by
  by_cases h0 : mm = 0
  · subst h0
    obtain rfl := hns rfl
    refine w_apN (by_ := by_) (sz := sz) hs hx ht he hz hb hm hl ha (.inr ⟨i, 0, n0, n0, rfl⟩) ?_
    have := h i g n hbd.2.2 hin (Nat.le_refl _) (.inl rfl) (by rw [List.append_nil]; exact hg0) (fun _ _ _ => rfl)
    exact this
  · refine w_apA1 (by_ := by_) (sz := sz) hs hx ht he hz hb hm hl ha h0 hg0 (rd_all hlen) hbd ?_
    exact h n _ (n + 1) (by omega) (by omega) (by omega) (.inr (Nat.le_refl _)) upd_same (fun q hq hi => by rw [upd_ne (by omega), upd_ne hi])
end
end Go.L1
