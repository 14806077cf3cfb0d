/- A guard that looks at what was passed over. -/
import Derived.Test.YtokbhihfooaijaaL1V
namespace Go.L1
set_option linter.unusedVariables false
section
variable {P : Program} {T : Tb} {fn : Func} {k : List It} {σ : Env} {g : Nat → Option Ob} {n m : Nat} {Q : Value → (Nat → Option Ob) → Nat → Prop} {b : Bool} {all : Array Oper} {l : List Oper} {d : Option Tmp} {ty : TypeId} {pos : String} {af : Array Edge}
theorem r_psn {R : Option (Ending × Hp)} {H : Hp} {op : Op} {j : Nat} {t : Bool} (hy : yield1 all σ j = none) (h : goC P T fn (.ops b all l :: k) (put d undef σ) H = R) : goC P T fn (.ops b all (⟨d, op, ty, pos, af, some (j, t)⟩ :: l) :: k) σ H = R := by
  rw [← h, goC, goC, execOps]
  simp only [Region.wanted, hy]
  cases t <;> rfl
theorem w_psn {op : Op} {j : Nat} {t : Bool} (hy : yield1 all σ j = none) (h : Go P T fn (.ops b all l :: k) (put d undef σ) g n m Q) : Go P T fn (.ops b all (⟨d, op, ty, pos, af, some (j, t)⟩ :: l) :: k) σ g n m Q := .of (fun _ => r_psn hy) h
end
-- ---- ranges over functions
section
variable {P : Program} {T : Tb} {fn : Func} {k : List It} {σ : Env} {g : Nat → Option Ob} {n m : Nat} {Q : Value → (Nat → Option Ob) → Nat → Prop} {b : Bool} {all : Array Oper} {l : List Oper} {d : Option Tmp} {ty : TypeId} {pos : String} {af : Array Edge}
theorem w_beg {i : Nat} {s : Env} {ps : List Tmp} {ca cb : Code} {pe : Option Code} (hg : g i = some (.loop s ps ca cb .ready pe)) (h : Go P T fn k σ (upd g i (some (.loop s ps ca cb .busy pe))) n m Q) : Go P T fn (.beg i :: k) σ g n m Q := by
  obtain ⟨v, H', h1, h2, h3⟩ := h
  exact ⟨v, H', r_beg (by unfold busyAt; simp only [hg]; rfl) h1, h2, h3⟩
theorem w_yend (h : Q (.bool true) g n) : Go P T fn (.yend :: k) σ g n m Q := ⟨_, _, rfl, rfl, h⟩
theorem w_yret (h : Q (.tuple #[]) g n) : Go P T yfn (.code .ret :: k) σ g n m Q := ⟨_, _, rfl, rfl, h⟩
/-- An exit that nothing in the round catches. -/
def exitY (id : Nat) : List It → Bool
  | [] => false
  | .blk j :: k => if j = id then false else exitY id k
  | .yend :: _ => true
  | _ :: k => exitY id k
theorem exit_y {id : Nat} {H : Hp} : ∀ {l : List It}, exitY id l = true → goC.exitGo P T fn id l σ H = some (.returned (.int .i64 id), H)
  | [], h => by cases h
  | .blk j :: l, h => by
    simp only [exitY] at h
    simp only [goC.exitGo]
    split at h
    · cases h
    · rename_i hj; rw [if_neg hj]; exact exit_y h
  | .yend :: l, h => rfl
  | .code c :: l, h => exit_y (l := l) h
  | .ops b a o :: l, h => exit_y (l := l) h
  | .beg _ :: l, h => exit_y (l := l) h
theorem w_yexit {id : Nat} (hk : exitY id k = true) (h : Q (.int .i64 id) g n) : Go P T fn (.code (.exit id) :: k) σ g n m Q := by
  refine ⟨.int .i64 id, ⟨g, n, m⟩, ?_, rfl, h⟩
  rw [goC, execC]
  exact exit_y hk
/-- The slots, told one by one. -/
theorem w_env (h : ∀ τ : Env, (∀ i, τ i = σ i) → Go P T fn k τ g n m Q) : Go P T fn k σ g n m Q := h σ fun _ => rfl
theorem upd_at {g : Nat → Option Ob} {i j : Nat} {o : Option Ob} (h : j = i) : upd g i o j = o := by subst h; exact upd_same
/-- What a round's end leaves: what yield hands back, the record turned. -/
def Yq (i : Nat) (K : Bool → (Nat → Option Ob) → Nat → Prop) (v : Value) (g : Nat → Option Ob) (n : Nat) : Prop :=
  ∃ s ps ca cb st pe, g i = some (.loop s ps ca cb st pe) ∧
    ((v = .bool true ∧ K true (upd g i (some (.loop s ps ca cb .ready none))) n) ∨ (v = .tuple #[] ∧ K false (upd g i (some (.loop s ps ca cb .done (some .ret)))) n) ∨
     ∃ id : Nat, v = .int .i64 id ∧ K false (upd g i (some (.loop s ps ca cb .done (some (.exit id))))) n)
theorem w_yield {f : Operand} {xs : Array Operand} {ts : Array TypeId} {i : Nat} {s : Env} {ps : List Tmp} {ca cb : Code} {pe : Option Code} {vs : List Value} (hf : ev σ f = .func (.yield i) #[] #[]) (hx : xs.toList.map (ev σ) = vs) (hg : g i = some (.loop s ps ca cb .ready pe)) (hm : m ≤ i) (hn : vs.length = ps.length) (ha : okAssign ca = true)
    (h : Go P T yfn [.code ca, .beg i, .code cb, .yend] (setPs ps vs s) g n m (Yq i fun r g' n' => Go P T fn (.ops b all l :: k) (put d (.bool r) σ) g' n' m Q)) : Go P T fn (.ops b all (⟨d, .call ⟨.value f, xs, ts⟩, ty, pos, af, none⟩ :: l) :: k) σ g n m Q := by
  obtain ⟨v, H', h1, h2, s2, ps2, ca2, cb2, st2, pe2, h3, h4⟩ := h
  obtain ⟨x, σ2, h5, h6⟩ := yl_go (H := ⟨g, n, m⟩) hg hm hn ha h1
  have hc : ∀ H, callOf P (run P T) σ ⟨.value f, xs, ts⟩ H = (run P T).yl i vs H := fun H => by
    unfold callOf
    simp only [hf, hx]
    rfl
  obtain ⟨g', n', m'⟩ := H'
  simp only at h2 h3 h4
  subst h2
  have fin : ∀ (r : Bool) (o : Ob), endY i (x, σ2, ⟨g', n', m'⟩) = some (.returned (.bool r), ⟨upd g' i (some o), n', m'⟩) → Go P T fn (.ops b all l :: k) (put d (.bool r) σ) (upd g' i (some o)) n' m' Q → Go P T fn (.ops b all (⟨d, .call ⟨.value f, xs, ts⟩, ty, pos, af, none⟩ :: l) :: k) σ g n m' Q := fun r o he hk =>
    w_call ((hc _).trans (h5.trans he)) hk
  rcases h4 with ⟨rfl, hk⟩ | ⟨rfl, hk⟩ | ⟨id, rfl, hk⟩
  · rcases h6 with ⟨_, rfl⟩ | ⟨hh, _⟩ | ⟨_, hh, _⟩
    · exact fin _ _ (by unfold endY; simp only [h3]; rfl) hk
    · cases hh
    · cases hh
  · rcases h6 with ⟨hh, _⟩ | ⟨_, rfl⟩ | ⟨_, hh, _⟩
    · cases hh
    · exact fin _ _ (by unfold endY; simp only [h3]; rfl) hk
    · cases hh
  · rcases h6 with ⟨hh, _⟩ | ⟨hh, _⟩ | ⟨id', hh, rfl⟩
    · cases hh
    · cases hh
    · have : id' = id := by have h9 := (Value.int.inj hh).2; omega
      subst this
      exact fin _ _ (by unfold endY; simp only [h3]; rfl) hk
/-- What is behind the function that was ranged over. -/
def Rq (i : Nat) (P : Program) (T : Tb) (fn : Func) (k : List It) (σ : Env) (m : Nat) (Q : Value → (Nat → Option Ob) → Nat → Prop) (g : Nat → Option Ob) (n : Nat) : Prop :=
  ∃ s ps ca cb st pe, g i = some (.loop s ps ca cb st pe) ∧ st ≠ .busy ∧
    ((pe = none ∧ Go P T fn k σ (upd g i none) n m Q) ∨ (pe = some .ret ∧ Go P T fn (.code .ret :: k) σ (upd g i none) n m Q) ∨ ∃ id, pe = some (.exit id) ∧ Go P T fn (.code (.exit id) :: k) σ (upd g i none) n m Q)
theorem w_range {f : Operand} {ps : Array Tmp} {ca cb : Code} {F : FuncId} {first caps : Array Value} {vs : List Value} (hf : ev σ f = .func (.func F) first caps) (hvs : first.toList ++ [.func (.yield n) #[] #[]] ++ caps.toList = vs) (hok : (enterB P F && okAssign ca && noRange cb) = true)
    (h : Rn P T F vs (upd g n (some (.loop σ ps.toList ca cb .ready none))) (n + 1) m (fun _ g' n' => Rq n P T fn k σ m Q g' n')) : Go P T fn (.code (.rangeFunc f ps ca cb) :: k) σ g n m Q := by
  obtain ⟨v, g', n', h1, s, ps2, ca2, cb2, st, pe, h2, h3, h4⟩ := h
  subst hvs
  have hrun : run P T F (first.toList ++ [.func (.yield (⟨g, n, m⟩ : Hp).next) #[] #[]] ++ caps.toList) ((⟨g, n, m⟩ : Hp).new (.loop σ ps.toList ca cb .ready none)) = some (.returned v, ⟨g', n', m⟩) := h1
  rcases h4 with ⟨rfl, w, H', q1, q2, q3⟩ | ⟨rfl, w, H', q1, q2, q3⟩ | ⟨id, rfl, w, H', q1, q2, q3⟩
  · refine ⟨w, H', r_range (r := (.normal, σ, ⟨upd g' n none, n', m⟩)) hf hok hrun ?_ q1 rfl, q2, q3⟩
    unfold endR
    simp only [h2]
    cases st <;> first | exact absurd rfl h3 | rfl
  · refine ⟨w, H', r_range (r := (.ret, σ, ⟨upd g' n none, n', m⟩)) hf hok hrun ?_ (by rw [goC, execC] at q1; exact q1) rfl, q2, q3⟩
    unfold endR
    simp only [h2]
    cases st <;> first | exact absurd rfl h3 | rfl
  · refine ⟨w, H', r_range (r := (.exit id, σ, ⟨upd g' n none, n', m⟩)) hf hok hrun ?_ (by rw [goC, execC] at q1; exact q1) rfl, q2, q3⟩
    unfold endR
    simp only [h2]
    cases st <;> first | exact absurd rfl h3 | rfl
/-- The same; the code of the rounds by names, the heap by what it holds. -/
theorem w_rangeE {f : Operand} {ps : Array Tmp} {ca cb : Code} {F : FuncId} {first caps : Array Value} {vs : List Value} (hf : ev σ f = .func (.func F) first caps) (hvs : first.toList ++ [.func (.yield n) #[] #[]] ++ caps.toList = vs) (hok : (enterB P F && okAssign ca && noRange cb) = true)
    (h : ∀ ca' cb' G, ca' = ca → cb' = cb → G n = some (.loop σ ps.toList ca' cb' .ready none) → (∀ i, i ≠ n → G i = g i) → Rn P T F vs G (n + 1) m (fun _ g' n' => Rq n P T fn k σ m Q g' n')) : Go P T fn (.code (.rangeFunc f ps ca cb) :: k) σ g n m Q :=
  w_range hf hvs hok (h _ _ _ rfl rfl upd_same fun i hi => upd_ne hi)
end
end Go.L1
