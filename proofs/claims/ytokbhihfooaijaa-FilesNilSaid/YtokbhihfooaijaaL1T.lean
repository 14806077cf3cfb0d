/- Walking, with what is told of the end: 'Go k σ g n m Q': what is left comes to its end and 'Q' of it. Rows by the place at which they begin. -/
import Derived.Test.YtokbhihfooaijaaL1S
import Derived.IntWalk
import Derived.Laws.Strings
namespace Go.L1
set_option linter.unusedVariables false
theorem and_i64 (a : Int) (j : Nat) (hj : j ≤ 62) (m : Int) (hm : m = 2 ^ j - 1) : IntKind.i64.wrap ((BitVec.ofInt 64 a &&& BitVec.ofInt 64 m).toNat : Nat) = a % 2 ^ j := by
  simp only [BitVec.toNat_and, BitVec.toNat_ofInt]
  have h2 : (2:Int) ^ j ≤ 2 ^ 62 := by exact_mod_cast Nat.pow_le_pow_right (by omega) hj
  have h1 : (1:Int) ≤ 2 ^ j := by exact_mod_cast Nat.one_le_two_pow
  have e62 : (2:Int)^62 = 4611686018427387904 := by decide
  have e64 : ((2 ^ 64 : Nat) : Int) = 18446744073709551616 := by decide
  rw [e64]
  have hb : (m % 18446744073709551616).toNat = 2 ^ j - 1 := by
    rw [hm, Int.emod_eq_of_lt (by omega) (by omega)]
    have : (2:Int)^j = ((2^j : Nat) : Int) := by push_cast; rfl
    omega
  rw [hb, Nat.and_two_pow_sub_one_eq_mod]
  have e : (((a % 18446744073709551616).toNat % 2 ^ j : Nat) : Int) = a % 2 ^ j := by
    push_cast
    rw [Int.toNat_of_nonneg (by omega), Int.emod_emod_of_dvd]
    have : (18446744073709551616 : Int) = 2 ^ 64 := by decide
    rw [this]
    exact ⟨2 ^ (64 - j), by rw [← Int.pow_add]; congr 1; omega⟩
  rw [e]
  have p0 : 0 ≤ a % 2 ^ j := Int.emod_nonneg _ (by omega)
  have p1 : a % 2 ^ j < 2 ^ j := Int.emod_lt_of_pos a (by omega)
  exact IntWalk.i64_in _ (by omega)
def upd (g : Nat → Option Ob) (i : Nat) (o : Option Ob) : Nat → Option Ob := fun j => if j = i then o else g j
theorem upd_same {g : Nat → Option Ob} {i : Nat} {o : Option Ob} : upd g i o i = o := if_pos rfl
theorem upd_ne {g : Nat → Option Ob} {i j : Nat} {o : Option Ob} (h : j ≠ i) : upd g i o j = g j := if_neg h
def pureOp : Op → Bool
  | .move _ | .assign _ | .pick .. | .build .. | .nilCheck _ | .binOp .. | .unOp .. | .makeInterface .. | .makeFunc .. | .fieldAddr .. | .field .. | .indexAddr .. | .index .. | .extract .. => true
  | _ => false
/-- What is left comes to its end, with 'Q'. -/
def Go (P : Program) (T : Tb) (fn : Func) (k : List It) (σ : Env) (g : Nat → Option Ob) (n m : Nat) (Q : Value → (Nat → Option Ob) → Nat → Prop) : Prop :=
  ∃ v H', goC P T fn k σ ⟨g, n, m⟩ = some (.returned v, H') ∧ H'.mark = m ∧ Q v H'.get H'.next
/-- A call comes to its end, with 'Q'. -/
def Rn (P : Program) (T : Tb) (F : FuncId) (args : List Value) (g : Nat → Option Ob) (n m : Nat) (Q : Value → (Nat → Option Ob) → Nat → Prop) : Prop :=
  ∃ v g' n', run P T F args ⟨g, n, m⟩ = some (.returned v, ⟨g', n', m⟩) ∧ Q v g' n'
-- ---- rows
/-- A place further on. -/
def adr (a : Option Addr) (q : Nat) : Option Addr := match a with | some ⟨i, off, none⟩ => some ⟨i, off + q, none⟩ | _ => none
theorem adr_adr (a : Option Addr) (p q : Nat) : adr (adr a p) q = adr a (p + q) := by
  cases a with
  | none => rfl
  | some A => obtain ⟨i, off, x⟩ := A; cases x <;> simp [adr, Nat.add_assoc]
/-- What lies from a place on. -/
def Row (g : Nat → Option Ob) (a : Option Addr) (e : TypeId) (vs : List Value) : Prop :=
  vs = [] ∨ ∃ i off all, a = some ⟨i, off, none⟩ ∧ g i = some (.cells e all) ∧ off + vs.length ≤ all.length ∧ vs = (all.drop off).take vs.length
/-- It lies below a number; from a number on. -/
def Low (a : Option Addr) (n : Nat) : Prop := ∀ i off, a = some ⟨i, off, none⟩ → i < n
def High (a : Option Addr) (n : Nat) : Prop := ∀ i off, a = some ⟨i, off, none⟩ → n ≤ i
theorem Row.of {g : Nat → Option Ob} {a : Option Addr} {e : TypeId} {vs : List Value} (h : Row g a e vs) (hv : 0 < vs.length) : ∃ i off all, a = some ⟨i, off, none⟩ ∧ g i = some (.cells e all) ∧ off + vs.length ≤ all.length ∧ vs = (all.drop off).take vs.length := by
  rcases h with h | h
  · rw [h] at hv; cases hv
  · exact h
theorem Row.upd {g : Nat → Option Ob} {a : Option Addr} {e : TypeId} {vs : List Value} {j : Nat} {o : Option Ob} (h : Row g a e vs) (hj : ∀ i off, a = some ⟨i, off, none⟩ → i ≠ j) : Row (upd g j o) a e vs := by
  rcases h with h | ⟨i, off, all, h1, h2, h3, h4⟩
  · exact .inl h
  · exact .inr ⟨i, off, all, h1, (upd_ne (hj _ _ h1)).trans h2, h3, h4⟩
theorem Row.updLow {g : Nat → Option Ob} {a : Option Addr} {e : TypeId} {vs : List Value} {j n : Nat} {o : Option Ob} (h : Row g a e vs) (hl : Low a n) (hj : n ≤ j) : Row (L1.upd g j o) a e vs :=
  h.upd fun i off hA => by have := hl i off hA; omega
theorem Row.same {g g' : Nat → Option Ob} {a : Option Addr} {e : TypeId} {vs : List Value} {n : Nat} (h : Row g a e vs) (hl : Low a n) (hg : ∀ j, j < n → g' j = g j) : Row g' a e vs := by
  rcases h with h | ⟨i, off, all, h1, h2, h3, h4⟩
  · exact .inl h
  · exact .inr ⟨i, off, all, h1, (hg _ (hl _ _ h1)).trans h2, h3, h4⟩
theorem take_at {all vs : List Value} {off j : Nat} (h3 : off + vs.length ≤ all.length) (h4 : vs = (all.drop off).take vs.length) (hj : j < vs.length) : all[off + j]? = vs[j]? := by
  have e : vs[j]? = ((all.drop off).take vs.length)[j]? := congrArg (·[j]?) h4
  rw [e, List.getElem?_take, if_pos hj, List.getElem?_drop]
theorem part_row {P : Program} {t : TypeId} {all vs : List Value} {off c : Nat} {v : Value} (h3 : off + vs.length ≤ all.length) (h4 : vs = (all.drop off).take vs.length) (hp : part P t vs c = some v) : part P t all (off + c) = some v := by
  unfold part at hp ⊢
  obtain ⟨b, hb, hp⟩ := Option.bind_eq_some_iff.1 hp
  rw [hb, Option.bind_some]
  cases b with
  | true =>
    simp only [if_true] at hp ⊢
    obtain ⟨n, hn, hp⟩ := Option.bind_eq_some_iff.1 hp
    rw [hn, Option.bind_some]
    unfold rdCells at hp ⊢
    split at hp
    · rename_i hl
      rw [if_pos (by omega)]
      simp only [Option.map_some, Option.some.injEq] at hp ⊢
      rw [← hp, h4]
      congr 2
      rw [List.drop_take, List.take_take, List.drop_drop]
      congr 1
      omega
    · cases hp
  | false =>
    simp only [Bool.false_eq_true, if_false] at hp ⊢
    have hc : c < vs.length := by
      rcases Nat.lt_or_ge c vs.length with h | h
      · exact h
      · rw [List.getElem?_eq_none h] at hp; cases hp
    rw [take_at h3 h4 hc, hp]
theorem flat_at {α : Type} {enc : α → List Value} {sz : Nat} (hl : ∀ x, (enc x).length = sz) : ∀ {l : List α} {i : Nat} {x : α}, l[i]? = some x → ((l.flatMap enc).drop (i * sz)).take sz = enc x ∧ i * sz + sz ≤ (l.flatMap enc).length
  | [], i, x, h => by simp at h
  | y :: l, 0, x, h => by
    simp only [List.getElem?_cons_zero, Option.some.injEq] at h
    subst h
    refine ⟨?_, ?_⟩
    · rw [List.flatMap_cons, Nat.zero_mul, List.drop_zero, ← hl y, List.take_left]
    · rw [List.flatMap_cons, List.length_append, hl]; omega
  | y :: l, i + 1, x, h => by
    simp only [List.getElem?_cons_succ] at h
    obtain ⟨h1, h2⟩ := flat_at hl h
    have e : (i + 1) * sz = (enc y).length + i * sz := by rw [hl, Nat.add_mul]; omega
    refine ⟨?_, ?_⟩
    · rw [List.flatMap_cons, e, ← List.drop_drop, List.drop_left, h1]
    · rw [List.flatMap_cons, List.length_append, e]; omega
theorem part_flat {P : Program} {α : Type} {enc : α → List Value} {sz t c : Nat} {l : List α} {i : Nat} {x : α} {v : Value} (hl : ∀ x, (enc x).length = sz) (hi : l[i]? = some x) (hp : part P t (enc x) c = some v) : part P t (l.flatMap enc) (i * sz + c) = some v := by
  obtain ⟨h1, h2⟩ := flat_at hl hi
  refine part_row (vs := enc x) (by rw [hl]; exact h2) ?_ hp
  rw [hl]; exact h1.symm
theorem wrList_left : ∀ {us a b : List Value} {j : Nat}, j + us.length ≤ a.length → wrList (a ++ b) j us = wrList a j us ++ b
  | [], a, b, j, h => rfl
  | u :: us, a, b, j, h => by
    simp only [List.length_cons] at h
    simp only [wrList]
    rw [List.set_append_left _ _ (by omega)]
    exact wrList_left (by rw [List.length_set]; omega)
theorem wrList_right : ∀ {us a b : List Value} {j : Nat}, wrList (a ++ b) (a.length + j) us = a ++ wrList b j us
  | [], a, b, j => rfl
  | u :: us, a, b, j => by
    simp only [wrList]
    rw [List.set_append_right _ _ (by omega), show a.length + j - a.length = j by omega, show a.length + j + 1 = a.length + (j + 1) by omega]
    exact wrList_right
theorem wr_flat {α : Type} {enc : α → List Value} {sz c : Nat} {us : List Value} {y y' : α} (hl : ∀ x, (enc x).length = sz) (hc : c + us.length ≤ sz) (he : enc y' = wrList (enc y) c us) : ∀ {l : List α} {k : Nat}, l[k]? = some y → wrCells (l.flatMap enc) (k * sz + c) us = some ((l.set k y').flatMap enc) := by
  have go : ∀ {l : List α} {k : Nat}, l[k]? = some y → wrList (l.flatMap enc) (k * sz + c) us = (l.set k y').flatMap enc := by
    intro l
    induction l with
    | nil => intro k h; simp at h
    | cons z l ih =>
      intro k h
      cases k with
      | zero =>
        simp only [List.getElem?_cons_zero, Option.some.injEq] at h
        subst h
        simp only [List.set_cons_zero, List.flatMap_cons, Nat.zero_mul, Nat.zero_add]
        rw [wrList_left (by rw [hl]; exact hc), he]
      | succ k =>
        simp only [List.getElem?_cons_succ] at h
        simp only [List.set_cons_succ, List.flatMap_cons]
        rw [show (k + 1) * sz + c = (enc z).length + (k * sz + c) by rw [hl, Nat.add_mul]; omega, wrList_right, ih h]
  intro l k h
  unfold wrCells
  rw [if_pos (by have := (flat_at hl h).2; omega), go h]
theorem rd_all {vs : List Value} {k : Nat} (h : k = vs.length) : rdCells vs 0 k = some vs := by
  subst h; unfold rdCells; rw [if_pos (by omega), List.drop_zero, List.take_length]
theorem flat_len {α : Type} {enc : α → List Value} {sz : Nat} (hl : ∀ x, (enc x).length = sz) (l : List α) : (l.flatMap enc).length = l.length * sz := by
  induction l with
  | nil => simp
  | cons y l ih => rw [List.flatMap_cons, List.length_append, ih, hl, List.length_cons, Nat.add_mul]; omega
section
variable {P : Program} {T : Tb} {fn : Func} {k : List It} {σ : Env} {g : Nat → Option Ob} {n m : Nat} {Q : Value → (Nat → Option Ob) → Nat → Prop}
theorem Go.of {k' : List It} {σ' : Env} {g' : Nat → Option Ob} {n' : Nat} (h : ∀ R, goC P T fn k' σ' ⟨g', n', m⟩ = R → goC P T fn k σ ⟨g, n, m⟩ = R) (hq : Go P T fn k' σ' g' n' m Q) : Go P T fn k σ g n m Q := by
  obtain ⟨v, H', h1, h2⟩ := hq; exact ⟨v, H', h _ h1, h2⟩
theorem Go.mono {Q' : Value → (Nat → Option Ob) → Nat → Prop} (h : Go P T fn k σ g n m Q) (hq : ∀ v g n, Q v g n → Q' v g n) : Go P T fn k σ g n m Q' := by
  obtain ⟨v, H', h1, h3, h2⟩ := h; exact ⟨v, H', h1, h3, hq _ _ _ h2⟩
theorem Rn.mono {F : FuncId} {args : List Value} {Q' : Value → (Nat → Option Ob) → Nat → Prop} (h : Rn P T F args g n m Q) (hq : ∀ v g n, Q v g n → Q' v g n) : Rn P T F args g n m Q' := by
  obtain ⟨v, g', n', h1, h2⟩ := h; exact ⟨v, g', n', h1, hq _ _ _ h2⟩
-- ---- calls
theorem c_quiet {F : FuncId} {c : Code} {args : List Value} {V : Value → Prop} (hf : P.funcs[F]? = some fn) (hb : fn.body = some c) (h1 : T.ext F = none) (h2 : T.ok F = true) (h3 : T.clean F = true) (hn : decide (args.length ≤ fn.ntmps) = true)
    (h : Go P T fn [.code c] (fun i => args.getD i undef) g n n (fun v _ _ => flat v = true ∧ V v)) (h0 : T.froz F = false := by rfl) : Rn P T F args g n m (fun v g' n' => V v ∧ g' = g ∧ n' = n) := by
  obtain ⟨v, H', h4, _, h5, h6⟩ := h
  exact ⟨v, g, n, run_quiet (H := ⟨g, n, m⟩) hf hb h1 h2 h3 h0 hn h5 h4, h6, rfl, rfl⟩
theorem c_place {F : FuncId} {c : Code} {args : List Value} {V : Value → Prop} (hf : P.funcs[F]? = some fn) (hb : fn.body = some c) (h1 : T.ext F = none) (h2 : T.ok F = true) (h3 : T.clean F = true) (h4 : T.quiet F = true) (hn : decide (args.length ≤ fn.ntmps) = true)
    (h : Go P T fn [.code c] (fun i => args.getD i undef) g n n (fun v _ _ => (flat v = true ∨ place n v = true) ∧ V v)) (h0 : T.froz F = false := by rfl) : Rn P T F args g n m (fun v g' n' => V v ∧ g' = g ∧ n' = n) := by
  obtain ⟨v, H', h5, _, h6 | h6, h7⟩ := h
  · exact ⟨v, g, n, run_quiet (H := ⟨g, n, m⟩) hf hb h1 h2 h3 h0 hn h6 h5, h7, rfl, rfl⟩
  · exact ⟨v, g, n, run_place (H := ⟨g, n, m⟩) hf hb h1 h2 h3 h4 h0 hn h6 h5, h7, rfl, rfl⟩
theorem c_clean {F : FuncId} {c : Code} {args : List Value} (hf : P.funcs[F]? = some fn) (hb : fn.body = some c) (h1 : T.ext F = none) (h2 : T.ok F = true) (h3 : T.clean F = true) (h4 : T.quiet F = false) (hn : decide (args.length ≤ fn.ntmps) = true)
    (h : Go P T fn [.code c] (fun i => args.getD i undef) g n n (fun v g' n' => if flat v = true then Q v g n else Q v g' n')) (h0 : T.froz F = false := by rfl) : Rn P T F args g n m Q := by
  obtain ⟨v, H', h5, _, h6⟩ := h
  cases hv : flat v with
  | true => rw [hv, if_pos rfl] at h6; exact ⟨v, g, n, run_quiet (H := ⟨g, n, m⟩) hf hb h1 h2 h3 h0 hn hv h5, h6⟩
  | false => rw [hv, if_neg (by simp)] at h6; exact ⟨v, H'.get, H'.next, run_clean (H := ⟨g, n, m⟩) hf hb h1 h2 h3 h4 h0 hn hv h5, h6⟩
theorem c_open {F : FuncId} {c : Code} {args : List Value} (hf : P.funcs[F]? = some fn) (hb : fn.body = some c) (h1 : T.ext F = none) (h2 : T.ok F = true) (h3 : T.clean F = false) (h4 : T.quiet F = false) (hn : decide (args.length ≤ fn.ntmps) = true)
    (h : Go P T fn [.code c] (fun i => args.getD i undef) g n m Q) (h0 : T.froz F = false := by rfl) : Rn P T F args g n m Q := by
  obtain ⟨v, ⟨g', n', m'⟩, h5, h6, h7⟩ := h
  have h6 : m' = m := h6
  subst h6
  exact ⟨v, g', n', run_open (H := ⟨g, n, m'⟩) hf hb h1 h2 h3 h4 h0 hn h5, h7⟩
/-- A function to which rows go, and from which they come, by their cells: 'args1' as they are told by these. -/
def Rf (P : Program) (T : Tb) (F : FuncId) (args1 : List Value) (V : Value → Prop) : Prop := ∀ (g : Nat → Option Ob) (n m : Nat) (args : List Value), args.mapM (freeze P g tg 0 9) = some args1 → Rn P T F args g n m (fun v g' n' => V v ∧ g' = g ∧ n' = n)
theorem mapM_length {f : Value → Option Value} {l r : List Value} (h : l.mapM f = some r) : r.length = l.length := mapM_len h
theorem c_froz {F : FuncId} {c : Code} {args1 : List Value} {V : Value → Prop} (hf : P.funcs[F]? = some fn) (hb : fn.body = some c) (h1 : T.ext F = none) (h2 : T.ok F = true) (h3 : T.clean F = true) (h0 : T.froz F = true) (hn : decide (args1.length ≤ fn.ntmps) = true)
    (h : ∀ g n, Go P T fn [.code c] (fun i => args1.getD i undef) g n n (fun v g' _ => ∃ u, freeze P g' #[] n 9 v = some u ∧ V u)) : Rf P T F args1 V := by
  intro g n m args ha
  obtain ⟨v, H', h4, _, u, h5, h6⟩ := h g n
  exact ⟨u, g, n, run_froz (H := ⟨g, n, m⟩) hf hb h1 h2 h3 h0 (by rw [← mapM_len ha]; exact hn) ha h5 h4, h6, rfl, rfl⟩
theorem Rf.mono {F : FuncId} {args1 : List Value} {V V' : Value → Prop} (h : Rf P T F args1 V) (hv : ∀ v, V v → V' v) : Rf P T F args1 V' := fun g n m args ha => (h g n m args ha).mono fun v g' n' hq => ⟨hv v hq.1, hq.2⟩
-- ---- what goes by its cells
def plain : Value → Bool | .int .. | .bool _ | .string _ => true | _ => false
section
variable {gg : Nat → Option Ob} {ss : Array Value} {lo kk : Nat}
theorem sn_nil : ([] : List Value).mapM (freeze P gg ss lo kk) = some [] := rfl
theorem sn_cons {x y : Value} {l r : List Value} (h : freeze P gg ss lo kk x = some y) (t : l.mapM (freeze P gg ss lo kk) = some r) : (x :: l).mapM (freeze P gg ss lo kk) = some (y :: r) := by rw [List.mapM_cons, h, t]; rfl
theorem sn_app {l1 l2 r1 r2 : List Value} (h : l1.mapM (freeze P gg ss lo kk) = some r1) (t : l2.mapM (freeze P gg ss lo kk) = some r2) : (l1 ++ l2).mapM (freeze P gg ss lo kk) = some (r1 ++ r2) := by rw [List.mapM_append, h, t]; rfl
theorem sn_plain {v : Value} (h : plain v = true) : freeze P gg ss lo (kk + 1) v = some v := by cases v <;> first | rfl | (simp [plain] at h; done)
theorem sn_plains {l : List Value} (h : l.all plain = true) : l.mapM (freeze P gg ss lo (kk + 1)) = some l := by
  induction l with
  | nil => rfl
  | cons x l ih => simp only [List.all_cons, Bool.and_eq_true] at h; exact sn_cons (sn_plain h.1) (ih h.2)
theorem all_flat {α : Type} {enc : α → List Value} (h : ∀ x, (enc x).all plain = true) (l : List α) : (l.flatMap enc).all plain = true := by
  induction l with
  | nil => rfl
  | cons x l ih => rw [List.flatMap_cons, List.all_append, h, ih]; rfl
theorem sn_map {α : Type} {enc enc' : α → List Value} {l : List α} (h : ∀ x ∈ l, (enc x).mapM (freeze P gg ss lo kk) = some (enc' x)) : (l.flatMap enc).mapM (freeze P gg ss lo kk) = some (l.flatMap enc') := by
  induction l with
  | nil => rfl
  | cons x l ih => rw [List.flatMap_cons, List.flatMap_cons]; exact sn_app (h x (List.mem_cons_self ..)) (ih fun y hy => h y (List.mem_cons_of_mem _ hy))
theorem sn_none : freeze P gg ss lo (kk + 1) (.slice none 0 0) = some (fz ss 0 []) := rfl
theorem sn_fz {a : Array Value} {nn : Nat} {vs r : List Value} (ha : a = #[] ∨ ss ≠ #[]) (h : vs.mapM (freeze P gg ss lo kk) = some r) : freeze P gg ss lo (kk + 1) (fz a nn vs) = some (fz ss nn r) := by
  show (if a = #[] ∨ ss ≠ #[] then _ else _) = _
  rw [if_pos ha, List.toList_toArray, h]; rfl
theorem sn_fzp {a : Array Value} {nn : Nat} {vs : List Value} (ha : a = #[] ∨ ss ≠ #[]) (h : vs.all plain = true) : freeze P gg ss lo (kk + 2) (fz a nn vs) = some (fz ss nn vs) := sn_fz ha (sn_plains h)
theorem sn_row {i off nn sz : Nat} {e : TypeId} {vs l r : List Value} (hg : gg i = some (.cells e vs)) (hi : lo ≤ i) (hs : szOf P e = some sz) (hz : sz ≠ 0) (hl : rdCells vs off (nn * sz) = some l) (h : l.mapM (freeze P gg ss lo kk) = some r) : freeze P gg ss lo (kk + 1) (slc i off nn) = some (fz ss nn r) := by
  unfold freeze
  split <;> first | (rename_i heq; cases heq; simp only [hi, if_true, hg, hs, Option.bind_some, hz, if_false, hl, h, Option.map_some]; done) | (rename_i heq; cases heq; done) | skip
  exact ((by assumption : ∀ (a b c d : Nat), slc i off nn = Value.slice (some ⟨a, b, none⟩) c d → False) _ _ _ _ rfl).elim
theorem sn_agg {l r : List Value} (h : l.mapM (freeze P gg ss lo kk) = some r) : freeze P gg ss lo (kk + 1) (.agg l.toArray) = some (.agg r.toArray) := by
  have e : freeze P gg ss lo (kk + 1) (.agg l.toArray) = (l.mapM (freeze P gg ss lo kk)).map (fun r => .agg r.toArray) := rfl
  rw [e, h]; rfl
theorem sn_tuple {l r : List Value} (h : l.mapM (freeze P gg ss lo kk) = some r) : freeze P gg ss lo (kk + 1) (.tuple l.toArray) = some (.tuple r.toArray) := by
  have e : freeze P gg ss lo (kk + 1) (.tuple l.toArray) = (l.mapM (freeze P gg ss lo kk)).map (fun r => .tuple r.toArray) := rfl
  rw [e, h]; rfl
def plain2 : Value → Bool | .agg cs => cs.toList.all plain | v => plain v
def plain3 : Value → Bool | .tuple cs => cs.toList.all plain2 | v => plain2 v
theorem sn_all {f : Value → Option Value} : ∀ {l : List Value}, (∀ v ∈ l, f v = some v) → l.mapM f = some l
  | [], _ => rfl
  | x :: l, h => by rw [List.mapM_cons, h x (List.mem_cons_self ..), sn_all (fun y hy => h y (List.mem_cons_of_mem _ hy))]; rfl
theorem sn_plain2 {v : Value} (h : plain2 v = true) : freeze P gg ss lo (kk + 2) v = some v := by
  cases v with
  | agg cs =>
    obtain ⟨l⟩ := cs
    exact sn_agg (sn_plains h)
  | _ => exact sn_plain h
/-- A value that names no row. -/
theorem sn_plain3 {v : Value} (h : plain3 v = true) : freeze P gg ss lo (kk + 3) v = some v := by
  cases v with
  | tuple cs =>
    obtain ⟨l⟩ := cs
    exact sn_tuple (sn_all fun v hv => sn_plain2 (List.all_eq_true.1 h v hv))
  | agg cs => exact sn_plain2 (v := .agg cs) h
  | _ => exact sn_plain h
/-- What is handed back names no row. -/
theorem fr_plain {gl : Nat → Option Ob} {lo : Nat} {V : Value → Prop} {v : Value} (h : plain3 v = true) (hv : V v) : ∃ u, freeze P gl #[] lo 9 v = some u ∧ V u := ⟨v, sn_plain3 h, hv⟩
theorem sn_ptr {a : Addr} (h : ss ≠ #[]) : freeze P gg ss lo (kk + 1) (.pointer (some a)) = some (.pointer (some a)) := by
  show (if ss = #[] then _ else _) = _
  rw [if_neg h]
theorem sn_mapv {i : Nat} (h : ss ≠ #[]) : freeze P gg ss lo (kk + 1) (.map (some i)) = some (.map (some i)) := by
  show (if ss = #[] then _ else _) = _
  rw [if_neg h]
theorem sn_func {f : FuncId} {a b : Array Value} (h : ss ≠ #[]) : freeze P gg ss lo (kk + 1) (.func (.func f) a b) = some (.func (.func f) a b) := by
  show (if ss = #[] then _ else _) = _
  rw [if_neg h]
end
theorem leave_heap {σ : Env} {H H' : Hp} {v : Value} (h : leave P fn (.ret, σ, H) = some (.returned v, H')) : H' = H := by
  unfold leave at h
  obtain ⟨l, _, h2⟩ := Option.map_eq_some_iff.1 h
  exact ((Prod.mk.inj h2).2).symm
-- ---- code
theorem w_seq {a b : Code} (h : Go P T fn (.code a :: .code b :: k) σ g n m Q) : Go P T fn (.code (.seq a b) :: k) σ g n m Q := .of (fun _ => r_seq) h
theorem w_skip (h : Go P T fn k σ g n m Q) : Go P T fn (.code .skip :: k) σ g n m Q := h
theorem w_label {l : Nat} (h : Go P T fn k σ g n m Q) : Go P T fn (.code (.label l) :: k) σ g n m Q := h
theorem w_blk {id : Nat} (h : Go P T fn k σ g n m Q) : Go P T fn (.blk id :: k) σ g n m Q := h
theorem w_block {id : Nat} {c : Code} (h : Go P T fn (.code c :: .blk id :: k) σ g n m Q) : Go P T fn (.code (.block id c) :: k) σ g n m Q := .of (fun _ => r_block) h
theorem w_scope {c : Code} (h : Go P T fn (.code c :: k) σ g n m Q) : Go P T fn (.code (.scope c) :: k) σ g n m Q := .of (fun _ => r_scope) h
theorem w_exit {id : Nat} {k' : List It} (hk : exitIt id k = some k') (h : Go P T fn k' σ g n m Q) : Go P T fn (.code (.exit id) :: k) σ g n m Q := .of (fun _ => r_exit hk) h
theorem w_yes {c : Operand} {x y : Code} (hc : ev σ c = .bool true) (h : Go P T fn (.code x :: k) σ g n m Q) : Go P T fn (.code (.cond c x y) :: k) σ g n m Q := .of (fun _ => r_yes hc) h
theorem w_no {c : Operand} {x y : Code} (hc : ev σ c = .bool false) (h : Go P T fn (.code y :: k) σ g n m Q) : Go P T fn (.code (.cond c x y) :: k) σ g n m Q := .of (fun _ => r_no hc) h
theorem w_if {c : Operand} {x y : Code} {b : Bool} (hc : ev σ c = .bool b) (h1 : b = true → Go P T fn (.code x :: k) σ g n m Q) (h2 : b = false → Go P T fn (.code y :: k) σ g n m Q) : Go P T fn (.code (.cond c x y) :: k) σ g n m Q := by
  cases b with
  | true => exact w_yes hc (h1 rfl)
  | false => exact w_no hc (h2 rfl)
theorem w_ifd {c : Operand} {x y : Code} {p : Prop} {dp : Decidable p} (hc : ev σ c = .bool (@decide p dp)) (h1 : p → Go P T fn (.code x :: k) σ g n m Q) (h2 : ¬p → Go P T fn (.code y :: k) σ g n m Q) : Go P T fn (.code (.cond c x y) :: k) σ g n m Q :=
  w_if hc (fun h => h1 (of_decide_eq_true h)) (fun h => h2 (of_decide_eq_false h))
theorem w_ife {c : Operand} {x y : Code} {a b : Int} (hc : ev σ c = .bool (a == b)) (h1 : a = b → Go P T fn (.code x :: k) σ g n m Q) (h2 : a ≠ b → Go P T fn (.code y :: k) σ g n m Q) : Go P T fn (.code (.cond c x y) :: k) σ g n m Q :=
  w_if hc (fun h => h1 (eq_of_beq h)) (fun h => h2 (by simpa using h))
theorem w_ifn {c : Operand} {x y : Code} {a b : Int} (hc : ev σ c = .bool (a != b)) (h1 : a ≠ b → Go P T fn (.code x :: k) σ g n m Q) (h2 : a = b → Go P T fn (.code y :: k) σ g n m Q) : Go P T fn (.code (.cond c x y) :: k) σ g n m Q :=
  w_if hc (fun h => h1 (by simpa using h)) (fun h => h2 (by simpa using h))
theorem w_unroll {c : Code} (h : Go P T fn (.code c :: .code (.loop c) :: k) σ g n m Q) : Go P T fn (.code (.loop c) :: k) σ g n m Q := .of (fun _ => r_loop) h
theorem w_while {α : Type} {c : Code} (I : α → Env → (Nat → Option Ob) → Nat → Prop) (ms : α → Nat)
    (hs : ∀ x σ g n, I x σ g n → (∀ y σ' g' n', ms y < ms x → I y σ' g' n' → Go P T fn (.code (.loop c) :: k) σ' g' n' m Q) → Go P T fn (.code c :: .code (.loop c) :: k) σ g n m Q)
    (x : α) (h0 : I x σ g n) : Go P T fn (.code (.loop c) :: k) σ g n m Q := by
  suffices H : ∀ N x σ g n, ms x ≤ N → I x σ g n → Go P T fn (.code (.loop c) :: k) σ g n m Q from H _ x σ g n (Nat.le_refl _) h0
  intro N
  induction N with
  | zero => intro x σ g n hx hi; exact w_unroll (hs x σ g n hi (fun y _ _ _ hy _ => absurd hy (by omega)))
  | succ N ih => intro x σ g n hx hi; exact w_unroll (hs x σ g n hi (fun y _ _ _ hy hj => ih _ _ _ _ (by omega) hj))
/-- A region whose ways meet again: 'd', its last slot, is all that is told of what it wrote (from slot 'lo' on). -/
def Told (σ : Env) (lo d : Nat) (v : Value) (σ' : Env) : Prop := σ' d = v ∧ ∀ i, (i < lo ∨ d < i) → σ' i = σ i
theorem w_seg {bb : Bool} {all : Array Oper} {l : List Oper} (S : Env → Prop) (h1 : ∀ K Q, (∀ σ', S σ' → Go P T fn K σ' g n m Q) → Go P T fn (.ops bb all l :: K) σ g n m Q) (h2 : ∀ σ', S σ' → Go P T fn k σ' g n m Q) : Go P T fn (.ops bb all l :: k) σ g n m Q := h1 k Q h2
/-- Over a row. -/
theorem w_rng {α β : Type} {c : Code} (ls : List α) (I : Nat → List α → β → Env → (Nat → Option Ob) → Nat → Prop)
    (hs : ∀ i x rest b σ g n, ls[i]? = some x → i < ls.length → I i (x :: rest) b σ g n → (∀ b' σ' g' n', I (i + 1) rest b' σ' g' n' → Go P T fn (.code (.loop c) :: k) σ' g' n' m Q) → Go P T fn (.code c :: .code (.loop c) :: k) σ g n m Q)
    (he : ∀ b σ g n, I ls.length [] b σ g n → Go P T fn (.code c :: .code (.loop c) :: k) σ g n m Q)
    (b0 : β) (h0 : I 0 ls b0 σ g n) : Go P T fn (.code (.loop c) :: k) σ g n m Q := by
  suffices H : ∀ (rest pre : List α) b σ g n, ls = pre ++ rest → I pre.length rest b σ g n → Go P T fn (.code (.loop c) :: k) σ g n m Q from H ls [] b0 σ g n rfl h0
  intro rest
  induction rest with
  | nil => intro pre b σ g n hl hi; rw [List.append_nil] at hl; subst hl; exact w_unroll (he b σ g n hi)
  | cons x rest ih =>
    intro pre b σ g n hl hi
    refine w_unroll (hs pre.length x rest b σ g n (by subst hl; simp) (by subst hl; simp) hi fun b' σ' g' n' hi' => ih (pre ++ [x]) b' σ' g' n' (by subst hl; simp) (by simpa using hi'))
/-- So many times. -/
theorem w_cnt {β : Type} {c : Code} (N : Nat) (I : Nat → β → Env → (Nat → Option Ob) → Nat → Prop)
    (hs : ∀ i b σ g n, i < N → I i b σ g n → (∀ b' σ' g' n', I (i + 1) b' σ' g' n' → Go P T fn (.code (.loop c) :: k) σ' g' n' m Q) → Go P T fn (.code c :: .code (.loop c) :: k) σ g n m Q)
    (he : ∀ b σ g n, I N b σ g n → Go P T fn (.code c :: .code (.loop c) :: k) σ g n m Q)
    (b0 : β) (h0 : I 0 b0 σ g n) : Go P T fn (.code (.loop c) :: k) σ g n m Q := by
  suffices H : ∀ (r i : Nat) b σ g n, i + r = N → I i b σ g n → Go P T fn (.code (.loop c) :: k) σ g n m Q from H N 0 b0 σ g n (by omega) h0
  intro r
  induction r with
  | zero => intro i b σ g n hl hi; obtain rfl : i = N := by omega
            exact w_unroll (he b σ g n hi)
  | succ r ih => intro i b σ g n hl hi; exact w_unroll (hs i b σ g n (by omega) hi fun b' σ' g' n' hi' => ih (i + 1) b' σ' g' n' (by omega) hi')
theorem w_ret {v : Value} {H' : Hp} (h : leave P fn (.ret, σ, ⟨g, n, m⟩) = some (.returned v, H')) (hq : Q v g n) : Go P T fn (.code .ret :: k) σ g n m Q := ⟨v, H', h, by rw [leave_heap h], by rw [leave_heap h]; exact hq⟩
theorem w_end {v : Value} {H' : Hp} (h : leave P fn (.ret, σ, ⟨g, n, m⟩) = some (.returned v, H')) (hq : Q v g n) : Go P T fn [] σ g n m Q := ⟨v, H', h, by rw [leave_heap h], by rw [leave_heap h]; exact hq⟩
theorem w_retc {b : Tmp} {t : TypeId} {i off : Nat} {e : TypeId} {vs : List Value} {v : Value} (hr : fn.results.toList = [.cell b t]) (hb : σ b = ptr i off) (hg : g i = some (.cells e vs)) (hp : part P t vs off = some v) (hq : Q v g n) : Go P T fn (.code .ret :: k) σ g n m Q :=
  w_ret (v := v) (H' := ⟨g, n, m⟩) (by simp [leave, hr, resList, loadAt, hb, hg, hp, packed]) hq
theorem w_retct {b c : Tmp} {t : TypeId} {i off : Nat} {e : TypeId} {vs : List Value} {v u : Value} (hr : fn.results.toList = [.cell b t, .tmp c]) (hb : σ b = ptr i off) (hg : g i = some (.cells e vs)) (hp : part P t vs off = some v) (hu : σ c = u) (hq : Q (.tuple #[v, u]) g n) : Go P T fn (.code .ret :: k) σ g n m Q :=
  w_ret (v := .tuple #[v, u]) (H' := ⟨g, n, m⟩) (by simp [leave, hr, resList, loadAt, hb, hg, hp, packed, hu]) hq
/-- A slot that is kept. -/
theorem put_eta {i : Nat} {v : Value} (h : σ i = v) : put (some i) v σ = σ := by
  funext j
  show (if j = i then v else σ j) = σ j
  split
  · rename_i e; rw [e, h]
  · rfl
theorem w_keep {i : Nat} {v : Value} (hv : σ i = v) (h : Go P T fn k (put (some i) v σ) g n m Q) : Go P T fn k σ g n m Q := by rwa [put_eta hv] at h
-- ---- regions
theorem w_region {id : Nat} {l : List Oper} (h : Go P T fn (.ops false l.toArray l :: k) σ g n m Q) : Go P T fn (.code (.region id l.toArray false) :: k) σ g n m Q := .of (fun _ => r_region) h
theorem w_draw {id : Nat} {l : List Oper} (hp : planOk P T.quiet l.toArray = true) (hf : planNow P T.quiet l.toArray = []) (h : Go P T fn (.ops true l.toArray l :: k) σ g n m Q) : Go P T fn (.code (.region id l.toArray true) :: k) σ g n m Q := by
  obtain ⟨v, H', h1, h2⟩ := h; exact ⟨v, H', r_draw hp hf h1, h2⟩
section
variable {b : Bool} {all : Array Oper} {l : List Oper} {d : Option Tmp} {ty : TypeId} {pos : String} {af : Array Edge}
theorem w_nil (h : Go P T fn k σ g n m Q) : Go P T fn (.ops b all [] :: k) σ g n m Q := h
theorem op1_pure {op : Op} (h : pureOp op = true) (σ : Env) (H : Hp) : op1 P σ op H = (op0 P σ op).map (·, H) := by
  cases op <;> first | rfl | (simp [pureOp] at h)
theorem nocall {op : Op} (h : pureOp op = true) : isCall op = false := by
  cases op <;> first | rfl | (simp [pureOp] at h)
theorem w_pure {op : Op} {v : Value} (ho : pureOp op = true) (h0 : op0 P σ op = some v) (h : Go P T fn (.ops b all l :: k) (put d v σ) g n m Q) : Go P T fn (.ops b all (⟨d, op, ty, pos, af, none⟩ :: l) :: k) σ g n m Q :=
  .of (fun _ => r_pure (op1_pure ho σ) (nocall ho) h0) h
theorem w_wrap {op : Op} {kd : IntKind} {a : Int} (ho : pureOp op = true) (h0 : op0 P σ op = some (.int kd (kd.wrap a))) (hw : kd.wrap a = a) (h : Go P T fn (.ops b all l :: k) (put d (.int kd a) σ) g n m Q) : Go P T fn (.ops b all (⟨d, op, ty, pos, af, none⟩ :: l) :: k) σ g n m Q :=
  w_pure ho (by rw [h0, hw]) h
theorem w_op {op : Op} {v : Value} {g' : Nat → Option Ob} {n' : Nat} (hc : isCall op = false) (h0 : op1 P σ op ⟨g, n, m⟩ = some (v, ⟨g', n', m⟩)) (h : Go P T fn (.ops b all l :: k) (put d v σ) g' n' m Q) : Go P T fn (.ops b all (⟨d, op, ty, pos, af, none⟩ :: l) :: k) σ g n m Q :=
  .of (fun _ => r_op hc h0) h
theorem w_call {c : Call} {v : Value} {g' : Nat → Option Ob} {n' : Nat} (h0 : callOf P (run P T) σ c ⟨g, n, m⟩ = some (.returned v, ⟨g', n', m⟩)) (h : Go P T fn (.ops b all l :: k) (put d v σ) g' n' m Q) : Go P T fn (.ops b all (⟨d, .call c, ty, pos, af, none⟩ :: l) :: k) σ g n m Q :=
  .of (fun _ => r_call h0) h
/-- A call of what is proved. -/
theorem w_rn {c : Call} {F : FuncId} {args : List Value} {Q1 : Value → (Nat → Option Ob) → Nat → Prop} (h1 : Rn P T F args g n m Q1) (h0 : ∀ H, callOf P (run P T) σ c H = run P T F args H) (h : ∀ v g' n', Q1 v g' n' → Go P T fn (.ops b all l :: k) (put d v σ) g' n' m Q) : Go P T fn (.ops b all (⟨d, .call c, ty, pos, af, none⟩ :: l) :: k) σ g n m Q := by
  obtain ⟨v, g', n', h2, h3⟩ := h1
  exact w_call ((h0 _).trans h2) (h v g' n' h3)
/-- A call that leaves all as it was. -/
theorem w_rq {c : Call} {F : FuncId} {args : List Value} {V : Value → Prop} (h1 : Rn P T F args g n m (fun v g' n' => V v ∧ g' = g ∧ n' = n)) (h0 : ∀ H, callOf P (run P T) σ c H = run P T F args H) (h : ∀ v, V v → Go P T fn (.ops b all l :: k) (put d v σ) g n m Q) : Go P T fn (.ops b all (⟨d, .call c, ty, pos, af, none⟩ :: l) :: k) σ g n m Q :=
  w_rn h1 h0 (by rintro v g' n' ⟨h2, rfl, rfl⟩; exact h v h2)
/-- A call to which rows go by their cells. -/
theorem w_rf {c : Call} {F : FuncId} {args args1 : List Value} {V : Value → Prop} (h1 : Rf P T F args1 V) (h0 : ∀ H, callOf P (run P T) σ c H = run P T F args H) (ha : args.mapM (freeze P g tg 0 9) = some args1) (h : ∀ v, V v → Go P T fn (.ops b all l :: k) (put d v σ) g n m Q) : Go P T fn (.ops b all (⟨d, .call c, ty, pos, af, none⟩ :: l) :: k) σ g n m Q :=
  w_rq (h1 g n m args ha) h0 h
theorem w_want {op : Op} {j : Nat} {t : Bool} (hy : yield1 all σ j = some t) (h : Go P T fn (.ops b all (⟨d, op, ty, pos, af, none⟩ :: l) :: k) σ g n m Q) : Go P T fn (.ops b all (⟨d, op, ty, pos, af, some (j, t)⟩ :: l) :: k) σ g n m Q := .of (fun _ => r_want hy) h
theorem w_pass {op : Op} {j : Nat} {t : Bool} (hy : yield1 all σ j = some (!t)) (h : Go P T fn (.ops b all l :: k) (put d undef σ) g n m Q) : Go P T fn (.ops b all (⟨d, op, ty, pos, af, some (j, t)⟩ :: l) :: k) σ g n m Q := .of (fun _ => r_pass hy) h
-- a guard, both ways
theorem w_gb_t {op : Op} {j : Nat} {u : Bool} (hy : yield1 all σ j = some u) (h1 : u = true → Go P T fn (.ops b all (⟨d, op, ty, pos, af, none⟩ :: l) :: k) σ g n m Q) (h2 : u = false → Go P T fn (.ops b all l :: k) (put d undef σ) g n m Q) : Go P T fn (.ops b all (⟨d, op, ty, pos, af, some (j, true)⟩ :: l) :: k) σ g n m Q := by
  cases u with
  | true => exact w_want hy (h1 rfl)
  | false => exact w_pass hy (h2 rfl)
theorem w_gd_t {op : Op} {j : Nat} {p : Prop} {dp : Decidable p} (hy : yield1 all σ j = some (@decide p dp)) (h1 : p → Go P T fn (.ops b all (⟨d, op, ty, pos, af, none⟩ :: l) :: k) σ g n m Q) (h2 : ¬p → Go P T fn (.ops b all l :: k) (put d undef σ) g n m Q) : Go P T fn (.ops b all (⟨d, op, ty, pos, af, some (j, true)⟩ :: l) :: k) σ g n m Q :=
  w_gb_t hy (fun h => h1 (of_decide_eq_true h)) (fun h => h2 (of_decide_eq_false h))
theorem w_ge_t {op : Op} {j : Nat} {x y : Int} (hy : yield1 all σ j = some (x == y)) (h1 : x = y → Go P T fn (.ops b all (⟨d, op, ty, pos, af, none⟩ :: l) :: k) σ g n m Q) (h2 : x ≠ y → Go P T fn (.ops b all l :: k) (put d undef σ) g n m Q) : Go P T fn (.ops b all (⟨d, op, ty, pos, af, some (j, true)⟩ :: l) :: k) σ g n m Q :=
  w_gb_t hy (fun h => h1 (eq_of_beq h)) (fun h => h2 (by simpa using h))
theorem w_gn_t {op : Op} {j : Nat} {x y : Int} (hy : yield1 all σ j = some (x != y)) (h1 : x ≠ y → Go P T fn (.ops b all (⟨d, op, ty, pos, af, none⟩ :: l) :: k) σ g n m Q) (h2 : x = y → Go P T fn (.ops b all l :: k) (put d undef σ) g n m Q) : Go P T fn (.ops b all (⟨d, op, ty, pos, af, some (j, true)⟩ :: l) :: k) σ g n m Q :=
  w_gb_t hy (fun h => h1 (by simpa using h)) (fun h => h2 (by simpa using h))
theorem w_gb_f {op : Op} {j : Nat} {u : Bool} (hy : yield1 all σ j = some u) (h1 : u = true → Go P T fn (.ops b all l :: k) (put d undef σ) g n m Q) (h2 : u = false → Go P T fn (.ops b all (⟨d, op, ty, pos, af, none⟩ :: l) :: k) σ g n m Q) : Go P T fn (.ops b all (⟨d, op, ty, pos, af, some (j, false)⟩ :: l) :: k) σ g n m Q := by
  cases u with
  | true => exact w_pass hy (h1 rfl)
  | false => exact w_want hy (h2 rfl)
theorem w_gd_f {op : Op} {j : Nat} {p : Prop} {dp : Decidable p} (hy : yield1 all σ j = some (@decide p dp)) (h1 : p → Go P T fn (.ops b all l :: k) (put d undef σ) g n m Q) (h2 : ¬p → Go P T fn (.ops b all (⟨d, op, ty, pos, af, none⟩ :: l) :: k) σ g n m Q) : Go P T fn (.ops b all (⟨d, op, ty, pos, af, some (j, false)⟩ :: l) :: k) σ g n m Q :=
  w_gb_f hy (fun h => h1 (of_decide_eq_true h)) (fun h => h2 (of_decide_eq_false h))
theorem w_ge_f {op : Op} {j : Nat} {x y : Int} (hy : yield1 all σ j = some (x == y)) (h1 : x = y → Go P T fn (.ops b all l :: k) (put d undef σ) g n m Q) (h2 : x ≠ y → Go P T fn (.ops b all (⟨d, op, ty, pos, af, none⟩ :: l) :: k) σ g n m Q) : Go P T fn (.ops b all (⟨d, op, ty, pos, af, some (j, false)⟩ :: l) :: k) σ g n m Q :=
  w_gb_f hy (fun h => h1 (eq_of_beq h)) (fun h => h2 (by simpa using h))
theorem w_gn_f {op : Op} {j : Nat} {x y : Int} (hy : yield1 all σ j = some (x != y)) (h1 : x ≠ y → Go P T fn (.ops b all l :: k) (put d undef σ) g n m Q) (h2 : x = y → Go P T fn (.ops b all (⟨d, op, ty, pos, af, none⟩ :: l) :: k) σ g n m Q) : Go P T fn (.ops b all (⟨d, op, ty, pos, af, some (j, false)⟩ :: l) :: k) σ g n m Q :=
  w_gb_f hy (fun h => h1 (by simpa using h)) (fun h => h2 (by simpa using h))
theorem w_pk1 {c x y : Operand} {u : Bool} {v : Value} (hc : ev σ c = .bool u) (hv : ev σ x = v) (hu : u = true) (h : Go P T fn (.ops b all l :: k) (put d v σ) g n m Q) : Go P T fn (.ops b all (⟨d, .pick c x y, ty, pos, af, none⟩ :: l) :: k) σ g n m Q :=
  w_pure rfl (by simp only [op0, hc, hu, if_true, hv]) h
theorem w_pk0 {c x y : Operand} {u : Bool} {v : Value} (hc : ev σ c = .bool u) (hv : ev σ y = v) (hu : u = false) (h : Go P T fn (.ops b all l :: k) (put d v σ) g n m Q) : Go P T fn (.ops b all (⟨d, .pick c x y, ty, pos, af, none⟩ :: l) :: k) σ g n m Q :=
  w_pure rfl (by simp only [op0, hc, hu, Bool.false_eq_true, if_false, hv]) h
-- ---- memory
theorem w_alloc {e : TypeId} {z : Value} {ls : List Value} (hz : zeroOf P e = some z) (hls : z.cells.toList = ls) (h : Go P T fn (.ops b all l :: k) (put d (ptr n 0) σ) (upd g n (some (.cells e ls))) (n + 1) m Q) : Go P T fn (.ops b all (⟨d, .alloc e, ty, pos, af, none⟩ :: l) :: k) σ g n m Q :=
  w_op rfl (by subst hls; simp only [op1, hz, Option.map_some]; rfl) h
theorem w_box {e : TypeId} {x : Operand} {vs : List Value} (hv : (ev σ x).cells.toList = vs) (ho : vs.all one = true) (h : Go P T fn (.ops b all l :: k) (put d (ptr n 0) σ) (upd g n (some (.cells e vs))) (n + 1) m Q) : Go P T fn (.ops b all (⟨d, .box e x, ty, pos, af, none⟩ :: l) :: k) σ g n m Q :=
  w_op rfl (by subst hv; simp only [op1]; rw [if_pos ho]; rfl) h
theorem w_fldp {s f : TypeId} {x : Operand} {i off o : Nat} {t2 : TypeId} {z : Nat} (hx : ev σ x = ptr i off) (hf : fldOf P s f = some (o, t2)) (hs : szOf P t2 = some z) (hz : 0 < z) (h : Go P T fn (.ops b all l :: k) (put d (ptr i (off + o)) σ) g n m Q) : Go P T fn (.ops b all (⟨d, .fieldAddr s x f, ty, pos, af, none⟩ :: l) :: k) σ g n m Q := by
  refine w_pure rfl ?_ h
  have : ¬ z = 0 := by omega
  simp only [op0, hx, hf, hs, Option.bind_some, this, if_false]
/-- A load from a place. -/
theorem w_load {t : TypeId} {x : Operand} {i off : Nat} {e : TypeId} {vs : List Value} {v : Value} (ha : ev σ x = ptr i off) (hg : g i = some (.cells e vs)) (hp : part P t vs off = some v) (h : Go P T fn (.ops b all l :: k) (put d v σ) g n m Q) : Go P T fn (.ops b all (⟨d, .load t x, ty, pos, af, none⟩ :: l) :: k) σ g n m Q :=
  w_op rfl (by simp only [op1, loadAt, ha, hg, hp, Option.map_some]) h
theorem w_store {t : TypeId} {a x : Operand} {i off : Nat} {e : TypeId} {vs us ws : List Value} (ha : ev σ a = ptr i off) (hx : (ev σ x).cells.toList = us) (hg : g i = some (.cells e vs)) (hm : m ≤ i) (hz : szOf P t = some us.length) (ho : us.all one = true) (hw : wrCells vs off us = some ws) (h : Go P T fn (.ops b all l :: k) (put d undef σ) (upd g i (some (.cells e ws))) n m Q) : Go P T fn (.ops b all (⟨d, .store t a x, ty, pos, af, none⟩ :: l) :: k) σ g n m Q :=
  w_op rfl (by
    subst hx
    simp only [op1, storeAt, ha]
    rw [if_pos hm]
    simp only [hg, hz, ho, hw, Bool.and_true, decide_true, if_true, Option.map_some]
    rfl) h
-- ---- numbers
theorem w_mod {op : BinOp} {kd : IntKind} {t ty2 : TypeId} {x y : Operand} {a c : Int} (hop : op = .rem) (hx : ev σ x = .int kd a) (hy : ev σ y = .int kd c) (h1 : nilConst P t x = false) (h2 : nilConst P t y = false) (ha : 0 ≤ a) (hc : 0 < c) (h : Go P T fn (.ops b all l :: k) (put d (.int kd (a % c)) σ) g n m Q) : Go P T fn (.ops b all (⟨d, .binOp op t x y ty2, ty, pos, af, none⟩ :: l) :: k) σ g n m Q := by
  subst hop
  refine w_pure rfl ?_ h
  simp only [op0, h1, h2, Bool.false_eq_true, if_false, hx, hy, bin]
  have : c ≠ 0 := by omega
  simp [binInt, this, Int.tmod_eq_emod_of_nonneg ha]
theorem w_and {op : BinOp} {t ty2 : TypeId} {x y : Operand} {a c c1 : Int} {j : Nat} (hop : op = .and) (hx : ev σ x = .int .i64 a) (hy : ev σ y = .int .i64 c) (h1 : nilConst P t x = false) (h2 : nilConst P t y = false) (hj : j ≤ 62) (hc : c = 2 ^ j - 1) (hc1 : c1 = 2 ^ j) (h : Go P T fn (.ops b all l :: k) (put d (.int .i64 (a % c1)) σ) g n m Q) : Go P T fn (.ops b all (⟨d, .binOp op t x y ty2, ty, pos, af, none⟩ :: l) :: k) σ g n m Q := by
  subst hop hc1
  refine w_pure rfl ?_ h
  simp only [op0, h1, h2, Bool.false_eq_true, if_false, hx, hy, bin]
  simp only [reduceCtorEq, or_self, if_false, if_true, binInt]
  exact congrArg (fun q => some (Value.int .i64 q)) (and_i64 a j hj c hc)
theorem w_div {op : BinOp} {t ty2 : TypeId} {x y : Operand} {a c : Int} (hop : op = .quo) (hx : ev σ x = .int .i64 a) (hy : ev σ y = .int .i64 c) (h1 : nilConst P t x = false) (h2 : nilConst P t y = false) (ha : 0 ≤ a) (ha' : a ≤ 9223372036854775807) (hc : 0 < c) (h : Go P T fn (.ops b all l :: k) (put d (.int .i64 (a / c)) σ) g n m Q) : Go P T fn (.ops b all (⟨d, .binOp op t x y ty2, ty, pos, af, none⟩ :: l) :: k) σ g n m Q := by
  subst hop
  refine w_pure rfl ?_ h
  simp only [op0, h1, h2, Bool.false_eq_true, if_false, hx, hy, bin]
  have : c ≠ 0 := by omega
  simp [binInt, this, IntWalk.i64_quo a c ⟨ha, ha', by omega⟩]
theorem w_divk {op : BinOp} {kd : IntKind} {t ty2 : TypeId} {x y : Operand} {a c : Int} (hop : op = .quo) (hx : ev σ x = .int kd a) (hy : ev σ y = .int kd c) (h1 : nilConst P t x = false) (h2 : nilConst P t y = false) (ha : 0 ≤ a) (hc : 0 < c) (hw : kd.wrap (a / c) = a / c) (h : Go P T fn (.ops b all l :: k) (put d (.int kd (a / c)) σ) g n m Q) : Go P T fn (.ops b all (⟨d, .binOp op t x y ty2, ty, pos, af, none⟩ :: l) :: k) σ g n m Q := by
  subst hop
  refine w_pure rfl ?_ h
  simp only [op0, h1, h2, Bool.false_eq_true, if_false, hx, hy, bin]
  have : c ≠ 0 := by omega
  simp [binInt, this, Int.tdiv_eq_ediv_of_nonneg ha, hw]
theorem w_notd {t : TypeId} {x : Operand} {p : Prop} {dp : Decidable p} (hx : ev σ x = .bool (@decide p dp)) (h : Go P T fn (.ops b all l :: k) (put d (.bool (decide ¬p)) σ) g n m Q) : Go P T fn (.ops b all (⟨d, .unOp .not t x, ty, pos, af, none⟩ :: l) :: k) σ g n m Q :=
  w_pure rfl (by simp only [op0, un, hx, decide_not]) h
theorem w_max {x y : Operand} {kd : IntKind} {a c : Int} {ts : Array TypeId} (hx : ev σ x = .int kd a) (hy : ev σ y = .int kd c) (h : Go P T fn (.ops b all l :: k) (put d (.int kd (max a c)) σ) g n m Q) : Go P T fn (.ops b all (⟨d, .call ⟨.builtin .max, #[x, y], ts⟩, ty, pos, af, none⟩ :: l) :: k) σ g n m Q :=
  w_call (by
    have e : (if c > a then c else a) = max a c := by simp only [Int.max_def]; split <;> split <;> omega
    simp [callOf, builtin1, foldInts, hx, hy, e]) h
theorem w_min {x y : Operand} {kd : IntKind} {a c : Int} {ts : Array TypeId} (hx : ev σ x = .int kd a) (hy : ev σ y = .int kd c) (h : Go P T fn (.ops b all l :: k) (put d (.int kd (min a c)) σ) g n m Q) : Go P T fn (.ops b all (⟨d, .call ⟨.builtin .min, #[x, y], ts⟩, ty, pos, af, none⟩ :: l) :: k) σ g n m Q :=
  w_call (by
    have e : (if c < a then c else a) = min a c := by simp only [Int.min_def]; split <;> split <;> omega
    simp [callOf, builtin1, foldInts, hx, hy, e]) h
theorem w_conv {s t : TypeId} {x : Operand} {kd kd' : IntKind} {a : Int} {u : _} (hx : ev σ x = .int kd a) (hs : P.underlying s = some u) (ht : P.underlying t = some (.int kd')) (hw : kd'.wrap a = a) (h : Go P T fn (.ops b all l :: k) (put d (.int kd' a) σ) g n m Q) : Go P T fn (.ops b all (⟨d, .convert s t x, ty, pos, af, none⟩ :: l) :: k) σ g n m Q :=
  w_op rfl (by simp only [op1, hx, hs, ht, hw]) h
theorem w_convw {s t : TypeId} {x : Operand} {kd kd' : IntKind} {a : Int} {u : _} (hx : ev σ x = .int kd a) (hs : P.underlying s = some u) (ht : P.underlying t = some (.int kd')) (h : Go P T fn (.ops b all l :: k) (put d (.int kd' (kd'.wrap a)) σ) g n m Q) : Go P T fn (.ops b all (⟨d, .convert s t x, ty, pos, af, none⟩ :: l) :: k) σ g n m Q :=
  w_op rfl (by simp only [op1, hx, hs, ht]) h
-- ---- texts
theorem w_teq {op : BinOp} {t ty2 : TypeId} {x y : Operand} {a c : ByteArray} (hop : op = .eql) (hx : ev σ x = .string a) (hy : ev σ y = .string c) (h1 : nilConst P t x = false) (h2 : nilConst P t y = false) (h : Go P T fn (.ops b all l :: k) (put d (.bool (decide (a = c))) σ) g n m Q) : Go P T fn (.ops b all (⟨d, .binOp op t x y ty2, ty, pos, af, none⟩ :: l) :: k) σ g n m Q := by
  subst hop
  refine w_pure rfl ?_ h
  simp only [op0, h1, h2, Bool.false_eq_true, if_false, hx, hy, bin, binStr]
  congr 2
  rw [Bool.eq_iff_iff, decide_eq_true_eq, beq_iff_eq, ByteArray.toList_eq, ByteArray.toList_eq]
  exact ⟨fun h => by obtain ⟨⟨a⟩⟩ := a; obtain ⟨⟨c⟩⟩ := c; simpa using h, fun h => by rw [h]⟩
theorem w_tne {op : BinOp} {t ty2 : TypeId} {x y : Operand} {a c : ByteArray} (hop : op = .neq) (hx : ev σ x = .string a) (hy : ev σ y = .string c) (h1 : nilConst P t x = false) (h2 : nilConst P t y = false) (h : Go P T fn (.ops b all l :: k) (put d (.bool (decide (a ≠ c))) σ) g n m Q) : Go P T fn (.ops b all (⟨d, .binOp op t x y ty2, ty, pos, af, none⟩ :: l) :: k) σ g n m Q := by
  subst hop
  refine w_pure rfl ?_ h
  simp only [op0, h1, h2, Bool.false_eq_true, if_false, hx, hy, bin, binStr]
  congr 2
  rw [Bool.eq_iff_iff, decide_eq_true_eq, Bool.not_eq_true', beq_eq_false_iff_ne, ne_eq, ne_eq, ByteArray.toList_eq, ByteArray.toList_eq]
  exact not_congr ⟨fun h => by obtain ⟨⟨a⟩⟩ := a; obtain ⟨⟨c⟩⟩ := c; simpa using h, fun h => by rw [h]⟩
theorem w_cat {op : BinOp} {t ty2 : TypeId} {x y : Operand} {a c : ByteArray} (hop : op = .add) (hx : ev σ x = .string a) (hy : ev σ y = .string c) (h1 : nilConst P t x = false) (h2 : nilConst P t y = false) (hl : a.size + c.size ≤ 9223372036854775807) (h : Go P T fn (.ops b all l :: k) (put d (.string (a ++ c)) σ) g n m Q) : Go P T fn (.ops b all (⟨d, .binOp op t x y ty2, ty, pos, af, none⟩ :: l) :: k) σ g n m Q := by
  subst hop
  refine w_pure rfl ?_ h
  simp only [op0, h1, h2, Bool.false_eq_true, if_false, hx, hy, bin, binStr]
  rw [if_pos hl]
/-- A text's byte. -/
def bt (s : ByteArray) (i : Nat) : Int := ((s.data.toList.getD i 0).toNat : Nat)
theorem w_sidx {t : TypeId} {x j : Operand} {s : ByteArray} {kd : IntKind} {q : Int} (hx : ev σ x = .string s) (hj : ev σ j = .int kd q) (ht : P.underlying t = some .string) (h0 : 0 ≤ q) (h1 : q < s.size) (h : Go P T fn (.ops b all l :: k) (put d (.int .u8 (bt s q.toNat)) σ) g n m Q) : Go P T fn (.ops b all (⟨d, .index t x j, ty, pos, af, none⟩ :: l) :: k) σ g n m Q :=
  w_pure rfl (by simp only [op0, ht, hx, hj]; rw [if_pos ⟨h0, h1⟩]; rfl) h
theorem w_ssl {t : TypeId} {x : Operand} {lo hi : Option Operand} {s : ByteArray} {p q : Nat} (hx : ev σ x = .string s) (ht : P.underlying t = some .string) (hl : numOf 0 (lo.map (ev σ)) = some p) (hh : numOf s.size (hi.map (ev σ)) = some q) (hpq : p ≤ q ∧ q ≤ s.size) (h : Go P T fn (.ops b all l :: k) (put d (.string (s.extract p q)) σ) g n m Q) : Go P T fn (.ops b all (⟨d, .slice t x lo hi none, ty, pos, af, none⟩ :: l) :: k) σ g n m Q :=
  w_op rfl (by
    simp only [op1, sliceOf, ht, hx, hl, hh, Option.bind_some, Option.map_none, Option.isNone_none]
    rw [if_pos ⟨trivial, hpq.1, hpq.2⟩]; rfl) h
theorem num_of {dd : Nat} {kd : IntKind} {q : Int} (h : 0 ≤ q) : numOf dd (some (Value.int kd q)) = some q.toNat := by simp [numOf, h]
-- ---- shifts
theorem w_shr {op : BinOp} {t ty2 : TypeId} {x y : Operand} {kd kd' : IntKind} {a c : Int} (hop : op = .shr) (hx : ev σ x = .int kd a) (hy : ev σ y = .int kd' c) (h1 : nilConst P t x = false) (h2 : nilConst P t y = false) (ha : 0 ≤ a) (hc : 0 ≤ c) (h : Go P T fn (.ops b all l :: k) (put d (.int kd (a / 2 ^ min c.toNat kd.bits)) σ) g n m Q) : Go P T fn (.ops b all (⟨d, .binOp op t x y ty2, ty, pos, af, none⟩ :: l) :: k) σ g n m Q := by
  subst hop
  refine w_pure rfl ?_ h
  simp only [op0, h1, h2, Bool.false_eq_true, if_false, hx, hy, bin]
  rw [if_pos (.inr trivial)]
  unfold binShift
  rw [if_neg (by omega)]
  simp only [Option.some.injEq, Value.int.injEq, true_and]
  exact Int.fdiv_eq_ediv_of_nonneg _ (Int.le_of_lt (Int.pow_pos (by decide)))
theorem w_shl {op : BinOp} {t ty2 : TypeId} {x y : Operand} {kd kd' : IntKind} {a c : Int} (hop : op = .shl) (hx : ev σ x = .int kd a) (hy : ev σ y = .int kd' c) (h1 : nilConst P t x = false) (h2 : nilConst P t y = false) (hc : 0 ≤ c) (h : Go P T fn (.ops b all l :: k) (put d (.int kd (kd.wrap (a * 2 ^ min c.toNat kd.bits))) σ) g n m Q) : Go P T fn (.ops b all (⟨d, .binOp op t x y ty2, ty, pos, af, none⟩ :: l) :: k) σ g n m Q := by
  subst hop
  refine w_pure rfl ?_ h
  simp only [op0, h1, h2, Bool.false_eq_true, if_false, hx, hy, bin]
  rw [if_pos (.inl trivial)]
  unfold binShift
  rw [if_neg (by omega)]
-- ---- rows of bytes
def nums (ns : List Int) : ByteArray := ⟨(ns.map fun n => UInt8.ofNat n.toNat).toArray⟩
theorem strOf_ints (ns : List Int) : strOf (ns.map (Value.int .u8)) = some (ns.map fun n => UInt8.ofNat n.toNat) := by
  induction ns with
  | nil => rfl
  | cons a ns ih => simp only [List.map_cons, strOf, ih, Option.map_some]
theorem w_mks {t e : TypeId} {x y : Operand} {nn by_ sz : Nat} {z : Value} (hx : ev σ x = .int .i64 (nn : Int)) (hy : ev σ y = .int .i64 (nn : Int)) (he : elemOf P t = some e) (hb : bytesOf P e = some by_) (hs : szOf P e = some sz) (hz : zeroOf P e = some z) (hzs : sz = z.cells.toList.length) (hl : nn * by_ ≤ 140737488355328 ∧ nn ≤ 4611686018427387904) (h : Go P T fn (.ops b all l :: k) (put d (slc n 0 nn) σ) (upd g n (some (.cells e ((List.replicate nn z.cells.toList).flatten)))) (n + 1) m Q) : Go P T fn (.ops b all (⟨d, .makeSlice t x y, ty, pos, af, none⟩ :: l) :: k) σ g n m Q :=
  w_op rfl (by
    have h0 : (0 : Int) ≤ (nn : Int) := Int.natCast_nonneg nn
    have h1 : (nn : Int) * by_ ≤ 140737488355328 ∧ (nn : Int) ≤ 4611686018427387904 := ⟨by have := hl.1; rw [← Int.natCast_mul]; omega, by have := hl.2; omega⟩
    simp only [op1, hx, hy, he, hb, hs, hz, Option.bind_some]
    rw [if_pos ⟨by trivial, hzs, h0, h1.1, h1.2⟩]
    rfl) h
/-- A place in a row of one's own. -/
theorem w_ixr {t : TypeId} {x j : Operand} {i off nn cc sz : Nat} {kd : IntKind} {q : Int} {e : TypeId} (hx : ev σ x = .slice (some ⟨i, off, none⟩) nn cc) (hj : ev σ j = .int kd q) (he : elemOf P t = some e) (hs : szOf P e = some sz) (h0 : 0 ≤ q) (h1 : q < nn) (h : Go P T fn (.ops b all l :: k) (put d (ptr i (off + q.toNat * sz)) σ) g n m Q) : Go P T fn (.ops b all (⟨d, .indexAddr t x j, ty, pos, af, none⟩ :: l) :: k) σ g n m Q :=
  w_pure rfl (by simp only [op0, hx, hj, he, hs, Option.bind_some]; rw [if_pos ⟨h0, h1⟩]) h
/-- A store of one cell. -/
theorem w_st1 {t : TypeId} {a x : Operand} {i off : Nat} {e : TypeId} {vs : List Value} {v : Value} (ha : ev σ a = ptr i off) (hx : ev σ x = v) (hv : v.cells.toList = [v]) (ho : one v = true) (hg : g i = some (.cells e vs)) (hm : m ≤ i) (hz : szOf P t = some 1) (hl : off < vs.length) (h : Go P T fn (.ops b all l :: k) (put d undef σ) (upd g i (some (.cells e (vs.set off v)))) n m Q) : Go P T fn (.ops b all (⟨d, .store t a x, ty, pos, af, none⟩ :: l) :: k) σ g n m Q :=
  w_store (us := [v]) (ws := vs.set off v) ha (by rw [hx]; exact hv) hg hm hz (by simp [ho]) (by unfold wrCells; rw [if_pos (by simp only [List.length_singleton]; omega)]; rfl) h
/-- A row of bytes as a text. -/
theorem w_b2s {s t e e' : TypeId} {x : Operand} {i off nn cc : Nat} {vs : List Value} {ns : List Int} (hx : ev σ x = .slice (some ⟨i, off, none⟩) nn cc) (hs : P.underlying s = some (.slice e)) (ht : P.underlying t = some .string) (hk : kindOf P e = some .u8) (hg : g i = some (.cells e' vs)) (hr : rdCells vs off nn = some (ns.map (Value.int .u8))) (h : Go P T fn (.ops b all l :: k) (put d (.string (nums ns)) σ) g n m Q) : Go P T fn (.ops b all (⟨d, .convert s t x, ty, pos, af, none⟩ :: l) :: k) σ g n m Q :=
  w_op rfl (by simp only [op1, hs, ht, hx, hk, if_true, hg, hr, Option.bind_some, strOf_ints, Option.map_some]; rfl) h
theorem w_s2b {s t e : TypeId} {x : Operand} {q : ByteArray} {u : _} (hx : ev σ x = .string q) (hs : P.underlying s = some u) (ht : P.underlying t = some (.slice e)) (hk : kindOf P e = some .u8) (hz : szOf P e = some 1) (h : Go P T fn (.ops b all l :: k) (put d (slc n 0 q.size) σ) (upd g n (some (.cells e (q.data.toList.map fun c => .int .u8 c.toNat)))) (n + 1) m Q) : Go P T fn (.ops b all (⟨d, .convert s t x, ty, pos, af, none⟩ :: l) :: k) σ g n m Q :=
  w_op rfl (by simp only [op1, hs, ht, hx, hk, hz, and_self, if_true]; rfl) h
-- ---- Builder
theorem w_pne {t ty2 el : TypeId} {x y : Operand} {i off z : Nat} (hx : ev σ x = ptr i off) (hy : ev σ y = ptr i off) (h1 : nilConst P t x = false) (h2 : nilConst P t y = false) (ht : P.underlying t = some (.pointer el)) (hz : szOf P el = some (z + 1)) (h : Go P T fn (.ops b all l :: k) (put d (.bool false) σ) g n m Q) : Go P T fn (.ops b all (⟨d, .binOp .neq t x y ty2, ty, pos, af, none⟩ :: l) :: k) σ g n m Q :=
  w_pure rfl (by simp only [op0, h1, h2, Bool.false_eq_true, if_false, hx, hy, bin, if_true, ht, hz]) h
theorem w_peq {t ty2 el : TypeId} {x y : Operand} {i off z : Nat} (hx : ev σ x = ptr i off) (hy : ev σ y = ptr i off) (h1 : nilConst P t x = false) (h2 : nilConst P t y = false) (ht : P.underlying t = some (.pointer el)) (hz : szOf P el = some (z + 1)) (h : Go P T fn (.ops b all l :: k) (put d (.bool true) σ) g n m Q) : Go P T fn (.ops b all (⟨d, .binOp .eql t x y ty2, ty, pos, af, none⟩ :: l) :: k) σ g n m Q :=
  w_pure rfl (by simp only [op0, h1, h2, Bool.false_eq_true, if_false, hx, hy, bin, if_true, ht, hz]) h
theorem run_ext {F : FuncId} {gx : List Value → Hp → Option (Ending × Hp)} {args : List Value} {H : Hp} (h1 : T.ext F = some gx) : run P T F args H = gx args H := by
  rw [run_eq]
  unfold runWith
  rw [h1]
theorem w_ext {c : Call} {F : FuncId} {gx : List Value → Hp → Option (Ending × Hp)} {args : List Value} {v : Value} {g' : Nat → Option Ob} {n' : Nat} (h0 : ∀ H, callOf P (run P T) σ c H = run P T F args H) (h1 : T.ext F = some gx) (h2 : gx args ⟨g, n, m⟩ = some (.returned v, ⟨g', n', m⟩)) (h : Go P T fn (.ops b all l :: k) (put d v σ) g' n' m Q) : Go P T fn (.ops b all (⟨d, .call c, ty, pos, af, none⟩ :: l) :: k) σ g n m Q :=
  w_call ((h0 _).trans ((run_ext h1).trans h2)) h
theorem w_p2u {s t t0 : TypeId} {x : Operand} {i z : Nat} {e : TypeId} {v : Value} {vs : List Value} (hx : ev σ x = ptr i 0) (hs : P.underlying s = some (.pointer t0)) (ht : P.underlying t = some .unsafePointer) (hz : szOf P t0 = some (z + 1)) (hg : g i = some (.cells e (v :: vs))) (h : Go P T fn (.ops b all l :: k) (put d (ptr i 0) σ) g n m Q) : Go P T fn (.ops b all (⟨d, .convert s t x, ty, pos, af, none⟩ :: l) :: k) σ g n m Q :=
  w_op rfl (by simp only [op1, hs, ht, hx, hz, hg]) h
theorem w_u2p {s t t0 : TypeId} {x : Operand} {i z : Nat} {e : TypeId} {vs : List Value} (hx : ev σ x = ptr i 0) (hs : P.underlying s = some .unsafePointer) (ht : P.underlying t = some (.pointer t0)) (hz : szOf P t0 = some (z + 1)) (hg : g i = some (.cells e vs)) (hm : m ≤ i) (hl : lone P e = true) (hla : liesAt P P.depth e (vs.length / P.cellsOf e) 0 t0 1 = true) (h : Go P T fn (.ops b all l :: k) (put d (ptr i 0) σ) g n m Q) : Go P T fn (.ops b all (⟨d, .convert s t x, ty, pos, af, none⟩ :: l) :: k) σ g n m Q :=
  w_op rfl (by
    simp only [op1, hs, ht, hx, hz, hg]
    rw [if_pos ⟨hm, hl, hla⟩]) h
/-- An append, whatever is appended. -/
theorem w_apN {s x : Operand} {ts : Array TypeId} {t e : TypeId} {sz by_ : Nat} {sv xv : Value} (hs : ev σ s = sv) (hx : ev σ x = xv) (ht : ts[0]? = some t) (he : rowOf P t = some e) (hz : szOf P e = some sz) (hb : bytesOf P e = some by_) (hm : lenOf xv = some 0) (hl : lenList xv ⟨g, n, m⟩ sz = some []) (ha : appendable P ts[1]? e sz xv [] = true) (hsv : sv = .slice none 0 0 ∨ ∃ i off nn cc, sv = .slice (some ⟨i, off, none⟩) nn cc)
    (h : Go P T fn (.ops b all l :: k) (put d sv σ) g n m Q) : Go P T fn (.ops b all (⟨d, .call ⟨.builtin .append, #[s, x], ts⟩, ty, pos, af, none⟩ :: l) :: k) σ g n m Q :=
  w_call (by
    have hmm : (#[s, x] : Array Operand).toList.map (ev σ) = [sv, xv] := by simp [hs, hx]
    simp only [callOf, hmm, builtin1, ht, Option.bind_some, appendTo, he, hz, hb, hm, hl, ha, if_true]
    rcases hsv with rfl | ⟨i, off, nn, cc, rfl⟩ <;> rfl) h
theorem w_apA0 {s x : Operand} {ts : Array TypeId} {t e : TypeId} {sz by_ mm : Nat} {xv : Value} {ns : List Value} (hs : ev σ s = .slice none 0 0) (hx : ev σ x = xv) (ht : ts[0]? = some t) (he : rowOf P t = some e) (hz : szOf P e = some sz) (hb : bytesOf P e = some by_) (hm : lenOf xv = some mm) (hl : lenList xv ⟨g, n, m⟩ sz = some ns) (ha : appendable P ts[1]? e sz xv ns = true) (hk : mm ≠ 0) (hbd : mm * by_ ≤ 140737488355328 ∧ mm ≤ 4611686018427387904)
    (h : Go P T fn (.ops b all l :: k) (put d (slc n 0 mm) σ) (upd g n (some (.cells e ns))) (n + 1) m Q) : Go P T fn (.ops b all (⟨d, .call ⟨.builtin .append, #[s, x], ts⟩, ty, pos, af, none⟩ :: l) :: k) σ g n m Q :=
  w_call (by
    have hmm : (#[s, x] : Array Operand).toList.map (ev σ) = [.slice none 0 0, xv] := by simp [hs, hx]
    simp only [callOf, hmm, builtin1, ht, Option.bind_some, appendTo, he, hz, hb, hm, hl, ha, if_true]
    rw [if_neg hk, if_pos hbd]; rfl) h
theorem w_apA1 {s x : Operand} {ts : Array TypeId} {t e : TypeId} {sz by_ mm i off0 n0 c0 : Nat} {xv : Value} {vs0 os ns : List Value} (hs : ev σ s = .slice (some ⟨i, off0, none⟩) n0 c0) (hx : ev σ x = xv) (ht : ts[0]? = some t) (he : rowOf P t = some e) (hz : szOf P e = some sz) (hb : bytesOf P e = some by_) (hm : lenOf xv = some mm) (hl : lenList xv ⟨g, n, m⟩ sz = some ns) (ha : appendable P ts[1]? e sz xv ns = true) (hk : mm ≠ 0) (hg0 : g i = some (.cells e vs0)) (ho : rdCells vs0 off0 (n0 * sz) = some os) (hbd : (n0 + mm) * by_ ≤ 140737488355328 ∧ n0 + mm ≤ 4611686018427387904 ∧ m ≤ i)
    (h : Go P T fn (.ops b all l :: k) (put d (slc n 0 (n0 + mm)) σ) (upd (upd g i none) n (some (.cells e (os ++ ns)))) (n + 1) m Q) : Go P T fn (.ops b all (⟨d, .call ⟨.builtin .append, #[s, x], ts⟩, ty, pos, af, none⟩ :: l) :: k) σ g n m Q :=
  w_call (by
    have hmm : (#[s, x] : Array Operand).toList.map (ev σ) = [.slice (some ⟨i, off0, none⟩) n0 c0, xv] := by simp [hs, hx]
    simp only [callOf, hmm, builtin1, ht, Option.bind_some, appendTo, he, hz, hb, hm, hl, ha, if_true]
    rw [if_neg hk, if_pos hbd]
    simp only [hg0, ho, if_true, Option.map_some]
    rfl) h
/-- A text's bytes as cells. -/
def bc (s : ByteArray) : List Value := s.data.toList.map fun c => .int .u8 c.toNat
theorem bc_len (s : ByteArray) : (bc s).length = s.size := by unfold bc; rw [List.length_map, Array.length_toList]; rfl
theorem bc_app (a c : ByteArray) : bc (a ++ c) = bc a ++ bc c := by unfold bc; rw [ByteArray.data_append, Array.toList_append, List.map_append]
theorem bc_str (s : ByteArray) : strOf (bc s) = some s.data.toList := by
  unfold bc
  generalize s.data.toList = l
  induction l with
  | nil => rfl
  | cons a l ih => simp only [List.map_cons, strOf, ih, Option.map_some]; congr 1; congr 1; simp
theorem bc_one (s : ByteArray) : (bc s).all one = true := by
  unfold bc
  generalize s.data.toList = l
  induction l with
  | nil => rfl
  | cons a l ih => rw [List.map_cons, List.all_cons, ih]; rfl
theorem w_sd0 {x : Operand} {ts : Array TypeId} (hx : ev σ x = .slice none 0 0) (h : Go P T fn (.ops b all l :: k) (put d (.pointer none) σ) g n m Q) : Go P T fn (.ops b all (⟨d, .call ⟨.builtin .unsafeSliceData, #[x], ts⟩, ty, pos, af, none⟩ :: l) :: k) σ g n m Q :=
  w_call (by
    have hmm : (#[x] : Array Operand).toList.map (ev σ) = [.slice none 0 0] := by simp [hx]
    simp only [callOf, hmm, builtin1]; rfl) h
theorem w_sd1 {x : Operand} {ts : Array TypeId} {i off nn cc : Nat} (hx : ev σ x = .slice (some ⟨i, off, none⟩) nn cc) (hn : nn ≠ 0) (h : Go P T fn (.ops b all l :: k) (put d (ptr i off) σ) g n m Q) : Go P T fn (.ops b all (⟨d, .call ⟨.builtin .unsafeSliceData, #[x], ts⟩, ty, pos, af, none⟩ :: l) :: k) σ g n m Q :=
  w_call (by
    have hmm : (#[x] : Array Operand).toList.map (ev σ) = [.slice (some ⟨i, off, none⟩) nn cc] := by simp [hx]
    simp only [callOf, hmm, builtin1, hn, if_false]; rfl) h
theorem w_us0 {x y : Operand} {ts : Array TypeId} (hx : ev σ x = .pointer none) (hy : ev σ y = .int .i64 0) (ht : ts.size = 2) (h : Go P T fn (.ops b all l :: k) (put d (.string .empty) σ) g n m Q) : Go P T fn (.ops b all (⟨d, .call ⟨.builtin .unsafeString, #[x, y], ts⟩, ty, pos, af, none⟩ :: l) :: k) σ g n m Q :=
  w_call (by
    have hmm : (#[x, y] : Array Operand).toList.map (ev σ) = [.pointer none, .int .i64 0] := by simp [hx, hy]
    simp only [callOf, hmm, builtin1, ht, and_self, if_true]; rfl) h
theorem w_us1 {x y : Operand} {ts : Array TypeId} {pt e : TypeId} {i : Nat} {q : Int} {s : ByteArray} (hx : ev σ x = ptr i 0) (hy : ev σ y = .int .i64 q) (hq : q = (s.size : Int)) (ht : ts.size = 2) (ht0 : ts[0]? = some pt) (hp : P.underlying pt = some (.pointer e)) (hc : P.cellsOf e = 1) (hg : g i = some (.cells e (bc s))) (hm : m ≤ i) (h0 : 0 < s.size ∧ s.size ≤ 9223372036854775807) (h : Go P T fn (.ops b all l :: k) (put d (.string s) σ) (upd g i none) n m Q) : Go P T fn (.ops b all (⟨d, .call ⟨.builtin .unsafeString, #[x, y], ts⟩, ty, pos, af, none⟩ :: l) :: k) σ g n m Q :=
  w_call (by
    subst hq
    have hmm : (#[x, y] : Array Operand).toList.map (ev σ) = [ptr i 0, .int .i64 (s.size : Int)] := by simp [hx, hy]
    simp only [callOf, hmm, builtin1, ht0, Option.bind_some]
    rw [if_pos ⟨by omega, by omega, hm, ht⟩]
    simp only [hp, hg]
    rw [if_pos ⟨trivial, hc⟩, Int.toNat_natCast, rd_all (bc_len s).symm, Option.bind_some, bc_str]
    rfl) h
/-- One of an array, by a number. -/
theorem w_aix {α : Type} {enc : α → List Value} {ls : List α} {y : α} {t e : TypeId} {x j : Operand} {cs : Array Value} {i sz nn : Nat} {kd : IntKind} {q : Int} {v : Value} (hx : ev σ x = .agg cs) (hcs : cs.toList = ls.flatMap enc) (hj : ev σ j = .int kd q) (ht : arrOf P t = some (nn, e)) (hs : szOf P e = some sz) (hq : q = (i : Int)) (hle : ∀ x, (enc x).length = sz) (hi : ls[i]? = some y) (hn : i < nn) (hp : part P e (enc y) 0 = some v) (h : Go P T fn (.ops b all l :: k) (put d v σ) g n m Q) : Go P T fn (.ops b all (⟨d, .index t x j, ty, pos, af, none⟩ :: l) :: k) σ g n m Q := by
  subst hq
  refine w_pure rfl ?_ h
  have h1 : part P e cs.toList (i * sz) = some v := by rw [hcs]; have := part_flat hle hi hp; rwa [Nat.add_zero] at this
  simp only [op0, hx, hj, ht, hs, Option.bind_some]
  rw [if_pos ⟨by omega, by omega⟩, Int.toNat_natCast, h1]
theorem part_one {t : TypeId} {cs : List Value} {o : Nat} (h : aggOf P t = some false) : part P t cs o = cs[o]? := by simp [part, h]
-- ---- maps
/-- Keys of a kind. -/
structure KeyK (P : Program) (kt : TypeId) {κ : Type} (ek : κ → Value) : Prop where
  eq : ∀ a c, (a = c ∧ keyEq P kt (ek a) (ek c) = some true) ∨ (a ≠ c ∧ keyEq P kt (ek a) (ek c) = some false)
  ok : ∀ a, keyOk P kt (ek a) = true
  same : ∀ a, Instr.sameBits 10000 (ek a) (ek a) = true
theorem keyK_int {P : Program} {kt : TypeId} {q : IntKind} (h : P.underlying kt = some (.int q)) : KeyK P kt (fun n => Value.int q n) :=
  ⟨fun a c => by
    by_cases e : a = c
    · exact .inl ⟨e, by simp [keyEq, h, e]⟩
    · exact .inr ⟨e, by simp [keyEq, h, e]⟩, fun a => by simp [keyOk, h], fun a => by simp [Instr.sameBits]⟩
theorem ba_beq (a c : ByteArray) : (a == c) = decide (a = c) := by
  obtain ⟨a⟩ := a
  obtain ⟨c⟩ := c
  have h : ((⟨a⟩ : ByteArray) == ⟨c⟩) = (a == c) := rfl
  rw [h, Bool.eq_iff_iff]
  simp
theorem keyK_str {P : Program} {kt : TypeId} (h : P.underlying kt = some .string) : KeyK P kt Value.string :=
  ⟨fun a c => by
    by_cases e : a = c
    · exact .inl ⟨e, by simp [keyEq, h, e, ba_beq]⟩
    · exact .inr ⟨e, by simp [keyEq, h, e, ba_beq]⟩, fun a => by simp [keyOk, h], fun a => by simp [Instr.sameBits, ba_beq]⟩
section
variable {κ β : Type} [DecidableEq κ]
def mget : List (κ × β) → κ → Option β
  | [], _ => none
  | p :: l, k => if k = p.1 then some p.2 else mget l k
def mput : List (κ × β) → κ → β → List (κ × β)
  | [], k, v => [(k, v)]
  | p :: l, k, v => if k = p.1 then (k, v) :: l else p :: mput l k v
theorem mget_put (l : List (κ × β)) (k k' : κ) (v : β) : mget (mput l k v) k' = if k' = k then some v else mget l k' := by
  induction l with
  | nil => simp [mput, mget]
  | cons p l ih =>
    unfold mput
    by_cases h : k = p.1
    · rw [if_pos h]
      unfold mget
      by_cases h2 : k' = k
      · simp [h2]
      · have h3 : ¬ k' = p.1 := by rw [← h]; exact h2
        simp [h2, h3]
    · rw [if_neg h]
      unfold mget
      rw [ih]
      by_cases h2 : k' = p.1
      · rw [if_pos h2, if_pos h2, if_neg (by rw [h2]; exact Ne.symm h)]
      · rw [if_neg h2, if_neg h2]
def ents (ek : κ → Value) (ev : β → Value) (l : List (κ × β)) : List (Value × Value) := l.map fun p => (ek p.1, ev p.2)
theorem find_ents {P : Program} {kt : TypeId} {ek : κ → Value} {ev : β → Value} (h : KeyK P kt ek) (k : κ) : ∀ (l : List (κ × β)) (i : Nat), ∃ r, findKey P kt (ek k) (ents ek ev l) i = some r ∧ r.map (·.2) = (mget l k).map ev ∧
    (match r with | none => mget l k = none | some (j, _) => i ≤ j ∧ (l[j - i]?).map (·.1) = some k ∧ ∀ v, mput l k v = l.set (j - i) (k, v))
  | [], i => ⟨none, rfl, rfl, rfl⟩
  | p :: l, i => by
    rcases h.eq k p.1 with ⟨h1, h2⟩ | ⟨h1, h2⟩
    · refine ⟨some (i, ev p.2), by simp [ents, findKey, h2], by simp [mget, h1], Nat.le_refl _, by simp [h1], fun v => by simp [mput, h1]⟩
    · obtain ⟨r, h3, h4, h5⟩ := find_ents (ev := ev) h k l (i + 1)
      refine ⟨r, by simpa [ents, findKey, h2] using h3, by rw [h4]; simp [mget, h1], ?_⟩
      cases r with
      | none => simpa [mget, h1] using h5
      | some q =>
        obtain ⟨j, x⟩ := q
        obtain ⟨h6, h7, h8⟩ := h5
        refine ⟨by omega, ?_, fun v => ?_⟩
        · rw [show j - i = (j - (i + 1)) + 1 by omega]; simpa using h7
        · rw [show j - i = (j - (i + 1)) + 1 by omega, List.set_cons_succ, ← h8]; simp [mput, h1]
theorem put_ents {P : Program} {kt : TypeId} {ek : κ → Value} {ev : β → Value} (h : KeyK P kt ek) (k : κ) (v : β) (l : List (κ × β)) : ∃ r, findKey P kt (ek k) (ents ek ev l) 0 = some r ∧ sameOk (ents ek ev l) r (ek k) = true ∧ putEs (ents ek ev l) r (ek k) (ev v) = ents ek ev (mput l k v) := by
  obtain ⟨r, h1, h2, h3⟩ := find_ents (ev := ev) h k l 0
  refine ⟨r, h1, ?_⟩
  cases r with
  | none =>
    refine ⟨rfl, ?_⟩
    replace h3 : mget l k = none := h3
    have e : mput l k v = l ++ [(k, v)] := by
      clear h1 h2
      induction l with
      | nil => rfl
      | cons p l ih =>
        by_cases hn : k = p.1
        · simp [mget, hn] at h3
        · have h4 : mget l k = none := by simpa [mget, hn] using h3
          unfold mput
          rw [if_neg hn, ih h4]; rfl
    rw [e]
    simp [putEs, ents]
  | some q =>
    obtain ⟨j, x⟩ := q
    obtain ⟨_, h4, h5⟩ := h3
    rw [Nat.sub_zero] at h4 h5
    obtain ⟨p, hp, hk⟩ := Option.map_eq_some_iff.1 h4
    have hj := (List.getElem?_eq_some_iff.1 hp).1
    refine ⟨?_, ?_⟩
    · have e : (ents ek ev l).getD j default = (ek p.1, ev p.2) := by rw [List.getD_eq_getElem?_getD]; simp [ents, hp]
      show Instr.sameBits 10000 ((ents ek ev l).getD j default).1 (ek k) = true
      rw [e, hk]; exact h.same k
    · rw [h5]; simp [putEs, ents, List.map_set]
end
theorem w_mkm {t : TypeId} (h : Go P T fn (.ops b all l :: k) (put d (.map (some n)) σ) (upd g n (some (.map []))) (n + 1) m Q) : Go P T fn (.ops b all (⟨d, .makeMap t none, ty, pos, af, none⟩ :: l) :: k) σ g n m Q :=
  w_op rfl rfl h
theorem w_look {κ β : Type} [DecidableEq κ] {ek : κ → Value} {evv : β → Value} {t kt et : TypeId} {x y : Operand} {i : Nat} {es : List (κ × β)} {key : κ} {z : Value} (hx : ev σ x = .map (some i)) (hy : ev σ y = ek key) (ht : mapOf P t = some (kt, et)) (hk : KeyK P kt ek) (hz : zeroOf P et = some z) (hg : g i = some (.map (ents ek evv es))) (h : Go P T fn (.ops b all l :: k) (put d (((mget es key).map evv).getD z) σ) g n m Q) : Go P T fn (.ops b all (⟨d, .lookup t x y false, ty, pos, af, none⟩ :: l) :: k) σ g n m Q := by
  obtain ⟨r, h1, h2, _⟩ := find_ents (ev := evv) hk key es 0
  refine w_op rfl ?_ h
  simp only [op1, ht, Option.bind_some, hx, hy, mapEs, hg, hk.ok, if_true, h1, hz, Option.map_some, Bool.false_eq_true, if_false, h2]
theorem w_look2 {κ β : Type} [DecidableEq κ] {ek : κ → Value} {evv : β → Value} {t kt et : TypeId} {x y : Operand} {i : Nat} {es : List (κ × β)} {key : κ} {z : Value} (hx : ev σ x = .map (some i)) (hy : ev σ y = ek key) (ht : mapOf P t = some (kt, et)) (hk : KeyK P kt ek) (hz : zeroOf P et = some z) (hg : g i = some (.map (ents ek evv es))) (h : Go P T fn (.ops b all l :: k) (put d (.tuple #[((mget es key).map evv).getD z, .bool (mget es key).isSome]) σ) g n m Q) : Go P T fn (.ops b all (⟨d, .lookup t x y true, ty, pos, af, none⟩ :: l) :: k) σ g n m Q := by
  obtain ⟨r, h1, h2, _⟩ := find_ents (ev := evv) hk key es 0
  refine w_op rfl ?_ h
  have h3 : r.isSome = (mget es key).isSome := by rw [← Option.isSome_map (f := evv), ← h2, Option.isSome_map]
  simp only [op1, ht, Option.bind_some, hx, hy, mapEs, hg, hk.ok, if_true, h1, hz, Option.map_some, h2, h3]
theorem w_mput {κ β : Type} [DecidableEq κ] {ek : κ → Value} {evv : β → Value} {t kt et : TypeId} {x y u : Operand} {i : Nat} {es : List (κ × β)} {key : κ} {v : β} (hx : ev σ x = .map (some i)) (hy : ev σ y = ek key) (hu : ev σ u = evv v) (ht : mapOf P t = some (kt, et)) (hk : KeyK P kt ek) (hg : g i = some (.map (ents ek evv es))) (hm : m ≤ i) (h : Go P T fn (.ops b all l :: k) (put d undef σ) (upd g i (some (.map (ents ek evv (mput es key v))))) n m Q) : Go P T fn (.ops b all (⟨d, .mapUpdate t x y u, ty, pos, af, none⟩ :: l) :: k) σ g n m Q := by
  obtain ⟨r, h1, h2, h3⟩ := put_ents (ev := evv) hk key v es
  refine w_op rfl ?_ h
  simp only [op1, ht, Option.bind_some, hx, hy, hu]
  rw [if_pos ⟨hm, hk.ok key⟩]
  simp only [hg, h1, Option.bind_some, h2, if_true, h3]
  rfl
-- ---- gates: what an item is
theorem g_op {o : Op} (h : Go P T fn (.ops b all (⟨d, o, ty, pos, af, none⟩ :: l) :: k) σ g n m Q) : Go P T fn (.ops b all (⟨d, o, ty, pos, af, none⟩ :: l) :: k) σ g n m Q := h
theorem g_gd {o : Op} {j : Nat × Bool} (h : Go P T fn (.ops b all (⟨d, o, ty, pos, af, some j⟩ :: l) :: k) σ g n m Q) : Go P T fn (.ops b all (⟨d, o, ty, pos, af, some j⟩ :: l) :: k) σ g n m Q := h
theorem g_load {t : TypeId} {x : Operand} (h : Go P T fn (.ops b all (⟨d, (.load t x), ty, pos, af, none⟩ :: l) :: k) σ g n m Q) : Go P T fn (.ops b all (⟨d, (.load t x), ty, pos, af, none⟩ :: l) :: k) σ g n m Q := h
theorem g_fld {t : TypeId} {t2 : Nat} {x : Operand} (h : Go P T fn (.ops b all (⟨d, (.fieldAddr t x t2), ty, pos, af, none⟩ :: l) :: k) σ g n m Q) : Go P T fn (.ops b all (⟨d, (.fieldAddr t x t2), ty, pos, af, none⟩ :: l) :: k) σ g n m Q := h
theorem g_move {x : Operand} (h : Go P T fn (.ops b all (⟨d, (.move x), ty, pos, af, none⟩ :: l) :: k) σ g n m Q) : Go P T fn (.ops b all (⟨d, (.move x), ty, pos, af, none⟩ :: l) :: k) σ g n m Q := h
theorem g_assign {x : Operand} (h : Go P T fn (.ops b all (⟨d, (.assign x), ty, pos, af, none⟩ :: l) :: k) σ g n m Q) : Go P T fn (.ops b all (⟨d, (.assign x), ty, pos, af, none⟩ :: l) :: k) σ g n m Q := h
theorem g_bin {t : TypeId} {t2 : Nat} {x : Operand} {y : Operand} {bo : BinOp} (h : Go P T fn (.ops b all (⟨d, (.binOp bo t x y t2), ty, pos, af, none⟩ :: l) :: k) σ g n m Q) : Go P T fn (.ops b all (⟨d, (.binOp bo t x y t2), ty, pos, af, none⟩ :: l) :: k) σ g n m Q := h
theorem g_pick {x : Operand} {y : Operand} {z : Operand} (h : Go P T fn (.ops b all (⟨d, (.pick x y z), ty, pos, af, none⟩ :: l) :: k) σ g n m Q) : Go P T fn (.ops b all (⟨d, (.pick x y z), ty, pos, af, none⟩ :: l) :: k) σ g n m Q := h
theorem g_call {ca : Call} (h : Go P T fn (.ops b all (⟨d, (.call ca), ty, pos, af, none⟩ :: l) :: k) σ g n m Q) : Go P T fn (.ops b all (⟨d, (.call ca), ty, pos, af, none⟩ :: l) :: k) σ g n m Q := h
theorem g_box {t : TypeId} {x : Operand} (h : Go P T fn (.ops b all (⟨d, (.box t x), ty, pos, af, none⟩ :: l) :: k) σ g n m Q) : Go P T fn (.ops b all (⟨d, (.box t x), ty, pos, af, none⟩ :: l) :: k) σ g n m Q := h
theorem g_store {t : TypeId} {x : Operand} {y : Operand} (h : Go P T fn (.ops b all (⟨d, (.store t x y), ty, pos, af, none⟩ :: l) :: k) σ g n m Q) : Go P T fn (.ops b all (⟨d, (.store t x y), ty, pos, af, none⟩ :: l) :: k) σ g n m Q := h
theorem g_build {t : TypeId} {ps : Array (Nat × Operand)} (h : Go P T fn (.ops b all (⟨d, .build t ps, ty, pos, af, none⟩ :: l) :: k) σ g n m Q) : Go P T fn (.ops b all (⟨d, .build t ps, ty, pos, af, none⟩ :: l) :: k) σ g n m Q := h
theorem g_ix {t : TypeId} {x y : Operand} (h : Go P T fn (.ops b all (⟨d, .indexAddr t x y, ty, pos, af, none⟩ :: l) :: k) σ g n m Q) : Go P T fn (.ops b all (⟨d, .indexAddr t x y, ty, pos, af, none⟩ :: l) :: k) σ g n m Q := h
-- ---- rows
theorem w_ix {α : Type} {enc : α → List Value} {ls : List α} {y : α} {t : TypeId} {x j : Operand} {a : Option Addr} {nn cc i sz : Nat} {kd : IntKind} {q : Int} {e e' : TypeId} (hx : ev σ x = .slice a nn cc) (hj : ev σ j = .int kd q) (he : elemOf P t = some e) (hs : szOf P e = some sz) (hz : 0 < sz) (hq : q = (i : Int)) (hr : Row g a e' (ls.flatMap enc)) (hle : ∀ x, (enc x).length = sz) (hi : ls[i]? = some y) (hn : i < nn) (h : Go P T fn (.ops b all l :: k) (put d (.pointer (adr a (i * sz + 0))) σ) g n m Q) : Go P T fn (.ops b all (⟨d, .indexAddr t x j, ty, pos, af, none⟩ :: l) :: k) σ g n m Q := by
  have hlen : 0 < (ls.flatMap enc).length := by have := (flat_at hle hi).2; omega
  obtain ⟨p, off, all', h1, h2, h3, h4⟩ := hr.of hlen
  subst h1 hq
  refine w_pure rfl ?_ h
  simp only [op0, hx, hj, he, hs, Option.bind_some]
  rw [if_pos ⟨by omega, by omega⟩]
  simp [adr, ptr]
theorem w_fld {α : Type} {enc : α → List Value} {ls : List α} {y : α} {s f : TypeId} {x : Operand} {a : Option Addr} {i sz c : Nat} {o : Nat × TypeId} {z : Nat} {e : TypeId} (hx : ev σ x = .pointer (adr a (i * sz + c))) (hf : fldOf P s f = some o) (hs : szOf P o.2 = some z) (hz : 0 < z) (hr : Row g a e (ls.flatMap enc)) (hle : ∀ x, (enc x).length = sz) (hsz : 0 < sz) (hi : ls[i]? = some y) (h : Go P T fn (.ops b all l :: k) (put d (.pointer (adr a (i * sz + (c + o.1)))) σ) g n m Q) : Go P T fn (.ops b all (⟨d, .fieldAddr s x f, ty, pos, af, none⟩ :: l) :: k) σ g n m Q := by
  have hlen : 0 < (ls.flatMap enc).length := by have := (flat_at hle hi).2; omega
  obtain ⟨p, off, all', h1, h2, h3, h4⟩ := hr.of hlen
  subst h1
  refine w_pure rfl ?_ h
  have : ¬ z = 0 := by omega
  simp only [op0, hx, adr, hf, hs, Option.bind_some, this, if_false]
  simp [Nat.add_assoc]
/-- One of a row is loaded, or a part of it. -/
theorem w_ld {α : Type} {enc : α → List Value} {ls : List α} {t : TypeId} {x : Operand} {a : Option Addr} {i sz c : Nat} {e : TypeId} {y : α} {v : Value} (hx : ev σ x = .pointer (adr a (i * sz + c))) (hr : Row g a e (ls.flatMap enc)) (hl : ∀ x, (enc x).length = sz) (hi : ls[i]? = some y) (hz : 0 < sz) (hp : part P t (enc y) c = some v) (h : Go P T fn (.ops b all l :: k) (put d v σ) g n m Q) : Go P T fn (.ops b all (⟨d, .load t x, ty, pos, af, none⟩ :: l) :: k) σ g n m Q := by
  have hlen : 0 < (ls.flatMap enc).length := by have := (flat_at hl hi).2; omega
  obtain ⟨p, off, all', h1, h2, h3, h4⟩ := hr.of hlen
  subst h1
  refine w_op rfl ?_ h
  simp only [op1, hx, adr, loadAt, h2, part_row h3 h4 (part_flat hl hi hp), Option.map_some]
theorem w_mkf {f2 : FuncId} {caps : Array Operand} {cs : List Value} (hc : caps.toList.map (ev σ) = cs) (h : Go P T fn (.ops b all l :: k) (put d (.func (.func f2) #[] cs.toArray) σ) g n m Q) : Go P T fn (.ops b all (⟨d, .makeFunc (.func f2) #[] caps, ty, pos, af, none⟩ :: l) :: k) σ g n m Q :=
  w_pure rfl (by
    have e : caps.map (ev σ) = cs.toArray := by apply Array.ext'; simpa using hc
    simp [op0, e]) h
-- ---- rows by their cells
theorem w_fx {α : Type} {enc : α → List Value} {ls : List α} {y : α} {t : TypeId} {x j : Operand} {a : Array Value} {nn i sz : Nat} {kd : IntKind} {q : Int} {e : TypeId} (hx : ev σ x = fz a nn (ls.flatMap enc)) (hj : ev σ j = .int kd q) (he : elemOf P t = some e) (hs : szOf P e = some sz) (hq : q = (i : Int)) (hle : ∀ x, (enc x).length = sz) (hi : ls[i]? = some y) (hn : nn = ls.length) (h : Go P T fn (.ops b all l :: k) (put d (fpl a (i * sz + 0) (ls.flatMap enc)) σ) g n m Q) : Go P T fn (.ops b all (⟨d, .indexAddr t x j, ty, pos, af, none⟩ :: l) :: k) σ g n m Q := by
  subst hq hn
  have hlt := (List.getElem?_eq_some_iff.1 hi).1
  refine w_pure rfl ?_ h
  simp only [op0, hx, hj, he, hs, Option.bind_some]
  rw [if_pos ⟨by omega, by omega, by simpa using flat_len hle ls⟩]
  simp
theorem w_ffld {s f : TypeId} {x : Operand} {a : Array Value} {vs : List Value} {p c o z : Nat} {t2 : TypeId} (hx : ev σ x = fpl a (p + c) vs) (hf : fldOf P s f = some (o, t2)) (hs : szOf P t2 = some z) (hz : 0 < z) (h : Go P T fn (.ops b all l :: k) (put d (fpl a (p + (c + o)) vs) σ) g n m Q) : Go P T fn (.ops b all (⟨d, .fieldAddr s x f, ty, pos, af, none⟩ :: l) :: k) σ g n m Q := by
  refine w_pure rfl ?_ h
  have : ¬ z = 0 := by omega
  simp only [op0, hx, hf, hs, Option.bind_some, this, if_false]
  rw [Nat.add_assoc]
theorem w_fl {α : Type} {enc : α → List Value} {ls : List α} {t : TypeId} {x : Operand} {a : Array Value} {i sz c : Nat} {y : α} {v : Value} (hx : ev σ x = fpl a (i * sz + c) (ls.flatMap enc)) (hl : ∀ x, (enc x).length = sz) (hi : ls[i]? = some y) (hp : part P t (enc y) c = some v) (h : Go P T fn (.ops b all l :: k) (put d v σ) g n m Q) : Go P T fn (.ops b all (⟨d, .load t x, ty, pos, af, none⟩ :: l) :: k) σ g n m Q :=
  w_op rfl (by
    simp only [op1, hx, loadAt]
    rw [part_flat hl hi hp]; rfl) h
/-- A part of a row that goes by its cells. -/
theorem w_fsl {α : Type} {enc : α → List Value} {ls : List α} {t e : TypeId} {x : Operand} {lo hi mx : Option Operand} {a : Array Value} {sz nn p q : Nat} (hx : ev σ x = fz a nn (ls.flatMap enc)) (ht : P.underlying t = some (.slice e)) (hs : szOf P e = some sz) (hl : numOf 0 (lo.map (ev σ)) = some p) (hh : numOf nn (hi.map (ev σ)) = some q) (hm : numOf q (mx.map (ev σ)) = some q) (hb : mx.isSome = true → hi.isSome = true) (hle : ∀ x, (enc x).length = sz) (hn : nn = ls.length) (hpq : p ≤ q ∧ q ≤ nn)
    (h : Go P T fn (.ops b all l :: k) (put d (fz a (q - p) (((ls.drop p).take (q - p)).flatMap enc)) σ) g n m Q) : Go P T fn (.ops b all (⟨d, .slice t x lo hi mx, ty, pos, af, none⟩ :: l) :: k) σ g n m Q := by
  subst hn
  refine w_op rfl ?_ h
  simp only [op1, sliceOf, hx, ht, hs, hl, hh, hm, Option.bind_some]
  have hfl := flat_len hle ls
  rw [if_pos ⟨hpq.1, hpq.2, by trivial, by simpa using hb, by simpa using hfl⟩]
  have e1 : ∀ (ls : List α) (p : Nat), (ls.flatMap enc).drop (p * sz) = (ls.drop p).flatMap enc := by
    intro ls
    induction ls with
    | nil => intro p; simp
    | cons y ls ih =>
      intro p
      cases p with
      | zero => simp
      | succ p =>
        rw [List.flatMap_cons, List.drop_succ_cons, ← ih p, show (p + 1) * sz = (enc y).length + p * sz by rw [hle, Nat.add_mul]; omega, ← List.drop_drop, List.drop_left]
  have e2 : ∀ (ls : List α) (p : Nat), (ls.flatMap enc).take (p * sz) = (ls.take p).flatMap enc := by
    intro ls
    induction ls with
    | nil => intro p; simp
    | cons y ls ih =>
      intro p
      cases p with
      | zero => simp
      | succ p =>
        rw [List.flatMap_cons, List.take_succ_cons, List.flatMap_cons, ← ih p, show (p + 1) * sz = (enc y).length + p * sz by rw [hle, Nat.add_mul]; omega, List.take_append, List.take_of_length_le (by omega), Nat.add_sub_cancel_left]
  simp only [e1, e2, Option.map_some]
theorem w_sl0 {t e : TypeId} {x : Operand} {lo hi mx : Option Operand} {sz : Nat} (hx : ev σ x = .slice none 0 0) (ht : P.underlying t = some (.slice e)) (hs : szOf P e = some sz) (hl : numOf 0 (lo.map (ev σ)) = some 0) (hh : numOf 0 (hi.map (ev σ)) = some 0) (hm : numOf 0 (mx.map (ev σ)) = some 0) (hb : mx.isSome = true → hi.isSome = true) (h : Go P T fn (.ops b all l :: k) (put d (.slice none 0 0) σ) g n m Q) : Go P T fn (.ops b all (⟨d, .slice t x lo hi mx, ty, pos, af, none⟩ :: l) :: k) σ g n m Q :=
  w_op rfl (by
    simp only [op1, sliceOf, hx, ht, hs, hl, hh, hm, Option.bind_some]
    rw [if_pos (by simpa using hb)]; rfl) h
theorem w_sl {t e : TypeId} {x : Operand} {lo hi mx : Option Operand} {sz i off nn cc p q : Nat} {vs : List Value} (hx : ev σ x = .slice (some ⟨i, off, none⟩) nn cc) (ht : P.underlying t = some (.slice e)) (hs : szOf P e = some sz) (hl : numOf 0 (lo.map (ev σ)) = some p) (hh : numOf nn (hi.map (ev σ)) = some q) (hm : numOf q (mx.map (ev σ)) = some q) (hb : mx.isSome = true → hi.isSome = true) (hpq : p ≤ q ∧ q ≤ nn) (hg : g i = some (.cells e vs)) (h : Go P T fn (.ops b all l :: k) (put d (slc i (off + p * sz) (q - p)) σ) g n m Q) : Go P T fn (.ops b all (⟨d, .slice t x lo hi mx, ty, pos, af, none⟩ :: l) :: k) σ g n m Q :=
  w_op rfl (by
    simp only [op1, sliceOf, hx, ht, hs, hl, hh, hm, Option.bind_some]
    rw [if_pos (by simpa using ⟨hpq.1, hpq.2, hb⟩)]
    simp only [hg, if_true, Option.map_some]) h
-- ---- rows that grow
theorem w_bsl {t e : TypeId} {nn sz : Nat} {ps : Array (Nat × Operand)} {z : Value} {ls : List Value} (he : elemOf P t = some e) (hs : szOf P e = some sz) (hz : zeroOf P e = some z) (hc : nn * sz ≤ 16777216 ∧ sz = z.cells.toList.length) (hf : fillL (fun i => some (i * sz, sz)) ((List.replicate nn z.cells.toList).flatten) (ps.toList.map fun p => (p.1, ev σ p.2)) = some ls) (h : Go P T fn (.ops b all l :: k) (put d (slc n 0 nn) σ) (upd g n (some (.cells e ls))) (n + 1) m Q) : Go P T fn (.ops b all (⟨d, .buildSlice t nn ps, ty, pos, af, none⟩ :: l) :: k) σ g n m Q :=
  w_op rfl (by simp only [op1, he, hs, hz, Option.bind_some]; rw [if_pos hc, hf]; rfl) h
/-- Onto nothing. -/
theorem w_app0 {s x : Operand} {ts : Array TypeId} {t e e' : TypeId} {sz by_ j off kk cc : Nat} {vs ns : List Value} (hs : ev σ s = .slice none 0 0) (hx : ev σ x = .slice (some ⟨j, off, none⟩) kk cc) (ht : ts[0]? = some t) (he : rowOf P t = some e) (hz : szOf P e = some sz) (hb : bytesOf P e = some by_) (hg : g j = some (.cells e' vs)) (hn : rdCells vs off (kk * sz) = some ns) (ha : appendable P ts[1]? e sz (.slice (some ⟨j, off, none⟩) kk cc) ns = true) (hk : kk ≠ 0) (hl : kk * by_ ≤ 140737488355328 ∧ kk ≤ 4611686018427387904)
    (h : Go P T fn (.ops b all l :: k) (put d (slc n 0 kk) σ) (upd g n (some (.cells e ns))) (n + 1) m Q) : Go P T fn (.ops b all (⟨d, .call ⟨.builtin .append, #[s, x], ts⟩, ty, pos, af, none⟩ :: l) :: k) σ g n m Q :=
  w_call (by
    have hm : (#[s, x] : Array Operand).toList.map (ev σ) = [.slice none 0 0, .slice (some ⟨j, off, none⟩) kk cc] := by simp [hs, hx]
    simp only [callOf, hm, builtin1, ht, Option.bind_some, appendTo, he, hz, hb, lenOf, lenList, hg, hn, ha, if_true]
    rw [if_neg hk, if_pos hl]; rfl) h
/-- Onto what there is. -/
theorem w_app1 {s x : Operand} {ts : Array TypeId} {t e e' : TypeId} {sz by_ i off0 n0 c0 j off kk cc : Nat} {vs0 os vs ns : List Value} (hs : ev σ s = .slice (some ⟨i, off0, none⟩) n0 c0) (hx : ev σ x = .slice (some ⟨j, off, none⟩) kk cc) (ht : ts[0]? = some t) (he : rowOf P t = some e) (hz : szOf P e = some sz) (hb : bytesOf P e = some by_) (hg0 : g i = some (.cells e vs0)) (ho : rdCells vs0 off0 (n0 * sz) = some os) (hg : g j = some (.cells e' vs)) (hn : rdCells vs off (kk * sz) = some ns) (ha : appendable P ts[1]? e sz (.slice (some ⟨j, off, none⟩) kk cc) ns = true) (hk : kk ≠ 0) (hl : (n0 + kk) * by_ ≤ 140737488355328 ∧ n0 + kk ≤ 4611686018427387904 ∧ m ≤ i)
    (h : Go P T fn (.ops b all l :: k) (put d (slc n 0 (n0 + kk)) σ) (upd (upd g i none) n (some (.cells e (os ++ ns)))) (n + 1) m Q) : Go P T fn (.ops b all (⟨d, .call ⟨.builtin .append, #[s, x], ts⟩, ty, pos, af, none⟩ :: l) :: k) σ g n m Q :=
  w_call (by
    have hm : (#[s, x] : Array Operand).toList.map (ev σ) = [.slice (some ⟨i, off0, none⟩) n0 c0, .slice (some ⟨j, off, none⟩) kk cc] := by simp [hs, hx]
    simp only [callOf, hm, builtin1, ht, Option.bind_some, appendTo, he, hz, hb, lenOf, lenList, hg, hn, ha, if_true]
    rw [if_neg hk, if_pos hl]
    simp only [hg0, ho, if_true, Option.map_some]
    rfl) h
end
end
-- ---- a row of one's own, that grows
def ov (o : Option Nat) (k : Nat) : Value := match o with | none => .slice none 0 0 | some i => slc i 0 k
def Own {α : Type} (g : Nat → Option Ob) (lo n : Nat) (e : TypeId) (enc : α → List Value) (o : Option Nat) (l : List α) : Prop := match o with
  | none => l = []
  | some i => l ≠ [] ∧ lo ≤ i ∧ i < n ∧ g i = some (.cells e (l.flatMap enc))
section
variable {α : Type} {e : TypeId} {enc : α → List Value}
theorem Own.nil {g : Nat → Option Ob} {lo n : Nat} : Own g lo n e enc none ([] : List α) := rfl
theorem Own.later {g g' : Nat → Option Ob} {lo n n' : Nat} {o : Option Nat} {l : List α} (h : Own g lo n e enc o l) (hn : n ≤ n') (hg : ∀ j, lo ≤ j → j < n → g' j = g j) : Own g' lo n' e enc o l := by
  cases o with
  | none => exact h
  | some i => obtain ⟨h1, h2, h3, h4⟩ := h; exact ⟨h1, h2, by omega, by rw [hg i h2 h3]; exact h4⟩
theorem Own.fz {P : Program} {g : Nat → Option Ob} {lo n k sz : Nat} {o : Option Nat} {l : List α} {us : List Value} {tg : Array Value} (h : Own g lo n e enc o l) {lo' : Nat} (hl : lo' ≤ lo) (hz : szOf P e = some sz) (h0 : sz ≠ 0) (hle : ∀ x, (enc x).length = sz) (hs : (l.flatMap enc).mapM (freeze P g tg lo' (k + 1)) = some us) : freeze P g tg lo' (k + 2) (ov o l.length) = some (L1.fz tg l.length us) := by
  cases o with
  | none =>
    have : l = [] := h
    subst this
    have : us = [] := by simpa [List.mapM_nil] using hs.symm
    subst this; rfl
  | some i => exact sn_row (sz := sz) h.2.2.2 (Nat.le_trans hl h.2.1) hz h0 (rd_all (by rw [flat_len hle])) hs
variable {P : Program} {T : Tb} {fn : Func} {k : List It} {σ : Env} {g : Nat → Option Ob} {n m : Nat} {Q : Value → (Nat → Option Ob) → Nat → Prop} {b : Bool} {all : Array Oper} {l : List Oper} {d : Option Tmp} {ty : TypeId} {pos : String} {af : Array Edge}
theorem w_own1 {s x : Operand} {ts : Array TypeId} {t e' : TypeId} {sz by_ lo j : Nat} {o : Option Nat} {xs : List α} {y : α} {ns vs : List Value} (ho : Own g lo n e enc o xs) (hs : ev σ s = ov o xs.length) (hx : ev σ x = slc j 0 1) (ht : ts[0]? = some t) (he : rowOf P t = some e) (hz : szOf P e = some sz) (hb : bytesOf P e = some by_) (hle : ∀ x, (enc x).length = sz) (hg : g j = some (.cells e' vs)) (hn : rdCells vs 0 (1 * sz) = some ns) (hy : ns = enc y) (ha : appendable P ts[1]? e sz (slc j 0 1) ns = true) (hl : (xs.length + 1) * by_ ≤ 140737488355328 ∧ xs.length + 1 ≤ 4611686018427387904 ∧ m ≤ lo) (hln : lo ≤ n)
    (h : ∀ g', (∀ q, q < n → some q ≠ o → g' q = g q) → (∀ q, n + 1 ≤ q → g' q = g q) → Own g' lo (n + 1) e enc (some n) (xs ++ [y]) → Go P T fn (.ops b all l :: k) (put d (ov (some n) (xs ++ [y]).length) σ) g' (n + 1) m Q) : Go P T fn (.ops b all (⟨d, .call ⟨.builtin .append, #[s, x], ts⟩, ty, pos, af, none⟩ :: l) :: k) σ g n m Q := by
  subst hy
  cases o with
  | none =>
    have hn0 : xs = [] := ho
    subst hn0
    refine w_app0 (by_ := by_) (sz := sz) (kk := 1) hs hx ht he hz hb hg hn ha (by decide) (by simp at hl ⊢; omega) ?_
    refine h _ (fun q hq _ => upd_ne (by omega)) (fun q hq => upd_ne (by omega)) ⟨by simp, hln, by omega, ?_⟩
    rw [upd_same]; simp
  | some i =>
    obtain ⟨h1, h2, h3, h4⟩ := ho
    refine w_app1 (by_ := by_) (sz := sz) (kk := 1) hs hx ht he hz hb h4 (rd_all (by rw [flat_len hle])) hg hn ha (by decide) ⟨by omega, by omega, by omega⟩ ?_
    have hq := h (upd (upd g i none) n (some (.cells e (xs.flatMap enc ++ enc y)))) (fun q hq hi => by rw [upd_ne (by omega), upd_ne (by rintro rfl; exact hi rfl)]) (fun q hq => by rw [upd_ne (by omega), upd_ne (by omega)]) ⟨by simp, hln, by omega, by rw [upd_same]; simp⟩
    rw [show (xs ++ [y]).length = xs.length + 1 by simp] at hq
    exact hq
end
end Go.L1
