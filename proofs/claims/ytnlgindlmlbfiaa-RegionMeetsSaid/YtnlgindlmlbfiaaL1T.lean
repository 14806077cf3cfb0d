/- Walking, with what is told of the end: 'Go k σ g n m Q': what is left comes to its end and 'Q' of it. Rows by the place at which they begin. -/
import Derived.Test.YtnlgindlmlbfiaaL1S
import Derived.IntWalk
namespace Go.L1
set_option linter.unusedVariables false
theorem and_i64 (a : Int) (j : Nat) (hj : j ≤ 62) (m : Int) (hm : m = 2 ^ j - 1) : IntKind.i64.wrap ((BitVec.ofInt 64 a &&& BitVec.ofInt 64 m).toNat : Nat) = a % 2 ^ j := by
  simp only [BitVec.toNat_and, BitVec.toNat_ofInt]
  have h2 : (2:Int) ^ j ≤ 2 ^ 62 := by exact_mod_cast Nat.pow_le_pow_right (by omega) hj
  have h1 : (1:Int) ≤ 2 ^ j := by exact_mod_cast Nat.one_le_two_pow
  have e62 : (2:Int)^62 = 4611686018427387904 := by decide
  have e64 : ((2 ^ 64 : Nat) : Int) = 18446744073709551616 := by decide
  rw [e64]
  have hb : (m % 18446744073709551616).toNat = 2 ^ j - 1 := by
    rw [hm, Int.emod_eq_of_lt (by omega) (by omega)]
    have : (2:Int)^j = ((2^j : Nat) : Int) := by push_cast; rfl
    omega
  rw [hb, Nat.and_two_pow_sub_one_eq_mod]
  have e : (((a % 18446744073709551616).toNat % 2 ^ j : Nat) : Int) = a % 2 ^ j := by
    push_cast
    rw [Int.toNat_of_nonneg (by omega), Int.emod_emod_of_dvd]
    have : (18446744073709551616 : Int) = 2 ^ 64 := by decide
    rw [this]
    exact ⟨2 ^ (64 - j), by rw [← Int.pow_add]; congr 1; omega⟩
  rw [e]
  have p0 : 0 ≤ a % 2 ^ j := Int.emod_nonneg _ (by omega)
  have p1 : a % 2 ^ j < 2 ^ j := Int.emod_lt_of_pos a (by omega)
  exact IntWalk.i64_in _ (by omega)
def upd (g : Nat → Option Ob) (i : Nat) (o : Option Ob) : Nat → Option Ob := fun j => if j = i then o else g j
theorem upd_same {g : Nat → Option Ob} {i : Nat} {o : Option Ob} : upd g i o i = o := if_pos rfl
theorem upd_ne {g : Nat → Option Ob} {i j : Nat} {o : Option Ob} (h : j ≠ i) : upd g i o j = g j := if_neg h
def pureOp : Op → Bool
  | .move _ | .assign _ | .pick .. | .build .. | .nilCheck _ | .binOp .. | .unOp .. | .makeInterface .. | .makeFunc .. | .fieldAddr .. | .field .. | .indexAddr .. | .index .. | .extract .. => true
  | _ => false
/-- What is left comes to its end, with 'Q'. -/
def Go (P : Program) (T : Tb) (fn : Func) (k : List It) (σ : Env) (g : Nat → Option Ob) (n m : Nat) (Q : Value → (Nat → Option Ob) → Nat → Prop) : Prop :=
  ∃ v H', goC P T fn k σ ⟨g, n, m⟩ = some (.returned v, H') ∧ H'.mark = m ∧ Q v H'.get H'.next
/-- A call comes to its end, with 'Q'. -/
def Rn (P : Program) (T : Tb) (F : FuncId) (args : List Value) (g : Nat → Option Ob) (n m : Nat) (Q : Value → (Nat → Option Ob) → Nat → Prop) : Prop :=
  ∃ v g' n', run P T F args ⟨g, n, m⟩ = some (.returned v, ⟨g', n', m⟩) ∧ Q v g' n'
-- ---- rows
/-- A place further on. -/
def adr (a : Option Addr) (q : Nat) : Option Addr := match a with | some ⟨i, off, none⟩ => some ⟨i, off + q, none⟩ | _ => none
theorem adr_adr (a : Option Addr) (p q : Nat) : adr (adr a p) q = adr a (p + q) := by
  cases a with
  | none => rfl
  | some A => obtain ⟨i, off, x⟩ := A; cases x <;> simp [adr, Nat.add_assoc]
/-- What lies from a place on. -/
def Row (g : Nat → Option Ob) (a : Option Addr) (e : TypeId) (vs : List Value) : Prop :=
  vs = [] ∨ ∃ i off all, a = some ⟨i, off, none⟩ ∧ g i = some (.cells e all) ∧ off + vs.length ≤ all.length ∧ vs = (all.drop off).take vs.length
/-- It lies below a number; from a number on. -/
def Low (a : Option Addr) (n : Nat) : Prop := ∀ i off, a = some ⟨i, off, none⟩ → i < n
def High (a : Option Addr) (n : Nat) : Prop := ∀ i off, a = some ⟨i, off, none⟩ → n ≤ i
theorem Row.of {g : Nat → Option Ob} {a : Option Addr} {e : TypeId} {vs : List Value} (h : Row g a e vs) (hv : 0 < vs.length) : ∃ i off all, a = some ⟨i, off, none⟩ ∧ g i = some (.cells e all) ∧ off + vs.length ≤ all.length ∧ vs = (all.drop off).take vs.length := by
  rcases h with h | h
  · rw [h] at hv; cases hv
  · exact h
theorem Row.upd {g : Nat → Option Ob} {a : Option Addr} {e : TypeId} {vs : List Value} {j : Nat} {o : Option Ob} (h : Row g a e vs) (hj : ∀ i off, a = some ⟨i, off, none⟩ → i ≠ j) : Row (upd g j o) a e vs := by
  rcases h with h | ⟨i, off, all, h1, h2, h3, h4⟩
  · exact .inl h
  · exact .inr ⟨i, off, all, h1, (upd_ne (hj _ _ h1)).trans h2, h3, h4⟩
theorem Row.updLow {g : Nat → Option Ob} {a : Option Addr} {e : TypeId} {vs : List Value} {j n : Nat} {o : Option Ob} (h : Row g a e vs) (hl : Low a n) (hj : n ≤ j) : Row (L1.upd g j o) a e vs :=
  h.upd fun i off hA => by have := hl i off hA; omega
theorem Row.same {g g' : Nat → Option Ob} {a : Option Addr} {e : TypeId} {vs : List Value} {n : Nat} (h : Row g a e vs) (hl : Low a n) (hg : ∀ j, j < n → g' j = g j) : Row g' a e vs := by
  rcases h with h | ⟨i, off, all, h1, h2, h3, h4⟩
  · exact .inl h
  · exact .inr ⟨i, off, all, h1, (hg _ (hl _ _ h1)).trans h2, h3, h4⟩
theorem take_at {all vs : List Value} {off j : Nat} (h3 : off + vs.length ≤ all.length) (h4 : vs = (all.drop off).take vs.length) (hj : j < vs.length) : all[off + j]? = vs[j]? := by
  have e : vs[j]? = ((all.drop off).take vs.length)[j]? := congrArg (·[j]?) h4
  rw [e, List.getElem?_take, if_pos hj, List.getElem?_drop]
theorem part_row {P : Program} {t : TypeId} {all vs : List Value} {off c : Nat} {v : Value} (h3 : off + vs.length ≤ all.length) (h4 : vs = (all.drop off).take vs.length) (hp : part P t vs c = some v) : part P t all (off + c) = some v := by
  unfold part at hp ⊢
  obtain ⟨b, hb, hp⟩ := Option.bind_eq_some_iff.1 hp
  rw [hb, Option.bind_some]
  cases b with
  | true =>
    simp only [if_true] at hp ⊢
    obtain ⟨n, hn, hp⟩ := Option.bind_eq_some_iff.1 hp
    rw [hn, Option.bind_some]
    unfold rdCells at hp ⊢
    split at hp
    · rename_i hl
      rw [if_pos (by omega)]
      simp only [Option.map_some, Option.some.injEq] at hp ⊢
      rw [← hp, h4]
      congr 2
      rw [List.drop_take, List.take_take, List.drop_drop]
      congr 1
      omega
    · cases hp
  | false =>
    simp only [Bool.false_eq_true, if_false] at hp ⊢
    have hc : c < vs.length := by
      rcases Nat.lt_or_ge c vs.length with h | h
      · exact h
      · rw [List.getElem?_eq_none h] at hp; cases hp
    rw [take_at h3 h4 hc, hp]
theorem flat_at {α : Type} {enc : α → List Value} {sz : Nat} (hl : ∀ x, (enc x).length = sz) : ∀ {l : List α} {i : Nat} {x : α}, l[i]? = some x → ((l.flatMap enc).drop (i * sz)).take sz = enc x ∧ i * sz + sz ≤ (l.flatMap enc).length
  | [], i, x, h => by simp at h
  | y :: l, 0, x, h => by
    simp only [List.getElem?_cons_zero, Option.some.injEq] at h
    subst h
    refine ⟨?_, ?_⟩
    · rw [List.flatMap_cons, Nat.zero_mul, List.drop_zero, ← hl y, List.take_left]
    · rw [List.flatMap_cons, List.length_append, hl]; omega
  | y :: l, i + 1, x, h => by
    simp only [List.getElem?_cons_succ] at h
    obtain ⟨h1, h2⟩ := flat_at hl h
    have e : (i + 1) * sz = (enc y).length + i * sz := by rw [hl, Nat.add_mul]; omega
    refine ⟨?_, ?_⟩
    · rw [List.flatMap_cons, e, ← List.drop_drop, List.drop_left, h1]
    · rw [List.flatMap_cons, List.length_append, e]; omega
theorem part_flat {P : Program} {α : Type} {enc : α → List Value} {sz t c : Nat} {l : List α} {i : Nat} {x : α} {v : Value} (hl : ∀ x, (enc x).length = sz) (hi : l[i]? = some x) (hp : part P t (enc x) c = some v) : part P t (l.flatMap enc) (i * sz + c) = some v := by
  obtain ⟨h1, h2⟩ := flat_at hl hi
  refine part_row (vs := enc x) (by rw [hl]; exact h2) ?_ hp
  rw [hl]; exact h1.symm
theorem wrList_left : ∀ {us a b : List Value} {j : Nat}, j + us.length ≤ a.length → wrList (a ++ b) j us = wrList a j us ++ b
  | [], a, b, j, h => rfl
  | u :: us, a, b, j, h => by
    simp only [List.length_cons] at h
    simp only [wrList]
    rw [List.set_append_left _ _ (by omega)]
    exact wrList_left (by rw [List.length_set]; omega)
theorem wrList_right : ∀ {us a b : List Value} {j : Nat}, wrList (a ++ b) (a.length + j) us = a ++ wrList b j us
  | [], a, b, j => rfl
  | u :: us, a, b, j => by
    simp only [wrList]
    rw [List.set_append_right _ _ (by omega), show a.length + j - a.length = j by omega, show a.length + j + 1 = a.length + (j + 1) by omega]
    exact wrList_right
theorem wr_flat {α : Type} {enc : α → List Value} {sz c : Nat} {us : List Value} {y y' : α} (hl : ∀ x, (enc x).length = sz) (hc : c + us.length ≤ sz) (he : enc y' = wrList (enc y) c us) : ∀ {l : List α} {k : Nat}, l[k]? = some y → wrCells (l.flatMap enc) (k * sz + c) us = some ((l.set k y').flatMap enc) := by
  have go : ∀ {l : List α} {k : Nat}, l[k]? = some y → wrList (l.flatMap enc) (k * sz + c) us = (l.set k y').flatMap enc := by
    intro l
    induction l with
    | nil => intro k h; simp at h
    | cons z l ih =>
      intro k h
      cases k with
      | zero =>
        simp only [List.getElem?_cons_zero, Option.some.injEq] at h
        subst h
        simp only [List.set_cons_zero, List.flatMap_cons, Nat.zero_mul, Nat.zero_add]
        rw [wrList_left (by rw [hl]; exact hc), he]
      | succ k =>
        simp only [List.getElem?_cons_succ] at h
        simp only [List.set_cons_succ, List.flatMap_cons]
        rw [show (k + 1) * sz + c = (enc z).length + (k * sz + c) by rw [hl, Nat.add_mul]; omega, wrList_right, ih h]
  intro l k h
  unfold wrCells
  rw [if_pos (by have := (flat_at hl h).2; omega), go h]
theorem rd_all {vs : List Value} {k : Nat} (h : k = vs.length) : rdCells vs 0 k = some vs := by
  subst h; unfold rdCells; rw [if_pos (by omega), List.drop_zero, List.take_length]
theorem flat_len {α : Type} {enc : α → List Value} {sz : Nat} (hl : ∀ x, (enc x).length = sz) (l : List α) : (l.flatMap enc).length = l.length * sz := by
  induction l with
  | nil => simp
  | cons y l ih => rw [List.flatMap_cons, List.length_append, ih, hl, List.length_cons, Nat.add_mul]; omega
section
variable {P : Program} {T : Tb} {fn : Func} {k : List It} {σ : Env} {g : Nat → Option Ob} {n m : Nat} {Q : Value → (Nat → Option Ob) → Nat → Prop}
theorem Go.of {k' : List It} {σ' : Env} {g' : Nat → Option Ob} {n' : Nat} (h : ∀ R, goC P T fn k' σ' ⟨g', n', m⟩ = R → goC P T fn k σ ⟨g, n, m⟩ = R) (hq : Go P T fn k' σ' g' n' m Q) : Go P T fn k σ g n m Q := by
  obtain ⟨v, H', h1, h2⟩ := hq; exact ⟨v, H', h _ h1, h2⟩
theorem Go.mono {Q' : Value → (Nat → Option Ob) → Nat → Prop} (h : Go P T fn k σ g n m Q) (hq : ∀ v g n, Q v g n → Q' v g n) : Go P T fn k σ g n m Q' := by
  obtain ⟨v, H', h1, h3, h2⟩ := h; exact ⟨v, H', h1, h3, hq _ _ _ h2⟩
theorem Rn.mono {F : FuncId} {args : List Value} {Q' : Value → (Nat → Option Ob) → Nat → Prop} (h : Rn P T F args g n m Q) (hq : ∀ v g n, Q v g n → Q' v g n) : Rn P T F args g n m Q' := by
  obtain ⟨v, g', n', h1, h2⟩ := h; exact ⟨v, g', n', h1, hq _ _ _ h2⟩
-- ---- calls
theorem c_quiet {F : FuncId} {c : Code} {args : List Value} {V : Value → Prop} (hf : P.funcs[F]? = some fn) (hb : fn.body = some c) (h1 : T.ext F = none) (h2 : T.ok F = true) (h3 : T.clean F = true) (hn : decide (args.length ≤ fn.ntmps) = true)
    (h : Go P T fn [.code c] (fun i => args.getD i undef) g n n (fun v _ _ => flat v = true ∧ V v)) (h0 : T.froz F = false := by rfl) : Rn P T F args g n m (fun v g' n' => V v ∧ g' = g ∧ n' = n) := by
  obtain ⟨v, H', h4, _, h5, h6⟩ := h
  exact ⟨v, g, n, run_quiet (H := ⟨g, n, m⟩) hf hb h1 h2 h3 h0 hn h5 h4, h6, rfl, rfl⟩
theorem c_clean {F : FuncId} {c : Code} {args : List Value} (hf : P.funcs[F]? = some fn) (hb : fn.body = some c) (h1 : T.ext F = none) (h2 : T.ok F = true) (h3 : T.clean F = true) (h4 : T.quiet F = false) (hn : decide (args.length ≤ fn.ntmps) = true)
    (h : Go P T fn [.code c] (fun i => args.getD i undef) g n n (fun v g' n' => if flat v = true then Q v g n else Q v g' n')) (h0 : T.froz F = false := by rfl) : Rn P T F args g n m Q := by
  obtain ⟨v, H', h5, _, h6⟩ := h
  cases hv : flat v with
  | true => rw [hv, if_pos rfl] at h6; exact ⟨v, g, n, run_quiet (H := ⟨g, n, m⟩) hf hb h1 h2 h3 h0 hn hv h5, h6⟩
  | false => rw [hv, if_neg (by simp)] at h6; exact ⟨v, H'.get, H'.next, run_clean (H := ⟨g, n, m⟩) hf hb h1 h2 h3 h4 h0 hn hv h5, h6⟩
theorem c_open {F : FuncId} {c : Code} {args : List Value} (hf : P.funcs[F]? = some fn) (hb : fn.body = some c) (h1 : T.ext F = none) (h2 : T.ok F = true) (h3 : T.clean F = false) (h4 : T.quiet F = false) (hn : decide (args.length ≤ fn.ntmps) = true)
    (h : Go P T fn [.code c] (fun i => args.getD i undef) g n m Q) (h0 : T.froz F = false := by rfl) : Rn P T F args g n m Q := by
  obtain ⟨v, ⟨g', n', m'⟩, h5, h6, h7⟩ := h
  have h6 : m' = m := h6
  subst h6
  exact ⟨v, g', n', run_open (H := ⟨g, n, m'⟩) hf hb h1 h2 h3 h4 h0 hn h5, h7⟩
/-- A function to which rows go, and from which they come, by their cells: 'args1' as they are told by these. -/
def Rf (P : Program) (T : Tb) (F : FuncId) (args1 : List Value) (V : Value → Prop) : Prop := ∀ (g : Nat → Option Ob) (n m : Nat) (args : List Value), args.mapM (freeze P g tg 0 9) = some args1 → Rn P T F args g n m (fun v g' n' => V v ∧ g' = g ∧ n' = n)
theorem mapM_length {f : Value → Option Value} {l r : List Value} (h : l.mapM f = some r) : r.length = l.length := mapM_len h
theorem c_froz {F : FuncId} {c : Code} {args1 : List Value} {V : Value → Prop} (hf : P.funcs[F]? = some fn) (hb : fn.body = some c) (h1 : T.ext F = none) (h2 : T.ok F = true) (h3 : T.clean F = true) (h0 : T.froz F = true) (hn : decide (args1.length ≤ fn.ntmps) = true)
    (h : ∀ g n, Go P T fn [.code c] (fun i => args1.getD i undef) g n n (fun v g' _ => ∃ u, freeze P g' #[] n 9 v = some u ∧ V u)) : Rf P T F args1 V := by
  intro g n m args ha
  obtain ⟨v, H', h4, _, u, h5, h6⟩ := h g n
  exact ⟨u, g, n, run_froz (H := ⟨g, n, m⟩) hf hb h1 h2 h3 h0 (by rw [← mapM_len ha]; exact hn) ha h5 h4, h6, rfl, rfl⟩
theorem Rf.mono {F : FuncId} {args1 : List Value} {V V' : Value → Prop} (h : Rf P T F args1 V) (hv : ∀ v, V v → V' v) : Rf P T F args1 V' := fun g n m args ha => (h g n m args ha).mono fun v g' n' hq => ⟨hv v hq.1, hq.2⟩
-- ---- what goes by its cells
def plain : Value → Bool | .int .. | .bool _ | .string _ => true | _ => false
section
variable {gg : Nat → Option Ob} {ss : Array Value} {lo kk : Nat}
theorem sn_nil : ([] : List Value).mapM (freeze P gg ss lo kk) = some [] := rfl
theorem sn_cons {x y : Value} {l r : List Value} (h : freeze P gg ss lo kk x = some y) (t : l.mapM (freeze P gg ss lo kk) = some r) : (x :: l).mapM (freeze P gg ss lo kk) = some (y :: r) := by rw [List.mapM_cons, h, t]; rfl
theorem sn_app {l1 l2 r1 r2 : List Value} (h : l1.mapM (freeze P gg ss lo kk) = some r1) (t : l2.mapM (freeze P gg ss lo kk) = some r2) : (l1 ++ l2).mapM (freeze P gg ss lo kk) = some (r1 ++ r2) := by rw [List.mapM_append, h, t]; rfl
theorem sn_plain {v : Value} (h : plain v = true) : freeze P gg ss lo (kk + 1) v = some v := by cases v <;> first | rfl | (simp [plain] at h; done)
theorem sn_plains {l : List Value} (h : l.all plain = true) : l.mapM (freeze P gg ss lo (kk + 1)) = some l := by
  induction l with
  | nil => rfl
  | cons x l ih => simp only [List.all_cons, Bool.and_eq_true] at h; exact sn_cons (sn_plain h.1) (ih h.2)
theorem all_flat {α : Type} {enc : α → List Value} (h : ∀ x, (enc x).all plain = true) (l : List α) : (l.flatMap enc).all plain = true := by
  induction l with
  | nil => rfl
  | cons x l ih => rw [List.flatMap_cons, List.all_append, h, ih]; rfl
theorem sn_map {α : Type} {enc enc' : α → List Value} {l : List α} (h : ∀ x ∈ l, (enc x).mapM (freeze P gg ss lo kk) = some (enc' x)) : (l.flatMap enc).mapM (freeze P gg ss lo kk) = some (l.flatMap enc') := by
  induction l with
  | nil => rfl
  | cons x l ih => rw [List.flatMap_cons, List.flatMap_cons]; exact sn_app (h x (List.mem_cons_self ..)) (ih fun y hy => h y (List.mem_cons_of_mem _ hy))
theorem sn_none : freeze P gg ss lo (kk + 1) (.slice none 0 0) = some (fz ss 0 []) := rfl
theorem sn_fz {a : Array Value} {nn : Nat} {vs r : List Value} (ha : a = #[] ∨ ss ≠ #[]) (h : vs.mapM (freeze P gg ss lo kk) = some r) : freeze P gg ss lo (kk + 1) (fz a nn vs) = some (fz ss nn r) := by
  show (if a = #[] ∨ ss ≠ #[] then _ else _) = _
  rw [if_pos ha, List.toList_toArray, h]; rfl
theorem sn_fzp {a : Array Value} {nn : Nat} {vs : List Value} (ha : a = #[] ∨ ss ≠ #[]) (h : vs.all plain = true) : freeze P gg ss lo (kk + 2) (fz a nn vs) = some (fz ss nn vs) := sn_fz ha (sn_plains h)
theorem sn_row {i off nn sz : Nat} {e : TypeId} {vs l r : List Value} (hg : gg i = some (.cells e vs)) (hi : lo ≤ i) (hs : szOf P e = some sz) (hz : sz ≠ 0) (hl : rdCells vs off (nn * sz) = some l) (h : l.mapM (freeze P gg ss lo kk) = some r) : freeze P gg ss lo (kk + 1) (slc i off nn) = some (fz ss nn r) := by
  unfold freeze
  split <;> first | (rename_i heq; cases heq; simp only [hi, if_true, hg, hs, Option.bind_some, hz, if_false, hl, h, Option.map_some]; done) | (rename_i heq; cases heq; done) | skip
  exact ((by assumption : ∀ (a b c d : Nat), slc i off nn = Value.slice (some ⟨a, b, none⟩) c d → False) _ _ _ _ rfl).elim
theorem sn_agg {l r : List Value} (h : l.mapM (freeze P gg ss lo kk) = some r) : freeze P gg ss lo (kk + 1) (.agg l.toArray) = some (.agg r.toArray) := by
  have e : freeze P gg ss lo (kk + 1) (.agg l.toArray) = (l.mapM (freeze P gg ss lo kk)).map (fun r => .agg r.toArray) := rfl
  rw [e, h]; rfl
theorem sn_tuple {l r : List Value} (h : l.mapM (freeze P gg ss lo kk) = some r) : freeze P gg ss lo (kk + 1) (.tuple l.toArray) = some (.tuple r.toArray) := by
  have e : freeze P gg ss lo (kk + 1) (.tuple l.toArray) = (l.mapM (freeze P gg ss lo kk)).map (fun r => .tuple r.toArray) := rfl
  rw [e, h]; rfl
def plain2 : Value → Bool | .agg cs => cs.toList.all plain | v => plain v
def plain3 : Value → Bool | .tuple cs => cs.toList.all plain2 | v => plain2 v
theorem sn_all {f : Value → Option Value} : ∀ {l : List Value}, (∀ v ∈ l, f v = some v) → l.mapM f = some l
  | [], _ => rfl
  | x :: l, h => by rw [List.mapM_cons, h x (List.mem_cons_self ..), sn_all (fun y hy => h y (List.mem_cons_of_mem _ hy))]; rfl
theorem sn_plain2 {v : Value} (h : plain2 v = true) : freeze P gg ss lo (kk + 2) v = some v := by
  cases v with
  | agg cs =>
    obtain ⟨l⟩ := cs
    exact sn_agg (sn_plains h)
  | _ => exact sn_plain h
/-- A value that names no row. -/
theorem sn_plain3 {v : Value} (h : plain3 v = true) : freeze P gg ss lo (kk + 3) v = some v := by
  cases v with
  | tuple cs =>
    obtain ⟨l⟩ := cs
    exact sn_tuple (sn_all fun v hv => sn_plain2 (List.all_eq_true.1 h v hv))
  | agg cs => exact sn_plain2 (v := .agg cs) h
  | _ => exact sn_plain h
/-- What is handed back names no row. -/
theorem fr_plain {gl : Nat → Option Ob} {lo : Nat} {V : Value → Prop} {v : Value} (h : plain3 v = true) (hv : V v) : ∃ u, freeze P gl #[] lo 9 v = some u ∧ V u := ⟨v, sn_plain3 h, hv⟩
theorem sn_ptr {a : Addr} (h : ss ≠ #[]) : freeze P gg ss lo (kk + 1) (.pointer (some a)) = some (.pointer (some a)) := by
  show (if ss = #[] then _ else _) = _
  rw [if_neg h]
theorem sn_mapv {i : Nat} (h : ss ≠ #[]) : freeze P gg ss lo (kk + 1) (.map (some i)) = some (.map (some i)) := by
  show (if ss = #[] then _ else _) = _
  rw [if_neg h]
theorem sn_func {f : FuncId} {a b : Array Value} (h : ss ≠ #[]) : freeze P gg ss lo (kk + 1) (.func (.func f) a b) = some (.func (.func f) a b) := by
  show (if ss = #[] then _ else _) = _
  rw [if_neg h]
end
theorem leave_heap {σ : Env} {H H' : Hp} {v : Value} (h : leave P fn (.ret, σ, H) = some (.returned v, H')) : H' = H := by
  unfold leave at h
  obtain ⟨l, _, h2⟩ := Option.map_eq_some_iff.1 h
  exact ((Prod.mk.inj h2).2).symm
-- ---- code
theorem w_seq {a b : Code} (h : Go P T fn (.code a :: .code b :: k) σ g n m Q) : Go P T fn (.code (.seq a b) :: k) σ g n m Q := .of (fun _ => r_seq) h
theorem w_skip (h : Go P T fn k σ g n m Q) : Go P T fn (.code .skip :: k) σ g n m Q := h
theorem w_label {l : Nat} (h : Go P T fn k σ g n m Q) : Go P T fn (.code (.label l) :: k) σ g n m Q := h
theorem w_blk {id : Nat} (h : Go P T fn k σ g n m Q) : Go P T fn (.blk id :: k) σ g n m Q := h
theorem w_block {id : Nat} {c : Code} (h : Go P T fn (.code c :: .blk id :: k) σ g n m Q) : Go P T fn (.code (.block id c) :: k) σ g n m Q := .of (fun _ => r_block) h
theorem w_scope {c : Code} (h : Go P T fn (.code c :: k) σ g n m Q) : Go P T fn (.code (.scope c) :: k) σ g n m Q := .of (fun _ => r_scope) h
theorem w_exit {id : Nat} {k' : List It} (hk : exitIt id k = some k') (h : Go P T fn k' σ g n m Q) : Go P T fn (.code (.exit id) :: k) σ g n m Q := .of (fun _ => r_exit hk) h
theorem w_yes {c : Operand} {x y : Code} (hc : ev σ c = .bool true) (h : Go P T fn (.code x :: k) σ g n m Q) : Go P T fn (.code (.cond c x y) :: k) σ g n m Q := .of (fun _ => r_yes hc) h
theorem w_no {c : Operand} {x y : Code} (hc : ev σ c = .bool false) (h : Go P T fn (.code y :: k) σ g n m Q) : Go P T fn (.code (.cond c x y) :: k) σ g n m Q := .of (fun _ => r_no hc) h
theorem w_if {c : Operand} {x y : Code} {b : Bool} (hc : ev σ c = .bool b) (h1 : b = true → Go P T fn (.code x :: k) σ g n m Q) (h2 : b = false → Go P T fn (.code y :: k) σ g n m Q) : Go P T fn (.code (.cond c x y) :: k) σ g n m Q := by
  cases b with
  | true => exact w_yes hc (h1 rfl)
  | false => exact w_no hc (h2 rfl)
theorem w_ifd {c : Operand} {x y : Code} {p : Prop} {dp : Decidable p} (hc : ev σ c = .bool (@decide p dp)) (h1 : p → Go P T fn (.code x :: k) σ g n m Q) (h2 : ¬p → Go P T fn (.code y :: k) σ g n m Q) : Go P T fn (.code (.cond c x y) :: k) σ g n m Q :=
  w_if hc (fun h => h1 (of_decide_eq_true h)) (fun h => h2 (of_decide_eq_false h))
theorem w_ife {c : Operand} {x y : Code} {a b : Int} (hc : ev σ c = .bool (a == b)) (h1 : a = b → Go P T fn (.code x :: k) σ g n m Q) (h2 : a ≠ b → Go P T fn (.code y :: k) σ g n m Q) : Go P T fn (.code (.cond c x y) :: k) σ g n m Q :=
  w_if hc (fun h => h1 (eq_of_beq h)) (fun h => h2 (by simpa using h))
theorem w_ifn {c : Operand} {x y : Code} {a b : Int} (hc : ev σ c = .bool (a != b)) (h1 : a ≠ b → Go P T fn (.code x :: k) σ g n m Q) (h2 : a = b → Go P T fn (.code y :: k) σ g n m Q) : Go P T fn (.code (.cond c x y) :: k) σ g n m Q :=
  w_if hc (fun h => h1 (by simpa using h)) (fun h => h2 (by simpa using h))
theorem w_unroll {c : Code} (h : Go P T fn (.code c :: .code (.loop c) :: k) σ g n m Q) : Go P T fn (.code (.loop c) :: k) σ g n m Q := .of (fun _ => r_loop) h
theorem w_while {α : Type} {c : Code} (I : α → Env → (Nat → Option Ob) → Nat → Prop) (ms : α → Nat)
    (hs : ∀ x σ g n, I x σ g n → (∀ y σ' g' n', ms y < ms x → I y σ' g' n' → Go P T fn (.code (.loop c) :: k) σ' g' n' m Q) → Go P T fn (.code c :: .code (.loop c) :: k) σ g n m Q)
    (x : α) (h0 : I x σ g n) : Go P T fn (.code (.loop c) :: k) σ g n m Q := by
  suffices H : ∀ N x σ g n, ms x ≤ N → I x σ g n → Go P T fn (.code (.loop c) :: k) σ g n m Q from H _ x σ g n (Nat.le_refl _) h0
  intro N
  induction N with
  | zero => intro x σ g n hx hi; exact w_unroll (hs x σ g n hi (fun y _ _ _ hy _ => absurd hy (by omega)))
  | succ N ih => intro x σ g n hx hi; exact w_unroll (hs x σ g n hi (fun y _ _ _ hy hj => ih _ _ _ _ (by omega) hj))
/-- A region whose ways meet again: 'd', its last slot, is all that is told of what it wrote (from slot 'lo' on). -/
def Told (σ : Env) (lo d : Nat) (v : Value) (σ' : Env) : Prop := σ' d = v ∧ ∀ i, (i < lo ∨ d < i) → σ' i = σ i
theorem w_seg {bb : Bool} {all : Array Oper} {l : List Oper} (S : Env → Prop) (h1 : ∀ K Q, (∀ σ', S σ' → Go P T fn K σ' g n m Q) → Go P T fn (.ops bb all l :: K) σ g n m Q) (h2 : ∀ σ', S σ' → Go P T fn k σ' g n m Q) : Go P T fn (.ops bb all l :: k) σ g n m Q := h1 k Q h2
/-- Over a row. -/
theorem w_rng {α β : Type} {c : Code} (ls : List α) (I : Nat → List α → β → Env → (Nat → Option Ob) → Nat → Prop)
    (hs : ∀ i x rest b σ g n, ls[i]? = some x → i < ls.length → I i (x :: rest) b σ g n → (∀ b' σ' g' n', I (i + 1) rest b' σ' g' n' → Go P T fn (.code (.loop c) :: k) σ' g' n' m Q) → Go P T fn (.code c :: .code (.loop c) :: k) σ g n m Q)
    (he : ∀ b σ g n, I ls.length [] b σ g n → Go P T fn (.code c :: .code (.loop c) :: k) σ g n m Q)
    (b0 : β) (h0 : I 0 ls b0 σ g n) : Go P T fn (.code (.loop c) :: k) σ g n m Q := by
  suffices H : ∀ (rest pre : List α) b σ g n, ls = pre ++ rest → I pre.length rest b σ g n → Go P T fn (.code (.loop c) :: k) σ g n m Q from H ls [] b0 σ g n rfl h0
  intro rest
  induction rest with
  | nil => intro pre b σ g n hl hi; rw [List.append_nil] at hl; subst hl; exact w_unroll (he b σ g n hi)
  | cons x rest ih =>
    intro pre b σ g n hl hi
    refine w_unroll (hs pre.length x rest b σ g n (by subst hl; simp) (by subst hl; simp) hi fun b' σ' g' n' hi' => ih (pre ++ [x]) b' σ' g' n' (by subst hl; simp) (by simpa using hi'))
/-- So many times. -/
theorem w_cnt {β : Type} {c : Code} (N : Nat) (I : Nat → β → Env → (Nat → Option Ob) → Nat → Prop)
    (hs : ∀ i b σ g n, i < N → I i b σ g n → (∀ b' σ' g' n', I (i + 1) b' σ' g' n' → Go P T fn (.code (.loop c) :: k) σ' g' n' m Q) → Go P T fn (.code c :: .code (.loop c) :: k) σ g n m Q)
    (he : ∀ b σ g n, I N b σ g n → Go P T fn (.code c :: .code (.loop c) :: k) σ g n m Q)
    (b0 : β) (h0 : I 0 b0 σ g n) : Go P T fn (.code (.loop c) :: k) σ g n m Q := by
  suffices H : ∀ (r i : Nat) b σ g n, i + r = N → I i b σ g n → Go P T fn (.code (.loop c) :: k) σ g n m Q from H N 0 b0 σ g n (by omega) h0
  intro r
  induction r with
  | zero => intro i b σ g n hl hi; obtain rfl : i = N := by omega
            exact w_unroll (he b σ g n hi)
  | succ r ih => intro i b σ g n hl hi; exact w_unroll (hs i b σ g n (by omega) hi fun b' σ' g' n' hi' => ih (i + 1) b' σ' g' n' (by omega) hi')
theorem w_ret {v : Value} {H' : Hp} (h : leave P fn (.ret, σ, ⟨g, n, m⟩) = some (.returned v, H')) (hq : Q v g n) : Go P T fn (.code .ret :: k) σ g n m Q := ⟨v, H', h, by rw [leave_heap h], by rw [leave_heap h]; exact hq⟩
theorem w_end {v : Value} {H' : Hp} (h : leave P fn (.ret, σ, ⟨g, n, m⟩) = some (.returned v, H')) (hq : Q v g n) : Go P T fn [] σ g n m Q := ⟨v, H', h, by rw [leave_heap h], by rw [leave_heap h]; exact hq⟩
theorem w_retc {b : Tmp} {t : TypeId} {i off : Nat} {e : TypeId} {vs : List Value} {v : Value} (hr : fn.results.toList = [.cell b t]) (hb : σ b = ptr i off) (hg : g i = some (.cells e vs)) (hp : part P t vs off = some v) (hq : Q v g n) : Go P T fn (.code .ret :: k) σ g n m Q :=
  w_ret (v := v) (H' := ⟨g, n, m⟩) (by simp [leave, hr, resList, loadAt, hb, hg, hp, packed]) hq
theorem w_retct {b c : Tmp} {t : TypeId} {i off : Nat} {e : TypeId} {vs : List Value} {v u : Value} (hr : fn.results.toList = [.cell b t, .tmp c]) (hb : σ b = ptr i off) (hg : g i = some (.cells e vs)) (hp : part P t vs off = some v) (hu : σ c = u) (hq : Q (.tuple #[v, u]) g n) : Go P T fn (.code .ret :: k) σ g n m Q :=
  w_ret (v := .tuple #[v, u]) (H' := ⟨g, n, m⟩) (by simp [leave, hr, resList, loadAt, hb, hg, hp, packed, hu]) hq
/-- A slot that is kept. -/
theorem put_eta {i : Nat} {v : Value} (h : σ i = v) : put (some i) v σ = σ := by
  funext j
  show (if j = i then v else σ j) = σ j
  split
  · rename_i e; rw [e, h]
  · rfl
theorem w_keep {i : Nat} {v : Value} (hv : σ i = v) (h : Go P T fn k (put (some i) v σ) g n m Q) : Go P T fn k σ g n m Q := by rwa [put_eta hv] at h
-- ---- regions
theorem w_region {id : Nat} {l : List Oper} (h : Go P T fn (.ops false l.toArray l :: k) σ g n m Q) : Go P T fn (.code (.region id l.toArray false) :: k) σ g n m Q := .of (fun _ => r_region) h
theorem w_draw {id : Nat} {l : List Oper} (hp : planOk P T.quiet l.toArray = true) (hf : planOf P T.quiet l.toArray = []) (h : Go P T fn (.ops true l.toArray l :: k) σ g n m Q) : Go P T fn (.code (.region id l.toArray true) :: k) σ g n m Q := by
  obtain ⟨v, H', h1, h2⟩ := h; exact ⟨v, H', r_draw hp hf h1, h2⟩
section
variable {b : Bool} {all : Array Oper} {l : List Oper} {d : Option Tmp} {ty : TypeId} {pos : String} {af : Array Edge}
theorem w_nil (h : Go P T fn k σ g n m Q) : Go P T fn (.ops b all [] :: k) σ g n m Q := h
theorem op1_pure {op : Op} (h : pureOp op = true) (σ : Env) (H : Hp) : op1 P σ op H = (op0 P σ op).map (·, H) := by
  cases op <;> first | rfl | (simp [pureOp] at h)
theorem nocall {op : Op} (h : pureOp op = true) : isCall op = false := by
  cases op <;> first | rfl | (simp [pureOp] at h)
theorem w_pure {op : Op} {v : Value} (ho : pureOp op = true) (h0 : op0 P σ op = some v) (h : Go P T fn (.ops b all l :: k) (put d v σ) g n m Q) : Go P T fn (.ops b all (⟨d, op, ty, pos, af, none⟩ :: l) :: k) σ g n m Q :=
  .of (fun _ => r_pure (op1_pure ho σ) (nocall ho) h0) h
theorem w_wrap {op : Op} {kd : IntKind} {a : Int} (ho : pureOp op = true) (h0 : op0 P σ op = some (.int kd (kd.wrap a))) (hw : kd.wrap a = a) (h : Go P T fn (.ops b all l :: k) (put d (.int kd a) σ) g n m Q) : Go P T fn (.ops b all (⟨d, op, ty, pos, af, none⟩ :: l) :: k) σ g n m Q :=
  w_pure ho (by rw [h0, hw]) h
theorem w_op {op : Op} {v : Value} {g' : Nat → Option Ob} {n' : Nat} (hc : isCall op = false) (h0 : op1 P σ op ⟨g, n, m⟩ = some (v, ⟨g', n', m⟩)) (h : Go P T fn (.ops b all l :: k) (put d v σ) g' n' m Q) : Go P T fn (.ops b all (⟨d, op, ty, pos, af, none⟩ :: l) :: k) σ g n m Q :=
  .of (fun _ => r_op hc h0) h
theorem w_call {c : Call} {v : Value} {g' : Nat → Option Ob} {n' : Nat} (h0 : callOf P (run P T) σ c ⟨g, n, m⟩ = some (.returned v, ⟨g', n', m⟩)) (h : Go P T fn (.ops b all l :: k) (put d v σ) g' n' m Q) : Go P T fn (.ops b all (⟨d, .call c, ty, pos, af, none⟩ :: l) :: k) σ g n m Q :=
  .of (fun _ => r_call h0) h
/-- A call of what is proved. -/
theorem w_rn {c : Call} {F : FuncId} {args : List Value} {Q1 : Value → (Nat → Option Ob) → Nat → Prop} (h1 : Rn P T F args g n m Q1) (h0 : ∀ H, callOf P (run P T) σ c H = run P T F args H) (h : ∀ v g' n', Q1 v g' n' → Go P T fn (.ops b all l :: k) (put d v σ) g' n' m Q) : Go P T fn (.ops b all (⟨d, .call c, ty, pos, af, none⟩ :: l) :: k) σ g n m Q := by
  obtain ⟨v, g', n', h2, h3⟩ := h1
  exact w_call ((h0 _).trans h2) (h v g' n' h3)
/-- A call that leaves all as it was. -/
theorem w_rq {c : Call} {F : FuncId} {args : List Value} {V : Value → Prop} (h1 : Rn P T F args g n m (fun v g' n' => V v ∧ g' = g ∧ n' = n)) (h0 : ∀ H, callOf P (run P T) σ c H = run P T F args H) (h : ∀ v, V v → Go P T fn (.ops b all l :: k) (put d v σ) g n m Q) : Go P T fn (.ops b all (⟨d, .call c, ty, pos, af, none⟩ :: l) :: k) σ g n m Q :=
  w_rn h1 h0 (by rintro v g' n' ⟨h2, rfl, rfl⟩; exact h v h2)
/-- A call to which rows go by their cells. -/
theorem w_rf {c : Call} {F : FuncId} {args args1 : List Value} {V : Value → Prop} (h1 : Rf P T F args1 V) (h0 : ∀ H, callOf P (run P T) σ c H = run P T F args H) (ha : args.mapM (freeze P g tg 0 9) = some args1) (h : ∀ v, V v → Go P T fn (.ops b all l :: k) (put d v σ) g n m Q) : Go P T fn (.ops b all (⟨d, .call c, ty, pos, af, none⟩ :: l) :: k) σ g n m Q :=
  w_rq (h1 g n m args ha) h0 h
theorem w_want {op : Op} {j : Nat} {t : Bool} (hy : yield1 all σ j = some t) (h : Go P T fn (.ops b all (⟨d, op, ty, pos, af, none⟩ :: l) :: k) σ g n m Q) : Go P T fn (.ops b all (⟨d, op, ty, pos, af, some (j, t)⟩ :: l) :: k) σ g n m Q := .of (fun _ => r_want hy) h
theorem w_pass {op : Op} {j : Nat} {t : Bool} (hy : yield1 all σ j = some (!t)) (h : Go P T fn (.ops b all l :: k) (put d undef σ) g n m Q) : Go P T fn (.ops b all (⟨d, op, ty, pos, af, some (j, t)⟩ :: l) :: k) σ g n m Q := .of (fun _ => r_pass hy) h
-- a guard, both ways
theorem w_gb_t {op : Op} {j : Nat} {u : Bool} (hy : yield1 all σ j = some u) (h1 : u = true → Go P T fn (.ops b all (⟨d, op, ty, pos, af, none⟩ :: l) :: k) σ g n m Q) (h2 : u = false → Go P T fn (.ops b all l :: k) (put d undef σ) g n m Q) : Go P T fn (.ops b all (⟨d, op, ty, pos, af, some (j, true)⟩ :: l) :: k) σ g n m Q := by
  cases u with
  | true => exact w_want hy (h1 rfl)
  | false => exact w_pass hy (h2 rfl)
theorem w_gd_t {op : Op} {j : Nat} {p : Prop} {dp : Decidable p} (hy : yield1 all σ j = some (@decide p dp)) (h1 : p → Go P T fn (.ops b all (⟨d, op, ty, pos, af, none⟩ :: l) :: k) σ g n m Q) (h2 : ¬p → Go P T fn (.ops b all l :: k) (put d undef σ) g n m Q) : Go P T fn (.ops b all (⟨d, op, ty, pos, af, some (j, true)⟩ :: l) :: k) σ g n m Q :=
  w_gb_t hy (fun h => h1 (of_decide_eq_true h)) (fun h => h2 (of_decide_eq_false h))
theorem w_ge_t {op : Op} {j : Nat} {x y : Int} (hy : yield1 all σ j = some (x == y)) (h1 : x = y → Go P T fn (.ops b all (⟨d, op, ty, pos, af, none⟩ :: l) :: k) σ g n m Q) (h2 : x ≠ y → Go P T fn (.ops b all l :: k) (put d undef σ) g n m Q) : Go P T fn (.ops b all (⟨d, op, ty, pos, af, some (j, true)⟩ :: l) :: k) σ g n m Q :=
  w_gb_t hy (fun h => h1 (eq_of_beq h)) (fun h => h2 (by simpa using h))
theorem w_gn_t {op : Op} {j : Nat} {x y : Int} (hy : yield1 all σ j = some (x != y)) (h1 : x ≠ y → Go P T fn (.ops b all (⟨d, op, ty, pos, af, none⟩ :: l) :: k) σ g n m Q) (h2 : x = y → Go P T fn (.ops b all l :: k) (put d undef σ) g n m Q) : Go P T fn (.ops b all (⟨d, op, ty, pos, af, some (j, true)⟩ :: l) :: k) σ g n m Q :=
  w_gb_t hy (fun h => h1 (by simpa using h)) (fun h => h2 (by simpa using h))
theorem w_gb_f {op : Op} {j : Nat} {u : Bool} (hy : yield1 all σ j = some u) (h1 : u = true → Go P T fn (.ops b all l :: k) (put d undef σ) g n m Q) (h2 : u = false → Go P T fn (.ops b all (⟨d, op, ty, pos, af, none⟩ :: l) :: k) σ g n m Q) : Go P T fn (.ops b all (⟨d, op, ty, pos, af, some (j, false)⟩ :: l) :: k) σ g n m Q := by
  cases u with
  | true => exact w_pass hy (h1 rfl)
  | false => exact w_want hy (h2 rfl)
theorem w_gd_f {op : Op} {j : Nat} {p : Prop} {dp : Decidable p} (hy : yield1 all σ j = some (@decide p dp)) (h1 : p → Go P T fn (.ops b all l :: k) (put d undef σ) g n m Q) (h2 : ¬p → Go P T fn (.ops b all (⟨d, op, ty, pos, af, none⟩ :: l) :: k) σ g n m Q) : Go P T fn (.ops b all (⟨d, op, ty, pos, af, some (j, false)⟩ :: l) :: k) σ g n m Q :=
  w_gb_f hy (fun h => h1 (of_decide_eq_true h)) (fun h => h2 (of_decide_eq_false h))
theorem w_ge_f {op : Op} {j : Nat} {x y : Int} (hy : yield1 all σ j = some (x == y)) (h1 : x = y → Go P T fn (.ops b all l :: k) (put d undef σ) g n m Q) (h2 : x ≠ y → Go P T fn (.ops b all (⟨d, op, ty, pos, af, none⟩ :: l) :: k) σ g n m Q) : Go P T fn (.ops b all (⟨d, op, ty, pos, af, some (j, false)⟩ :: l) :: k) σ g n m Q :=
  w_gb_f hy (fun h => h1 (eq_of_beq h)) (fun h => h2 (by simpa using h))
theorem w_gn_f {op : Op} {j : Nat} {x y : Int} (hy : yield1 all σ j = some (x != y)) (h1 : x ≠ y → Go P T fn (.ops b all l :: k) (put d undef σ) g n m Q) (h2 : x = y → Go P T fn (.ops b all (⟨d, op, ty, pos, af, none⟩ :: l) :: k) σ g n m Q) : Go P T fn (.ops b all (⟨d, op, ty, pos, af, some (j, false)⟩ :: l) :: k) σ g n m Q :=
  w_gb_f hy (fun h => h1 (by simpa using h)) (fun h => h2 (by simpa using h))
theorem w_pk1 {c x y : Operand} {u : Bool} {v : Value} (hc : ev σ c = .bool u) (hv : ev σ x = v) (hu : u = true) (h : Go P T fn (.ops b all l :: k) (put d v σ) g n m Q) : Go P T fn (.ops b all (⟨d, .pick c x y, ty, pos, af, none⟩ :: l) :: k) σ g n m Q :=
  w_pure rfl (by simp only [op0, hc, hu, if_true, hv]) h
theorem w_pk0 {c x y : Operand} {u : Bool} {v : Value} (hc : ev σ c = .bool u) (hv : ev σ y = v) (hu : u = false) (h : Go P T fn (.ops b all l :: k) (put d v σ) g n m Q) : Go P T fn (.ops b all (⟨d, .pick c x y, ty, pos, af, none⟩ :: l) :: k) σ g n m Q :=
  w_pure rfl (by simp only [op0, hc, hu, Bool.false_eq_true, if_false, hv]) h
-- ---- memory
theorem w_alloc {e : TypeId} {z : Value} {ls : List Value} (hz : zeroOf P e = some z) (hls : z.cells.toList = ls) (h : Go P T fn (.ops b all l :: k) (put d (ptr n 0) σ) (upd g n (some (.cells e ls))) (n + 1) m Q) : Go P T fn (.ops b all (⟨d, .alloc e, ty, pos, af, none⟩ :: l) :: k) σ g n m Q :=
  w_op rfl (by subst hls; simp only [op1, hz, Option.map_some]; rfl) h
theorem w_box {e : TypeId} {x : Operand} {vs : List Value} (hv : (ev σ x).cells.toList = vs) (ho : vs.all one = true) (h : Go P T fn (.ops b all l :: k) (put d (ptr n 0) σ) (upd g n (some (.cells e vs))) (n + 1) m Q) : Go P T fn (.ops b all (⟨d, .box e x, ty, pos, af, none⟩ :: l) :: k) σ g n m Q :=
  w_op rfl (by subst hv; simp only [op1]; rw [if_pos ho]; rfl) h
theorem w_fldp {s f : TypeId} {x : Operand} {i off o : Nat} {t2 : TypeId} {z : Nat} (hx : ev σ x = ptr i off) (hf : fldOf P s f = some (o, t2)) (hs : szOf P t2 = some z) (hz : 0 < z) (h : Go P T fn (.ops b all l :: k) (put d (ptr i (off + o)) σ) g n m Q) : Go P T fn (.ops b all (⟨d, .fieldAddr s x f, ty, pos, af, none⟩ :: l) :: k) σ g n m Q := by
  refine w_pure rfl ?_ h
  have : ¬ z = 0 := by omega
  simp only [op0, hx, hf, hs, Option.bind_some, this, if_false]
/-- A load from a place. -/
theorem w_load {t : TypeId} {x : Operand} {i off : Nat} {e : TypeId} {vs : List Value} {v : Value} (ha : ev σ x = ptr i off) (hg : g i = some (.cells e vs)) (hp : part P t vs off = some v) (h : Go P T fn (.ops b all l :: k) (put d v σ) g n m Q) : Go P T fn (.ops b all (⟨d, .load t x, ty, pos, af, none⟩ :: l) :: k) σ g n m Q :=
  w_op rfl (by simp only [op1, loadAt, ha, hg, hp, Option.map_some]) h
theorem w_store {t : TypeId} {a x : Operand} {i off : Nat} {e : TypeId} {vs us ws : List Value} (ha : ev σ a = ptr i off) (hx : (ev σ x).cells.toList = us) (hg : g i = some (.cells e vs)) (hm : m ≤ i) (hz : szOf P t = some us.length) (ho : us.all one = true) (hw : wrCells vs off us = some ws) (h : Go P T fn (.ops b all l :: k) (put d undef σ) (upd g i (some (.cells e ws))) n m Q) : Go P T fn (.ops b all (⟨d, .store t a x, ty, pos, af, none⟩ :: l) :: k) σ g n m Q :=
  w_op rfl (by
    subst hx
    simp only [op1, storeAt, ha]
    rw [if_pos hm]
    simp only [hg, hz, ho, hw, Bool.and_true, decide_true, if_true, Option.map_some]
    rfl) h
-- ---- numbers
theorem w_mod {op : BinOp} {kd : IntKind} {t ty2 : TypeId} {x y : Operand} {a c : Int} (hop : op = .rem) (hx : ev σ x = .int kd a) (hy : ev σ y = .int kd c) (h1 : nilConst P t x = false) (h2 : nilConst P t y = false) (ha : 0 ≤ a) (hc : 0 < c) (h : Go P T fn (.ops b all l :: k) (put d (.int kd (a % c)) σ) g n m Q) : Go P T fn (.ops b all (⟨d, .binOp op t x y ty2, ty, pos, af, none⟩ :: l) :: k) σ g n m Q := by
  subst hop
  refine w_pure rfl ?_ h
  simp only [op0, h1, h2, Bool.false_eq_true, if_false, hx, hy, bin]
  have : c ≠ 0 := by omega
  simp [binInt, this, Int.tmod_eq_emod_of_nonneg ha]
theorem w_and {op : BinOp} {t ty2 : TypeId} {x y : Operand} {a c c1 : Int} {j : Nat} (hop : op = .and) (hx : ev σ x = .int .i64 a) (hy : ev σ y = .int .i64 c) (h1 : nilConst P t x = false) (h2 : nilConst P t y = false) (hj : j ≤ 62) (hc : c = 2 ^ j - 1) (hc1 : c1 = 2 ^ j) (h : Go P T fn (.ops b all l :: k) (put d (.int .i64 (a % c1)) σ) g n m Q) : Go P T fn (.ops b all (⟨d, .binOp op t x y ty2, ty, pos, af, none⟩ :: l) :: k) σ g n m Q := by
  subst hop hc1
  refine w_pure rfl ?_ h
  simp only [op0, h1, h2, Bool.false_eq_true, if_false, hx, hy, bin]
  simp only [reduceCtorEq, or_self, if_false, if_true, binInt]
  exact congrArg (fun q => some (Value.int .i64 q)) (and_i64 a j hj c hc)
theorem w_div {op : BinOp} {t ty2 : TypeId} {x y : Operand} {a c : Int} (hop : op = .quo) (hx : ev σ x = .int .i64 a) (hy : ev σ y = .int .i64 c) (h1 : nilConst P t x = false) (h2 : nilConst P t y = false) (ha : 0 ≤ a) (ha' : a ≤ 9223372036854775807) (hc : 0 < c) (h : Go P T fn (.ops b all l :: k) (put d (.int .i64 (a / c)) σ) g n m Q) : Go P T fn (.ops b all (⟨d, .binOp op t x y ty2, ty, pos, af, none⟩ :: l) :: k) σ g n m Q := by
  subst hop
  refine w_pure rfl ?_ h
  simp only [op0, h1, h2, Bool.false_eq_true, if_false, hx, hy, bin]
  have : c ≠ 0 := by omega
  simp [binInt, this, IntWalk.i64_quo a c ⟨ha, ha', by omega⟩]
theorem w_max {x y : Operand} {kd : IntKind} {a c : Int} {ts : Array TypeId} (hx : ev σ x = .int kd a) (hy : ev σ y = .int kd c) (h : Go P T fn (.ops b all l :: k) (put d (.int kd (max a c)) σ) g n m Q) : Go P T fn (.ops b all (⟨d, .call ⟨.builtin .max, #[x, y], ts⟩, ty, pos, af, none⟩ :: l) :: k) σ g n m Q :=
  w_call (by
    have e : (if c > a then c else a) = max a c := by simp only [Int.max_def]; split <;> split <;> omega
    simp [callOf, builtin1, foldInts, hx, hy, e]) h
theorem w_min {x y : Operand} {kd : IntKind} {a c : Int} {ts : Array TypeId} (hx : ev σ x = .int kd a) (hy : ev σ y = .int kd c) (h : Go P T fn (.ops b all l :: k) (put d (.int kd (min a c)) σ) g n m Q) : Go P T fn (.ops b all (⟨d, .call ⟨.builtin .min, #[x, y], ts⟩, ty, pos, af, none⟩ :: l) :: k) σ g n m Q :=
  w_call (by
    have e : (if c < a then c else a) = min a c := by simp only [Int.min_def]; split <;> split <;> omega
    simp [callOf, builtin1, foldInts, hx, hy, e]) h
theorem w_conv {s t : TypeId} {x : Operand} {kd kd' : IntKind} {a : Int} {u : _} (hx : ev σ x = .int kd a) (hs : P.underlying s = some u) (ht : P.underlying t = some (.int kd')) (hw : kd'.wrap a = a) (h : Go P T fn (.ops b all l :: k) (put d (.int kd' a) σ) g n m Q) : Go P T fn (.ops b all (⟨d, .convert s t x, ty, pos, af, none⟩ :: l) :: k) σ g n m Q :=
  w_op rfl (by simp only [op1, hx, hs, ht, hw]) h
theorem w_convw {s t : TypeId} {x : Operand} {kd kd' : IntKind} {a : Int} {u : _} (hx : ev σ x = .int kd a) (hs : P.underlying s = some u) (ht : P.underlying t = some (.int kd')) (h : Go P T fn (.ops b all l :: k) (put d (.int kd' (kd'.wrap a)) σ) g n m Q) : Go P T fn (.ops b all (⟨d, .convert s t x, ty, pos, af, none⟩ :: l) :: k) σ g n m Q :=
  w_op rfl (by simp only [op1, hx, hs, ht]) h
-- ---- gates: what an item is
theorem g_op {o : Op} (h : Go P T fn (.ops b all (⟨d, o, ty, pos, af, none⟩ :: l) :: k) σ g n m Q) : Go P T fn (.ops b all (⟨d, o, ty, pos, af, none⟩ :: l) :: k) σ g n m Q := h
theorem g_gd {o : Op} {j : Nat × Bool} (h : Go P T fn (.ops b all (⟨d, o, ty, pos, af, some j⟩ :: l) :: k) σ g n m Q) : Go P T fn (.ops b all (⟨d, o, ty, pos, af, some j⟩ :: l) :: k) σ g n m Q := h
theorem g_load {t : TypeId} {x : Operand} (h : Go P T fn (.ops b all (⟨d, (.load t x), ty, pos, af, none⟩ :: l) :: k) σ g n m Q) : Go P T fn (.ops b all (⟨d, (.load t x), ty, pos, af, none⟩ :: l) :: k) σ g n m Q := h
theorem g_fld {t : TypeId} {t2 : Nat} {x : Operand} (h : Go P T fn (.ops b all (⟨d, (.fieldAddr t x t2), ty, pos, af, none⟩ :: l) :: k) σ g n m Q) : Go P T fn (.ops b all (⟨d, (.fieldAddr t x t2), ty, pos, af, none⟩ :: l) :: k) σ g n m Q := h
theorem g_move {x : Operand} (h : Go P T fn (.ops b all (⟨d, (.move x), ty, pos, af, none⟩ :: l) :: k) σ g n m Q) : Go P T fn (.ops b all (⟨d, (.move x), ty, pos, af, none⟩ :: l) :: k) σ g n m Q := h
theorem g_assign {x : Operand} (h : Go P T fn (.ops b all (⟨d, (.assign x), ty, pos, af, none⟩ :: l) :: k) σ g n m Q) : Go P T fn (.ops b all (⟨d, (.assign x), ty, pos, af, none⟩ :: l) :: k) σ g n m Q := h
theorem g_bin {t : TypeId} {t2 : Nat} {x : Operand} {y : Operand} {bo : BinOp} (h : Go P T fn (.ops b all (⟨d, (.binOp bo t x y t2), ty, pos, af, none⟩ :: l) :: k) σ g n m Q) : Go P T fn (.ops b all (⟨d, (.binOp bo t x y t2), ty, pos, af, none⟩ :: l) :: k) σ g n m Q := h
theorem g_pick {x : Operand} {y : Operand} {z : Operand} (h : Go P T fn (.ops b all (⟨d, (.pick x y z), ty, pos, af, none⟩ :: l) :: k) σ g n m Q) : Go P T fn (.ops b all (⟨d, (.pick x y z), ty, pos, af, none⟩ :: l) :: k) σ g n m Q := h
theorem g_call {ca : Call} (h : Go P T fn (.ops b all (⟨d, (.call ca), ty, pos, af, none⟩ :: l) :: k) σ g n m Q) : Go P T fn (.ops b all (⟨d, (.call ca), ty, pos, af, none⟩ :: l) :: k) σ g n m Q := h
theorem g_box {t : TypeId} {x : Operand} (h : Go P T fn (.ops b all (⟨d, (.box t x), ty, pos, af, none⟩ :: l) :: k) σ g n m Q) : Go P T fn (.ops b all (⟨d, (.box t x), ty, pos, af, none⟩ :: l) :: k) σ g n m Q := h
theorem g_store {t : TypeId} {x : Operand} {y : Operand} (h : Go P T fn (.ops b all (⟨d, (.store t x y), ty, pos, af, none⟩ :: l) :: k) σ g n m Q) : Go P T fn (.ops b all (⟨d, (.store t x y), ty, pos, af, none⟩ :: l) :: k) σ g n m Q := h
theorem g_build {t : TypeId} {ps : Array (Nat × Operand)} (h : Go P T fn (.ops b all (⟨d, .build t ps, ty, pos, af, none⟩ :: l) :: k) σ g n m Q) : Go P T fn (.ops b all (⟨d, .build t ps, ty, pos, af, none⟩ :: l) :: k) σ g n m Q := h
theorem g_ix {t : TypeId} {x y : Operand} (h : Go P T fn (.ops b all (⟨d, .indexAddr t x y, ty, pos, af, none⟩ :: l) :: k) σ g n m Q) : Go P T fn (.ops b all (⟨d, .indexAddr t x y, ty, pos, af, none⟩ :: l) :: k) σ g n m Q := h
-- ---- rows
theorem w_ix {α : Type} {enc : α → List Value} {ls : List α} {y : α} {t : TypeId} {x j : Operand} {a : Option Addr} {nn cc i sz : Nat} {kd : IntKind} {q : Int} {e e' : TypeId} (hx : ev σ x = .slice a nn cc) (hj : ev σ j = .int kd q) (he : elemOf P t = some e) (hs : szOf P e = some sz) (hz : 0 < sz) (hq : q = (i : Int)) (hr : Row g a e' (ls.flatMap enc)) (hle : ∀ x, (enc x).length = sz) (hi : ls[i]? = some y) (hn : i < nn) (h : Go P T fn (.ops b all l :: k) (put d (.pointer (adr a (i * sz + 0))) σ) g n m Q) : Go P T fn (.ops b all (⟨d, .indexAddr t x j, ty, pos, af, none⟩ :: l) :: k) σ g n m Q := by
  have hlen : 0 < (ls.flatMap enc).length := by have := (flat_at hle hi).2; omega
  obtain ⟨p, off, all', h1, h2, h3, h4⟩ := hr.of hlen
  subst h1 hq
  refine w_pure rfl ?_ h
  simp only [op0, hx, hj, he, hs, Option.bind_some]
  rw [if_pos ⟨by omega, by omega⟩]
  simp [adr, ptr]
theorem w_fld {α : Type} {enc : α → List Value} {ls : List α} {y : α} {s f : TypeId} {x : Operand} {a : Option Addr} {i sz c : Nat} {o : Nat × TypeId} {z : Nat} {e : TypeId} (hx : ev σ x = .pointer (adr a (i * sz + c))) (hf : fldOf P s f = some o) (hs : szOf P o.2 = some z) (hz : 0 < z) (hr : Row g a e (ls.flatMap enc)) (hle : ∀ x, (enc x).length = sz) (hsz : 0 < sz) (hi : ls[i]? = some y) (h : Go P T fn (.ops b all l :: k) (put d (.pointer (adr a (i * sz + (c + o.1)))) σ) g n m Q) : Go P T fn (.ops b all (⟨d, .fieldAddr s x f, ty, pos, af, none⟩ :: l) :: k) σ g n m Q := by
  have hlen : 0 < (ls.flatMap enc).length := by have := (flat_at hle hi).2; omega
  obtain ⟨p, off, all', h1, h2, h3, h4⟩ := hr.of hlen
  subst h1
  refine w_pure rfl ?_ h
  have : ¬ z = 0 := by omega
  simp only [op0, hx, adr, hf, hs, Option.bind_some, this, if_false]
  simp [Nat.add_assoc]
/-- One of a row is loaded, or a part of it. -/
theorem w_ld {α : Type} {enc : α → List Value} {ls : List α} {t : TypeId} {x : Operand} {a : Option Addr} {i sz c : Nat} {e : TypeId} {y : α} {v : Value} (hx : ev σ x = .pointer (adr a (i * sz + c))) (hr : Row g a e (ls.flatMap enc)) (hl : ∀ x, (enc x).length = sz) (hi : ls[i]? = some y) (hz : 0 < sz) (hp : part P t (enc y) c = some v) (h : Go P T fn (.ops b all l :: k) (put d v σ) g n m Q) : Go P T fn (.ops b all (⟨d, .load t x, ty, pos, af, none⟩ :: l) :: k) σ g n m Q := by
  have hlen : 0 < (ls.flatMap enc).length := by have := (flat_at hl hi).2; omega
  obtain ⟨p, off, all', h1, h2, h3, h4⟩ := hr.of hlen
  subst h1
  refine w_op rfl ?_ h
  simp only [op1, hx, adr, loadAt, h2, part_row h3 h4 (part_flat hl hi hp), Option.map_some]
theorem w_mkf {f2 : FuncId} {caps : Array Operand} {cs : List Value} (hc : caps.toList.map (ev σ) = cs) (h : Go P T fn (.ops b all l :: k) (put d (.func (.func f2) #[] cs.toArray) σ) g n m Q) : Go P T fn (.ops b all (⟨d, .makeFunc (.func f2) #[] caps, ty, pos, af, none⟩ :: l) :: k) σ g n m Q :=
  w_pure rfl (by
    have e : caps.map (ev σ) = cs.toArray := by apply Array.ext'; simpa using hc
    simp [op0, e]) h
-- ---- rows by their cells
theorem w_fx {α : Type} {enc : α → List Value} {ls : List α} {y : α} {t : TypeId} {x j : Operand} {a : Array Value} {nn i sz : Nat} {kd : IntKind} {q : Int} {e : TypeId} (hx : ev σ x = fz a nn (ls.flatMap enc)) (hj : ev σ j = .int kd q) (he : elemOf P t = some e) (hs : szOf P e = some sz) (hq : q = (i : Int)) (hle : ∀ x, (enc x).length = sz) (hi : ls[i]? = some y) (hn : nn = ls.length) (h : Go P T fn (.ops b all l :: k) (put d (fpl a (i * sz + 0) (ls.flatMap enc)) σ) g n m Q) : Go P T fn (.ops b all (⟨d, .indexAddr t x j, ty, pos, af, none⟩ :: l) :: k) σ g n m Q := by
  subst hq hn
  have hlt := (List.getElem?_eq_some_iff.1 hi).1
  refine w_pure rfl ?_ h
  simp only [op0, hx, hj, he, hs, Option.bind_some]
  rw [if_pos ⟨by omega, by omega, by simpa using flat_len hle ls⟩]
  simp
theorem w_ffld {s f : TypeId} {x : Operand} {a : Array Value} {vs : List Value} {p c o z : Nat} {t2 : TypeId} (hx : ev σ x = fpl a (p + c) vs) (hf : fldOf P s f = some (o, t2)) (hs : szOf P t2 = some z) (hz : 0 < z) (h : Go P T fn (.ops b all l :: k) (put d (fpl a (p + (c + o)) vs) σ) g n m Q) : Go P T fn (.ops b all (⟨d, .fieldAddr s x f, ty, pos, af, none⟩ :: l) :: k) σ g n m Q := by
  refine w_pure rfl ?_ h
  have : ¬ z = 0 := by omega
  simp only [op0, hx, hf, hs, Option.bind_some, this, if_false]
  rw [Nat.add_assoc]
theorem w_fl {α : Type} {enc : α → List Value} {ls : List α} {t : TypeId} {x : Operand} {a : Array Value} {i sz c : Nat} {y : α} {v : Value} (hx : ev σ x = fpl a (i * sz + c) (ls.flatMap enc)) (hl : ∀ x, (enc x).length = sz) (hi : ls[i]? = some y) (hp : part P t (enc y) c = some v) (h : Go P T fn (.ops b all l :: k) (put d v σ) g n m Q) : Go P T fn (.ops b all (⟨d, .load t x, ty, pos, af, none⟩ :: l) :: k) σ g n m Q :=
  w_op rfl (by
    simp only [op1, hx, loadAt]
    rw [part_flat hl hi hp]; rfl) h
/-- A part of a row that goes by its cells. -/
theorem w_fsl {α : Type} {enc : α → List Value} {ls : List α} {t e : TypeId} {x : Operand} {lo hi mx : Option Operand} {a : Array Value} {sz nn p q : Nat} (hx : ev σ x = fz a nn (ls.flatMap enc)) (ht : P.underlying t = some (.slice e)) (hs : szOf P e = some sz) (hl : numOf 0 (lo.map (ev σ)) = some p) (hh : numOf nn (hi.map (ev σ)) = some q) (hm : numOf q (mx.map (ev σ)) = some q) (hb : mx.isSome = true → hi.isSome = true) (hle : ∀ x, (enc x).length = sz) (hn : nn = ls.length) (hpq : p ≤ q ∧ q ≤ nn)
    (h : Go P T fn (.ops b all l :: k) (put d (fz a (q - p) (((ls.drop p).take (q - p)).flatMap enc)) σ) g n m Q) : Go P T fn (.ops b all (⟨d, .slice t x lo hi mx, ty, pos, af, none⟩ :: l) :: k) σ g n m Q := by
  subst hn
  refine w_op rfl ?_ h
  simp only [op1, sliceOf, hx, ht, hs, hl, hh, hm, Option.bind_some]
  have hfl := flat_len hle ls
  rw [if_pos ⟨hpq.1, hpq.2, by trivial, by simpa using hb, by simpa using hfl⟩]
  have e1 : ∀ (ls : List α) (p : Nat), (ls.flatMap enc).drop (p * sz) = (ls.drop p).flatMap enc := by
    intro ls
    induction ls with
    | nil => intro p; simp
    | cons y ls ih =>
      intro p
      cases p with
      | zero => simp
      | succ p =>
        rw [List.flatMap_cons, List.drop_succ_cons, ← ih p, show (p + 1) * sz = (enc y).length + p * sz by rw [hle, Nat.add_mul]; omega, ← List.drop_drop, List.drop_left]
  have e2 : ∀ (ls : List α) (p : Nat), (ls.flatMap enc).take (p * sz) = (ls.take p).flatMap enc := by
    intro ls
    induction ls with
    | nil => intro p; simp
    | cons y ls ih =>
      intro p
      cases p with
      | zero => simp
      | succ p =>
        rw [List.flatMap_cons, List.take_succ_cons, List.flatMap_cons, ← ih p, show (p + 1) * sz = (enc y).length + p * sz by rw [hle, Nat.add_mul]; omega, List.take_append, List.take_of_length_le (by omega), Nat.add_sub_cancel_left]
  simp only [e1, e2, Option.map_some]
theorem w_sl0 {t e : TypeId} {x : Operand} {lo hi mx : Option Operand} {sz : Nat} (hx : ev σ x = .slice none 0 0) (ht : P.underlying t = some (.slice e)) (hs : szOf P e = some sz) (hl : numOf 0 (lo.map (ev σ)) = some 0) (hh : numOf 0 (hi.map (ev σ)) = some 0) (hm : numOf 0 (mx.map (ev σ)) = some 0) (hb : mx.isSome = true → hi.isSome = true) (h : Go P T fn (.ops b all l :: k) (put d (.slice none 0 0) σ) g n m Q) : Go P T fn (.ops b all (⟨d, .slice t x lo hi mx, ty, pos, af, none⟩ :: l) :: k) σ g n m Q :=
  w_op rfl (by
    simp only [op1, sliceOf, hx, ht, hs, hl, hh, hm, Option.bind_some]
    rw [if_pos (by simpa using hb)]; rfl) h
theorem w_sl {t e : TypeId} {x : Operand} {lo hi mx : Option Operand} {sz i off nn cc p q : Nat} {vs : List Value} (hx : ev σ x = .slice (some ⟨i, off, none⟩) nn cc) (ht : P.underlying t = some (.slice e)) (hs : szOf P e = some sz) (hl : numOf 0 (lo.map (ev σ)) = some p) (hh : numOf nn (hi.map (ev σ)) = some q) (hm : numOf q (mx.map (ev σ)) = some q) (hb : mx.isSome = true → hi.isSome = true) (hpq : p ≤ q ∧ q ≤ nn) (hg : g i = some (.cells e vs)) (h : Go P T fn (.ops b all l :: k) (put d (slc i (off + p * sz) (q - p)) σ) g n m Q) : Go P T fn (.ops b all (⟨d, .slice t x lo hi mx, ty, pos, af, none⟩ :: l) :: k) σ g n m Q :=
  w_op rfl (by
    simp only [op1, sliceOf, hx, ht, hs, hl, hh, hm, Option.bind_some]
    rw [if_pos (by simpa using ⟨hpq.1, hpq.2, hb⟩)]
    simp only [hg, if_true, Option.map_some]) h
-- ---- rows that grow
theorem w_bsl {t e : TypeId} {nn sz : Nat} {ps : Array (Nat × Operand)} {z : Value} {ls : List Value} (he : elemOf P t = some e) (hs : szOf P e = some sz) (hz : zeroOf P e = some z) (hc : nn * sz ≤ 16777216 ∧ sz = z.cells.toList.length) (hf : fillL (fun i => some (i * sz, sz)) ((List.replicate nn z.cells.toList).flatten) (ps.toList.map fun p => (p.1, ev σ p.2)) = some ls) (h : Go P T fn (.ops b all l :: k) (put d (slc n 0 nn) σ) (upd g n (some (.cells e ls))) (n + 1) m Q) : Go P T fn (.ops b all (⟨d, .buildSlice t nn ps, ty, pos, af, none⟩ :: l) :: k) σ g n m Q :=
  w_op rfl (by simp only [op1, he, hs, hz, Option.bind_some]; rw [if_pos hc, hf]; rfl) h
/-- Onto nothing. -/
theorem w_app0 {s x : Operand} {ts : Array TypeId} {t e e' : TypeId} {sz by_ j off kk cc : Nat} {vs ns : List Value} (hs : ev σ s = .slice none 0 0) (hx : ev σ x = .slice (some ⟨j, off, none⟩) kk cc) (ht : ts[0]? = some t) (he : elemOf P t = some e) (hz : szOf P e = some sz) (hb : bytesOf P e = some by_) (hg : g j = some (.cells e' vs)) (hn : rdCells vs off (kk * sz) = some ns) (ha : appendable P ts[1]? e sz (.slice (some ⟨j, off, none⟩) kk cc) ns = true) (hk : kk ≠ 0) (hl : kk * by_ ≤ 140737488355328 ∧ kk ≤ 4611686018427387904)
    (h : Go P T fn (.ops b all l :: k) (put d (slc n 0 kk) σ) (upd g n (some (.cells e ns))) (n + 1) m Q) : Go P T fn (.ops b all (⟨d, .call ⟨.builtin .append, #[s, x], ts⟩, ty, pos, af, none⟩ :: l) :: k) σ g n m Q :=
  w_call (by
    have hm : (#[s, x] : Array Operand).toList.map (ev σ) = [.slice none 0 0, .slice (some ⟨j, off, none⟩) kk cc] := by simp [hs, hx]
    simp only [callOf, hm, builtin1, ht, Option.bind_some, appendTo, he, hz, hb, lenOf, lenList, hg, hn, ha, if_true]
    rw [if_neg hk, if_pos hl]; rfl) h
/-- Onto what there is. -/
theorem w_app1 {s x : Operand} {ts : Array TypeId} {t e e' : TypeId} {sz by_ i off0 n0 c0 j off kk cc : Nat} {vs0 os vs ns : List Value} (hs : ev σ s = .slice (some ⟨i, off0, none⟩) n0 c0) (hx : ev σ x = .slice (some ⟨j, off, none⟩) kk cc) (ht : ts[0]? = some t) (he : elemOf P t = some e) (hz : szOf P e = some sz) (hb : bytesOf P e = some by_) (hg0 : g i = some (.cells e vs0)) (ho : rdCells vs0 off0 (n0 * sz) = some os) (hg : g j = some (.cells e' vs)) (hn : rdCells vs off (kk * sz) = some ns) (ha : appendable P ts[1]? e sz (.slice (some ⟨j, off, none⟩) kk cc) ns = true) (hk : kk ≠ 0) (hl : (n0 + kk) * by_ ≤ 140737488355328 ∧ n0 + kk ≤ 4611686018427387904 ∧ m ≤ i)
    (h : Go P T fn (.ops b all l :: k) (put d (slc n 0 (n0 + kk)) σ) (upd (upd g i none) n (some (.cells e (os ++ ns)))) (n + 1) m Q) : Go P T fn (.ops b all (⟨d, .call ⟨.builtin .append, #[s, x], ts⟩, ty, pos, af, none⟩ :: l) :: k) σ g n m Q :=
  w_call (by
    have hm : (#[s, x] : Array Operand).toList.map (ev σ) = [.slice (some ⟨i, off0, none⟩) n0 c0, .slice (some ⟨j, off, none⟩) kk cc] := by simp [hs, hx]
    simp only [callOf, hm, builtin1, ht, Option.bind_some, appendTo, he, hz, hb, lenOf, lenList, hg, hn, ha, if_true]
    rw [if_neg hk, if_pos hl]
    simp only [hg0, ho, if_true, Option.map_some]
    rfl) h
end
end
end Go.L1
