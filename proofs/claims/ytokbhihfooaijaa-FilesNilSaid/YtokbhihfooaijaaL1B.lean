/- The interpreter, whole: regions that draw their order, code, calls, loops; without a bound on rounds (a limit). -/
import Derived.Test.YtokbhihfooaijaaL1A
import Derived.Orders
namespace Go.L1
set_option linter.unusedVariables false
-- ---- a region that draws its order: which operations wait for which; what can be told ahead
def maskOf (acc : List Nat) (o : Oper) : Nat := o.after.toList.foldl (fun s e => if Region.binds .any e then s ||| 2 ^ e.on ||| acc.getD e.on 0 else s) 0
def masks : List Oper → List Nat → List Nat
  | [], acc => acc
  | o :: l, acc => masks l (acc ++ [maskOf acc o])
def ahead (ms : List Nat) (i j : Nat) : Bool := (ms.getD j 0).testBit i
def bareOf (P : Program) (t : TypeId) : Bool := match P.underlying t with | some .unsafePointer => true | _ => false
/-- 0: hangs on no memory; 1: reads memory, turns nothing; 2: may turn it. -/
def sortOf (P : Program) (quiet : FuncId → Bool) : Op → Nat
  | .move _ | .assign _ | .pick .. | .build .. | .binOp .. | .unOp .. | .makeInterface .. | .makeFunc .. | .fieldAddr .. | .field .. | .indexAddr .. | .index .. | .nilCheck _ | .extract .. => 0
  | .load .. | .lookup .. => 1
  | .slice t _ _ _ _ => match P.underlying t with | some .string => 0 | _ => 1
  | .convert s d _ => if (elemOf P d).isSome then 2 else if (elemOf P s).isSome || bareOf P s || bareOf P d then 1 else 0
  | .call { callee := .builtin b, .. } => match b with | .min | .max | .unsafeSliceData => 0 | .len => 1 | _ => 2
  | .call { callee := .value (.func g), .. } => if quiet g then 1 else 2
  | _ => 2
def pairsOf (n : Nat) : List (Nat × Nat) := (List.range n).flatMap fun i => (List.range n).map fun j => (i, j)
def opAt (l : List Oper) (i : Nat) : Oper := l.getD i default
/-- Every slot is written once. -/
def once : List Oper → Bool
  | [] => true
  | o :: rest => (rest.all fun q => match q.dst with | some d => o.dst != some d | none => true) && once rest
def planOk (P : Program) (quiet : FuncId → Bool) (ops : Array Oper) : Bool :=
  let l := ops.toList
  let ms := masks l []
  (List.range l.length).all (fun i => (opAt l i).after.toList.all fun e => !Region.binds .any e || decide (e.on < i)) &&
  once l &&
  (pairsOf l.length).all fun p =>
    p.1 == p.2 ||
    ((match (opAt l p.2).dst with
      | some d => !(Oper.looksAt ops (opAt l p.1)).contains d || ahead ms p.2 p.1 || ahead ms p.1 p.2
      | none => true) &&
     (!(sortOf P quiet (opAt l p.1).op == 2 && sortOf P quiet (opAt l p.2).op == 2) || ahead ms p.1 p.2 || ahead ms p.2 p.1))
/-- The readers, each with the turns that it doesn't wait for, nor they for it. -/
def planOf (P : Program) (quiet : FuncId → Bool) (ops : Array Oper) : List (Nat × Nat) :=
  let l := ops.toList
  let ms := masks l []
  (pairsOf l.length).filter fun p => sortOf P quiet (opAt l p.1).op == 1 && sortOf P quiet (opAt l p.2).op == 2 && !ahead ms p.1 p.2 && !ahead ms p.2 p.1
/-- The turn is the first, and makes something new: what a reader ahead of it in the text reads was there. -/
def fresh1 (P : Program) (quiet : FuncId → Bool) (l : List Oper) (p : Nat × Nat) : Bool :=
  decide (p.1 < p.2) && (match (opAt l p.1).op with | .load .. => true | _ => false) && (match (opAt l p.2).op with | .buildSlice .. => true | _ => false) && (List.range p.2).all fun j => !(sortOf P quiet (opAt l j).op == 2)
def planNow (P : Program) (quiet : FuncId → Bool) (ops : Array Oper) : List (Nat × Nat) := (planOf P quiet ops).filter fun p => !fresh1 P quiet ops.toList p
/-- In the text's order; what stands ahead of each, and behind the last. -/
def traceOps (P : Program) (call : Fns) (all : Array Oper) : List Oper → Env → Hp → Option (List (Env × Hp))
  | [], σ, H => some [(σ, H)]
  | o :: rest, σ, H => if Region.wanted o (yield1 all σ) then (step1 P call o σ H).bind fun r => match r.1 with
      | .returned v => (traceOps P call all rest (put o.dst v σ) r.2).map fun q => (σ, H) :: q
      | _ => none
    else (traceOps P call all rest (put o.dst undef σ) H).map fun q => (σ, H) :: q
def d0 : Env × Hp := (fun _ => undef, ⟨fun _ => none, 0, 0⟩)
/-- A reader reads the same ahead of a turn, or behind it. -/
def chk (P : Program) (call : Fns) (ops : Array Oper) (q : List (Env × Hp)) (p : Nat × Nat) : Prop :=
  let o := opAt ops.toList p.1
  let s := q.getD p.1 d0
  let Hx := (q.getD (if p.2 < p.1 then p.2 else p.2 + 1) d0).2
  Region.wanted o (yield1 ops s.1) = true → ∃ e H', step1 P call o s.1 s.2 = some (e, H') ∧ step1 P call o s.1 Hx = some (e, Hx)
open Classical in
noncomputable def execDraw (P : Program) (quiet : FuncId → Bool) (call : Fns) (ops : Array Oper) (σ : Env) (H : Hp) : Option (Exit × Env × Hp) :=
  if planOk P quiet ops = true then
    (traceOps P call ops ops.toList σ H).bind fun q => if ∀ p ∈ planNow P quiet ops, chk P call ops q p then some (.normal, q.getLastD (σ, H)) else none
  else none
-- ---- code
structure Tb where   -- what is known of the functions: own contracts; those that write nothing that was there; those that hand back no place, too; those to which rows go, and from which they come, by their cells
  ok : FuncId → Bool
  ext : FuncId → Option (List Value → Hp → Option (Ending × Hp))
  clean : FuncId → Bool
  quiet : FuncId → Bool
  froz : FuncId → Bool := fun _ => false
/-- The assignments of a round end in no jump. -/
def okAssign : Code → Bool
  | .skip | .label _ | .region .. => true
  | .seq a b => okAssign a && okAssign b
  | _ => false
def noRange : Code → Bool
  | .seq a b => noRange a && noRange b
  | .cond _ a b => noRange a && noRange b
  | .block _ c | .loop c | .scope c => noRange c
  | .rangeFunc .. => false
  | _ => true
def enterB (P : Program) (g : FuncId) : Bool := match P.funcs[g]? with | some fn => !(fn.name == "runtime.NumGoroutine") && fn.body.isSome | none => false
def setPs (ps : List Tmp) (args : List Value) (σ : Env) : Env := (ps.zip args).foldl (fun s p => put (some p.1) p.2 s) σ
/-- Behind the function that was ranged over: the jump that a round has left. -/
def endR (i : Nat) (σ : Env) (r : Ending × Hp) : Option (Exit × Env × Hp) := match r.1 with
  | .returned _ => (match r.2.get i with
    | some (.loop _ _ _ _ .busy _) => none
    | some (.loop _ _ _ _ _ none) => some (.normal, σ, r.2.put i none)
    | some (.loop _ _ _ _ _ (some .ret)) => some (.ret, σ, r.2.put i none)
    | some (.loop _ _ _ _ _ (some (.exit id))) => some (.exit id, σ, r.2.put i none)
    | _ => none)
  | .panicked ch => some (.panic ch, σ, r.2)
  | .outgrown => none
noncomputable def execC (P : Program) (T : Tb) (call : Fns) (lp : Lps) : Code → Env → Hp → Option (Exit × Env × Hp)
  | .skip, σ, H => some (.normal, σ, H)
  | .label _, σ, H => some (.normal, σ, H)
  | .region _ ops draw, σ, H => if draw then execDraw P T.quiet call ops σ H else execOps P call ops ops.toList σ H
  | .seq a b, σ, H => (execC P T call lp a σ H).bind fun r => match r.1 with | .normal => execC P T call lp b r.2.1 r.2.2 | _ => some r
  | .cond c x y, σ, H => match ev σ c with | .bool t => if t then execC P T call lp x σ H else execC P T call lp y σ H | _ => none
  | .block id c, σ, H => (execC P T call lp c σ H).map fun r => match r.1 with | .exit j => if j = id then (.normal, r.2) else r | _ => r
  | .loop c, σ, H => lp c σ H
  | .exit id, σ, H => some (.exit id, σ, H)
  | .scope c, σ, H => (execC P T call lp c σ H).bind fun r => match r.1 with | .goto _ => none | _ => some r
  | .ret, σ, H => some (.ret, σ, H)
  | .rangeFunc f ps a b, σ, H => match ev σ f with
    | .func (.func g) first caps => if enterB P g && okAssign a && noRange b then (call.fn g (first.toList ++ [.func (.yield H.next) #[] #[]] ++ caps.toList) (H.new (.loop σ ps.toList a b .ready none))).bind (endR H.next σ) else none
    | _ => none
  | _, _, _ => none
def resList (P : Program) (σ : Env) (H : Hp) : List ResultVar → Option (List Value)
  | [] => some []
  | .tmp t :: l => (resList P σ H l).map fun r => σ t :: r
  | .cell a t :: l => (loadAt P t (σ a) H).bind fun v => (resList P σ H l).map fun r => v :: r
def packed : List Value → Value | [v] => v | l => .tuple l.toArray
def leave (P : Program) (fn : Func) (r : Exit × Env × Hp) : Option (Ending × Hp) := match r.1 with
  | .normal | .ret => (resList P r.2.1 r.2.2 fn.results.toList).map fun l => (.returned (packed l), r.2.2)
  | .panic ch => some (.panicked ch, r.2.2)
  | _ => none
/-- A place below a number. -/
def place (n : Nat) : Value → Bool | .pointer (some ⟨i, _, none⟩) => decide (i < n) | _ => false
theorem place_is {n : Nat} {v : Value} (h : place n v = true) : ∃ i off, v = .pointer (some ⟨i, off, none⟩) ∧ i < n := by
  unfold place at h
  split at h
  · exact ⟨_, _, rfl, of_decide_eq_true h⟩
  · cases h
def fenced (q : Bool) (H : Hp) (r : Ending × Hp) : Option (Ending × Hp) := match r.1 with
  | .returned v => if flat v then some (.returned v, H) else if q then (if place H.next v then some (.returned v, H) else none) else some (.returned v, ⟨r.2.get, r.2.next, H.mark⟩)
  | .panicked ch => some (.panicked ch, H)
  | .outgrown => none
def iced (P : Program) (H : Hp) (r : Ending × Hp) : Option (Ending × Hp) := match r.1 with
  | .returned v => (freeze P r.2.get #[] H.next 9 v).map fun v => (.returned v, H)
  | .panicked ch => some (.panicked ch, H)
  | .outgrown => none
noncomputable def runWith (P : Program) (T : Tb) (call : Fns) (lp : Lps) (F : FuncId) (args : List Value) (H : Hp) : Option (Ending × Hp) :=
  match T.ext F with
  | some g => g args H
  | none => (P.funcs[F]?).bind fun fn => fn.body.bind fun c => if !(T.ok F && decide (args.length ≤ fn.ntmps)) then none else
    if T.froz F then (if T.clean F then (args.mapM (freeze P H.get tg 0 9)).bind fun args => ((execC P T call lp c (fun i => args.getD i undef) ⟨H.get, H.next, H.next⟩).bind (leave P fn)).bind (iced P H) else none)
    else if T.clean F then ((execC P T call lp c (fun i => args.getD i undef) ⟨H.get, H.next, H.next⟩).bind (leave P fn)).bind (fenced (T.quiet F) H)
    else if T.quiet F then none else (execC P T call lp c (fun i => args.getD i undef) H).bind (leave P fn)
noncomputable def round (P : Program) (T : Tb) (call : Fns) (lp : Lps) (c : Code) (σ : Env) (H : Hp) : Option (Exit × Env × Hp) :=
  (execC P T call lp c σ H).bind fun r => match r.1 with | .normal => lp c r.2.1 r.2.2 | _ => some r
/-- A round's end. -/
def endY (i : Nat) (r : Exit × Env × Hp) : Option (Ending × Hp) := match r.2.2.get i with
  | some (.loop s p a b _ _) => (match r.1 with
    | .normal => some (.returned (.bool true), r.2.2.put i (some (.loop s p a b .ready none)))
    | .ret => some (.returned (.bool false), r.2.2.put i (some (.loop s p a b .done (some .ret))))
    | .exit id => some (.returned (.bool false), r.2.2.put i (some (.loop s p a b .done (some (.exit id)))))
    | _ => none)
  | _ => none
def busyAt (i : Nat) (H : Hp) : Option Hp := match H.get i with
  | some (.loop s p a b .ready pe) => some (H.put i (some (.loop s p a b .busy pe)))
  | _ => none
noncomputable def yieldWith (P : Program) (T : Tb) (call : Fns) (lp : Lps) (i : Nat) (args : List Value) (H : Hp) : Option (Ending × Hp) := match H.get i with
  | some (.loop σ0 ps a b .ready _) => if H.mark ≤ i ∧ args.length = ps.length then
      (execC P T call lp a (setPs ps args σ0) H).bind fun r => match r.1 with
        | .normal => (busyAt i r.2.2).bind fun H' => (execC P T call lp b r.2.1 H').bind (endY i)
        | _ => none
    else none
  | _ => none
noncomputable def both (P : Program) (T : Tb) : Nat → Fns × Lps
  | 0 => (⟨fun _ _ _ => none, fun _ _ _ => none⟩, fun _ _ _ => none)
  | k + 1 => (⟨runWith P T (both P T k).1 (both P T k).2, yieldWith P T (both P T k).1 (both P T k).2⟩, round P T (both P T k).1 (both P T k).2)

open Classical in
/-- What comes once there are rounds enough. -/
noncomputable def lim {α : Type} (f : Nat → Option α) : Option α := if h : ∃ r k, f k = some r then some (Classical.choose h) else none
noncomputable def run (P : Program) (T : Tb) : Fns := ⟨fun F a H => lim fun k => (both P T k).1.fn F a H, fun i a H => lim fun k => (both P T k).1.yl i a H⟩
noncomputable def loop (P : Program) (T : Tb) : Lps := fun c σ H => lim fun k => (both P T k).2 c σ H
-- ---- more rounds, no other answer
def Le {α : Type} (x y : Option α) : Prop := ∀ r, x = some r → y = some r
theorem Le.refl {α : Type} (x : Option α) : Le x x := fun _ h => h
theorem Le.bind {α β : Type} {x y : Option α} {f g : α → Option β} (h : Le x y) (hf : ∀ a, Le (f a) (g a)) : Le (x.bind f) (y.bind g) := by
  intro r hr
  obtain ⟨a, ha, hb⟩ := Option.bind_eq_some_iff.1 hr
  rw [h a ha]; exact hf a r hb
theorem Le.map {α β : Type} {x y : Option α} (f : α → β) (h : Le x y) : Le (x.map f) (y.map f) := by
  intro r hr
  obtain ⟨a, ha, hb⟩ := Option.map_eq_some_iff.1 hr
  rw [h a ha]; exact congrArg some hb
variable {P : Program} {T : Tb}
def LeF (f g : Fns) : Prop := (∀ F a H, Le (f.fn F a H) (g.fn F a H)) ∧ ∀ i a H, Le (f.yl i a H) (g.yl i a H)
def LeL (f g : Lps) : Prop := ∀ c σ H, Le (f c σ H) (g c σ H)
theorem callOf_le {f g : Fns} (h : LeF f g) (σ : Env) (c : Call) (H : Hp) : Le (callOf P f σ c H) (callOf P g σ c H) := by
  unfold callOf
  split
  · exact Le.refl _
  · split
    · exact h.1 _ _ _
    · split
      · exact h.2 _ _ _
      · exact Le.refl _
    · exact Le.refl _
  · exact Le.refl _
theorem step1_le {f g : Fns} (h : LeF f g) (o : Oper) (σ : Env) (H : Hp) : Le (step1 P f o σ H) (step1 P g o σ H) := by
  unfold step1
  split
  · exact callOf_le h _ _ _
  · exact Le.refl _
  · exact Le.refl _
theorem execOps_le {f g : Fns} (h : LeF f g) (all : Array Oper) : ∀ (l : List Oper) (σ : Env) (H : Hp), Le (execOps P f all l σ H) (execOps P g all l σ H)
  | [], _, _ => Le.refl _
  | o :: l, σ, H => by
    unfold execOps
    split
    · refine Le.bind (step1_le h o σ H) fun r => ?_
      split
      · exact execOps_le h all l _ _
      · exact Le.refl _
      · exact Le.refl _
    · exact execOps_le h all l _ _
theorem traceOps_le {f g : Fns} (h : LeF f g) (all : Array Oper) : ∀ (l : List Oper) (σ : Env) (H : Hp), Le (traceOps P f all l σ H) (traceOps P g all l σ H)
  | [], _, _ => Le.refl _
  | o :: l, σ, H => by
    unfold traceOps
    split
    · refine Le.bind (step1_le h o σ H) fun r => ?_
      split
      · exact Le.map _ (traceOps_le h all l _ _)
      · exact Le.refl _
    · exact Le.map _ (traceOps_le h all l _ _)
theorem execDraw_le {f g : Fns} (h : LeF f g) (q : FuncId → Bool) (ops : Array Oper) (σ : Env) (H : Hp) : Le (execDraw P q f ops σ H) (execDraw P q g ops σ H) := by
  unfold execDraw
  split
  · refine Le.bind (traceOps_le h ops _ σ H) fun r => ?_
    intro z hz
    split at hz
    · rename_i hc
      have hc' : ∀ p ∈ planNow P q ops, chk P g ops r p := fun p hp hw => let ⟨e, H', h1, h2⟩ := hc p hp hw; ⟨e, H', step1_le h _ _ _ _ h1, step1_le h _ _ _ _ h2⟩
      rw [if_pos hc']
      exact hz
    · cases hz
  · exact Le.refl _
theorem execC_le {f g : Fns} {l m : Lps} (h : LeF f g) (hl : LeL l m) : ∀ (c : Code) (σ : Env) (H : Hp), Le (execC P T f l c σ H) (execC P T g m c σ H) := by
  intro c
  induction c with
  | region id ops draw =>
    intro σ H
    unfold execC
    split
    · exact execDraw_le h _ ops σ H
    · exact execOps_le h ops _ σ H
  | seq a b iha ihb =>
    intro σ H
    unfold execC
    refine Le.bind (iha σ H) fun r => ?_
    split
    · exact ihb _ _
    · exact Le.refl _
  | cond c x y ihx ihy =>
    intro σ H
    unfold execC
    split
    · split
      · exact ihx σ H
      · exact ihy σ H
    · exact Le.refl _
  | block id c ih => intro σ H; unfold execC; exact Le.map _ (ih σ H)
  | loop c ih => intro σ H; unfold execC; exact hl c σ H
  | scope c ih => intro σ H; unfold execC; exact Le.bind (ih σ H) fun r => Le.refl _
  | rangeFunc f ps a b =>
    intro σ H
    unfold execC
    split
    · split
      · exact Le.bind (h.1 _ _ _) fun r => Le.refl _
      · exact Le.refl _
    · exact Le.refl _
  | _ => intro σ H; exact Le.refl _
theorem yieldWith_le {f g : Fns} {l m : Lps} (h : LeF f g) (hl : LeL l m) (i : Nat) (a : List Value) (H : Hp) : Le (yieldWith P T f l i a H) (yieldWith P T g m i a H) := by
  unfold yieldWith
  split
  · split
    · refine Le.bind (execC_le h hl _ _ _) fun r => ?_
      split
      · exact Le.bind (Le.refl _) fun _ => Le.bind (execC_le h hl _ _ _) fun _ => Le.refl _
      · exact Le.refl _
    · exact Le.refl _
  · exact Le.refl _
theorem runWith_le {f g : Fns} {l m : Lps} (h : LeF f g) (hl : LeL l m) (F : FuncId) (a : List Value) (H : Hp) : Le (runWith P T f l F a H) (runWith P T g m F a H) := by
  unfold runWith
  split
  · exact Le.refl _
  · refine Le.bind (Le.refl _) fun fn => Le.bind (Le.refl _) fun c => ?_
    split
    · exact Le.refl _
    split
    · split
      · exact Le.bind (Le.refl _) fun _ => Le.bind (Le.bind (execC_le h hl c _ _) fun _ => Le.refl _) fun _ => Le.refl _
      · exact Le.refl _
    · split
      · exact Le.bind (Le.bind (execC_le h hl c _ _) fun _ => Le.refl _) fun _ => Le.refl _
      · split
        · exact Le.refl _
        · exact Le.bind (execC_le h hl c _ _) fun _ => Le.refl _
theorem round_le {f g : Fns} {l m : Lps} (h : LeF f g) (hl : LeL l m) : LeL (round P T f l) (round P T g m) := by
  intro c σ H
  unfold round
  refine Le.bind (execC_le h hl c σ H) fun r => ?_
  split
  · exact hl _ _ _
  · exact Le.refl _
theorem both_succ (k : Nat) : LeF (both P T k).1 (both P T (k + 1)).1 ∧ LeL (both P T k).2 (both P T (k + 1)).2 := by
  induction k with
  | zero => exact ⟨⟨fun _ _ _ _ h => (by cases h), fun _ _ _ _ h => (by cases h)⟩, fun _ _ _ _ h => (by cases h)⟩
  | succ k ih => exact ⟨⟨runWith_le ih.1 ih.2, yieldWith_le ih.1 ih.2⟩, round_le ih.1 ih.2⟩
theorem both_le {k m : Nat} (h : k ≤ m) : LeF (both P T k).1 (both P T m).1 ∧ LeL (both P T k).2 (both P T m).2 := by
  induction h with
  | refl => exact ⟨⟨fun _ _ _ => Le.refl _, fun _ _ _ => Le.refl _⟩, fun _ _ _ => Le.refl _⟩
  | step _ ih => exact ⟨⟨fun F a H r hr => (both_succ _).1.1 _ _ _ _ (ih.1.1 F a H r hr), fun F a H r hr => (both_succ _).1.2 _ _ _ _ (ih.1.2 F a H r hr)⟩, fun F a H r hr => (both_succ _).2 _ _ _ _ (ih.2 F a H r hr)⟩
theorem lim_eq {α : Type} {f : Nat → Option α} (hm : ∀ k m, k ≤ m → Le (f k) (f m)) {r : α} : lim f = some r ↔ ∃ k, f k = some r := by
  unfold lim
  constructor
  · intro h
    split at h
    · rename_i hx
      obtain ⟨k, hk⟩ := Classical.choose_spec hx
      exact ⟨k, by rw [hk]; exact h⟩
    · cases h
  · rintro ⟨k, hk⟩
    have hx : ∃ r k, f k = some r := ⟨r, k, hk⟩
    rw [dif_pos hx]
    obtain ⟨m, hmm⟩ := Classical.choose_spec hx
    have h1 := hm k (max k m) (Nat.le_max_left _ _) _ hk
    have h2 := hm m (max k m) (Nat.le_max_right _ _) _ hmm
    rw [h1] at h2
    exact h2.symm
theorem run_iff {F : FuncId} {a : List Value} {H : Hp} {r : Ending × Hp} : run P T F a H = some r ↔ ∃ k, (both P T k).1 F a H = some r :=
  lim_eq (f := fun k => (both P T k).1.fn F a H) fun k m h => (both_le h).1.1 F a H
theorem yl_iff {i : Nat} {a : List Value} {H : Hp} {r : Ending × Hp} : (run P T).yl i a H = some r ↔ ∃ k, (both P T k).1.yl i a H = some r :=
  lim_eq (f := fun k => (both P T k).1.yl i a H) fun k m h => (both_le h).1.2 i a H
theorem loop_iff {c : Code} {σ : Env} {H : Hp} {r : Exit × Env × Hp} : loop P T c σ H = some r ↔ ∃ k, (both P T k).2 c σ H = some r :=
  lim_eq (f := fun k => (both P T k).2 c σ H) fun k m h => (both_le h).2 c σ H
theorem le_run (k : Nat) : LeF (both P T k).1 (run P T) := ⟨fun F a H r h => run_iff.2 ⟨k, h⟩, fun i a H r h => yl_iff.2 ⟨k, h⟩⟩
theorem le_loop (k : Nat) : LeL (both P T k).2 (loop P T) := fun F a H r h => loop_iff.2 ⟨k, h⟩
-- ---- what the limit answers, some bound answers
/-- A step of what is asked: where the limit answers, from some bound on the bound answers. -/
def Some {α : Type} (x : Option α) (f : Nat → Option α) : Prop := (∀ k m, k ≤ m → Le (f k) (f m)) ∧ ∀ r, x = some r → ∃ k, f k = some r
theorem Some.const {α : Type} (x : Option α) : Some x fun _ => x := ⟨fun _ _ _ => Le.refl _, fun r h => ⟨0, h⟩⟩
theorem Some.bind {α β : Type} {x : Option α} {f : Nat → Option α} {y : α → Option β} {g : Nat → α → Option β} (h : Some x f) (hg : ∀ a, Some (y a) fun k => g k a) : Some (x.bind y) fun k => (f k).bind (g k) := by
  refine ⟨fun k m hkm => Le.bind (h.1 k m hkm) fun a => (hg a).1 k m hkm, fun r hr => ?_⟩
  obtain ⟨a, ha, hb⟩ := Option.bind_eq_some_iff.1 hr
  obtain ⟨k, hk⟩ := h.2 a ha
  obtain ⟨m, hm⟩ := (hg a).2 r hb
  refine ⟨max k m, ?_⟩
  show (f (max k m)).bind (g (max k m)) = some r
  rw [h.1 k (max k m) (Nat.le_max_left _ _) _ hk]
  exact (hg a).1 m _ (Nat.le_max_right _ _) _ hm
theorem Some.map {α β : Type} {x : Option α} {f : Nat → Option α} (y : α → β) (h : Some x f) : Some (x.map y) fun k => (f k).map y := by
  refine ⟨fun k m hkm => Le.map y (h.1 k m hkm), fun r hr => ?_⟩
  obtain ⟨a, ha, hb⟩ := Option.map_eq_some_iff.1 hr
  obtain ⟨k, hk⟩ := h.2 a ha
  exact ⟨k, by simp [hk, hb]⟩
theorem Some.run (F : FuncId) (a : List Value) (H : Hp) : Some (run P T F a H) fun k => (both P T k).1 F a H :=
  ⟨fun k m h => (both_le h).1.1 F a H, fun r h => run_iff.1 h⟩
theorem Some.yl (i : Nat) (a : List Value) (H : Hp) : Some ((L1.run P T).yl i a H) fun k => (both P T k).1.yl i a H :=
  ⟨fun k m h => (both_le h).1.2 i a H, fun r h => yl_iff.1 h⟩
theorem Some.loop (c : Code) (σ : Env) (H : Hp) : Some (loop P T c σ H) fun k => (both P T k).2 c σ H :=
  ⟨fun k m h => (both_le h).2 c σ H, fun r h => loop_iff.1 h⟩
theorem callOf_some (σ : Env) (c : Call) (H : Hp) : Some (callOf P (run P T) σ c H) fun k => callOf P (both P T k).1 σ c H := by
  unfold callOf
  split
  · exact Some.const _
  · split
    · exact Some.run _ _ _
    · split
      · exact Some.yl _ _ _
      · exact Some.const _
    · exact Some.const _
  · exact Some.const _
theorem step1_some (o : Oper) (σ : Env) (H : Hp) : Some (step1 P (run P T) o σ H) fun k => step1 P (both P T k).1 o σ H := by
  unfold step1
  split
  · exact callOf_some _ _ _
  · exact Some.const _
  · exact Some.const _
theorem execOps_some (all : Array Oper) : ∀ (l : List Oper) (σ : Env) (H : Hp), Some (execOps P (run P T) all l σ H) fun k => execOps P (both P T k).1 all l σ H
  | [], _, _ => Some.const _
  | o :: l, σ, H => by
    unfold execOps
    split
    · refine Some.bind (step1_some o σ H) fun r => ?_
      split
      · exact execOps_some all l _ _
      · exact Some.const _
      · exact Some.const _
    · exact execOps_some all l _ _
theorem traceOps_some (all : Array Oper) : ∀ (l : List Oper) (σ : Env) (H : Hp), Some (traceOps P (run P T) all l σ H) fun k => traceOps P (both P T k).1 all l σ H
  | [], _, _ => Some.const _
  | o :: l, σ, H => by
    unfold traceOps
    split
    · refine Some.bind (step1_some o σ H) fun r => ?_
      split
      · exact Some.map _ (traceOps_some all l _ _)
      · exact Some.const _
    · exact Some.map _ (traceOps_some all l _ _)
theorem chk_le {f g : Fns} (h : LeF f g) {ops : Array Oper} {q : List (Env × Hp)} {p : Nat × Nat} (hc : chk P f ops q p) : chk P g ops q p :=
  fun hw => let ⟨e, H', h1, h2⟩ := hc hw; ⟨e, H', step1_le h _ _ _ _ h1, step1_le h _ _ _ _ h2⟩
theorem chk_some (ops : Array Oper) (q : List (Env × Hp)) : ∀ l : List (Nat × Nat), (∀ p ∈ l, chk P (run P T) ops q p) → ∃ k, ∀ p ∈ l, chk P (both P T k).1 ops q p
  | [], _ => ⟨0, fun _ h => by cases h⟩
  | p :: l, h => by
    obtain ⟨k, hk⟩ := chk_some ops q l fun q hq => h q (.tail _ hq)
    have hp := h p (.head _)
    by_cases hw : Region.wanted (opAt ops.toList p.1) (yield1 ops (q.getD p.1 d0).1) = true
    · obtain ⟨e, H', h1, h2⟩ := hp hw
      obtain ⟨m1, hm1⟩ := (step1_some _ _ _).2 _ h1
      obtain ⟨m2, hm2⟩ := (step1_some _ _ _).2 _ h2
      refine ⟨max k (max m1 m2), fun r hr => ?_⟩
      cases hr with
      | head => exact fun _ => ⟨e, H', (step1_some _ _ _).1 m1 _ (Nat.le_trans (Nat.le_max_left _ _) (Nat.le_max_right _ _)) _ hm1, (step1_some _ _ _).1 m2 _ (Nat.le_trans (Nat.le_max_right _ _) (Nat.le_max_right _ _)) _ hm2⟩
      | tail _ hr => exact chk_le (both_le (Nat.le_max_left _ _)).1 (hk r hr)
    · refine ⟨k, fun r hr => ?_⟩
      cases hr with
      | head => exact fun hwq => absurd hwq hw
      | tail _ hr => exact hk r hr
theorem execDraw_some (q : FuncId → Bool) (ops : Array Oper) (σ : Env) (H : Hp) : Some (execDraw P q (run P T) ops σ H) fun k => execDraw P q (both P T k).1 ops σ H := by
  refine ⟨fun k m hkm => execDraw_le (both_le hkm).1 q ops σ H, fun r hr => ?_⟩
  unfold execDraw at hr
  split at hr
  · rename_i hp
    obtain ⟨a, ha, hb⟩ := Option.bind_eq_some_iff.1 hr
    obtain ⟨k, hk⟩ := (traceOps_some ops _ σ H).2 a ha
    split at hb
    · rename_i hc
      obtain ⟨m, hm⟩ := chk_some ops a _ hc
      refine ⟨max k m, ?_⟩
      show execDraw P q (both P T (max k m)).1 ops σ H = some r
      unfold execDraw
      have ht : traceOps P (both P T (max k m)).1 ops ops.toList σ H = some a := (traceOps_some ops _ σ H).1 k (max k m) (Nat.le_max_left _ _) _ hk
      rw [if_pos hp, ht, Option.bind_some]
      have hc' : ∀ p ∈ planNow P q ops, chk P (both P T (max k m)).1 ops a p := fun p hp' => chk_le (both_le (Nat.le_max_right _ _)).1 (hm p hp')
      rw [if_pos hc']
      exact hb
    · cases hb
  · cases hr
theorem execC_some : ∀ (c : Code) (σ : Env) (H : Hp), Some (execC P T (run P T) (loop P T) c σ H) fun k => execC P T (both P T k).1 (both P T k).2 c σ H := by
  intro c
  induction c with
  | region id ops draw =>
    intro σ H
    unfold execC
    split
    · exact execDraw_some _ ops σ H
    · exact execOps_some ops _ σ H
  | seq a b iha ihb =>
    intro σ H
    unfold execC
    refine Some.bind (iha σ H) fun r => ?_
    split
    · exact ihb _ _
    · exact Some.const _
  | cond c x y ihx ihy =>
    intro σ H
    unfold execC
    split
    · split
      · exact ihx σ H
      · exact ihy σ H
    · exact Some.const _
  | block id c ih => intro σ H; unfold execC; exact Some.map _ (ih σ H)
  | loop c ih => intro σ H; unfold execC; exact Some.loop c σ H
  | scope c ih => intro σ H; unfold execC; exact Some.bind (ih σ H) fun r => Some.const _
  | rangeFunc f ps a b =>
    intro σ H
    unfold execC
    split
    · split
      · exact Some.bind (Some.run _ _ _) fun r => Some.const _
      · exact Some.const _
    · exact Some.const _
  | _ => intro σ H; exact Some.const _
theorem runWith_some (F : FuncId) (a : List Value) (H : Hp) : Some (runWith P T (run P T) (loop P T) F a H) fun k => runWith P T (both P T k).1 (both P T k).2 F a H := by
  unfold runWith
  split
  · exact Some.const _
  · refine Some.bind (Some.const _) fun fn => Some.bind (Some.const _) fun c => ?_
    split
    · exact Some.const _
    split
    · split
      · exact Some.bind (Some.const _) fun _ => Some.bind (Some.bind (execC_some c _ _) fun _ => Some.const _) fun _ => Some.const _
      · exact Some.const _
    · split
      · exact Some.bind (Some.bind (execC_some c _ _) fun _ => Some.const _) fun _ => Some.const _
      · split
        · exact Some.const _
        · exact Some.bind (execC_some c _ _) fun _ => Some.const _
theorem yieldWith_some (i : Nat) (a : List Value) (H : Hp) : Some (yieldWith P T (run P T) (loop P T) i a H) fun k => yieldWith P T (both P T k).1 (both P T k).2 i a H := by
  unfold yieldWith
  split
  · split
    · refine Some.bind (execC_some _ _ _) fun r => ?_
      split
      · exact Some.bind (Some.const _) fun _ => Some.bind (execC_some _ _ _) fun _ => Some.const _
      · exact Some.const _
    · exact Some.const _
  · exact Some.const _
theorem round_some (c : Code) (σ : Env) (H : Hp) : Some (round P T (run P T) (loop P T) c σ H) fun k => round P T (both P T k).1 (both P T k).2 c σ H := by
  unfold round
  refine Some.bind (execC_some c σ H) fun r => ?_
  split
  · exact Some.loop _ _ _
  · exact Some.const _
theorem ext_some {α : Type} {x y : Option α} (h : ∀ r, x = some r ↔ y = some r) : x = y := by
  cases x with
  | none => cases y with
    | none => rfl
    | some b => exact ((h b).2 rfl)
  | some a => exact ((h a).1 rfl).symm
/-- **A call is its body.** -/
theorem run_eq (F : FuncId) (a : List Value) (H : Hp) : run P T F a H = runWith P T (run P T) (loop P T) F a H := by
  refine ext_some fun r => ⟨fun h => ?_, fun h => ?_⟩
  · obtain ⟨k, hk⟩ := run_iff.1 h
    cases k with
    | zero => cases hk
    | succ k => exact runWith_le (le_run k) (le_loop k) F a H r hk
  · obtain ⟨k, hk⟩ := (runWith_some F a H).2 r h
    exact run_iff.2 ⟨k + 1, hk⟩
/-- **A round of a loop over a function is what it assigns, and its body.** -/
theorem yl_eq (i : Nat) (a : List Value) (H : Hp) : (run P T).yl i a H = yieldWith P T (run P T) (loop P T) i a H := by
  refine ext_some fun r => ⟨fun h => ?_, fun h => ?_⟩
  · obtain ⟨k, hk⟩ := yl_iff.1 h
    cases k with
    | zero => cases hk
    | succ k => exact yieldWith_le (le_run k) (le_loop k) i a H r hk
  · obtain ⟨k, hk⟩ := (yieldWith_some i a H).2 r h
    exact yl_iff.2 ⟨k + 1, hk⟩
/-- **A loop is a round, and the loop.** -/
theorem loop_eq (c : Code) (σ : Env) (H : Hp) : loop P T c σ H = round P T (run P T) (loop P T) c σ H := by
  refine ext_some fun r => ⟨fun h => ?_, fun h => ?_⟩
  · obtain ⟨k, hk⟩ := loop_iff.1 h
    cases k with
    | zero => cases hk
    | succ k => exact round_le (le_run k) (le_loop k) c σ H r hk
  · obtain ⟨k, hk⟩ := (round_some c σ H).2 r h
    exact loop_iff.2 ⟨k + 1, hk⟩
end Go.L1
