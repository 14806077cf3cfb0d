/- The interpreter in a form that the kernel can run: a region that draws its order must have no reader beside a turn. -/
import Derived.Test.YtokbhihfooaijaaL1W
namespace Go.L1
set_option linter.unusedVariables false
def execDrawK (P : Program) (quiet : FuncId → Bool) (call : Fns) (ops : Array Oper) (σ : Env) (H : Hp) : Option (Exit × Env × Hp) :=
  if planOk P quiet ops && (planNow P quiet ops).isEmpty then (traceOps P call ops ops.toList σ H).bind fun q => some (.normal, q.getLastD (σ, H)) else none
def execCK (P : Program) (T : Tb) (call : Fns) (lp : Lps) : Code → Env → Hp → Option (Exit × Env × Hp)
  | .skip, σ, H => some (.normal, σ, H)
  | .label _, σ, H => some (.normal, σ, H)
  | .region _ ops draw, σ, H => if draw then execDrawK P T.quiet call ops σ H else execOps P call ops ops.toList σ H
  | .seq a b, σ, H => (execCK P T call lp a σ H).bind fun r => match r.1 with | .normal => execCK P T call lp b r.2.1 r.2.2 | _ => some r
  | .cond c x y, σ, H => match ev σ c with | .bool t => if t then execCK P T call lp x σ H else execCK P T call lp y σ H | _ => none
  | .block id c, σ, H => (execCK P T call lp c σ H).map fun r => match r.1 with | .exit j => if j = id then (.normal, r.2) else r | _ => r
  | .loop c, σ, H => lp c σ H
  | .exit id, σ, H => some (.exit id, σ, H)
  | .scope c, σ, H => (execCK P T call lp c σ H).bind fun r => match r.1 with | .goto _ => none | _ => some r
  | .ret, σ, H => some (.ret, σ, H)
  | .rangeFunc f ps a b, σ, H => match ev σ f with
    | .func (.func g) first caps => if enterB P g && okAssign a && noRange b then (call.fn g (first.toList ++ [.func (.yield H.next) #[] #[]] ++ caps.toList) (H.new (.loop σ ps.toList a b .ready none))).bind (endR H.next σ) else none
    | _ => none
  | _, _, _ => none
def runWithK (P : Program) (T : Tb) (call : Fns) (lp : Lps) (F : FuncId) (args : List Value) (H : Hp) : Option (Ending × Hp) :=
  match T.ext F with
  | some g => g args H
  | none => (P.funcs[F]?).bind fun fn => fn.body.bind fun c => if !(T.ok F && decide (args.length ≤ fn.ntmps)) then none else
    if T.froz F then (if T.clean F then (args.mapM (freeze P H.get tg 0 9)).bind fun args => ((execCK P T call lp c (fun i => args.getD i undef) ⟨H.get, H.next, H.next⟩).bind (leave P fn)).bind (iced P H) else none)
    else if T.clean F then ((execCK P T call lp c (fun i => args.getD i undef) ⟨H.get, H.next, H.next⟩).bind (leave P fn)).bind (fenced (T.quiet F) H)
    else if T.quiet F then none else (execCK P T call lp c (fun i => args.getD i undef) H).bind (leave P fn)
def roundK (P : Program) (T : Tb) (call : Fns) (lp : Lps) (c : Code) (σ : Env) (H : Hp) : Option (Exit × Env × Hp) :=
  (execCK P T call lp c σ H).bind fun r => match r.1 with | .normal => lp c r.2.1 r.2.2 | _ => some r
def yieldWithK (P : Program) (T : Tb) (call : Fns) (lp : Lps) (i : Nat) (args : List Value) (H : Hp) : Option (Ending × Hp) := match H.get i with
  | some (.loop σ0 ps a b .ready _) => if H.mark ≤ i ∧ args.length = ps.length then
      (execCK P T call lp a (setPs ps args σ0) H).bind fun r => match r.1 with
        | .normal => (busyAt i r.2.2).bind fun H' => (execCK P T call lp b r.2.1 H').bind (endY i)
        | _ => none
    else none
  | _ => none
def bothK (P : Program) (T : Tb) : Nat → Fns × Lps
  | 0 => (⟨fun _ _ _ => none, fun _ _ _ => none⟩, fun _ _ _ => none)
  | k + 1 => (⟨runWithK P T (bothK P T k).1 (bothK P T k).2, yieldWithK P T (bothK P T k).1 (bothK P T k).2⟩, roundK P T (bothK P T k).1 (bothK P T k).2)

section
variable {P : Program} {T : Tb}
theorem Le.trans {α : Type} {x y z : Option α} (h : Le x y) (h' : Le y z) : Le x z := fun r hr => h' r (h r hr)
theorem execDrawK_le (q : FuncId → Bool) (f : Fns) (ops : Array Oper) (σ : Env) (H : Hp) : Le (execDrawK P q f ops σ H) (execDraw P q f ops σ H) := by
  unfold execDrawK execDraw
  intro r hr
  split at hr
  · rename_i h
    rw [Bool.and_eq_true] at h
    rw [if_pos h.1]
    obtain ⟨q', h1, h2⟩ := Option.bind_eq_some_iff.1 hr
    rw [h1, Option.bind_some]
    rw [if_pos (by rw [List.isEmpty_iff.1 h.2]; intro p hp; cases hp)]
    exact h2
  · cases hr
theorem execCK_le {f : Fns} {l : Lps} : ∀ (c : Code) (σ : Env) (H : Hp), Le (execCK P T f l c σ H) (execC P T f l c σ H) := by
  intro c
  induction c with
  | region id ops draw =>
    intro σ H
    unfold execCK execC
    split
    · exact execDrawK_le _ f ops σ H
    · exact Le.refl _
  | seq a b iha ihb =>
    intro σ H
    unfold execCK execC
    refine Le.bind (iha σ H) fun r => ?_
    obtain ⟨e, s⟩ := r
    cases e <;> first | exact ihb _ _ | exact Le.refl _
  | cond c x y ihx ihy =>
    intro σ H
    unfold execCK execC
    generalize ev σ c = v
    cases v <;> first | exact Le.refl _ | skip
    rename_i t
    cases t <;> first | exact ihx σ H | exact ihy σ H
  | block id c ih => intro σ H; unfold execCK execC; exact Le.map _ (ih σ H)
  | loop c ih => intro σ H; exact Le.refl _
  | scope c ih => intro σ H; unfold execCK execC; exact Le.bind (ih σ H) fun r => Le.refl _
  | rangeFunc f ps a b => intro σ H; exact Le.refl _
  | _ => intro σ H; exact Le.refl _
theorem yieldWithK_le {f : Fns} {l : Lps} (i : Nat) (a : List Value) (H : Hp) : Le (yieldWithK P T f l i a H) (yieldWith P T f l i a H) := by
  unfold yieldWithK yieldWith
  generalize H.get i = o
  cases o with
  | none => exact Le.refl _
  | some o =>
    cases o with
    | loop σ0 ps a b st pe =>
      cases st <;> first | exact Le.refl _ | skip
      dsimp only
      split
      · refine Le.bind (execCK_le _ _ _) fun r => ?_
        obtain ⟨e, s⟩ := r
        cases e <;> first | exact Le.refl _ | exact Le.bind (Le.refl _) fun _ => Le.bind (execCK_le _ _ _) fun _ => Le.refl _
      · exact Le.refl _
    | _ => exact Le.refl _
theorem runWithK_le {f : Fns} {l : Lps} (F : FuncId) (a : List Value) (H : Hp) : Le (runWithK P T f l F a H) (runWith P T f l F a H) := by
  unfold runWithK runWith
  generalize T.ext F = o
  cases o with
  | some g => exact Le.refl _
  | none =>
    dsimp only
    refine Le.bind (Le.refl _) fun fn => Le.bind (Le.refl _) fun c => ?_
    split
    · exact Le.refl _
    split
    · split
      · exact Le.bind (Le.refl _) fun _ => Le.bind (Le.bind (execCK_le c _ _) fun _ => Le.refl _) fun _ => Le.refl _
      · exact Le.refl _
    · split
      · exact Le.bind (Le.bind (execCK_le c _ _) fun _ => Le.refl _) fun _ => Le.refl _
      · split
        · exact Le.refl _
        · exact Le.bind (execCK_le c _ _) fun _ => Le.refl _
theorem roundK_le {f : Fns} {l : Lps} : LeL (roundK P T f l) (round P T f l) := by
  intro c σ H
  unfold roundK round
  refine Le.bind (execCK_le c σ H) fun r => Le.refl _
theorem bothK_le : ∀ k, LeF (bothK P T k).1 (both P T k).1 ∧ LeL (bothK P T k).2 (both P T k).2
  | 0 => ⟨⟨fun _ _ _ => Le.refl _, fun _ _ _ => Le.refl _⟩, fun _ _ _ => Le.refl _⟩
  | k + 1 => by
    have ih := bothK_le k
    exact ⟨⟨fun F a H => (runWithK_le F a H).trans (runWith_le ih.1 ih.2 F a H), fun i a H => (yieldWithK_le i a H).trans (yieldWith_le ih.1 ih.2 i a H)⟩, fun c σ H => (roundK_le c σ H).trans (round_le ih.1 ih.2 c σ H)⟩
/-- What the kernel has run is the interpreter's answer. -/
theorem run_ev {k : Nat} {F : FuncId} {a : List Value} {H : Hp} {r : Ending × Hp} (h : (bothK P T k).1.fn F a H = some r) : run P T F a H = some r := run_iff.2 ⟨k, (bothK_le k).1.1 F a H r h⟩
end
end Go.L1
