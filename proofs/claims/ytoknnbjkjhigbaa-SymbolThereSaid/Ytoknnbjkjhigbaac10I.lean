/- Two symbols compared. -/
import Derived.Test.Ytoknnbjkjhigbaac10H
namespace Go.L1
set_option linter.unusedSimpArgs false
set_option linter.unusedVariables false
theorem pureRun_bind {α β : Type} (P : Program) (s : Sem α) (f : α → Sem β) : pureRun P (s.bind f) = (pureRun P s).bind fun a => pureRun P (f a) := by
  induction s with
  | pure a => rfl
  | program k ih => simp only [Sem.bind, pureRun]; exact ih _
  | mark x k ih => simp only [Sem.bind, pureRun]; exact ih
  | _ => simp [Sem.bind, pureRun]
theorem pr_bind {α β : Type} (P : Program) (s : Sem α) (f : α → Sem β) : pureRun P (s >>= f) = (pureRun P s).bind fun a => pureRun P (f a) := pureRun_bind P s f
theorem pr_pure {α : Type} (P : Program) (a : α) : pureRun P (pure a : Sem α) = some a := rfl
theorem pr_prog (P : Program) : pureRun P Go.program = some P := rfl
theorem pr_under {P : Program} {t : TypeId} {d : TypeDesc} (h : P.underlying t = some d) : pureRun P (Go.underlying t) = some d := by
  unfold Go.underlying
  rw [pr_bind, pr_prog]
  simp only [Option.bind_some, h, pr_pure]
theorem pr_int {P : Program} (d : Nat) {t : TypeId} {k : IntKind} (a b : Int) (h : P.underlying t = some (.int k)) : pureRun P (Op.equalIn (d + 1) t (.int k a) (.int k b)) = some (a == b) := by
  unfold Op.equalIn
  rw [pr_bind, pr_under h]
  simp only [Option.bind_some, if_true, pr_pure]
theorem pr_bool {P : Program} (d : Nat) {t : TypeId} (a b : Bool) (h : P.underlying t = some .bool) : pureRun P (Op.equalIn (d + 1) t (.bool a) (.bool b)) = some (a == b) := by
  unfold Op.equalIn
  rw [pr_bind, pr_under h]
  simp only [Option.bind_some, if_true, pr_pure]
/-- Two structs that are compared are not the same. -/
theorem w_aggq {P : Program} {T : Tb} {fn : Func} {k : List It} {σ : Env} {g : Nat → Option Ob} {n m : Nat} {Q : Value → (Nat → Option Ob) → Nat → Prop} {bb : Bool} {all : Array Oper} {l : List Oper} {d : Option Tmp} {ty : TypeId} {pos : String} {af : Array Edge} {op : BinOp} {t ty2 : TypeId} {x y : Operand} {a b : Value} {r : Bool} (hx : ev σ x = a) (hy : ev σ y = b) (h1 : nilConst P t x = false) (h2 : nilConst P t y = false) (hb : bin P op t x y a b = some (.bool r)) (h : Go P T fn (.ops bb all l :: k) (put d (.bool r) σ) g n m Q) : Go P T fn (.ops bb all (⟨d, .binOp op t x y ty2, ty, pos, af, none⟩ :: l) :: k) σ g n m Q :=
  w_pure rfl (by simp only [op0, h1, h2, Bool.false_eq_true, if_false, hx, hy]; exact hb) h
end Go.L1
namespace Go.Proofs.Ytoknnbjkjhigbaa.L
open Go.L1 Go.IntWalk Oct
set_option linter.unusedVariables false
set_option linter.unusedSimpArgs false
set_option maxHeartbeats 4000000
set_option maxRecDepth 20000
namespace Sym
theorem sq (x : Sy) : pureRun Try.prog (Op.equalIn Op.maxDepth 37 (syV x) (syV x)) = some true := by
  show pureRun Try.prog (Op.equalIn (9998 + 1 + 1) 37 (syV x) (syV x)) = _
  unfold Op.equalIn
  rw [pr_bind, pr_under Try.underlying37]
  have hs : Try.prog.stoodInHeld 37 = false := by kernel_rfl
  have q0 : ∀ v0 v1 v2 : Value, pureRun Try.prog (Go.part 3 #[v0, v1, v2] 0) = some v0 := fun _ _ _ => rfl
  have q1 : ∀ v0 v1 v2 : Value, pureRun Try.prog (Go.part 4 #[v0, v1, v2] 1) = some v1 := fun _ _ _ => rfl
  have q2 : ∀ v0 v1 v2 : Value, pureRun Try.prog (Go.part 3 #[v0, v1, v2] 2) = some v2 := fun _ _ _ => rfl
  have qi : ∀ x y : Int, pureRun Try.prog (Op.equalIn 9999 3 (.int .i64 x) (.int .i64 y)) = some (x == y) := fun x y => pr_int 9998 x y Try.underlying3
  have qb : ∀ x y : Bool, pureRun Try.prog (Op.equalIn 9999 4 (.bool x) (.bool y)) = some (x == y) := fun x y => pr_bool 9998 x y Try.underlying4
  simp [pr_bind, pr_prog, pr_pure, hs, q0, q1, q2, qi, qb]
theorem sq_eql (x : Sy) (ox oy : Operand) : bin Try.prog .eql 37 ox oy (syV x) (syV x) = some (.bool true) := by
  simp only [bin]
  rw [if_pos (by rfl)]
  have hg : pureRun Try.prog (eqGuard .eql 37 ox oy (syV x) (syV x)) = some () := by
    have : Try.prog.eqGuardType Try.prog.depth 37 = false := by kernel_rfl
    simp [eqGuard, pr_bind, pr_prog, pr_pure, this]
  have hb : pureRun Try.prog (binOp .eql 37 (syV x) (syV x)) = some (.bool true) := by
    have : binOp .eql 37 (syV x) (syV x) = (do let r ← Op.equal 37 (syV x) (syV x); pure (.bool r)) := by simp [binOp]
    rw [this, pr_bind, show Op.equal 37 (syV x) (syV x) = Op.equalIn Op.maxDepth 37 (syV x) (syV x) from rfl, sq]
    rfl
  have := pr_bind Try.prog (eqGuard .eql 37 ox oy (syV x) (syV x)) (fun _ => binOp .eql 37 (syV x) (syV x))
  rw [hg, Option.bind_some, hb] at this
  rw [this]
theorem sq_neq (x : Sy) (ox oy : Operand) : bin Try.prog .neq 37 ox oy (syV x) (syV x) = some (.bool false) := by
  simp only [bin]
  rw [if_pos (by rfl)]
  have hg : pureRun Try.prog (eqGuard .neq 37 ox oy (syV x) (syV x)) = some () := by
    have : Try.prog.eqGuardType Try.prog.depth 37 = false := by kernel_rfl
    simp [eqGuard, pr_bind, pr_prog, pr_pure, this]
  have hb : pureRun Try.prog (binOp .neq 37 (syV x) (syV x)) = some (.bool false) := by
    have : binOp .neq 37 (syV x) (syV x) = (do let r ← Op.equal 37 (syV x) (syV x); pure (.bool !r)) := by simp [binOp]
    rw [this, pr_bind, show Op.equal 37 (syV x) (syV x) = Op.equalIn Op.maxDepth 37 (syV x) (syV x) from rfl, sq]
    rfl
  have := pr_bind Try.prog (eqGuard .neq 37 ox oy (syV x) (syV x)) (fun _ => binOp .neq 37 (syV x) (syV x))
  rw [hg, Option.bind_some, hb] at this
  rw [this]
end Sym
end Go.Proofs.Ytoknnbjkjhigbaa.L

