/- A guard that looks at what was passed over. -/
import Derived.Test.YtnlgindlmlbfiaaL1V
namespace Go.L1
set_option linter.unusedVariables false
section
variable {P : Program} {T : Tb} {fn : Func} {k : List It} {σ : Env} {g : Nat → Option Ob} {n m : Nat} {Q : Value → (Nat → Option Ob) → Nat → Prop} {b : Bool} {all : Array Oper} {l : List Oper} {d : Option Tmp} {ty : TypeId} {pos : String} {af : Array Edge}
theorem r_psn {R : Option (Ending × Hp)} {H : Hp} {op : Op} {j : Nat} {t : Bool} (hy : yield1 all σ j = none) (h : goC P T fn (.ops b all l :: k) (put d undef σ) H = R) : goC P T fn (.ops b all (⟨d, op, ty, pos, af, some (j, t)⟩ :: l) :: k) σ H = R := by
  rw [← h, goC, goC, execOps]
  simp only [Region.wanted, hy]
  cases t <;> rfl
theorem w_psn {op : Op} {j : Nat} {t : Bool} (hy : yield1 all σ j = none) (h : Go P T fn (.ops b all l :: k) (put d undef σ) g n m Q) : Go P T fn (.ops b all (⟨d, op, ty, pos, af, some (j, t)⟩ :: l) :: k) σ g n m Q := .of (fun _ => r_psn hy) h
end
end Go.L1
