/- FilesNil: run by the kernel. -/
import Derived.Test.Ytokbhihfooaijaac04Tab
import Derived.Test.YtokbhihfooaijaaL1Z
namespace Go.Proofs.Ytokbhihfooaijaa.L.FilesNil
open Go.L1 Go.Proofs.Ytokbhihfooaijaa.L
set_option maxRecDepth 100000
set_option linter.unusedVariables false
def tab : Tb := L.T
theorem tabok : ∀ C : Cx, C.P = Try.prog → TbOk C tab := L.tabok
theorem of_ev {P : Program} {T : Tb} {k : Nat} {F : FuncId} {a : List Value} {g : Nat → Option Ob} {n m : Nat} {v : Value} (h : ((bothK P T k).1.fn F a ⟨g, n, m⟩).map (fun r => (r.1, r.2.mark)) = some (.returned v, m)) : Rn P T F a g n m (fun u _ _ => u = v) := by
  obtain ⟨⟨e, g', n', m'⟩, h1, h2⟩ := Option.map_eq_some_iff.1 h
  cases h2
  exact ⟨v, g', n', run_ev h1, rfl⟩
theorem nilP (k : Nat) : ((bothK Try.prog L.T 300).1.fn 7 [.int .i64 (Int.ofNat k)] ⟨fun _ => none, 0, 0⟩).map (fun r => (r.1, r.2.mark)) = some (.returned (.bool true), 0) := by kernel_rfl
theorem nilN0 : ((bothK Try.prog L.T 300).1.fn 7 [.int .i64 (Int.negSucc 0)] ⟨fun _ => none, 0, 0⟩).map (fun r => (r.1, r.2.mark)) = some (.returned (.bool true), 0) := by kernel_rfl
theorem nilN1 (k : Nat) : ((bothK Try.prog L.T 300).1.fn 7 [.int .i64 (Int.negSucc (k + 1))] ⟨fun _ => none, 0, 0⟩).map (fun r => (r.1, r.2.mark)) = some (.returned (.bool true), 0) := by kernel_rfl
theorem proved (x0 : Int) {q : Prop} (w0 : q) : Rn Try.prog tab 7 [.int .i64 x0] (fun _ => none) 0 0 (fun v _ _ => v = .bool true) := by
  cases x0 with
  | ofNat k => exact of_ev (nilP k)
  | negSucc k =>
    cases k with
    | zero => exact of_ev nilN0
    | succ k => exact of_ev (nilN1 k)
end Go.Proofs.Ytokbhihfooaijaa.L.FilesNil

