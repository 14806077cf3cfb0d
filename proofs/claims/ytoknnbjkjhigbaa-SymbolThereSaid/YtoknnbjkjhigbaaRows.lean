/-
  No cell of these rows narrows 'for every input' (looked for: loops, veiled, ifaces, maps, wideKeys, modest, calm, conditions, laid).
  DERIVED. THE GIVEN ROWS OF THIS SEAT. 4 by the template 'for every input the law returns true; each argument reads behind the call as it read before'; 0 by the template 'total and deterministic' (their statements: YtoknnbjkjhigbaaTotals.lean).
  GIVEN WITH THE SEED: the statements are not yours to turn. If you find one false, say at which input.
  Laid BY PROGRAM, IN A SANDBOX (cutbox-rows.mjs): the forced cells as the released guide's own fill.sh prints them over the translation 2411a153f0e8ef2c… (all of the seat's roots in one cut). By AI agents, Wed Nov 11 2026. No macro, syntax, notation, axiom, sorry.
-/
import Derived.Test.YtoknnbjkjhigbaaChecked
import GoSem.Claim
import GoSem.ClaimJoined
import GoSem.ClaimMapViews
import Derived.JoinedTies
import Derived.KernelRfl
namespace Go.Proofs.Ytoknnbjkjhigbaa
/- THE CELL 'sum', in the pinned program and in every row, IS THE sha256 OF THE DUMP (.gsa) THAT YtoknnbjkjhigbaaProg.lean LOADS. Nothing in Lean hashes anything: it is a label: what it is worth is what the hold of that sum in a sandbox is worth. -/
noncomputable def Try.pinned : Pinned := { name := "ytoknnbjkjhigbaa", sum := "2411a153f0e8ef2cd24dbef05fef18a5f71f315dd4b2bc2c784a767060402334", checked := Try.checked }
namespace Rows
def none {H : Type} : Left H := { results := [], args := [] }

/-- 'flyleaflaw10.SymbolHash': WHATEVER THE INPUT: true; the input reads as it did. -/
def symbolHashSpec : ChangeSpec := { name := "symbolHash", fn := fun _ => fun
  | [d] => { results := [.lit (.bool true)], args := [d] }
  | _ => none }
def symbolHashRow : OpenClaim := { program := "ytoknnbjkjhigbaa", sum := "2411a153f0e8ef2cd24dbef05fef18a5f71f315dd4b2bc2c784a767060402334", func := "flyleaf/flyleaflaw10.SymbolHash", spec := "symbolHash", unfollowed := true, recurses := true, apart := false }
def SymbolHashSaid : Prop := symbolHashRow.holds Try.pinned (OpenSpec.ofChange symbolHashSpec)

/-- ITS FALSE NEIGHBOUR: 'it returns false'. Refute it at one input. -/
def symbolHashWrong : ChangeSpec := { name := "symbolHash", fn := fun _ => fun
  | [d] => { results := [.lit (.bool false)], args := [d] }
  | _ => none }
def SymbolHashWrongFalsely : Prop := symbolHashRow.holds Try.pinned (OpenSpec.ofChange symbolHashWrong)

/-- 'flyleaflaw10.SymbolThere': WHATEVER THE INPUT: true; the input reads as it did. -/
def symbolThereSpec : ChangeSpec := { name := "symbolThere", fn := fun _ => fun
  | [d1, d2] => { results := [.lit (.bool true)], args := [d1, d2] }
  | _ => none }
def symbolThereRow : OpenClaim := { program := "ytoknnbjkjhigbaa", sum := "2411a153f0e8ef2cd24dbef05fef18a5f71f315dd4b2bc2c784a767060402334", func := "flyleaf/flyleaflaw10.SymbolThere", spec := "symbolThere", unfollowed := true, recurses := true, apart := false }
def SymbolThereSaid : Prop := symbolThereRow.holds Try.pinned (OpenSpec.ofChange symbolThereSpec)

/-- ITS FALSE NEIGHBOUR: 'it returns false'. Refute it at one input. -/
def symbolThereWrong : ChangeSpec := { name := "symbolThere", fn := fun _ => fun
  | [d1, d2] => { results := [.lit (.bool false)], args := [d1, d2] }
  | _ => none }
def SymbolThereWrongFalsely : Prop := symbolThereRow.holds Try.pinned (OpenSpec.ofChange symbolThereWrong)

/-- 'flyleaflaw10.SymbolBytes': WHATEVER THE INPUT: true; the input reads as it did. -/
def symbolBytesSpec : ChangeSpec := { name := "symbolBytes", fn := fun _ => fun
  | [d1, d2, d3] => { results := [.lit (.bool true)], args := [d1, d2, d3] }
  | _ => none }
def symbolBytesRow : OpenClaim := { program := "ytoknnbjkjhigbaa", sum := "2411a153f0e8ef2cd24dbef05fef18a5f71f315dd4b2bc2c784a767060402334", func := "flyleaf/flyleaflaw10.SymbolBytes", spec := "symbolBytes", inPlace := ["internal/abi.NoEscape", "internal/bytealg.MakeNoZero"], unfollowed := true, recurses := true, apart := false }
def SymbolBytesSaid : Prop := symbolBytesRow.holds Try.pinned (OpenSpec.ofChange symbolBytesSpec)

/-- ITS FALSE NEIGHBOUR: 'it returns false'. Refute it at one input. -/
def symbolBytesWrong : ChangeSpec := { name := "symbolBytes", fn := fun _ => fun
  | [d1, d2, d3] => { results := [.lit (.bool false)], args := [d1, d2, d3] }
  | _ => none }
def SymbolBytesWrongFalsely : Prop := symbolBytesRow.holds Try.pinned (OpenSpec.ofChange symbolBytesWrong)

/-- 'flyleaflaw10.SymbolBack': WHATEVER THE INPUT: true; the input reads as it did. -/
def symbolBackSpec : ChangeSpec := { name := "symbolBack", fn := fun _ => fun
  | [d1, d2] => { results := [.lit (.bool true)], args := [d1, d2] }
  | _ => none }
def symbolBackRow : OpenClaim := { program := "ytoknnbjkjhigbaa", sum := "2411a153f0e8ef2cd24dbef05fef18a5f71f315dd4b2bc2c784a767060402334", func := "flyleaf/flyleaflaw10.SymbolBack", spec := "symbolBack", inPlace := ["internal/abi.NoEscape", "internal/bytealg.MakeNoZero"], unfollowed := true, recurses := true, apart := false }
def SymbolBackSaid : Prop := symbolBackRow.holds Try.pinned (OpenSpec.ofChange symbolBackSpec)

/-- ITS FALSE NEIGHBOUR: 'it returns false'. Refute it at one input. -/
def symbolBackWrong : ChangeSpec := { name := "symbolBack", fn := fun _ => fun
  | [d1, d2] => { results := [.lit (.bool false)], args := [d1, d2] }
  | _ => none }
def SymbolBackWrongFalsely : Prop := symbolBackRow.holds Try.pinned (OpenSpec.ofChange symbolBackWrong)

/- THE SECOND FORM. 'bulk': how many values and letters a reading holds, each counted each time it is reached (what is shared counts as often as it is met; a slice's spare places count too). A statement '..UptoSaid' is the law's where the arguments, and the package variables that the reading takes, are together of bulk at most 1048576: NARROWER than '..Said'. Prove '..Said' where nothing that the law and all that it calls make is longer than what came in: it says more and counts as full. Else prove '..UptoSaid'. A law counts once. -/
mutual
def uptoBulk {H : Type} : DataW H → Nat
  | .lit (.string bytes) => bytes.length + 1
  | .lit _ => 1
  | .nil => 1
  | .ptr d => uptoBulk d + 1
  | .slice elems spare => uptoBulkAll elems + uptoBulkAll spare + 1
  | .agg parts => uptoBulkAll parts + 1
  | .iface _ d => uptoBulk d + 1
  | .map entries => uptoBulkEntries entries + 1
  | .held _ => 1
def uptoBulkAll {H : Type} : List (DataW H) → Nat
  | [] => 0
  | d :: r => uptoBulk d + uptoBulkAll r
def uptoBulkEntries {H : Type} : List (Lit × DataW H) → Nat
  | [] => 0
  | x :: r => uptoBulkEntry x + uptoBulkEntries r
def uptoBulkEntry {H : Type} : Lit × DataW H → Nat
  | (.string bytes, d) => bytes.length + uptoBulk d + 1
  | (_, d) => uptoBulk d + 1
 end
def uptoSmall : (H : Type) → List (DataW H) → Bool := fun _ ds => decide (uptoBulkAll ds ≤ 1048576)
def OpenSpec.upto (s : _root_.Go.ChangeSpec) : _root_.Go.OpenSpec := { _root_.Go.OpenSpec.ofChange s with cond := some uptoSmall }

/-- 'flyleaflaw10.SymbolHash', WHERE WHAT IT READS IS OF BULK AT MOST 1048576: true; the input reads as it did. -/
def symbolHashUptoRow : OpenClaim := { program := "ytoknnbjkjhigbaa", sum := "2411a153f0e8ef2cd24dbef05fef18a5f71f315dd4b2bc2c784a767060402334", func := "flyleaf/flyleaflaw10.SymbolHash", spec := "symbolHash", unfollowed := true, recurses := true, apart := false, narrowed := true }
def SymbolHashUptoSaid : Prop := symbolHashUptoRow.holds Try.pinned (OpenSpec.upto symbolHashSpec)

/-- 'flyleaflaw10.SymbolThere', WHERE WHAT IT READS IS OF BULK AT MOST 1048576: true; the input reads as it did. -/
def symbolThereUptoRow : OpenClaim := { program := "ytoknnbjkjhigbaa", sum := "2411a153f0e8ef2cd24dbef05fef18a5f71f315dd4b2bc2c784a767060402334", func := "flyleaf/flyleaflaw10.SymbolThere", spec := "symbolThere", unfollowed := true, recurses := true, apart := false, narrowed := true }
def SymbolThereUptoSaid : Prop := symbolThereUptoRow.holds Try.pinned (OpenSpec.upto symbolThereSpec)

/-- 'flyleaflaw10.SymbolBytes', WHERE WHAT IT READS IS OF BULK AT MOST 1048576: true; the input reads as it did. -/
def symbolBytesUptoRow : OpenClaim := { program := "ytoknnbjkjhigbaa", sum := "2411a153f0e8ef2cd24dbef05fef18a5f71f315dd4b2bc2c784a767060402334", func := "flyleaf/flyleaflaw10.SymbolBytes", spec := "symbolBytes", inPlace := ["internal/abi.NoEscape", "internal/bytealg.MakeNoZero"], unfollowed := true, recurses := true, apart := false, narrowed := true }
def SymbolBytesUptoSaid : Prop := symbolBytesUptoRow.holds Try.pinned (OpenSpec.upto symbolBytesSpec)

/-- 'flyleaflaw10.SymbolBack', WHERE WHAT IT READS IS OF BULK AT MOST 1048576: true; the input reads as it did. -/
def symbolBackUptoRow : OpenClaim := { program := "ytoknnbjkjhigbaa", sum := "2411a153f0e8ef2cd24dbef05fef18a5f71f315dd4b2bc2c784a767060402334", func := "flyleaf/flyleaflaw10.SymbolBack", spec := "symbolBack", inPlace := ["internal/abi.NoEscape", "internal/bytealg.MakeNoZero"], unfollowed := true, recurses := true, apart := false, narrowed := true }
def SymbolBackUptoSaid : Prop := symbolBackUptoRow.holds Try.pinned (OpenSpec.upto symbolBackSpec)

end Rows
end Go.Proofs.Ytoknnbjkjhigbaa
