/-
  No cell of these rows narrows 'for every input' (looked for: loops, veiled, ifaces, maps, wideKeys, modest, calm, conditions, laid).
  DERIVED. THE GIVEN ROWS OF THIS SEAT. 5 by the template 'for every input the law returns true; each argument reads behind the call as it read before'; 0 by the template 'total and deterministic' (their statements: YtkpofbkedolhnaaTotals.lean).
  GIVEN WITH THE SEED: the statements are not yours to turn. If you find one false, say at which input.
  Laid BY PROGRAM, IN A SANDBOX (cutbox-rows.mjs): the forced cells as the released guide's own fill.sh prints them over the translation ec125a8ae2e40a23… (all of the seat's roots in one cut). By AI agents, Wed Nov 11 2026. No macro, syntax, notation, axiom, sorry.
-/
import Derived.Test.YtkpofbkedolhnaaChecked
import GoSem.Claim
import GoSem.ClaimJoined
import GoSem.ClaimMapViews
import Derived.JoinedTies
import Derived.KernelRfl
namespace Go.Proofs.Ytkpofbkedolhnaa
/- THE CELL 'sum', in the pinned program and in every row, IS THE sha256 OF THE DUMP (.gsa) THAT YtkpofbkedolhnaaProg.lean LOADS. Nothing in Lean hashes anything: it is a label: what it is worth is what the hold of that sum in a sandbox is worth. -/
noncomputable def Try.pinned : Pinned := { name := "ytkpofbkedolhnaa", sum := "ec125a8ae2e40a231ecfe0e9fc1f50368121dba69d71e2ab8755a616b71e17c6", checked := Try.checked }
namespace Rows
def none {H : Type} : Left H := { results := [], args := [] }

/-- 'flyleaflaw17.StackBuilds': WHATEVER THE INPUT: true; the input reads as it did. -/
def stackBuildsSpec : ChangeSpec := { name := "stackBuilds", fn := fun _ => fun
  | [d1, d2] => { results := [.lit (.bool true)], args := [d1, d2] }
  | _ => none }
def stackBuildsRow : OpenClaim := { program := "ytkpofbkedolhnaa", sum := "ec125a8ae2e40a231ecfe0e9fc1f50368121dba69d71e2ab8755a616b71e17c6", func := "flyleaf/flyleaflaw17.StackBuilds", spec := "stackBuilds", inPlace := ["internal/abi.NoEscape", "internal/bytealg.MakeNoZero", "internal/bytealg.IndexByteString", "internal/bytealg.IndexString"], unfollowed := true, recurses := true, named := ["internal/bytealg.MaxLen"], apart := false }
def StackBuildsSaid : Prop := stackBuildsRow.holds Try.pinned (OpenSpec.ofChange stackBuildsSpec)

/-- ITS FALSE NEIGHBOUR: 'it returns false'. Refute it at one input. -/
def stackBuildsWrong : ChangeSpec := { name := "stackBuilds", fn := fun _ => fun
  | [d1, d2] => { results := [.lit (.bool false)], args := [d1, d2] }
  | _ => none }
def StackBuildsWrongFalsely : Prop := stackBuildsRow.holds Try.pinned (OpenSpec.ofChange stackBuildsWrong)

/-- 'flyleaflaw17.StackSizes': WHATEVER THE INPUT: true; the input reads as it did. -/
def stackSizesSpec : ChangeSpec := { name := "stackSizes", fn := fun _ => fun
  | [d1, d2] => { results := [.lit (.bool true)], args := [d1, d2] }
  | _ => none }
def stackSizesRow : OpenClaim := { program := "ytkpofbkedolhnaa", sum := "ec125a8ae2e40a231ecfe0e9fc1f50368121dba69d71e2ab8755a616b71e17c6", func := "flyleaf/flyleaflaw17.StackSizes", spec := "stackSizes", inPlace := ["internal/abi.NoEscape", "internal/bytealg.MakeNoZero", "internal/bytealg.IndexByteString", "internal/bytealg.IndexString"], unfollowed := true, recurses := true, named := ["internal/bytealg.MaxLen"], apart := false }
def StackSizesSaid : Prop := stackSizesRow.holds Try.pinned (OpenSpec.ofChange stackSizesSpec)

/-- ITS FALSE NEIGHBOUR: 'it returns false'. Refute it at one input. -/
def stackSizesWrong : ChangeSpec := { name := "stackSizes", fn := fun _ => fun
  | [d1, d2] => { results := [.lit (.bool false)], args := [d1, d2] }
  | _ => none }
def StackSizesWrongFalsely : Prop := stackSizesRow.holds Try.pinned (OpenSpec.ofChange stackSizesWrong)

/-- 'flyleaflaw17.StackFull': WHATEVER THE INPUT: true; the input reads as it did. -/
def stackFullSpec : ChangeSpec := { name := "stackFull", fn := fun _ => fun
  | [d1, d2] => { results := [.lit (.bool true)], args := [d1, d2] }
  | _ => none }
def stackFullRow : OpenClaim := { program := "ytkpofbkedolhnaa", sum := "ec125a8ae2e40a231ecfe0e9fc1f50368121dba69d71e2ab8755a616b71e17c6", func := "flyleaf/flyleaflaw17.StackFull", spec := "stackFull", inPlace := ["internal/abi.NoEscape", "internal/bytealg.MakeNoZero", "internal/bytealg.IndexByteString", "internal/bytealg.IndexString"], unfollowed := true, recurses := true, named := ["internal/bytealg.MaxLen"], apart := false }
def StackFullSaid : Prop := stackFullRow.holds Try.pinned (OpenSpec.ofChange stackFullSpec)

/-- ITS FALSE NEIGHBOUR: 'it returns false'. Refute it at one input. -/
def stackFullWrong : ChangeSpec := { name := "stackFull", fn := fun _ => fun
  | [d1, d2] => { results := [.lit (.bool false)], args := [d1, d2] }
  | _ => none }
def StackFullWrongFalsely : Prop := stackFullRow.holds Try.pinned (OpenSpec.ofChange stackFullWrong)

/-- 'flyleaflaw17.StackPlaces': WHATEVER THE INPUT: true; the input reads as it did. -/
def stackPlacesSpec : ChangeSpec := { name := "stackPlaces", fn := fun _ => fun
  | [d1, d2] => { results := [.lit (.bool true)], args := [d1, d2] }
  | _ => none }
def stackPlacesRow : OpenClaim := { program := "ytkpofbkedolhnaa", sum := "ec125a8ae2e40a231ecfe0e9fc1f50368121dba69d71e2ab8755a616b71e17c6", func := "flyleaf/flyleaflaw17.StackPlaces", spec := "stackPlaces", inPlace := ["internal/abi.NoEscape", "internal/bytealg.MakeNoZero", "internal/bytealg.IndexByteString", "internal/bytealg.IndexString"], unfollowed := true, recurses := true, named := ["internal/bytealg.MaxLen"], apart := false }
def StackPlacesSaid : Prop := stackPlacesRow.holds Try.pinned (OpenSpec.ofChange stackPlacesSpec)

/-- ITS FALSE NEIGHBOUR: 'it returns false'. Refute it at one input. -/
def stackPlacesWrong : ChangeSpec := { name := "stackPlaces", fn := fun _ => fun
  | [d1, d2] => { results := [.lit (.bool false)], args := [d1, d2] }
  | _ => none }
def StackPlacesWrongFalsely : Prop := stackPlacesRow.holds Try.pinned (OpenSpec.ofChange stackPlacesWrong)

/-- 'flyleaflaw17.StackBack': WHATEVER THE INPUT: true; the input reads as it did. -/
def stackBackSpec : ChangeSpec := { name := "stackBack", fn := fun _ => fun
  | [d1, d2, d3] => { results := [.lit (.bool true)], args := [d1, d2, d3] }
  | _ => none }
def stackBackRow : OpenClaim := { program := "ytkpofbkedolhnaa", sum := "ec125a8ae2e40a231ecfe0e9fc1f50368121dba69d71e2ab8755a616b71e17c6", func := "flyleaf/flyleaflaw17.StackBack", spec := "stackBack", inPlace := ["internal/abi.NoEscape", "internal/bytealg.MakeNoZero", "internal/bytealg.IndexByteString", "internal/bytealg.IndexString"], unfollowed := true, recurses := true, named := ["internal/bytealg.MaxLen"], apart := false }
def StackBackSaid : Prop := stackBackRow.holds Try.pinned (OpenSpec.ofChange stackBackSpec)

/-- ITS FALSE NEIGHBOUR: 'it returns false'. Refute it at one input. -/
def stackBackWrong : ChangeSpec := { name := "stackBack", fn := fun _ => fun
  | [d1, d2, d3] => { results := [.lit (.bool false)], args := [d1, d2, d3] }
  | _ => none }
def StackBackWrongFalsely : Prop := stackBackRow.holds Try.pinned (OpenSpec.ofChange stackBackWrong)

/- THE SECOND FORM. 'bulk': how many values and letters a reading holds, each counted each time it is reached (what is shared counts as often as it is met; a slice's spare places count too). A statement '..UptoSaid' is the law's where the arguments, and the package variables that the reading takes, are together of bulk at most 1048576: NARROWER than '..Said'. Prove '..Said' where nothing that the law and all that it calls make is longer than what came in: it says more and counts as full. Else prove '..UptoSaid'. A law counts once. -/
mutual
def uptoBulk {H : Type} : DataW H → Nat
  | .lit (.string bytes) => bytes.length + 1
  | .lit _ => 1
  | .nil => 1
  | .ptr d => uptoBulk d + 1
  | .slice elems spare => uptoBulkAll elems + uptoBulkAll spare + 1
  | .agg parts => uptoBulkAll parts + 1
  | .iface _ d => uptoBulk d + 1
  | .map entries => uptoBulkEntries entries + 1
  | .held _ => 1
def uptoBulkAll {H : Type} : List (DataW H) → Nat
  | [] => 0
  | d :: r => uptoBulk d + uptoBulkAll r
def uptoBulkEntries {H : Type} : List (Lit × DataW H) → Nat
  | [] => 0
  | x :: r => uptoBulkEntry x + uptoBulkEntries r
def uptoBulkEntry {H : Type} : Lit × DataW H → Nat
  | (.string bytes, d) => bytes.length + uptoBulk d + 1
  | (_, d) => uptoBulk d + 1
 end
def uptoSmall : (H : Type) → List (DataW H) → Bool := fun _ ds => decide (uptoBulkAll ds ≤ 1048576)
def OpenSpec.upto (s : _root_.Go.ChangeSpec) : _root_.Go.OpenSpec := { _root_.Go.OpenSpec.ofChange s with cond := some uptoSmall }

/-- 'flyleaflaw17.StackBuilds', WHERE WHAT IT READS IS OF BULK AT MOST 1048576: true; the input reads as it did. -/
def stackBuildsUptoRow : OpenClaim := { program := "ytkpofbkedolhnaa", sum := "ec125a8ae2e40a231ecfe0e9fc1f50368121dba69d71e2ab8755a616b71e17c6", func := "flyleaf/flyleaflaw17.StackBuilds", spec := "stackBuilds", inPlace := ["internal/abi.NoEscape", "internal/bytealg.MakeNoZero", "internal/bytealg.IndexByteString", "internal/bytealg.IndexString"], unfollowed := true, recurses := true, named := ["internal/bytealg.MaxLen"], apart := false, narrowed := true }
def StackBuildsUptoSaid : Prop := stackBuildsUptoRow.holds Try.pinned (OpenSpec.upto stackBuildsSpec)

/-- 'flyleaflaw17.StackSizes', WHERE WHAT IT READS IS OF BULK AT MOST 1048576: true; the input reads as it did. -/
def stackSizesUptoRow : OpenClaim := { program := "ytkpofbkedolhnaa", sum := "ec125a8ae2e40a231ecfe0e9fc1f50368121dba69d71e2ab8755a616b71e17c6", func := "flyleaf/flyleaflaw17.StackSizes", spec := "stackSizes", inPlace := ["internal/abi.NoEscape", "internal/bytealg.MakeNoZero", "internal/bytealg.IndexByteString", "internal/bytealg.IndexString"], unfollowed := true, recurses := true, named := ["internal/bytealg.MaxLen"], apart := false, narrowed := true }
def StackSizesUptoSaid : Prop := stackSizesUptoRow.holds Try.pinned (OpenSpec.upto stackSizesSpec)

/-- 'flyleaflaw17.StackFull', WHERE WHAT IT READS IS OF BULK AT MOST 1048576: true; the input reads as it did. -/
def stackFullUptoRow : OpenClaim := { program := "ytkpofbkedolhnaa", sum := "ec125a8ae2e40a231ecfe0e9fc1f50368121dba69d71e2ab8755a616b71e17c6", func := "flyleaf/flyleaflaw17.StackFull", spec := "stackFull", inPlace := ["internal/abi.NoEscape", "internal/bytealg.MakeNoZero", "internal/bytealg.IndexByteString", "internal/bytealg.IndexString"], unfollowed := true, recurses := true, named := ["internal/bytealg.MaxLen"], apart := false, narrowed := true }
def StackFullUptoSaid : Prop := stackFullUptoRow.holds Try.pinned (OpenSpec.upto stackFullSpec)

/-- 'flyleaflaw17.StackPlaces', WHERE WHAT IT READS IS OF BULK AT MOST 1048576: true; the input reads as it did. -/
def stackPlacesUptoRow : OpenClaim := { program := "ytkpofbkedolhnaa", sum := "ec125a8ae2e40a231ecfe0e9fc1f50368121dba69d71e2ab8755a616b71e17c6", func := "flyleaf/flyleaflaw17.StackPlaces", spec := "stackPlaces", inPlace := ["internal/abi.NoEscape", "internal/bytealg.MakeNoZero", "internal/bytealg.IndexByteString", "internal/bytealg.IndexString"], unfollowed := true, recurses := true, named := ["internal/bytealg.MaxLen"], apart := false, narrowed := true }
def StackPlacesUptoSaid : Prop := stackPlacesUptoRow.holds Try.pinned (OpenSpec.upto stackPlacesSpec)

/-- 'flyleaflaw17.StackBack', WHERE WHAT IT READS IS OF BULK AT MOST 1048576: true; the input reads as it did. -/
def stackBackUptoRow : OpenClaim := { program := "ytkpofbkedolhnaa", sum := "ec125a8ae2e40a231ecfe0e9fc1f50368121dba69d71e2ab8755a616b71e17c6", func := "flyleaf/flyleaflaw17.StackBack", spec := "stackBack", inPlace := ["internal/abi.NoEscape", "internal/bytealg.MakeNoZero", "internal/bytealg.IndexByteString", "internal/bytealg.IndexString"], unfollowed := true, recurses := true, named := ["internal/bytealg.MaxLen"], apart := false, narrowed := true }
def StackBackUptoSaid : Prop := stackBackUptoRow.holds Try.pinned (OpenSpec.upto stackBackSpec)

end Rows
end Go.Proofs.Ytkpofbkedolhnaa
