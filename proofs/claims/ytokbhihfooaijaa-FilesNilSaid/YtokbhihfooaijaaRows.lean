/-
  No cell of these rows narrows 'for every input' (looked for: loops, veiled, ifaces, maps, wideKeys, modest, calm, conditions, laid).
  DERIVED. THE GIVEN ROWS OF THIS SEAT. 6 by the template 'for every input the law returns true; each argument reads behind the call as it read before'; 0 by the template 'total and deterministic' (their statements: YtokbhihfooaijaaTotals.lean).
  GIVEN WITH THE SEED: the statements are not yours to turn. If you find one false, say at which input.
  Laid BY PROGRAM, IN A SANDBOX (cutbox-rows.mjs): the forced cells as the released guide's own fill.sh prints them over the translation 3198aba33c3fa43e… (all of the seat's roots in one cut). By AI agents, Wed Nov 11 2026. No macro, syntax, notation, axiom, sorry.
-/
import Derived.Test.YtokbhihfooaijaaChecked
import GoSem.Claim
import GoSem.ClaimJoined
import GoSem.ClaimMapViews
import Derived.JoinedTies
import Derived.KernelRfl
namespace Go.Proofs.Ytokbhihfooaijaa
/- THE CELL 'sum', in the pinned program and in every row, IS THE sha256 OF THE DUMP (.gsa) THAT YtokbhihfooaijaaProg.lean LOADS. Nothing in Lean hashes anything: it is a label: what it is worth is what the hold of that sum in a sandbox is worth. -/
noncomputable def Try.pinned : Pinned := { name := "ytokbhihfooaijaa", sum := "3198aba33c3fa43e0d602edf8f562452234be568d97ca2331a89e47d6fec244d", checked := Try.checked }
namespace Rows
def none {H : Type} : Left H := { results := [], args := [] }

/-- 'flyleaflaw04.FilesBuild': WHATEVER THE INPUT: true; the input reads as it did. -/
def filesBuildSpec : ChangeSpec := { name := "filesBuild", fn := fun _ => fun
  | [d1, d2, d3] => { results := [.lit (.bool true)], args := [d1, d2, d3] }
  | _ => none }
def filesBuildRow : OpenClaim := { program := "ytokbhihfooaijaa", sum := "3198aba33c3fa43e0d602edf8f562452234be568d97ca2331a89e47d6fec244d", func := "flyleaf/flyleaflaw04.FilesBuild", spec := "filesBuild", inPlace := ["internal/bytealg.IndexByteString", "internal/bytealg.IndexString", "internal/abi.NoEscape", "internal/bytealg.MakeNoZero"], unfollowed := true, recurses := true, named := ["internal/bytealg.MaxLen"], apart := false }
def FilesBuildSaid : Prop := filesBuildRow.holds Try.pinned (OpenSpec.ofChange filesBuildSpec)

/-- ITS FALSE NEIGHBOUR: 'it returns false'. Refute it at one input. -/
def filesBuildWrong : ChangeSpec := { name := "filesBuild", fn := fun _ => fun
  | [d1, d2, d3] => { results := [.lit (.bool false)], args := [d1, d2, d3] }
  | _ => none }
def FilesBuildWrongFalsely : Prop := filesBuildRow.holds Try.pinned (OpenSpec.ofChange filesBuildWrong)

/-- 'flyleaflaw04.FilesExtents': WHATEVER THE INPUT: true; the input reads as it did. -/
def filesExtentsSpec : ChangeSpec := { name := "filesExtents", fn := fun _ => fun
  | [d1, d2] => { results := [.lit (.bool true)], args := [d1, d2] }
  | _ => none }
def filesExtentsRow : OpenClaim := { program := "ytokbhihfooaijaa", sum := "3198aba33c3fa43e0d602edf8f562452234be568d97ca2331a89e47d6fec244d", func := "flyleaf/flyleaflaw04.FilesExtents", spec := "filesExtents", inPlace := ["internal/bytealg.IndexByteString", "internal/bytealg.IndexString", "internal/abi.NoEscape", "internal/bytealg.MakeNoZero"], unfollowed := true, recurses := true, named := ["internal/bytealg.MaxLen"], apart := false }
def FilesExtentsSaid : Prop := filesExtentsRow.holds Try.pinned (OpenSpec.ofChange filesExtentsSpec)

/-- ITS FALSE NEIGHBOUR: 'it returns false'. Refute it at one input. -/
def filesExtentsWrong : ChangeSpec := { name := "filesExtents", fn := fun _ => fun
  | [d1, d2] => { results := [.lit (.bool false)], args := [d1, d2] }
  | _ => none }
def FilesExtentsWrongFalsely : Prop := filesExtentsRow.holds Try.pinned (OpenSpec.ofChange filesExtentsWrong)

/-- 'flyleaflaw04.FilesNames': WHATEVER THE INPUT: true; the input reads as it did. -/
def filesNamesSpec : ChangeSpec := { name := "filesNames", fn := fun _ => fun
  | [d] => { results := [.lit (.bool true)], args := [d] }
  | _ => none }
def filesNamesRow : OpenClaim := { program := "ytokbhihfooaijaa", sum := "3198aba33c3fa43e0d602edf8f562452234be568d97ca2331a89e47d6fec244d", func := "flyleaf/flyleaflaw04.FilesNames", spec := "filesNames", inPlace := ["internal/bytealg.IndexByteString", "internal/bytealg.IndexString", "internal/abi.NoEscape", "internal/bytealg.MakeNoZero"], unfollowed := true, recurses := true, named := ["internal/bytealg.MaxLen"], apart := false }
def FilesNamesSaid : Prop := filesNamesRow.holds Try.pinned (OpenSpec.ofChange filesNamesSpec)

/-- ITS FALSE NEIGHBOUR: 'it returns false'. Refute it at one input. -/
def filesNamesWrong : ChangeSpec := { name := "filesNames", fn := fun _ => fun
  | [d] => { results := [.lit (.bool false)], args := [d] }
  | _ => none }
def FilesNamesWrongFalsely : Prop := filesNamesRow.holds Try.pinned (OpenSpec.ofChange filesNamesWrong)

/-- 'flyleaflaw04.FilesBack': WHATEVER THE INPUT: true; the input reads as it did. -/
def filesBackSpec : ChangeSpec := { name := "filesBack", fn := fun _ => fun
  | [d1, d2, d3] => { results := [.lit (.bool true)], args := [d1, d2, d3] }
  | _ => none }
def filesBackRow : OpenClaim := { program := "ytokbhihfooaijaa", sum := "3198aba33c3fa43e0d602edf8f562452234be568d97ca2331a89e47d6fec244d", func := "flyleaf/flyleaflaw04.FilesBack", spec := "filesBack", inPlace := ["internal/bytealg.IndexByteString", "internal/bytealg.IndexString", "internal/abi.NoEscape", "internal/bytealg.MakeNoZero"], unfollowed := true, recurses := true, named := ["internal/bytealg.MaxLen"], apart := false }
def FilesBackSaid : Prop := filesBackRow.holds Try.pinned (OpenSpec.ofChange filesBackSpec)

/-- ITS FALSE NEIGHBOUR: 'it returns false'. Refute it at one input. -/
def filesBackWrong : ChangeSpec := { name := "filesBack", fn := fun _ => fun
  | [d1, d2, d3] => { results := [.lit (.bool false)], args := [d1, d2, d3] }
  | _ => none }
def FilesBackWrongFalsely : Prop := filesBackRow.holds Try.pinned (OpenSpec.ofChange filesBackWrong)

/-- 'flyleaflaw04.FilesNil': WHATEVER THE INPUT: true; the input reads as it did. -/
def filesNilSpec : ChangeSpec := { name := "filesNil", fn := fun _ => fun
  | [d] => { results := [.lit (.bool true)], args := [d] }
  | _ => none }
def filesNilRow : OpenClaim := { program := "ytokbhihfooaijaa", sum := "3198aba33c3fa43e0d602edf8f562452234be568d97ca2331a89e47d6fec244d", func := "flyleaf/flyleaflaw04.FilesNil", spec := "filesNil", inPlace := ["internal/abi.NoEscape", "internal/bytealg.MakeNoZero", "internal/bytealg.IndexByteString", "internal/bytealg.IndexString"], unfollowed := true, recurses := true, named := ["internal/bytealg.MaxLen"], apart := false }
def FilesNilSaid : Prop := filesNilRow.holds Try.pinned (OpenSpec.ofChange filesNilSpec)

/-- ITS FALSE NEIGHBOUR: 'it returns false'. Refute it at one input. -/
def filesNilWrong : ChangeSpec := { name := "filesNil", fn := fun _ => fun
  | [d] => { results := [.lit (.bool false)], args := [d] }
  | _ => none }
def FilesNilWrongFalsely : Prop := filesNilRow.holds Try.pinned (OpenSpec.ofChange filesNilWrong)

/-- 'flyleaflaw04.FilesStride': WHATEVER THE INPUT: true; the input reads as it did. -/
def filesStrideSpec : ChangeSpec := { name := "filesStride", fn := fun _ => fun
  | [d1, d2, d3] => { results := [.lit (.bool true)], args := [d1, d2, d3] }
  | _ => none }
def filesStrideRow : OpenClaim := { program := "ytokbhihfooaijaa", sum := "3198aba33c3fa43e0d602edf8f562452234be568d97ca2331a89e47d6fec244d", func := "flyleaf/flyleaflaw04.FilesStride", spec := "filesStride", inPlace := ["internal/bytealg.IndexByteString", "internal/bytealg.IndexString", "internal/abi.NoEscape", "internal/bytealg.MakeNoZero"], unfollowed := true, recurses := true, named := ["internal/bytealg.MaxLen"], apart := false }
def FilesStrideSaid : Prop := filesStrideRow.holds Try.pinned (OpenSpec.ofChange filesStrideSpec)

/-- ITS FALSE NEIGHBOUR: 'it returns false'. Refute it at one input. -/
def filesStrideWrong : ChangeSpec := { name := "filesStride", fn := fun _ => fun
  | [d1, d2, d3] => { results := [.lit (.bool false)], args := [d1, d2, d3] }
  | _ => none }
def FilesStrideWrongFalsely : Prop := filesStrideRow.holds Try.pinned (OpenSpec.ofChange filesStrideWrong)

/- THE SECOND FORM. 'bulk': how many values and letters a reading holds, each counted each time it is reached (what is shared counts as often as it is met; a slice's spare places count too). A statement '..UptoSaid' is the law's where the arguments, and the package variables that the reading takes, are together of bulk at most 1048576: NARROWER than '..Said'. Prove '..Said' where nothing that the law and all that it calls make is longer than what came in: it says more and counts as full. Else prove '..UptoSaid'. A law counts once. -/
mutual
def uptoBulk {H : Type} : DataW H → Nat
  | .lit (.string bytes) => bytes.length + 1
  | .lit _ => 1
  | .nil => 1
  | .ptr d => uptoBulk d + 1
  | .slice elems spare => uptoBulkAll elems + uptoBulkAll spare + 1
  | .agg parts => uptoBulkAll parts + 1
  | .iface _ d => uptoBulk d + 1
  | .map entries => uptoBulkEntries entries + 1
  | .held _ => 1
def uptoBulkAll {H : Type} : List (DataW H) → Nat
  | [] => 0
  | d :: r => uptoBulk d + uptoBulkAll r
def uptoBulkEntries {H : Type} : List (Lit × DataW H) → Nat
  | [] => 0
  | x :: r => uptoBulkEntry x + uptoBulkEntries r
def uptoBulkEntry {H : Type} : Lit × DataW H → Nat
  | (.string bytes, d) => bytes.length + uptoBulk d + 1
  | (_, d) => uptoBulk d + 1
 end
def uptoSmall : (H : Type) → List (DataW H) → Bool := fun _ ds => decide (uptoBulkAll ds ≤ 1048576)
def OpenSpec.upto (s : _root_.Go.ChangeSpec) : _root_.Go.OpenSpec := { _root_.Go.OpenSpec.ofChange s with cond := some uptoSmall }

/-- 'flyleaflaw04.FilesBuild', WHERE WHAT IT READS IS OF BULK AT MOST 1048576: true; the input reads as it did. -/
def filesBuildUptoRow : OpenClaim := { program := "ytokbhihfooaijaa", sum := "3198aba33c3fa43e0d602edf8f562452234be568d97ca2331a89e47d6fec244d", func := "flyleaf/flyleaflaw04.FilesBuild", spec := "filesBuild", inPlace := ["internal/bytealg.IndexByteString", "internal/bytealg.IndexString", "internal/abi.NoEscape", "internal/bytealg.MakeNoZero"], unfollowed := true, recurses := true, named := ["internal/bytealg.MaxLen"], apart := false, narrowed := true }
def FilesBuildUptoSaid : Prop := filesBuildUptoRow.holds Try.pinned (OpenSpec.upto filesBuildSpec)

/-- 'flyleaflaw04.FilesExtents', WHERE WHAT IT READS IS OF BULK AT MOST 1048576: true; the input reads as it did. -/
def filesExtentsUptoRow : OpenClaim := { program := "ytokbhihfooaijaa", sum := "3198aba33c3fa43e0d602edf8f562452234be568d97ca2331a89e47d6fec244d", func := "flyleaf/flyleaflaw04.FilesExtents", spec := "filesExtents", inPlace := ["internal/bytealg.IndexByteString", "internal/bytealg.IndexString", "internal/abi.NoEscape", "internal/bytealg.MakeNoZero"], unfollowed := true, recurses := true, named := ["internal/bytealg.MaxLen"], apart := false, narrowed := true }
def FilesExtentsUptoSaid : Prop := filesExtentsUptoRow.holds Try.pinned (OpenSpec.upto filesExtentsSpec)

/-- 'flyleaflaw04.FilesNames', WHERE WHAT IT READS IS OF BULK AT MOST 1048576: true; the input reads as it did. -/
def filesNamesUptoRow : OpenClaim := { program := "ytokbhihfooaijaa", sum := "3198aba33c3fa43e0d602edf8f562452234be568d97ca2331a89e47d6fec244d", func := "flyleaf/flyleaflaw04.FilesNames", spec := "filesNames", inPlace := ["internal/bytealg.IndexByteString", "internal/bytealg.IndexString", "internal/abi.NoEscape", "internal/bytealg.MakeNoZero"], unfollowed := true, recurses := true, named := ["internal/bytealg.MaxLen"], apart := false, narrowed := true }
def FilesNamesUptoSaid : Prop := filesNamesUptoRow.holds Try.pinned (OpenSpec.upto filesNamesSpec)

/-- 'flyleaflaw04.FilesBack', WHERE WHAT IT READS IS OF BULK AT MOST 1048576: true; the input reads as it did. -/
def filesBackUptoRow : OpenClaim := { program := "ytokbhihfooaijaa", sum := "3198aba33c3fa43e0d602edf8f562452234be568d97ca2331a89e47d6fec244d", func := "flyleaf/flyleaflaw04.FilesBack", spec := "filesBack", inPlace := ["internal/bytealg.IndexByteString", "internal/bytealg.IndexString", "internal/abi.NoEscape", "internal/bytealg.MakeNoZero"], unfollowed := true, recurses := true, named := ["internal/bytealg.MaxLen"], apart := false, narrowed := true }
def FilesBackUptoSaid : Prop := filesBackUptoRow.holds Try.pinned (OpenSpec.upto filesBackSpec)

/-- 'flyleaflaw04.FilesNil', WHERE WHAT IT READS IS OF BULK AT MOST 1048576: true; the input reads as it did. -/
def filesNilUptoRow : OpenClaim := { program := "ytokbhihfooaijaa", sum := "3198aba33c3fa43e0d602edf8f562452234be568d97ca2331a89e47d6fec244d", func := "flyleaf/flyleaflaw04.FilesNil", spec := "filesNil", inPlace := ["internal/abi.NoEscape", "internal/bytealg.MakeNoZero", "internal/bytealg.IndexByteString", "internal/bytealg.IndexString"], unfollowed := true, recurses := true, named := ["internal/bytealg.MaxLen"], apart := false, narrowed := true }
def FilesNilUptoSaid : Prop := filesNilUptoRow.holds Try.pinned (OpenSpec.upto filesNilSpec)

/-- 'flyleaflaw04.FilesStride', WHERE WHAT IT READS IS OF BULK AT MOST 1048576: true; the input reads as it did. -/
def filesStrideUptoRow : OpenClaim := { program := "ytokbhihfooaijaa", sum := "3198aba33c3fa43e0d602edf8f562452234be568d97ca2331a89e47d6fec244d", func := "flyleaf/flyleaflaw04.FilesStride", spec := "filesStride", inPlace := ["internal/bytealg.IndexByteString", "internal/bytealg.IndexString", "internal/abi.NoEscape", "internal/bytealg.MakeNoZero"], unfollowed := true, recurses := true, named := ["internal/bytealg.MaxLen"], apart := false, narrowed := true }
def FilesStrideUptoSaid : Prop := filesStrideUptoRow.holds Try.pinned (OpenSpec.upto filesStrideSpec)

end Rows
end Go.Proofs.Ytokbhihfooaijaa
