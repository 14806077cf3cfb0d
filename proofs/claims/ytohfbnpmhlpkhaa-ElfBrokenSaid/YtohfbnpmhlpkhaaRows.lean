/-
  No cell of these rows narrows 'for every input' (looked for: loops, veiled, ifaces, maps, wideKeys, modest, calm, conditions, laid).
  DERIVED. THE GIVEN ROWS OF THIS SEAT. 7 by the template 'for every input the law returns true; each argument reads behind the call as it read before'; 0 by the template 'total and deterministic' (their statements: YtohfbnpmhlpkhaaTotals.lean).
  GIVEN WITH THE SEED: the statements are not yours to turn. If you find one false, say at which input.
  Laid BY PROGRAM, IN A SANDBOX (cutbox-rows.mjs): the forced cells as the released guide's own fill.sh prints them over the translation 8c08beb112c48e02… (all of the seat's roots in one cut). By AI agents, Wed Nov 11 2026. No macro, syntax, notation, axiom, sorry.
-/
import Derived.Test.YtohfbnpmhlpkhaaChecked
import GoSem.Claim
import GoSem.ClaimJoined
import GoSem.ClaimMapViews
import Derived.JoinedTies
import Derived.KernelRfl
namespace Go.Proofs.Ytohfbnpmhlpkhaa
/- THE CELL 'sum', in the pinned program and in every row, IS THE sha256 OF THE DUMP (.gsa) THAT YtohfbnpmhlpkhaaProg.lean LOADS. Nothing in Lean hashes anything: it is a label: what it is worth is what the hold of that sum in a sandbox is worth. -/
noncomputable def Try.pinned : Pinned := { name := "ytohfbnpmhlpkhaa", sum := "8c08beb112c48e02405c645b819ccdd282bcf7525eb2d2313794b68ad7c35722", checked := Try.checked }
namespace Rows
def none {H : Type} : Left H := { results := [], args := [] }

/-- 'flyleaflaw08.ElfParses': WHATEVER THE INPUT: true; the input reads as it did. -/
def elfParsesSpec : ChangeSpec := { name := "elfParses", fn := fun _ => fun
  | [d1, d2] => { results := [.lit (.bool true)], args := [d1, d2] }
  | _ => none }
def elfParsesRow : OpenClaim := { program := "ytohfbnpmhlpkhaa", sum := "8c08beb112c48e02405c645b819ccdd282bcf7525eb2d2313794b68ad7c35722", func := "flyleaf/flyleaflaw08.ElfParses", spec := "elfParses", inPlace := ["internal/abi.NoEscape", "internal/bytealg.MakeNoZero"], unfollowed := true, recurses := true, apart := false }
def ElfParsesSaid : Prop := elfParsesRow.holds Try.pinned (OpenSpec.ofChange elfParsesSpec)

/-- ITS FALSE NEIGHBOUR: 'it returns false'. Refute it at one input. -/
def elfParsesWrong : ChangeSpec := { name := "elfParses", fn := fun _ => fun
  | [d1, d2] => { results := [.lit (.bool false)], args := [d1, d2] }
  | _ => none }
def ElfParsesWrongFalsely : Prop := elfParsesRow.holds Try.pinned (OpenSpec.ofChange elfParsesWrong)

/-- 'flyleaflaw08.ElfReads': WHATEVER THE INPUT: true; the input reads as it did. -/
def elfReadsSpec : ChangeSpec := { name := "elfReads", fn := fun _ => fun
  | [d] => { results := [.lit (.bool true)], args := [d] }
  | _ => none }
def elfReadsRow : OpenClaim := { program := "ytohfbnpmhlpkhaa", sum := "8c08beb112c48e02405c645b819ccdd282bcf7525eb2d2313794b68ad7c35722", func := "flyleaf/flyleaflaw08.ElfReads", spec := "elfReads", inPlace := ["internal/abi.NoEscape", "internal/bytealg.MakeNoZero"], unfollowed := true, recurses := true, apart := false }
def ElfReadsSaid : Prop := elfReadsRow.holds Try.pinned (OpenSpec.ofChange elfReadsSpec)

/-- ITS FALSE NEIGHBOUR: 'it returns false'. Refute it at one input. -/
def elfReadsWrong : ChangeSpec := { name := "elfReads", fn := fun _ => fun
  | [d] => { results := [.lit (.bool false)], args := [d] }
  | _ => none }
def ElfReadsWrongFalsely : Prop := elfReadsRow.holds Try.pinned (OpenSpec.ofChange elfReadsWrong)

/-- 'flyleaflaw08.ElfBroken': WHATEVER THE INPUT: true; the input reads as it did. -/
def elfBrokenSpec : ChangeSpec := { name := "elfBroken", fn := fun _ => fun
  | [d1, d2] => { results := [.lit (.bool true)], args := [d1, d2] }
  | _ => none }
def elfBrokenRow : OpenClaim := { program := "ytohfbnpmhlpkhaa", sum := "8c08beb112c48e02405c645b819ccdd282bcf7525eb2d2313794b68ad7c35722", func := "flyleaf/flyleaflaw08.ElfBroken", spec := "elfBroken", inPlace := ["internal/abi.NoEscape", "internal/bytealg.MakeNoZero"], unfollowed := true, recurses := true, apart := false }
def ElfBrokenSaid : Prop := elfBrokenRow.holds Try.pinned (OpenSpec.ofChange elfBrokenSpec)

/-- ITS FALSE NEIGHBOUR: 'it returns false'. Refute it at one input. -/
def elfBrokenWrong : ChangeSpec := { name := "elfBroken", fn := fun _ => fun
  | [d1, d2] => { results := [.lit (.bool false)], args := [d1, d2] }
  | _ => none }
def ElfBrokenWrongFalsely : Prop := elfBrokenRow.holds Try.pinned (OpenSpec.ofChange elfBrokenWrong)

/-- 'flyleaflaw08.ElfPages': WHATEVER THE INPUT: true; the input reads as it did. -/
def elfPagesSpec : ChangeSpec := { name := "elfPages", fn := fun _ => fun
  | [d] => { results := [.lit (.bool true)], args := [d] }
  | _ => none }
def elfPagesRow : OpenClaim := { program := "ytohfbnpmhlpkhaa", sum := "8c08beb112c48e02405c645b819ccdd282bcf7525eb2d2313794b68ad7c35722", func := "flyleaf/flyleaflaw08.ElfPages", spec := "elfPages", inPlace := ["internal/abi.NoEscape", "internal/bytealg.MakeNoZero"], unfollowed := true, recurses := true, apart := false }
def ElfPagesSaid : Prop := elfPagesRow.holds Try.pinned (OpenSpec.ofChange elfPagesSpec)

/-- ITS FALSE NEIGHBOUR: 'it returns false'. Refute it at one input. -/
def elfPagesWrong : ChangeSpec := { name := "elfPages", fn := fun _ => fun
  | [d] => { results := [.lit (.bool false)], args := [d] }
  | _ => none }
def ElfPagesWrongFalsely : Prop := elfPagesRow.holds Try.pinned (OpenSpec.ofChange elfPagesWrong)

/-- 'flyleaflaw08.ElfChecks': WHATEVER THE INPUT: true; the input reads as it did. -/
def elfChecksSpec : ChangeSpec := { name := "elfChecks", fn := fun _ => fun
  | [d1, d2, d3] => { results := [.lit (.bool true)], args := [d1, d2, d3] }
  | _ => none }
def elfChecksRow : OpenClaim := { program := "ytohfbnpmhlpkhaa", sum := "8c08beb112c48e02405c645b819ccdd282bcf7525eb2d2313794b68ad7c35722", func := "flyleaf/flyleaflaw08.ElfChecks", spec := "elfChecks", inPlace := ["internal/abi.NoEscape", "internal/bytealg.MakeNoZero"], unfollowed := true, recurses := true, apart := false }
def ElfChecksSaid : Prop := elfChecksRow.holds Try.pinned (OpenSpec.ofChange elfChecksSpec)

/-- ITS FALSE NEIGHBOUR: 'it returns false'. Refute it at one input. -/
def elfChecksWrong : ChangeSpec := { name := "elfChecks", fn := fun _ => fun
  | [d1, d2, d3] => { results := [.lit (.bool false)], args := [d1, d2, d3] }
  | _ => none }
def ElfChecksWrongFalsely : Prop := elfChecksRow.holds Try.pinned (OpenSpec.ofChange elfChecksWrong)

/-- 'flyleaflaw08.ElfBack': WHATEVER THE INPUT: true; the input reads as it did. -/
def elfBackSpec : ChangeSpec := { name := "elfBack", fn := fun _ => fun
  | [d1, d2] => { results := [.lit (.bool true)], args := [d1, d2] }
  | _ => none }
def elfBackRow : OpenClaim := { program := "ytohfbnpmhlpkhaa", sum := "8c08beb112c48e02405c645b819ccdd282bcf7525eb2d2313794b68ad7c35722", func := "flyleaf/flyleaflaw08.ElfBack", spec := "elfBack", inPlace := ["internal/abi.NoEscape", "internal/bytealg.MakeNoZero"], unfollowed := true, recurses := true, apart := false }
def ElfBackSaid : Prop := elfBackRow.holds Try.pinned (OpenSpec.ofChange elfBackSpec)

/-- ITS FALSE NEIGHBOUR: 'it returns false'. Refute it at one input. -/
def elfBackWrong : ChangeSpec := { name := "elfBack", fn := fun _ => fun
  | [d1, d2] => { results := [.lit (.bool false)], args := [d1, d2] }
  | _ => none }
def ElfBackWrongFalsely : Prop := elfBackRow.holds Try.pinned (OpenSpec.ofChange elfBackWrong)

/-- 'flyleaflaw08.ElfAny': WHATEVER THE INPUT: true; the input reads as it did. -/
def elfAnySpec : ChangeSpec := { name := "elfAny", fn := fun _ => fun
  | [d1, d2, d3] => { results := [.lit (.bool true)], args := [d1, d2, d3] }
  | _ => none }
def elfAnyRow : OpenClaim := { program := "ytohfbnpmhlpkhaa", sum := "8c08beb112c48e02405c645b819ccdd282bcf7525eb2d2313794b68ad7c35722", func := "flyleaf/flyleaflaw08.ElfAny", spec := "elfAny", inPlace := ["internal/abi.NoEscape", "internal/bytealg.MakeNoZero"], unfollowed := true, recurses := true, apart := false }
def ElfAnySaid : Prop := elfAnyRow.holds Try.pinned (OpenSpec.ofChange elfAnySpec)

/-- ITS FALSE NEIGHBOUR: 'it returns false'. Refute it at one input. -/
def elfAnyWrong : ChangeSpec := { name := "elfAny", fn := fun _ => fun
  | [d1, d2, d3] => { results := [.lit (.bool false)], args := [d1, d2, d3] }
  | _ => none }
def ElfAnyWrongFalsely : Prop := elfAnyRow.holds Try.pinned (OpenSpec.ofChange elfAnyWrong)

/- THE SECOND FORM. 'bulk': how many values and letters a reading holds, each counted each time it is reached (what is shared counts as often as it is met; a slice's spare places count too). A statement '..UptoSaid' is the law's where the arguments, and the package variables that the reading takes, are together of bulk at most 1048576: NARROWER than '..Said'. Prove '..Said' where nothing that the law and all that it calls make is longer than what came in: it says more and counts as full. Else prove '..UptoSaid'. A law counts once. -/
mutual
def uptoBulk {H : Type} : DataW H → Nat
  | .lit (.string bytes) => bytes.length + 1
  | .lit _ => 1
  | .nil => 1
  | .ptr d => uptoBulk d + 1
  | .slice elems spare => uptoBulkAll elems + uptoBulkAll spare + 1
  | .agg parts => uptoBulkAll parts + 1
  | .iface _ d => uptoBulk d + 1
  | .map entries => uptoBulkEntries entries + 1
  | .held _ => 1
def uptoBulkAll {H : Type} : List (DataW H) → Nat
  | [] => 0
  | d :: r => uptoBulk d + uptoBulkAll r
def uptoBulkEntries {H : Type} : List (Lit × DataW H) → Nat
  | [] => 0
  | x :: r => uptoBulkEntry x + uptoBulkEntries r
def uptoBulkEntry {H : Type} : Lit × DataW H → Nat
  | (.string bytes, d) => bytes.length + uptoBulk d + 1
  | (_, d) => uptoBulk d + 1
 end
def uptoSmall : (H : Type) → List (DataW H) → Bool := fun _ ds => decide (uptoBulkAll ds ≤ 1048576)
def OpenSpec.upto (s : _root_.Go.ChangeSpec) : _root_.Go.OpenSpec := { _root_.Go.OpenSpec.ofChange s with cond := some uptoSmall }

/-- 'flyleaflaw08.ElfParses', WHERE WHAT IT READS IS OF BULK AT MOST 1048576: true; the input reads as it did. -/
def elfParsesUptoRow : OpenClaim := { program := "ytohfbnpmhlpkhaa", sum := "8c08beb112c48e02405c645b819ccdd282bcf7525eb2d2313794b68ad7c35722", func := "flyleaf/flyleaflaw08.ElfParses", spec := "elfParses", inPlace := ["internal/abi.NoEscape", "internal/bytealg.MakeNoZero"], unfollowed := true, recurses := true, apart := false, narrowed := true }
def ElfParsesUptoSaid : Prop := elfParsesUptoRow.holds Try.pinned (OpenSpec.upto elfParsesSpec)

/-- 'flyleaflaw08.ElfReads', WHERE WHAT IT READS IS OF BULK AT MOST 1048576: true; the input reads as it did. -/
def elfReadsUptoRow : OpenClaim := { program := "ytohfbnpmhlpkhaa", sum := "8c08beb112c48e02405c645b819ccdd282bcf7525eb2d2313794b68ad7c35722", func := "flyleaf/flyleaflaw08.ElfReads", spec := "elfReads", inPlace := ["internal/abi.NoEscape", "internal/bytealg.MakeNoZero"], unfollowed := true, recurses := true, apart := false, narrowed := true }
def ElfReadsUptoSaid : Prop := elfReadsUptoRow.holds Try.pinned (OpenSpec.upto elfReadsSpec)

/-- 'flyleaflaw08.ElfBroken', WHERE WHAT IT READS IS OF BULK AT MOST 1048576: true; the input reads as it did. -/
def elfBrokenUptoRow : OpenClaim := { program := "ytohfbnpmhlpkhaa", sum := "8c08beb112c48e02405c645b819ccdd282bcf7525eb2d2313794b68ad7c35722", func := "flyleaf/flyleaflaw08.ElfBroken", spec := "elfBroken", inPlace := ["internal/abi.NoEscape", "internal/bytealg.MakeNoZero"], unfollowed := true, recurses := true, apart := false, narrowed := true }
def ElfBrokenUptoSaid : Prop := elfBrokenUptoRow.holds Try.pinned (OpenSpec.upto elfBrokenSpec)

/-- 'flyleaflaw08.ElfPages', WHERE WHAT IT READS IS OF BULK AT MOST 1048576: true; the input reads as it did. -/
def elfPagesUptoRow : OpenClaim := { program := "ytohfbnpmhlpkhaa", sum := "8c08beb112c48e02405c645b819ccdd282bcf7525eb2d2313794b68ad7c35722", func := "flyleaf/flyleaflaw08.ElfPages", spec := "elfPages", inPlace := ["internal/abi.NoEscape", "internal/bytealg.MakeNoZero"], unfollowed := true, recurses := true, apart := false, narrowed := true }
def ElfPagesUptoSaid : Prop := elfPagesUptoRow.holds Try.pinned (OpenSpec.upto elfPagesSpec)

/-- 'flyleaflaw08.ElfChecks', WHERE WHAT IT READS IS OF BULK AT MOST 1048576: true; the input reads as it did. -/
def elfChecksUptoRow : OpenClaim := { program := "ytohfbnpmhlpkhaa", sum := "8c08beb112c48e02405c645b819ccdd282bcf7525eb2d2313794b68ad7c35722", func := "flyleaf/flyleaflaw08.ElfChecks", spec := "elfChecks", inPlace := ["internal/abi.NoEscape", "internal/bytealg.MakeNoZero"], unfollowed := true, recurses := true, apart := false, narrowed := true }
def ElfChecksUptoSaid : Prop := elfChecksUptoRow.holds Try.pinned (OpenSpec.upto elfChecksSpec)

/-- 'flyleaflaw08.ElfBack', WHERE WHAT IT READS IS OF BULK AT MOST 1048576: true; the input reads as it did. -/
def elfBackUptoRow : OpenClaim := { program := "ytohfbnpmhlpkhaa", sum := "8c08beb112c48e02405c645b819ccdd282bcf7525eb2d2313794b68ad7c35722", func := "flyleaf/flyleaflaw08.ElfBack", spec := "elfBack", inPlace := ["internal/abi.NoEscape", "internal/bytealg.MakeNoZero"], unfollowed := true, recurses := true, apart := false, narrowed := true }
def ElfBackUptoSaid : Prop := elfBackUptoRow.holds Try.pinned (OpenSpec.upto elfBackSpec)

/-- 'flyleaflaw08.ElfAny', WHERE WHAT IT READS IS OF BULK AT MOST 1048576: true; the input reads as it did. -/
def elfAnyUptoRow : OpenClaim := { program := "ytohfbnpmhlpkhaa", sum := "8c08beb112c48e02405c645b819ccdd282bcf7525eb2d2313794b68ad7c35722", func := "flyleaf/flyleaflaw08.ElfAny", spec := "elfAny", inPlace := ["internal/abi.NoEscape", "internal/bytealg.MakeNoZero"], unfollowed := true, recurses := true, apart := false, narrowed := true }
def ElfAnyUptoSaid : Prop := elfAnyUptoRow.holds Try.pinned (OpenSpec.upto elfAnySpec)

end Rows
end Go.Proofs.Ytohfbnpmhlpkhaa
