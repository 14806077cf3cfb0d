/-
  No cell of these rows narrows 'for every input' (looked for: loops, veiled, ifaces, maps, wideKeys, modest, calm, conditions, laid).
  DERIVED. THE GIVEN ROWS OF THIS SEAT. 4 by the template 'for every input the law returns true; each argument reads behind the call as it read before'; 0 by the template 'total and deterministic' (their statements: YtffgdfoeeaoonaaTotals.lean).
  GIVEN WITH THE SEED: the statements are not yours to turn. If you find one false, say at which input.
  Laid BY PROGRAM, IN A SANDBOX (cutbox-rows.mjs): the forced cells as the released guide's own fill.sh prints them over the translation dc8e504cda9f0e3d… (all of the seat's roots in one cut). By AI agents, Wed Nov 11 2026. No macro, syntax, notation, axiom, sorry.
-/
import Derived.Test.YtffgdfoeeaoonaaChecked
import GoSem.Claim
import GoSem.ClaimJoined
import GoSem.ClaimMapViews
import Derived.JoinedTies
import Derived.KernelRfl
namespace Go.Proofs.Ytffgdfoeeaoonaa
/- THE CELL 'sum', in the pinned program and in every row, IS THE sha256 OF THE DUMP (.gsa) THAT YtffgdfoeeaoonaaProg.lean LOADS. Nothing in Lean hashes anything: it is a label: what it is worth is what the hold of that sum in a sandbox is worth. -/
noncomputable def Try.pinned : Pinned := { name := "ytffgdfoeeaoonaa", sum := "dc8e504cda9f0e3d3d48545286341771f1b4539435d8c8156903582d857c0828", checked := Try.checked }
namespace Rows
def none {H : Type} : Left H := { results := [], args := [] }

/-- 'flyleaflaw09.DynamicBack': WHATEVER THE INPUT: true; the input reads as it did. -/
def dynamicBackSpec : ChangeSpec := { name := "dynamicBack", fn := fun _ => fun
  | [d1, d2, d3] => { results := [.lit (.bool true)], args := [d1, d2, d3] }
  | _ => none }
def dynamicBackRow : OpenClaim := { program := "ytffgdfoeeaoonaa", sum := "dc8e504cda9f0e3d3d48545286341771f1b4539435d8c8156903582d857c0828", func := "flyleaf/flyleaflaw09.DynamicBack", spec := "dynamicBack", inPlace := ["internal/abi.NoEscape"], unfollowed := true, recurses := true, apart := false }
def DynamicBackSaid : Prop := dynamicBackRow.holds Try.pinned (OpenSpec.ofChange dynamicBackSpec)

/-- ITS FALSE NEIGHBOUR: 'it returns false'. Refute it at one input. -/
def dynamicBackWrong : ChangeSpec := { name := "dynamicBack", fn := fun _ => fun
  | [d1, d2, d3] => { results := [.lit (.bool false)], args := [d1, d2, d3] }
  | _ => none }
def DynamicBackWrongFalsely : Prop := dynamicBackRow.holds Try.pinned (OpenSpec.ofChange dynamicBackWrong)

/-- 'flyleaflaw09.DynamicOne': WHATEVER THE INPUT: true; the input reads as it did. -/
def dynamicOneSpec : ChangeSpec := { name := "dynamicOne", fn := fun _ => fun
  | [d1, d2] => { results := [.lit (.bool true)], args := [d1, d2] }
  | _ => none }
def dynamicOneRow : OpenClaim := { program := "ytffgdfoeeaoonaa", sum := "dc8e504cda9f0e3d3d48545286341771f1b4539435d8c8156903582d857c0828", func := "flyleaf/flyleaflaw09.DynamicOne", spec := "dynamicOne", inPlace := ["internal/abi.NoEscape"], unfollowed := true, recurses := true, apart := false }
def DynamicOneSaid : Prop := dynamicOneRow.holds Try.pinned (OpenSpec.ofChange dynamicOneSpec)

/-- ITS FALSE NEIGHBOUR: 'it returns false'. Refute it at one input. -/
def dynamicOneWrong : ChangeSpec := { name := "dynamicOne", fn := fun _ => fun
  | [d1, d2] => { results := [.lit (.bool false)], args := [d1, d2] }
  | _ => none }
def DynamicOneWrongFalsely : Prop := dynamicOneRow.holds Try.pinned (OpenSpec.ofChange dynamicOneWrong)

/-- 'flyleaflaw09.DynamicName': WHATEVER THE INPUT: true; the input reads as it did. -/
def dynamicNameSpec : ChangeSpec := { name := "dynamicName", fn := fun _ => fun
  | [d1, d2, d3] => { results := [.lit (.bool true)], args := [d1, d2, d3] }
  | _ => none }
def dynamicNameRow : OpenClaim := { program := "ytffgdfoeeaoonaa", sum := "dc8e504cda9f0e3d3d48545286341771f1b4539435d8c8156903582d857c0828", func := "flyleaf/flyleaflaw09.DynamicName", spec := "dynamicName", inPlace := ["internal/abi.NoEscape"], unfollowed := true, recurses := true, apart := false }
def DynamicNameSaid : Prop := dynamicNameRow.holds Try.pinned (OpenSpec.ofChange dynamicNameSpec)

/-- ITS FALSE NEIGHBOUR: 'it returns false'. Refute it at one input. -/
def dynamicNameWrong : ChangeSpec := { name := "dynamicName", fn := fun _ => fun
  | [d1, d2, d3] => { results := [.lit (.bool false)], args := [d1, d2, d3] }
  | _ => none }
def DynamicNameWrongFalsely : Prop := dynamicNameRow.holds Try.pinned (OpenSpec.ofChange dynamicNameWrong)

/-- 'flyleaflaw09.DynamicLists': WHATEVER THE INPUT: true; the input reads as it did. -/
def dynamicListsSpec : ChangeSpec := { name := "dynamicLists", fn := fun _ => fun
  | [d1, d2, d3] => { results := [.lit (.bool true)], args := [d1, d2, d3] }
  | _ => none }
def dynamicListsRow : OpenClaim := { program := "ytffgdfoeeaoonaa", sum := "dc8e504cda9f0e3d3d48545286341771f1b4539435d8c8156903582d857c0828", func := "flyleaf/flyleaflaw09.DynamicLists", spec := "dynamicLists", inPlace := ["internal/abi.NoEscape"], unfollowed := true, recurses := true, apart := false }
def DynamicListsSaid : Prop := dynamicListsRow.holds Try.pinned (OpenSpec.ofChange dynamicListsSpec)

/-- ITS FALSE NEIGHBOUR: 'it returns false'. Refute it at one input. -/
def dynamicListsWrong : ChangeSpec := { name := "dynamicLists", fn := fun _ => fun
  | [d1, d2, d3] => { results := [.lit (.bool false)], args := [d1, d2, d3] }
  | _ => none }
def DynamicListsWrongFalsely : Prop := dynamicListsRow.holds Try.pinned (OpenSpec.ofChange dynamicListsWrong)

/- THE SECOND FORM. 'bulk': how many values and letters a reading holds, each counted each time it is reached (what is shared counts as often as it is met; a slice's spare places count too). A statement '..UptoSaid' is the law's where the arguments, and the package variables that the reading takes, are together of bulk at most 1048576: NARROWER than '..Said'. Prove '..Said' where nothing that the law and all that it calls make is longer than what came in: it says more and counts as full. Else prove '..UptoSaid'. A law counts once. -/
mutual
def uptoBulk {H : Type} : DataW H → Nat
  | .lit (.string bytes) => bytes.length + 1
  | .lit _ => 1
  | .nil => 1
  | .ptr d => uptoBulk d + 1
  | .slice elems spare => uptoBulkAll elems + uptoBulkAll spare + 1
  | .agg parts => uptoBulkAll parts + 1
  | .iface _ d => uptoBulk d + 1
  | .map entries => uptoBulkEntries entries + 1
  | .held _ => 1
def uptoBulkAll {H : Type} : List (DataW H) → Nat
  | [] => 0
  | d :: r => uptoBulk d + uptoBulkAll r
def uptoBulkEntries {H : Type} : List (Lit × DataW H) → Nat
  | [] => 0
  | x :: r => uptoBulkEntry x + uptoBulkEntries r
def uptoBulkEntry {H : Type} : Lit × DataW H → Nat
  | (.string bytes, d) => bytes.length + uptoBulk d + 1
  | (_, d) => uptoBulk d + 1
 end
def uptoSmall : (H : Type) → List (DataW H) → Bool := fun _ ds => decide (uptoBulkAll ds ≤ 1048576)
def OpenSpec.upto (s : _root_.Go.ChangeSpec) : _root_.Go.OpenSpec := { _root_.Go.OpenSpec.ofChange s with cond := some uptoSmall }

/-- 'flyleaflaw09.DynamicBack', WHERE WHAT IT READS IS OF BULK AT MOST 1048576: true; the input reads as it did. -/
def dynamicBackUptoRow : OpenClaim := { program := "ytffgdfoeeaoonaa", sum := "dc8e504cda9f0e3d3d48545286341771f1b4539435d8c8156903582d857c0828", func := "flyleaf/flyleaflaw09.DynamicBack", spec := "dynamicBack", inPlace := ["internal/abi.NoEscape"], unfollowed := true, recurses := true, apart := false, narrowed := true }
def DynamicBackUptoSaid : Prop := dynamicBackUptoRow.holds Try.pinned (OpenSpec.upto dynamicBackSpec)

/-- 'flyleaflaw09.DynamicOne', WHERE WHAT IT READS IS OF BULK AT MOST 1048576: true; the input reads as it did. -/
def dynamicOneUptoRow : OpenClaim := { program := "ytffgdfoeeaoonaa", sum := "dc8e504cda9f0e3d3d48545286341771f1b4539435d8c8156903582d857c0828", func := "flyleaf/flyleaflaw09.DynamicOne", spec := "dynamicOne", inPlace := ["internal/abi.NoEscape"], unfollowed := true, recurses := true, apart := false, narrowed := true }
def DynamicOneUptoSaid : Prop := dynamicOneUptoRow.holds Try.pinned (OpenSpec.upto dynamicOneSpec)

/-- 'flyleaflaw09.DynamicName', WHERE WHAT IT READS IS OF BULK AT MOST 1048576: true; the input reads as it did. -/
def dynamicNameUptoRow : OpenClaim := { program := "ytffgdfoeeaoonaa", sum := "dc8e504cda9f0e3d3d48545286341771f1b4539435d8c8156903582d857c0828", func := "flyleaf/flyleaflaw09.DynamicName", spec := "dynamicName", inPlace := ["internal/abi.NoEscape"], unfollowed := true, recurses := true, apart := false, narrowed := true }
def DynamicNameUptoSaid : Prop := dynamicNameUptoRow.holds Try.pinned (OpenSpec.upto dynamicNameSpec)

/-- 'flyleaflaw09.DynamicLists', WHERE WHAT IT READS IS OF BULK AT MOST 1048576: true; the input reads as it did. -/
def dynamicListsUptoRow : OpenClaim := { program := "ytffgdfoeeaoonaa", sum := "dc8e504cda9f0e3d3d48545286341771f1b4539435d8c8156903582d857c0828", func := "flyleaf/flyleaflaw09.DynamicLists", spec := "dynamicLists", inPlace := ["internal/abi.NoEscape"], unfollowed := true, recurses := true, apart := false, narrowed := true }
def DynamicListsUptoSaid : Prop := dynamicListsUptoRow.holds Try.pinned (OpenSpec.upto dynamicListsSpec)

end Rows
end Go.Proofs.Ytffgdfoeeaoonaa
