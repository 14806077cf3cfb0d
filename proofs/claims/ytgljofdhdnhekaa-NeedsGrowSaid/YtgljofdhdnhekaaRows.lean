/-
  No cell of these rows narrows 'for every input' (looked for: loops, veiled, ifaces, maps, wideKeys, modest, calm, conditions, laid).
  DERIVED. THE GIVEN ROWS OF THIS SEAT. 4 by the template 'for every input the law returns true; each argument reads behind the call as it read before'; 0 by the template 'total and deterministic' (their statements: YtgljofdhdnhekaaTotals.lean).
  GIVEN WITH THE SEED: the statements are not yours to turn. If you find one false, say at which input.
  Laid BY PROGRAM, IN A SANDBOX (cutbox-rows.mjs): the forced cells as the released guide's own fill.sh prints them over the translation 6067be14e3b185c7… (all of the seat's roots in one cut). By AI agents, Wed Nov 11 2026. No macro, syntax, notation, axiom, sorry.
-/
import Derived.Test.YtgljofdhdnhekaaChecked
import GoSem.Claim
import GoSem.ClaimJoined
import GoSem.ClaimMapViews
import Derived.JoinedTies
import Derived.KernelRfl
namespace Go.Proofs.Ytgljofdhdnhekaa
/- THE CELL 'sum', in the pinned program and in every row, IS THE sha256 OF THE DUMP (.gsa) THAT YtgljofdhdnhekaaProg.lean LOADS. Nothing in Lean hashes anything: it is a label: what it is worth is what the hold of that sum in a sandbox is worth. -/
noncomputable def Try.pinned : Pinned := { name := "ytgljofdhdnhekaa", sum := "6067be14e3b185c7fe6d1533aeb4e6ce7e3af56f73b28a9ad182a6a64b2b1fce", checked := Try.checked }
namespace Rows
def none {H : Type} : Left H := { results := [], args := [] }

/-- 'flyleaflaw12.NeedsMany': WHATEVER THE INPUT: true; the input reads as it did. -/
def needsManySpec : ChangeSpec := { name := "needsMany", fn := fun _ => fun
  | [d] => { results := [.lit (.bool true)], args := [d] }
  | _ => none }
def needsManyRow : OpenClaim := { program := "ytgljofdhdnhekaa", sum := "6067be14e3b185c7fe6d1533aeb4e6ce7e3af56f73b28a9ad182a6a64b2b1fce", func := "flyleaf/flyleaflaw12.NeedsMany", spec := "needsMany", unfollowed := true, recurses := true, apart := false }
def NeedsManySaid : Prop := needsManyRow.holds Try.pinned (OpenSpec.ofChange needsManySpec)

/-- ITS FALSE NEIGHBOUR: 'it returns false'. Refute it at one input. -/
def needsManyWrong : ChangeSpec := { name := "needsMany", fn := fun _ => fun
  | [d] => { results := [.lit (.bool false)], args := [d] }
  | _ => none }
def NeedsManyWrongFalsely : Prop := needsManyRow.holds Try.pinned (OpenSpec.ofChange needsManyWrong)

/-- 'flyleaflaw12.NeedsGrow': WHATEVER THE INPUT: true; the input reads as it did. -/
def needsGrowSpec : ChangeSpec := { name := "needsGrow", fn := fun _ => fun
  | [d1, d2] => { results := [.lit (.bool true)], args := [d1, d2] }
  | _ => none }
def needsGrowRow : OpenClaim := { program := "ytgljofdhdnhekaa", sum := "6067be14e3b185c7fe6d1533aeb4e6ce7e3af56f73b28a9ad182a6a64b2b1fce", func := "flyleaf/flyleaflaw12.NeedsGrow", spec := "needsGrow", unfollowed := true, recurses := true, apart := false }
def NeedsGrowSaid : Prop := needsGrowRow.holds Try.pinned (OpenSpec.ofChange needsGrowSpec)

/-- ITS FALSE NEIGHBOUR: 'it returns false'. Refute it at one input. -/
def needsGrowWrong : ChangeSpec := { name := "needsGrow", fn := fun _ => fun
  | [d1, d2] => { results := [.lit (.bool false)], args := [d1, d2] }
  | _ => none }
def NeedsGrowWrongFalsely : Prop := needsGrowRow.holds Try.pinned (OpenSpec.ofChange needsGrowWrong)

/-- 'flyleaflaw12.NeedsAny': WHATEVER THE INPUT: true; the input reads as it did. -/
def needsAnySpec : ChangeSpec := { name := "needsAny", fn := fun _ => fun
  | [d1, d2] => { results := [.lit (.bool true)], args := [d1, d2] }
  | _ => none }
def needsAnyRow : OpenClaim := { program := "ytgljofdhdnhekaa", sum := "6067be14e3b185c7fe6d1533aeb4e6ce7e3af56f73b28a9ad182a6a64b2b1fce", func := "flyleaf/flyleaflaw12.NeedsAny", spec := "needsAny", unfollowed := true, recurses := true, apart := false }
def NeedsAnySaid : Prop := needsAnyRow.holds Try.pinned (OpenSpec.ofChange needsAnySpec)

/-- ITS FALSE NEIGHBOUR: 'it returns false'. Refute it at one input. -/
def needsAnyWrong : ChangeSpec := { name := "needsAny", fn := fun _ => fun
  | [d1, d2] => { results := [.lit (.bool false)], args := [d1, d2] }
  | _ => none }
def NeedsAnyWrongFalsely : Prop := needsAnyRow.holds Try.pinned (OpenSpec.ofChange needsAnyWrong)

/-- 'flyleaflaw12.NeedsOrder': WHATEVER THE INPUT: true; the input reads as it did. -/
def needsOrderSpec : ChangeSpec := { name := "needsOrder", fn := fun _ => fun
  | [d1, d2] => { results := [.lit (.bool true)], args := [d1, d2] }
  | _ => none }
def needsOrderRow : OpenClaim := { program := "ytgljofdhdnhekaa", sum := "6067be14e3b185c7fe6d1533aeb4e6ce7e3af56f73b28a9ad182a6a64b2b1fce", func := "flyleaf/flyleaflaw12.NeedsOrder", spec := "needsOrder", unfollowed := true, recurses := true, apart := false }
def NeedsOrderSaid : Prop := needsOrderRow.holds Try.pinned (OpenSpec.ofChange needsOrderSpec)

/-- ITS FALSE NEIGHBOUR: 'it returns false'. Refute it at one input. -/
def needsOrderWrong : ChangeSpec := { name := "needsOrder", fn := fun _ => fun
  | [d1, d2] => { results := [.lit (.bool false)], args := [d1, d2] }
  | _ => none }
def NeedsOrderWrongFalsely : Prop := needsOrderRow.holds Try.pinned (OpenSpec.ofChange needsOrderWrong)

/- THE SECOND FORM. 'bulk': how many values and letters a reading holds, each counted each time it is reached (what is shared counts as often as it is met; a slice's spare places count too). A statement '..UptoSaid' is the law's where the arguments, and the package variables that the reading takes, are together of bulk at most 1048576: NARROWER than '..Said'. Prove '..Said' where nothing that the law and all that it calls make is longer than what came in: it says more and counts as full. Else prove '..UptoSaid'. A law counts once. -/
mutual
def uptoBulk {H : Type} : DataW H → Nat
  | .lit (.string bytes) => bytes.length + 1
  | .lit _ => 1
  | .nil => 1
  | .ptr d => uptoBulk d + 1
  | .slice elems spare => uptoBulkAll elems + uptoBulkAll spare + 1
  | .agg parts => uptoBulkAll parts + 1
  | .iface _ d => uptoBulk d + 1
  | .map entries => uptoBulkEntries entries + 1
  | .held _ => 1
def uptoBulkAll {H : Type} : List (DataW H) → Nat
  | [] => 0
  | d :: r => uptoBulk d + uptoBulkAll r
def uptoBulkEntries {H : Type} : List (Lit × DataW H) → Nat
  | [] => 0
  | x :: r => uptoBulkEntry x + uptoBulkEntries r
def uptoBulkEntry {H : Type} : Lit × DataW H → Nat
  | (.string bytes, d) => bytes.length + uptoBulk d + 1
  | (_, d) => uptoBulk d + 1
 end
def uptoSmall : (H : Type) → List (DataW H) → Bool := fun _ ds => decide (uptoBulkAll ds ≤ 1048576)
def OpenSpec.upto (s : _root_.Go.ChangeSpec) : _root_.Go.OpenSpec := { _root_.Go.OpenSpec.ofChange s with cond := some uptoSmall }

/-- 'flyleaflaw12.NeedsMany', WHERE WHAT IT READS IS OF BULK AT MOST 1048576: true; the input reads as it did. -/
def needsManyUptoRow : OpenClaim := { program := "ytgljofdhdnhekaa", sum := "6067be14e3b185c7fe6d1533aeb4e6ce7e3af56f73b28a9ad182a6a64b2b1fce", func := "flyleaf/flyleaflaw12.NeedsMany", spec := "needsMany", unfollowed := true, recurses := true, apart := false, narrowed := true }
def NeedsManyUptoSaid : Prop := needsManyUptoRow.holds Try.pinned (OpenSpec.upto needsManySpec)

/-- 'flyleaflaw12.NeedsGrow', WHERE WHAT IT READS IS OF BULK AT MOST 1048576: true; the input reads as it did. -/
def needsGrowUptoRow : OpenClaim := { program := "ytgljofdhdnhekaa", sum := "6067be14e3b185c7fe6d1533aeb4e6ce7e3af56f73b28a9ad182a6a64b2b1fce", func := "flyleaf/flyleaflaw12.NeedsGrow", spec := "needsGrow", unfollowed := true, recurses := true, apart := false, narrowed := true }
def NeedsGrowUptoSaid : Prop := needsGrowUptoRow.holds Try.pinned (OpenSpec.upto needsGrowSpec)

/-- 'flyleaflaw12.NeedsAny', WHERE WHAT IT READS IS OF BULK AT MOST 1048576: true; the input reads as it did. -/
def needsAnyUptoRow : OpenClaim := { program := "ytgljofdhdnhekaa", sum := "6067be14e3b185c7fe6d1533aeb4e6ce7e3af56f73b28a9ad182a6a64b2b1fce", func := "flyleaf/flyleaflaw12.NeedsAny", spec := "needsAny", unfollowed := true, recurses := true, apart := false, narrowed := true }
def NeedsAnyUptoSaid : Prop := needsAnyUptoRow.holds Try.pinned (OpenSpec.upto needsAnySpec)

/-- 'flyleaflaw12.NeedsOrder', WHERE WHAT IT READS IS OF BULK AT MOST 1048576: true; the input reads as it did. -/
def needsOrderUptoRow : OpenClaim := { program := "ytgljofdhdnhekaa", sum := "6067be14e3b185c7fe6d1533aeb4e6ce7e3af56f73b28a9ad182a6a64b2b1fce", func := "flyleaf/flyleaflaw12.NeedsOrder", spec := "needsOrder", unfollowed := true, recurses := true, apart := false, narrowed := true }
def NeedsOrderUptoSaid : Prop := needsOrderUptoRow.holds Try.pinned (OpenSpec.upto needsOrderSpec)

end Rows
end Go.Proofs.Ytgljofdhdnhekaa
