/-
  No cell of these rows narrows 'for every input' (looked for: loops, veiled, ifaces, maps, wideKeys, modest, calm, conditions, laid).
  DERIVED. THE GIVEN ROWS OF THIS SEAT. 6 by the template 'for every input the law returns true; each argument reads behind the call as it read before'; 0 by the template 'total and deterministic' (their statements: YtkjmecbbdccfoaaTotals.lean).
  GIVEN WITH THE SEED: the statements are not yours to turn. If you find one false, say at which input.
  Laid BY PROGRAM, IN A SANDBOX (cutbox-rows.mjs): the forced cells as the released guide's own fill.sh prints them over the translation f9024a9e3e1d4e94… (all of the seat's roots in one cut). By AI agents, Wed Nov 11 2026. No macro, syntax, notation, axiom, sorry.
-/
import Derived.Test.YtkjmecbbdccfoaaChecked
import GoSem.Claim
import GoSem.ClaimJoined
import GoSem.ClaimMapViews
import Derived.JoinedTies
import Derived.KernelRfl
namespace Go.Proofs.Ytkjmecbbdccfoaa
/- THE CELL 'sum', in the pinned program and in every row, IS THE sha256 OF THE DUMP (.gsa) THAT YtkjmecbbdccfoaaProg.lean LOADS. Nothing in Lean hashes anything: it is a label: what it is worth is what the hold of that sum in a sandbox is worth. -/
noncomputable def Try.pinned : Pinned := { name := "ytkjmecbbdccfoaa", sum := "f9024a9e3e1d4e942d23b2388f83a499a0cfc8c5bc98a39e82ea2a71d5f4c871", checked := Try.checked }
namespace Rows
def none {H : Type} : Left H := { results := [], args := [] }

/-- 'flyleaflaw11.RelocShifts': WHATEVER THE INPUT: true; the input reads as it did. -/
def relocShiftsSpec : ChangeSpec := { name := "relocShifts", fn := fun _ => fun
  | [d1, d2] => { results := [.lit (.bool true)], args := [d1, d2] }
  | _ => none }
def relocShiftsRow : OpenClaim := { program := "ytkjmecbbdccfoaa", sum := "f9024a9e3e1d4e942d23b2388f83a499a0cfc8c5bc98a39e82ea2a71d5f4c871", func := "flyleaf/flyleaflaw11.RelocShifts", spec := "relocShifts", apart := false }
def RelocShiftsSaid : Prop := relocShiftsRow.holds Try.pinned (OpenSpec.ofChange relocShiftsSpec)

/-- ITS FALSE NEIGHBOUR: 'it returns false'. Refute it at one input. -/
def relocShiftsWrong : ChangeSpec := { name := "relocShifts", fn := fun _ => fun
  | [d1, d2] => { results := [.lit (.bool false)], args := [d1, d2] }
  | _ => none }
def RelocShiftsWrongFalsely : Prop := relocShiftsRow.holds Try.pinned (OpenSpec.ofChange relocShiftsWrong)

/-- 'flyleaflaw11.RelocValues': WHATEVER THE INPUT: true; the input reads as it did. -/
def relocValuesSpec : ChangeSpec := { name := "relocValues", fn := fun _ => fun
  | [d1, d2, d3] => { results := [.lit (.bool true)], args := [d1, d2, d3] }
  | _ => none }
def relocValuesRow : OpenClaim := { program := "ytkjmecbbdccfoaa", sum := "f9024a9e3e1d4e942d23b2388f83a499a0cfc8c5bc98a39e82ea2a71d5f4c871", func := "flyleaf/flyleaflaw11.RelocValues", spec := "relocValues", apart := false }
def RelocValuesSaid : Prop := relocValuesRow.holds Try.pinned (OpenSpec.ofChange relocValuesSpec)

/-- ITS FALSE NEIGHBOUR: 'it returns false'. Refute it at one input. -/
def relocValuesWrong : ChangeSpec := { name := "relocValues", fn := fun _ => fun
  | [d1, d2, d3] => { results := [.lit (.bool false)], args := [d1, d2, d3] }
  | _ => none }
def RelocValuesWrongFalsely : Prop := relocValuesRow.holds Try.pinned (OpenSpec.ofChange relocValuesWrong)

/-- 'flyleaflaw11.RelocReads': WHATEVER THE INPUT: true; the input reads as it did. -/
def relocReadsSpec : ChangeSpec := { name := "relocReads", fn := fun _ => fun
  | [d1, d2, d3] => { results := [.lit (.bool true)], args := [d1, d2, d3] }
  | _ => none }
def relocReadsRow : OpenClaim := { program := "ytkjmecbbdccfoaa", sum := "f9024a9e3e1d4e942d23b2388f83a499a0cfc8c5bc98a39e82ea2a71d5f4c871", func := "flyleaf/flyleaflaw11.RelocReads", spec := "relocReads", unfollowed := true, recurses := true, apart := false }
def RelocReadsSaid : Prop := relocReadsRow.holds Try.pinned (OpenSpec.ofChange relocReadsSpec)

/-- ITS FALSE NEIGHBOUR: 'it returns false'. Refute it at one input. -/
def relocReadsWrong : ChangeSpec := { name := "relocReads", fn := fun _ => fun
  | [d1, d2, d3] => { results := [.lit (.bool false)], args := [d1, d2, d3] }
  | _ => none }
def RelocReadsWrongFalsely : Prop := relocReadsRow.holds Try.pinned (OpenSpec.ofChange relocReadsWrong)

/-- 'flyleaflaw11.RelocBack': WHATEVER THE INPUT: true; the input reads as it did. -/
def relocBackSpec : ChangeSpec := { name := "relocBack", fn := fun _ => fun
  | [d1, d2] => { results := [.lit (.bool true)], args := [d1, d2] }
  | _ => none }
def relocBackRow : OpenClaim := { program := "ytkjmecbbdccfoaa", sum := "f9024a9e3e1d4e942d23b2388f83a499a0cfc8c5bc98a39e82ea2a71d5f4c871", func := "flyleaf/flyleaflaw11.RelocBack", spec := "relocBack", unfollowed := true, recurses := true, apart := false }
def RelocBackSaid : Prop := relocBackRow.holds Try.pinned (OpenSpec.ofChange relocBackSpec)

/-- ITS FALSE NEIGHBOUR: 'it returns false'. Refute it at one input. -/
def relocBackWrong : ChangeSpec := { name := "relocBack", fn := fun _ => fun
  | [d1, d2] => { results := [.lit (.bool false)], args := [d1, d2] }
  | _ => none }
def RelocBackWrongFalsely : Prop := relocBackRow.holds Try.pinned (OpenSpec.ofChange relocBackWrong)

/-- 'flyleaflaw11.RelocOrder': WHATEVER THE INPUT: true; the input reads as it did. -/
def relocOrderSpec : ChangeSpec := { name := "relocOrder", fn := fun _ => fun
  | [d1, d2] => { results := [.lit (.bool true)], args := [d1, d2] }
  | _ => none }
def relocOrderRow : OpenClaim := { program := "ytkjmecbbdccfoaa", sum := "f9024a9e3e1d4e942d23b2388f83a499a0cfc8c5bc98a39e82ea2a71d5f4c871", func := "flyleaf/flyleaflaw11.RelocOrder", spec := "relocOrder", unfollowed := true, recurses := true, apart := false }
def RelocOrderSaid : Prop := relocOrderRow.holds Try.pinned (OpenSpec.ofChange relocOrderSpec)

/-- ITS FALSE NEIGHBOUR: 'it returns false'. Refute it at one input. -/
def relocOrderWrong : ChangeSpec := { name := "relocOrder", fn := fun _ => fun
  | [d1, d2] => { results := [.lit (.bool false)], args := [d1, d2] }
  | _ => none }
def RelocOrderWrongFalsely : Prop := relocOrderRow.holds Try.pinned (OpenSpec.ofChange relocOrderWrong)

/-- 'flyleaflaw11.RelocKinds': WHATEVER THE INPUT: true; the input reads as it did. -/
def relocKindsSpec : ChangeSpec := { name := "relocKinds", fn := fun _ => fun
  | [d1, d2, d3] => { results := [.lit (.bool true)], args := [d1, d2, d3] }
  | _ => none }
def relocKindsRow : OpenClaim := { program := "ytkjmecbbdccfoaa", sum := "f9024a9e3e1d4e942d23b2388f83a499a0cfc8c5bc98a39e82ea2a71d5f4c871", func := "flyleaf/flyleaflaw11.RelocKinds", spec := "relocKinds", unfollowed := true, recurses := true, apart := false }
def RelocKindsSaid : Prop := relocKindsRow.holds Try.pinned (OpenSpec.ofChange relocKindsSpec)

/-- ITS FALSE NEIGHBOUR: 'it returns false'. Refute it at one input. -/
def relocKindsWrong : ChangeSpec := { name := "relocKinds", fn := fun _ => fun
  | [d1, d2, d3] => { results := [.lit (.bool false)], args := [d1, d2, d3] }
  | _ => none }
def RelocKindsWrongFalsely : Prop := relocKindsRow.holds Try.pinned (OpenSpec.ofChange relocKindsWrong)

/- THE SECOND FORM. 'bulk': how many values and letters a reading holds, each counted each time it is reached (what is shared counts as often as it is met; a slice's spare places count too). A statement '..UptoSaid' is the law's where the arguments, and the package variables that the reading takes, are together of bulk at most 1048576: NARROWER than '..Said'. Prove '..Said' where nothing that the law and all that it calls make is longer than what came in: it says more and counts as full. Else prove '..UptoSaid'. A law counts once. -/
mutual
def uptoBulk {H : Type} : DataW H → Nat
  | .lit (.string bytes) => bytes.length + 1
  | .lit _ => 1
  | .nil => 1
  | .ptr d => uptoBulk d + 1
  | .slice elems spare => uptoBulkAll elems + uptoBulkAll spare + 1
  | .agg parts => uptoBulkAll parts + 1
  | .iface _ d => uptoBulk d + 1
  | .map entries => uptoBulkEntries entries + 1
  | .held _ => 1
def uptoBulkAll {H : Type} : List (DataW H) → Nat
  | [] => 0
  | d :: r => uptoBulk d + uptoBulkAll r
def uptoBulkEntries {H : Type} : List (Lit × DataW H) → Nat
  | [] => 0
  | x :: r => uptoBulkEntry x + uptoBulkEntries r
def uptoBulkEntry {H : Type} : Lit × DataW H → Nat
  | (.string bytes, d) => bytes.length + uptoBulk d + 1
  | (_, d) => uptoBulk d + 1
 end
def uptoSmall : (H : Type) → List (DataW H) → Bool := fun _ ds => decide (uptoBulkAll ds ≤ 1048576)
def OpenSpec.upto (s : _root_.Go.ChangeSpec) : _root_.Go.OpenSpec := { _root_.Go.OpenSpec.ofChange s with cond := some uptoSmall }

/-- 'flyleaflaw11.RelocShifts', WHERE WHAT IT READS IS OF BULK AT MOST 1048576: true; the input reads as it did. -/
def relocShiftsUptoRow : OpenClaim := { program := "ytkjmecbbdccfoaa", sum := "f9024a9e3e1d4e942d23b2388f83a499a0cfc8c5bc98a39e82ea2a71d5f4c871", func := "flyleaf/flyleaflaw11.RelocShifts", spec := "relocShifts", apart := false, narrowed := true }
def RelocShiftsUptoSaid : Prop := relocShiftsUptoRow.holds Try.pinned (OpenSpec.upto relocShiftsSpec)

/-- 'flyleaflaw11.RelocValues', WHERE WHAT IT READS IS OF BULK AT MOST 1048576: true; the input reads as it did. -/
def relocValuesUptoRow : OpenClaim := { program := "ytkjmecbbdccfoaa", sum := "f9024a9e3e1d4e942d23b2388f83a499a0cfc8c5bc98a39e82ea2a71d5f4c871", func := "flyleaf/flyleaflaw11.RelocValues", spec := "relocValues", apart := false, narrowed := true }
def RelocValuesUptoSaid : Prop := relocValuesUptoRow.holds Try.pinned (OpenSpec.upto relocValuesSpec)

/-- 'flyleaflaw11.RelocReads', WHERE WHAT IT READS IS OF BULK AT MOST 1048576: true; the input reads as it did. -/
def relocReadsUptoRow : OpenClaim := { program := "ytkjmecbbdccfoaa", sum := "f9024a9e3e1d4e942d23b2388f83a499a0cfc8c5bc98a39e82ea2a71d5f4c871", func := "flyleaf/flyleaflaw11.RelocReads", spec := "relocReads", unfollowed := true, recurses := true, apart := false, narrowed := true }
def RelocReadsUptoSaid : Prop := relocReadsUptoRow.holds Try.pinned (OpenSpec.upto relocReadsSpec)

/-- 'flyleaflaw11.RelocBack', WHERE WHAT IT READS IS OF BULK AT MOST 1048576: true; the input reads as it did. -/
def relocBackUptoRow : OpenClaim := { program := "ytkjmecbbdccfoaa", sum := "f9024a9e3e1d4e942d23b2388f83a499a0cfc8c5bc98a39e82ea2a71d5f4c871", func := "flyleaf/flyleaflaw11.RelocBack", spec := "relocBack", unfollowed := true, recurses := true, apart := false, narrowed := true }
def RelocBackUptoSaid : Prop := relocBackUptoRow.holds Try.pinned (OpenSpec.upto relocBackSpec)

/-- 'flyleaflaw11.RelocOrder', WHERE WHAT IT READS IS OF BULK AT MOST 1048576: true; the input reads as it did. -/
def relocOrderUptoRow : OpenClaim := { program := "ytkjmecbbdccfoaa", sum := "f9024a9e3e1d4e942d23b2388f83a499a0cfc8c5bc98a39e82ea2a71d5f4c871", func := "flyleaf/flyleaflaw11.RelocOrder", spec := "relocOrder", unfollowed := true, recurses := true, apart := false, narrowed := true }
def RelocOrderUptoSaid : Prop := relocOrderUptoRow.holds Try.pinned (OpenSpec.upto relocOrderSpec)

/-- 'flyleaflaw11.RelocKinds', WHERE WHAT IT READS IS OF BULK AT MOST 1048576: true; the input reads as it did. -/
def relocKindsUptoRow : OpenClaim := { program := "ytkjmecbbdccfoaa", sum := "f9024a9e3e1d4e942d23b2388f83a499a0cfc8c5bc98a39e82ea2a71d5f4c871", func := "flyleaf/flyleaflaw11.RelocKinds", spec := "relocKinds", unfollowed := true, recurses := true, apart := false, narrowed := true }
def RelocKindsUptoSaid : Prop := relocKindsUptoRow.holds Try.pinned (OpenSpec.upto relocKindsSpec)

end Rows
end Go.Proofs.Ytkjmecbbdccfoaa
