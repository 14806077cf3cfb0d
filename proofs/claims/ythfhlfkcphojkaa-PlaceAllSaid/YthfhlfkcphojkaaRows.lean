/-
  No cell of these rows narrows 'for every input' (looked for: loops, veiled, ifaces, maps, wideKeys, modest, calm, conditions, laid).
  DERIVED. THE GIVEN ROWS OF THIS SEAT. 4 by the template 'for every input the law returns true; each argument reads behind the call as it read before'; 0 by the template 'total and deterministic' (their statements: YthfhlfkcphojkaaTotals.lean).
  GIVEN WITH THE SEED: the statements are not yours to turn. If you find one false, say at which input.
  Laid BY PROGRAM, IN A SANDBOX (cutbox-rows.mjs): the forced cells as the released guide's own fill.sh prints them over the translation b79ef670afdcd4e9… (all of the seat's roots in one cut). By AI agents, Wed Nov 11 2026. No macro, syntax, notation, axiom, sorry.
-/
import Derived.Test.YthfhlfkcphojkaaChecked
import GoSem.Claim
import GoSem.ClaimJoined
import GoSem.ClaimMapViews
import Derived.JoinedTies
import Derived.KernelRfl
namespace Go.Proofs.Ythfhlfkcphojkaa
/- THE CELL 'sum', in the pinned program and in every row, IS THE sha256 OF THE DUMP (.gsa) THAT YthfhlfkcphojkaaProg.lean LOADS. Nothing in Lean hashes anything: it is a label: what it is worth is what the hold of that sum in a sandbox is worth. -/
noncomputable def Try.pinned : Pinned := { name := "ythfhlfkcphojkaa", sum := "b79ef670afdcd4e9c3a1611b09f06e6ab002af23bde08d960312b4b24cf52b5f", checked := Try.checked }
namespace Rows
def none {H : Type} : Left H := { results := [], args := [] }

/-- 'flyleaflaw13.PlaceAll': WHATEVER THE INPUT: true; the input reads as it did. -/
def placeAllSpec : ChangeSpec := { name := "placeAll", fn := fun _ => fun
  | [d1, d2, d3] => { results := [.lit (.bool true)], args := [d1, d2, d3] }
  | _ => none }
def placeAllRow : OpenClaim := { program := "ythfhlfkcphojkaa", sum := "b79ef670afdcd4e9c3a1611b09f06e6ab002af23bde08d960312b4b24cf52b5f", func := "flyleaf/flyleaflaw13.PlaceAll", spec := "placeAll", unfollowed := true, recurses := true, apart := false }
def PlaceAllSaid : Prop := placeAllRow.holds Try.pinned (OpenSpec.ofChange placeAllSpec)

/-- ITS FALSE NEIGHBOUR: 'it returns false'. Refute it at one input. -/
def placeAllWrong : ChangeSpec := { name := "placeAll", fn := fun _ => fun
  | [d1, d2, d3] => { results := [.lit (.bool false)], args := [d1, d2, d3] }
  | _ => none }
def PlaceAllWrongFalsely : Prop := placeAllRow.holds Try.pinned (OpenSpec.ofChange placeAllWrong)

/-- 'flyleaflaw13.PlaceApart': WHATEVER THE INPUT: true; the input reads as it did. -/
def placeApartSpec : ChangeSpec := { name := "placeApart", fn := fun _ => fun
  | [d1, d2] => { results := [.lit (.bool true)], args := [d1, d2] }
  | _ => none }
def placeApartRow : OpenClaim := { program := "ythfhlfkcphojkaa", sum := "b79ef670afdcd4e9c3a1611b09f06e6ab002af23bde08d960312b4b24cf52b5f", func := "flyleaf/flyleaflaw13.PlaceApart", spec := "placeApart", unfollowed := true, recurses := true, apart := false }
def PlaceApartSaid : Prop := placeApartRow.holds Try.pinned (OpenSpec.ofChange placeApartSpec)

/-- ITS FALSE NEIGHBOUR: 'it returns false'. Refute it at one input. -/
def placeApartWrong : ChangeSpec := { name := "placeApart", fn := fun _ => fun
  | [d1, d2] => { results := [.lit (.bool false)], args := [d1, d2] }
  | _ => none }
def PlaceApartWrongFalsely : Prop := placeApartRow.holds Try.pinned (OpenSpec.ofChange placeApartWrong)

/-- 'flyleaflaw13.PlaceLow': WHATEVER THE INPUT: true; the input reads as it did. -/
def placeLowSpec : ChangeSpec := { name := "placeLow", fn := fun _ => fun
  | [d1, d2] => { results := [.lit (.bool true)], args := [d1, d2] }
  | _ => none }
def placeLowRow : OpenClaim := { program := "ythfhlfkcphojkaa", sum := "b79ef670afdcd4e9c3a1611b09f06e6ab002af23bde08d960312b4b24cf52b5f", func := "flyleaf/flyleaflaw13.PlaceLow", spec := "placeLow", unfollowed := true, recurses := true, apart := false }
def PlaceLowSaid : Prop := placeLowRow.holds Try.pinned (OpenSpec.ofChange placeLowSpec)

/-- ITS FALSE NEIGHBOUR: 'it returns false'. Refute it at one input. -/
def placeLowWrong : ChangeSpec := { name := "placeLow", fn := fun _ => fun
  | [d1, d2] => { results := [.lit (.bool false)], args := [d1, d2] }
  | _ => none }
def PlaceLowWrongFalsely : Prop := placeLowRow.holds Try.pinned (OpenSpec.ofChange placeLowWrong)

/-- 'flyleaflaw13.PlaceFills': WHATEVER THE INPUT: true; the input reads as it did. -/
def placeFillsSpec : ChangeSpec := { name := "placeFills", fn := fun _ => fun
  | [d1, d2] => { results := [.lit (.bool true)], args := [d1, d2] }
  | _ => none }
def placeFillsRow : OpenClaim := { program := "ythfhlfkcphojkaa", sum := "b79ef670afdcd4e9c3a1611b09f06e6ab002af23bde08d960312b4b24cf52b5f", func := "flyleaf/flyleaflaw13.PlaceFills", spec := "placeFills", unfollowed := true, recurses := true, apart := false }
def PlaceFillsSaid : Prop := placeFillsRow.holds Try.pinned (OpenSpec.ofChange placeFillsSpec)

/-- ITS FALSE NEIGHBOUR: 'it returns false'. Refute it at one input. -/
def placeFillsWrong : ChangeSpec := { name := "placeFills", fn := fun _ => fun
  | [d1, d2] => { results := [.lit (.bool false)], args := [d1, d2] }
  | _ => none }
def PlaceFillsWrongFalsely : Prop := placeFillsRow.holds Try.pinned (OpenSpec.ofChange placeFillsWrong)

/- THE SECOND FORM. 'bulk': how many values and letters a reading holds, each counted each time it is reached (what is shared counts as often as it is met; a slice's spare places count too). A statement '..UptoSaid' is the law's where the arguments, and the package variables that the reading takes, are together of bulk at most 1048576: NARROWER than '..Said'. Prove '..Said' where nothing that the law and all that it calls make is longer than what came in: it says more and counts as full. Else prove '..UptoSaid'. A law counts once. -/
mutual
def uptoBulk {H : Type} : DataW H → Nat
  | .lit (.string bytes) => bytes.length + 1
  | .lit _ => 1
  | .nil => 1
  | .ptr d => uptoBulk d + 1
  | .slice elems spare => uptoBulkAll elems + uptoBulkAll spare + 1
  | .agg parts => uptoBulkAll parts + 1
  | .iface _ d => uptoBulk d + 1
  | .map entries => uptoBulkEntries entries + 1
  | .held _ => 1
def uptoBulkAll {H : Type} : List (DataW H) → Nat
  | [] => 0
  | d :: r => uptoBulk d + uptoBulkAll r
def uptoBulkEntries {H : Type} : List (Lit × DataW H) → Nat
  | [] => 0
  | x :: r => uptoBulkEntry x + uptoBulkEntries r
def uptoBulkEntry {H : Type} : Lit × DataW H → Nat
  | (.string bytes, d) => bytes.length + uptoBulk d + 1
  | (_, d) => uptoBulk d + 1
 end
def uptoSmall : (H : Type) → List (DataW H) → Bool := fun _ ds => decide (uptoBulkAll ds ≤ 1048576)
def OpenSpec.upto (s : _root_.Go.ChangeSpec) : _root_.Go.OpenSpec := { _root_.Go.OpenSpec.ofChange s with cond := some uptoSmall }

/-- 'flyleaflaw13.PlaceAll', WHERE WHAT IT READS IS OF BULK AT MOST 1048576: true; the input reads as it did. -/
def placeAllUptoRow : OpenClaim := { program := "ythfhlfkcphojkaa", sum := "b79ef670afdcd4e9c3a1611b09f06e6ab002af23bde08d960312b4b24cf52b5f", func := "flyleaf/flyleaflaw13.PlaceAll", spec := "placeAll", unfollowed := true, recurses := true, apart := false, narrowed := true }
def PlaceAllUptoSaid : Prop := placeAllUptoRow.holds Try.pinned (OpenSpec.upto placeAllSpec)

/-- 'flyleaflaw13.PlaceApart', WHERE WHAT IT READS IS OF BULK AT MOST 1048576: true; the input reads as it did. -/
def placeApartUptoRow : OpenClaim := { program := "ythfhlfkcphojkaa", sum := "b79ef670afdcd4e9c3a1611b09f06e6ab002af23bde08d960312b4b24cf52b5f", func := "flyleaf/flyleaflaw13.PlaceApart", spec := "placeApart", unfollowed := true, recurses := true, apart := false, narrowed := true }
def PlaceApartUptoSaid : Prop := placeApartUptoRow.holds Try.pinned (OpenSpec.upto placeApartSpec)

/-- 'flyleaflaw13.PlaceLow', WHERE WHAT IT READS IS OF BULK AT MOST 1048576: true; the input reads as it did. -/
def placeLowUptoRow : OpenClaim := { program := "ythfhlfkcphojkaa", sum := "b79ef670afdcd4e9c3a1611b09f06e6ab002af23bde08d960312b4b24cf52b5f", func := "flyleaf/flyleaflaw13.PlaceLow", spec := "placeLow", unfollowed := true, recurses := true, apart := false, narrowed := true }
def PlaceLowUptoSaid : Prop := placeLowUptoRow.holds Try.pinned (OpenSpec.upto placeLowSpec)

/-- 'flyleaflaw13.PlaceFills', WHERE WHAT IT READS IS OF BULK AT MOST 1048576: true; the input reads as it did. -/
def placeFillsUptoRow : OpenClaim := { program := "ythfhlfkcphojkaa", sum := "b79ef670afdcd4e9c3a1611b09f06e6ab002af23bde08d960312b4b24cf52b5f", func := "flyleaf/flyleaflaw13.PlaceFills", spec := "placeFills", unfollowed := true, recurses := true, apart := false, narrowed := true }
def PlaceFillsUptoSaid : Prop := placeFillsUptoRow.holds Try.pinned (OpenSpec.upto placeFillsSpec)

end Rows
end Go.Proofs.Ythfhlfkcphojkaa
