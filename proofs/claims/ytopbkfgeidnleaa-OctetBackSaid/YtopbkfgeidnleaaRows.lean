/-
  No cell of these rows narrows 'for every input' (looked for: loops, veiled, ifaces, maps, wideKeys, modest, calm, conditions, laid).
  DERIVED. THE GIVEN ROWS OF THIS SEAT. 7 by the template 'for every input the law returns true; each argument reads behind the call as it read before'; 0 by the template 'total and deterministic' (their statements: YtopbkfgeidnleaaTotals.lean).
  GIVEN WITH THE SEED: the statements are not yours to turn. If you find one false, say at which input.
  Laid BY PROGRAM, IN A SANDBOX (cutbox-rows.mjs): the forced cells as the released guide's own fill.sh prints them over the translation 2de76ff20d50b014… (all of the seat's roots in one cut). By AI agents, Wed Nov 11 2026. No macro, syntax, notation, axiom, sorry.
-/
import Derived.Test.YtopbkfgeidnleaaChecked
import GoSem.Claim
import GoSem.ClaimJoined
import GoSem.ClaimMapViews
import Derived.JoinedTies
import Derived.KernelRfl
namespace Go.Proofs.Ytopbkfgeidnleaa
/- THE CELL 'sum', in the pinned program and in every row, IS THE sha256 OF THE DUMP (.gsa) THAT YtopbkfgeidnleaaProg.lean LOADS. Nothing in Lean hashes anything: it is a label: what it is worth is what the hold of that sum in a sandbox is worth. -/
noncomputable def Try.pinned : Pinned := { name := "ytopbkfgeidnleaa", sum := "2de76ff20d50b014b10cbdb8535c98407846e5682fabafac819dbdb9f5fdf4d2", checked := Try.checked }
namespace Rows
def none {H : Type} : Left H := { results := [], args := [] }

/-- 'flyleaflaw01.OctetRound': WHATEVER THE INPUT: true; the input reads as it did. -/
def octetRoundSpec : ChangeSpec := { name := "octetRound", fn := fun _ => fun
  | [d1, d2] => { results := [.lit (.bool true)], args := [d1, d2] }
  | _ => none }
def octetRoundRow : OpenClaim := { program := "ytopbkfgeidnleaa", sum := "2de76ff20d50b014b10cbdb8535c98407846e5682fabafac819dbdb9f5fdf4d2", func := "flyleaf/flyleaflaw01.OctetRound", spec := "octetRound", apart := false }
def OctetRoundSaid : Prop := octetRoundRow.holds Try.pinned (OpenSpec.ofChange octetRoundSpec)

/-- ITS FALSE NEIGHBOUR: 'it returns false'. Refute it at one input. -/
def octetRoundWrong : ChangeSpec := { name := "octetRound", fn := fun _ => fun
  | [d1, d2] => { results := [.lit (.bool false)], args := [d1, d2] }
  | _ => none }
def OctetRoundWrongFalsely : Prop := octetRoundRow.holds Try.pinned (OpenSpec.ofChange octetRoundWrong)

/-- 'flyleaflaw01.OctetWithin': WHATEVER THE INPUT: true; the input reads as it did. -/
def octetWithinSpec : ChangeSpec := { name := "octetWithin", fn := fun _ => fun
  | [d] => { results := [.lit (.bool true)], args := [d] }
  | _ => none }
def octetWithinRow : OpenClaim := { program := "ytopbkfgeidnleaa", sum := "2de76ff20d50b014b10cbdb8535c98407846e5682fabafac819dbdb9f5fdf4d2", func := "flyleaf/flyleaflaw01.OctetWithin", spec := "octetWithin", apart := false }
def OctetWithinSaid : Prop := octetWithinRow.holds Try.pinned (OpenSpec.ofChange octetWithinSpec)

/-- ITS FALSE NEIGHBOUR: 'it returns false'. Refute it at one input. -/
def octetWithinWrong : ChangeSpec := { name := "octetWithin", fn := fun _ => fun
  | [d] => { results := [.lit (.bool false)], args := [d] }
  | _ => none }
def OctetWithinWrongFalsely : Prop := octetWithinRow.holds Try.pinned (OpenSpec.ofChange octetWithinWrong)

/-- 'flyleaflaw01.OctetPut': WHATEVER THE INPUT: true; the input reads as it did. -/
def octetPutSpec : ChangeSpec := { name := "octetPut", fn := fun _ => fun
  | [d1, d2, d3] => { results := [.lit (.bool true)], args := [d1, d2, d3] }
  | _ => none }
def octetPutRow : OpenClaim := { program := "ytopbkfgeidnleaa", sum := "2de76ff20d50b014b10cbdb8535c98407846e5682fabafac819dbdb9f5fdf4d2", func := "flyleaf/flyleaflaw01.OctetPut", spec := "octetPut", apart := false }
def OctetPutSaid : Prop := octetPutRow.holds Try.pinned (OpenSpec.ofChange octetPutSpec)

/-- ITS FALSE NEIGHBOUR: 'it returns false'. Refute it at one input. -/
def octetPutWrong : ChangeSpec := { name := "octetPut", fn := fun _ => fun
  | [d1, d2, d3] => { results := [.lit (.bool false)], args := [d1, d2, d3] }
  | _ => none }
def OctetPutWrongFalsely : Prop := octetPutRow.holds Try.pinned (OpenSpec.ofChange octetPutWrong)

/-- 'flyleaflaw01.OctetNumbers': WHATEVER THE INPUT: true; the input reads as it did. -/
def octetNumbersSpec : ChangeSpec := { name := "octetNumbers", fn := fun _ => fun
  | [d1, d2, d3] => { results := [.lit (.bool true)], args := [d1, d2, d3] }
  | _ => none }
def octetNumbersRow : OpenClaim := { program := "ytopbkfgeidnleaa", sum := "2de76ff20d50b014b10cbdb8535c98407846e5682fabafac819dbdb9f5fdf4d2", func := "flyleaf/flyleaflaw01.OctetNumbers", spec := "octetNumbers", apart := false }
def OctetNumbersSaid : Prop := octetNumbersRow.holds Try.pinned (OpenSpec.ofChange octetNumbersSpec)

/-- ITS FALSE NEIGHBOUR: 'it returns false'. Refute it at one input. -/
def octetNumbersWrong : ChangeSpec := { name := "octetNumbers", fn := fun _ => fun
  | [d1, d2, d3] => { results := [.lit (.bool false)], args := [d1, d2, d3] }
  | _ => none }
def OctetNumbersWrongFalsely : Prop := octetNumbersRow.holds Try.pinned (OpenSpec.ofChange octetNumbersWrong)

/-- 'flyleaflaw01.OctetBack': WHATEVER THE INPUT: true; the input reads as it did. -/
def octetBackSpec : ChangeSpec := { name := "octetBack", fn := fun _ => fun
  | [d1, d2, d3] => { results := [.lit (.bool true)], args := [d1, d2, d3] }
  | _ => none }
def octetBackRow : OpenClaim := { program := "ytopbkfgeidnleaa", sum := "2de76ff20d50b014b10cbdb8535c98407846e5682fabafac819dbdb9f5fdf4d2", func := "flyleaf/flyleaflaw01.OctetBack", spec := "octetBack", apart := false }
def OctetBackSaid : Prop := octetBackRow.holds Try.pinned (OpenSpec.ofChange octetBackSpec)

/-- ITS FALSE NEIGHBOUR: 'it returns false'. Refute it at one input. -/
def octetBackWrong : ChangeSpec := { name := "octetBack", fn := fun _ => fun
  | [d1, d2, d3] => { results := [.lit (.bool false)], args := [d1, d2, d3] }
  | _ => none }
def OctetBackWrongFalsely : Prop := octetBackRow.holds Try.pinned (OpenSpec.ofChange octetBackWrong)

/-- 'flyleaflaw01.OctetTexts': WHATEVER THE INPUT: true; the input reads as it did. -/
def octetTextsSpec : ChangeSpec := { name := "octetTexts", fn := fun _ => fun
  | [d1, d2, d3] => { results := [.lit (.bool true)], args := [d1, d2, d3] }
  | _ => none }
def octetTextsRow : OpenClaim := { program := "ytopbkfgeidnleaa", sum := "2de76ff20d50b014b10cbdb8535c98407846e5682fabafac819dbdb9f5fdf4d2", func := "flyleaf/flyleaflaw01.OctetTexts", spec := "octetTexts", inPlace := ["internal/abi.NoEscape", "internal/bytealg.MakeNoZero"], apart := false }
def OctetTextsSaid : Prop := octetTextsRow.holds Try.pinned (OpenSpec.ofChange octetTextsSpec)

/-- ITS FALSE NEIGHBOUR: 'it returns false'. Refute it at one input. -/
def octetTextsWrong : ChangeSpec := { name := "octetTexts", fn := fun _ => fun
  | [d1, d2, d3] => { results := [.lit (.bool false)], args := [d1, d2, d3] }
  | _ => none }
def OctetTextsWrongFalsely : Prop := octetTextsRow.holds Try.pinned (OpenSpec.ofChange octetTextsWrong)

/-- 'flyleaflaw01.OctetParts': WHATEVER THE INPUT: true; the input reads as it did. -/
def octetPartsSpec : ChangeSpec := { name := "octetParts", fn := fun _ => fun
  | [d1, d2, d3] => { results := [.lit (.bool true)], args := [d1, d2, d3] }
  | _ => none }
def octetPartsRow : OpenClaim := { program := "ytopbkfgeidnleaa", sum := "2de76ff20d50b014b10cbdb8535c98407846e5682fabafac819dbdb9f5fdf4d2", func := "flyleaf/flyleaflaw01.OctetParts", spec := "octetParts", inPlace := ["internal/abi.NoEscape", "internal/bytealg.MakeNoZero"], apart := false }
def OctetPartsSaid : Prop := octetPartsRow.holds Try.pinned (OpenSpec.ofChange octetPartsSpec)

/-- ITS FALSE NEIGHBOUR: 'it returns false'. Refute it at one input. -/
def octetPartsWrong : ChangeSpec := { name := "octetParts", fn := fun _ => fun
  | [d1, d2, d3] => { results := [.lit (.bool false)], args := [d1, d2, d3] }
  | _ => none }
def OctetPartsWrongFalsely : Prop := octetPartsRow.holds Try.pinned (OpenSpec.ofChange octetPartsWrong)

/- THE SECOND FORM. 'bulk': how many values and letters a reading holds, each counted each time it is reached (what is shared counts as often as it is met; a slice's spare places count too). A statement '..UptoSaid' is the law's where the arguments, and the package variables that the reading takes, are together of bulk at most 1048576: NARROWER than '..Said'. Prove '..Said' where nothing that the law and all that it calls make is longer than what came in: it says more and counts as full. Else prove '..UptoSaid'. A law counts once. -/
mutual
def uptoBulk {H : Type} : DataW H → Nat
  | .lit (.string bytes) => bytes.length + 1
  | .lit _ => 1
  | .nil => 1
  | .ptr d => uptoBulk d + 1
  | .slice elems spare => uptoBulkAll elems + uptoBulkAll spare + 1
  | .agg parts => uptoBulkAll parts + 1
  | .iface _ d => uptoBulk d + 1
  | .map entries => uptoBulkEntries entries + 1
  | .held _ => 1
def uptoBulkAll {H : Type} : List (DataW H) → Nat
  | [] => 0
  | d :: r => uptoBulk d + uptoBulkAll r
def uptoBulkEntries {H : Type} : List (Lit × DataW H) → Nat
  | [] => 0
  | x :: r => uptoBulkEntry x + uptoBulkEntries r
def uptoBulkEntry {H : Type} : Lit × DataW H → Nat
  | (.string bytes, d) => bytes.length + uptoBulk d + 1
  | (_, d) => uptoBulk d + 1
 end
def uptoSmall : (H : Type) → List (DataW H) → Bool := fun _ ds => decide (uptoBulkAll ds ≤ 1048576)
def OpenSpec.upto (s : _root_.Go.ChangeSpec) : _root_.Go.OpenSpec := { _root_.Go.OpenSpec.ofChange s with cond := some uptoSmall }

/-- 'flyleaflaw01.OctetRound', WHERE WHAT IT READS IS OF BULK AT MOST 1048576: true; the input reads as it did. -/
def octetRoundUptoRow : OpenClaim := { program := "ytopbkfgeidnleaa", sum := "2de76ff20d50b014b10cbdb8535c98407846e5682fabafac819dbdb9f5fdf4d2", func := "flyleaf/flyleaflaw01.OctetRound", spec := "octetRound", apart := false, narrowed := true }
def OctetRoundUptoSaid : Prop := octetRoundUptoRow.holds Try.pinned (OpenSpec.upto octetRoundSpec)

/-- 'flyleaflaw01.OctetWithin', WHERE WHAT IT READS IS OF BULK AT MOST 1048576: true; the input reads as it did. -/
def octetWithinUptoRow : OpenClaim := { program := "ytopbkfgeidnleaa", sum := "2de76ff20d50b014b10cbdb8535c98407846e5682fabafac819dbdb9f5fdf4d2", func := "flyleaf/flyleaflaw01.OctetWithin", spec := "octetWithin", apart := false, narrowed := true }
def OctetWithinUptoSaid : Prop := octetWithinUptoRow.holds Try.pinned (OpenSpec.upto octetWithinSpec)

/-- 'flyleaflaw01.OctetPut', WHERE WHAT IT READS IS OF BULK AT MOST 1048576: true; the input reads as it did. -/
def octetPutUptoRow : OpenClaim := { program := "ytopbkfgeidnleaa", sum := "2de76ff20d50b014b10cbdb8535c98407846e5682fabafac819dbdb9f5fdf4d2", func := "flyleaf/flyleaflaw01.OctetPut", spec := "octetPut", apart := false, narrowed := true }
def OctetPutUptoSaid : Prop := octetPutUptoRow.holds Try.pinned (OpenSpec.upto octetPutSpec)

/-- 'flyleaflaw01.OctetNumbers', WHERE WHAT IT READS IS OF BULK AT MOST 1048576: true; the input reads as it did. -/
def octetNumbersUptoRow : OpenClaim := { program := "ytopbkfgeidnleaa", sum := "2de76ff20d50b014b10cbdb8535c98407846e5682fabafac819dbdb9f5fdf4d2", func := "flyleaf/flyleaflaw01.OctetNumbers", spec := "octetNumbers", apart := false, narrowed := true }
def OctetNumbersUptoSaid : Prop := octetNumbersUptoRow.holds Try.pinned (OpenSpec.upto octetNumbersSpec)

/-- 'flyleaflaw01.OctetBack', WHERE WHAT IT READS IS OF BULK AT MOST 1048576: true; the input reads as it did. -/
def octetBackUptoRow : OpenClaim := { program := "ytopbkfgeidnleaa", sum := "2de76ff20d50b014b10cbdb8535c98407846e5682fabafac819dbdb9f5fdf4d2", func := "flyleaf/flyleaflaw01.OctetBack", spec := "octetBack", apart := false, narrowed := true }
def OctetBackUptoSaid : Prop := octetBackUptoRow.holds Try.pinned (OpenSpec.upto octetBackSpec)

/-- 'flyleaflaw01.OctetTexts', WHERE WHAT IT READS IS OF BULK AT MOST 1048576: true; the input reads as it did. -/
def octetTextsUptoRow : OpenClaim := { program := "ytopbkfgeidnleaa", sum := "2de76ff20d50b014b10cbdb8535c98407846e5682fabafac819dbdb9f5fdf4d2", func := "flyleaf/flyleaflaw01.OctetTexts", spec := "octetTexts", inPlace := ["internal/abi.NoEscape", "internal/bytealg.MakeNoZero"], apart := false, narrowed := true }
def OctetTextsUptoSaid : Prop := octetTextsUptoRow.holds Try.pinned (OpenSpec.upto octetTextsSpec)

/-- 'flyleaflaw01.OctetParts', WHERE WHAT IT READS IS OF BULK AT MOST 1048576: true; the input reads as it did. -/
def octetPartsUptoRow : OpenClaim := { program := "ytopbkfgeidnleaa", sum := "2de76ff20d50b014b10cbdb8535c98407846e5682fabafac819dbdb9f5fdf4d2", func := "flyleaf/flyleaflaw01.OctetParts", spec := "octetParts", inPlace := ["internal/abi.NoEscape", "internal/bytealg.MakeNoZero"], apart := false, narrowed := true }
def OctetPartsUptoSaid : Prop := octetPartsUptoRow.holds Try.pinned (OpenSpec.upto octetPartsSpec)

end Rows
end Go.Proofs.Ytopbkfgeidnleaa
