/-
  No cell of these rows narrows 'for every input' (looked for: loops, veiled, ifaces, maps, wideKeys, modest, calm, conditions, laid).
  DERIVED. THE GIVEN ROWS OF THIS SEAT. 6 by the template 'for every input the law returns true; each argument reads behind the call as it read before'; 0 by the template 'total and deterministic' (their statements: YtnlgindlmlbfiaaTotals.lean).
  GIVEN WITH THE SEED: the statements are not yours to turn. If you find one false, say at which input.
  Laid BY PROGRAM, IN A SANDBOX (cutbox-rows.mjs): the forced cells as the released guide's own fill.sh prints them over the translation ad49f139a37cfb0b… (all of the seat's roots in one cut). By AI agents, Wed Nov 11 2026. No macro, syntax, notation, axiom, sorry.
-/
import Derived.Test.YtnlgindlmlbfiaaChecked
import GoSem.Claim
import GoSem.ClaimJoined
import GoSem.ClaimMapViews
import Derived.JoinedTies
import Derived.KernelRfl
namespace Go.Proofs.Ytnlgindlmlbfiaa
/- THE CELL 'sum', in the pinned program and in every row, IS THE sha256 OF THE DUMP (.gsa) THAT YtnlgindlmlbfiaaProg.lean LOADS. Nothing in Lean hashes anything: it is a label: what it is worth is what the hold of that sum in a sandbox is worth. -/
noncomputable def Try.pinned : Pinned := { name := "ytnlgindlmlbfiaa", sum := "ad49f139a37cfb0b4ecd36ca04a931df3c88ee664d028e63464c186e9f44ff9b", checked := Try.checked }
namespace Rows
def none {H : Type} : Left H := { results := [], args := [] }

/-- 'flyleaflaw15.RegionMeets': WHATEVER THE INPUT: true; the input reads as it did. -/
def regionMeetsSpec : ChangeSpec := { name := "regionMeets", fn := fun _ => fun
  | [d1, d2] => { results := [.lit (.bool true)], args := [d1, d2] }
  | _ => none }
def regionMeetsRow : OpenClaim := { program := "ytnlgindlmlbfiaa", sum := "ad49f139a37cfb0b4ecd36ca04a931df3c88ee664d028e63464c186e9f44ff9b", func := "flyleaf/flyleaflaw15.RegionMeets", spec := "regionMeets", unfollowed := true, recurses := true, apart := false }
def RegionMeetsSaid : Prop := regionMeetsRow.holds Try.pinned (OpenSpec.ofChange regionMeetsSpec)

/-- ITS FALSE NEIGHBOUR: 'it returns false'. Refute it at one input. -/
def regionMeetsWrong : ChangeSpec := { name := "regionMeets", fn := fun _ => fun
  | [d1, d2] => { results := [.lit (.bool false)], args := [d1, d2] }
  | _ => none }
def RegionMeetsWrongFalsely : Prop := regionMeetsRow.holds Try.pinned (OpenSpec.ofChange regionMeetsWrong)

/-- 'flyleaflaw15.RegionOnce': WHATEVER THE INPUT: true; the input reads as it did. -/
def regionOnceSpec : ChangeSpec := { name := "regionOnce", fn := fun _ => fun
  | [d1, d2] => { results := [.lit (.bool true)], args := [d1, d2] }
  | _ => none }
def regionOnceRow : OpenClaim := { program := "ytnlgindlmlbfiaa", sum := "ad49f139a37cfb0b4ecd36ca04a931df3c88ee664d028e63464c186e9f44ff9b", func := "flyleaf/flyleaflaw15.RegionOnce", spec := "regionOnce", unfollowed := true, recurses := true, apart := false }
def RegionOnceSaid : Prop := regionOnceRow.holds Try.pinned (OpenSpec.ofChange regionOnceSpec)

/-- ITS FALSE NEIGHBOUR: 'it returns false'. Refute it at one input. -/
def regionOnceWrong : ChangeSpec := { name := "regionOnce", fn := fun _ => fun
  | [d1, d2] => { results := [.lit (.bool false)], args := [d1, d2] }
  | _ => none }
def RegionOnceWrongFalsely : Prop := regionOnceRow.holds Try.pinned (OpenSpec.ofChange regionOnceWrong)

/-- 'flyleaflaw15.RegionBack': WHATEVER THE INPUT: true; the input reads as it did. -/
def regionBackSpec : ChangeSpec := { name := "regionBack", fn := fun _ => fun
  | [d1, d2] => { results := [.lit (.bool true)], args := [d1, d2] }
  | _ => none }
def regionBackRow : OpenClaim := { program := "ytnlgindlmlbfiaa", sum := "ad49f139a37cfb0b4ecd36ca04a931df3c88ee664d028e63464c186e9f44ff9b", func := "flyleaf/flyleaflaw15.RegionBack", spec := "regionBack", unfollowed := true, recurses := true, apart := false }
def RegionBackSaid : Prop := regionBackRow.holds Try.pinned (OpenSpec.ofChange regionBackSpec)

/-- ITS FALSE NEIGHBOUR: 'it returns false'. Refute it at one input. -/
def regionBackWrong : ChangeSpec := { name := "regionBack", fn := fun _ => fun
  | [d1, d2] => { results := [.lit (.bool false)], args := [d1, d2] }
  | _ => none }
def RegionBackWrongFalsely : Prop := regionBackRow.holds Try.pinned (OpenSpec.ofChange regionBackWrong)

/-- 'flyleaflaw15.RegionKeeps': WHATEVER THE INPUT: true; the input reads as it did. -/
def regionKeepsSpec : ChangeSpec := { name := "regionKeeps", fn := fun _ => fun
  | [d1, d2] => { results := [.lit (.bool true)], args := [d1, d2] }
  | _ => none }
def regionKeepsRow : OpenClaim := { program := "ytnlgindlmlbfiaa", sum := "ad49f139a37cfb0b4ecd36ca04a931df3c88ee664d028e63464c186e9f44ff9b", func := "flyleaf/flyleaflaw15.RegionKeeps", spec := "regionKeeps", unfollowed := true, recurses := true, apart := false }
def RegionKeepsSaid : Prop := regionKeepsRow.holds Try.pinned (OpenSpec.ofChange regionKeepsSpec)

/-- ITS FALSE NEIGHBOUR: 'it returns false'. Refute it at one input. -/
def regionKeepsWrong : ChangeSpec := { name := "regionKeeps", fn := fun _ => fun
  | [d1, d2] => { results := [.lit (.bool false)], args := [d1, d2] }
  | _ => none }
def RegionKeepsWrongFalsely : Prop := regionKeepsRow.holds Try.pinned (OpenSpec.ofChange regionKeepsWrong)

/-- 'flyleaflaw15.RegionGaps': WHATEVER THE INPUT: true; the input reads as it did. -/
def regionGapsSpec : ChangeSpec := { name := "regionGaps", fn := fun _ => fun
  | [d1, d2] => { results := [.lit (.bool true)], args := [d1, d2] }
  | _ => none }
def regionGapsRow : OpenClaim := { program := "ytnlgindlmlbfiaa", sum := "ad49f139a37cfb0b4ecd36ca04a931df3c88ee664d028e63464c186e9f44ff9b", func := "flyleaf/flyleaflaw15.RegionGaps", spec := "regionGaps", unfollowed := true, recurses := true, apart := false }
def RegionGapsSaid : Prop := regionGapsRow.holds Try.pinned (OpenSpec.ofChange regionGapsSpec)

/-- ITS FALSE NEIGHBOUR: 'it returns false'. Refute it at one input. -/
def regionGapsWrong : ChangeSpec := { name := "regionGaps", fn := fun _ => fun
  | [d1, d2] => { results := [.lit (.bool false)], args := [d1, d2] }
  | _ => none }
def RegionGapsWrongFalsely : Prop := regionGapsRow.holds Try.pinned (OpenSpec.ofChange regionGapsWrong)

/-- 'flyleaflaw15.RegionAsks': WHATEVER THE INPUT: true; the input reads as it did. -/
def regionAsksSpec : ChangeSpec := { name := "regionAsks", fn := fun _ => fun
  | [d1, d2] => { results := [.lit (.bool true)], args := [d1, d2] }
  | _ => none }
def regionAsksRow : OpenClaim := { program := "ytnlgindlmlbfiaa", sum := "ad49f139a37cfb0b4ecd36ca04a931df3c88ee664d028e63464c186e9f44ff9b", func := "flyleaf/flyleaflaw15.RegionAsks", spec := "regionAsks", unfollowed := true, recurses := true, apart := false }
def RegionAsksSaid : Prop := regionAsksRow.holds Try.pinned (OpenSpec.ofChange regionAsksSpec)

/-- ITS FALSE NEIGHBOUR: 'it returns false'. Refute it at one input. -/
def regionAsksWrong : ChangeSpec := { name := "regionAsks", fn := fun _ => fun
  | [d1, d2] => { results := [.lit (.bool false)], args := [d1, d2] }
  | _ => none }
def RegionAsksWrongFalsely : Prop := regionAsksRow.holds Try.pinned (OpenSpec.ofChange regionAsksWrong)

/- THE SECOND FORM. 'bulk': how many values and letters a reading holds, each counted each time it is reached (what is shared counts as often as it is met; a slice's spare places count too). A statement '..UptoSaid' is the law's where the arguments, and the package variables that the reading takes, are together of bulk at most 1048576: NARROWER than '..Said'. Prove '..Said' where nothing that the law and all that it calls make is longer than what came in: it says more and counts as full. Else prove '..UptoSaid'. A law counts once. -/
mutual
def uptoBulk {H : Type} : DataW H → Nat
  | .lit (.string bytes) => bytes.length + 1
  | .lit _ => 1
  | .nil => 1
  | .ptr d => uptoBulk d + 1
  | .slice elems spare => uptoBulkAll elems + uptoBulkAll spare + 1
  | .agg parts => uptoBulkAll parts + 1
  | .iface _ d => uptoBulk d + 1
  | .map entries => uptoBulkEntries entries + 1
  | .held _ => 1
def uptoBulkAll {H : Type} : List (DataW H) → Nat
  | [] => 0
  | d :: r => uptoBulk d + uptoBulkAll r
def uptoBulkEntries {H : Type} : List (Lit × DataW H) → Nat
  | [] => 0
  | x :: r => uptoBulkEntry x + uptoBulkEntries r
def uptoBulkEntry {H : Type} : Lit × DataW H → Nat
  | (.string bytes, d) => bytes.length + uptoBulk d + 1
  | (_, d) => uptoBulk d + 1
 end
def uptoSmall : (H : Type) → List (DataW H) → Bool := fun _ ds => decide (uptoBulkAll ds ≤ 1048576)
def OpenSpec.upto (s : _root_.Go.ChangeSpec) : _root_.Go.OpenSpec := { _root_.Go.OpenSpec.ofChange s with cond := some uptoSmall }

/-- 'flyleaflaw15.RegionMeets', WHERE WHAT IT READS IS OF BULK AT MOST 1048576: true; the input reads as it did. -/
def regionMeetsUptoRow : OpenClaim := { program := "ytnlgindlmlbfiaa", sum := "ad49f139a37cfb0b4ecd36ca04a931df3c88ee664d028e63464c186e9f44ff9b", func := "flyleaf/flyleaflaw15.RegionMeets", spec := "regionMeets", unfollowed := true, recurses := true, apart := false, narrowed := true }
def RegionMeetsUptoSaid : Prop := regionMeetsUptoRow.holds Try.pinned (OpenSpec.upto regionMeetsSpec)

/-- 'flyleaflaw15.RegionOnce', WHERE WHAT IT READS IS OF BULK AT MOST 1048576: true; the input reads as it did. -/
def regionOnceUptoRow : OpenClaim := { program := "ytnlgindlmlbfiaa", sum := "ad49f139a37cfb0b4ecd36ca04a931df3c88ee664d028e63464c186e9f44ff9b", func := "flyleaf/flyleaflaw15.RegionOnce", spec := "regionOnce", unfollowed := true, recurses := true, apart := false, narrowed := true }
def RegionOnceUptoSaid : Prop := regionOnceUptoRow.holds Try.pinned (OpenSpec.upto regionOnceSpec)

/-- 'flyleaflaw15.RegionBack', WHERE WHAT IT READS IS OF BULK AT MOST 1048576: true; the input reads as it did. -/
def regionBackUptoRow : OpenClaim := { program := "ytnlgindlmlbfiaa", sum := "ad49f139a37cfb0b4ecd36ca04a931df3c88ee664d028e63464c186e9f44ff9b", func := "flyleaf/flyleaflaw15.RegionBack", spec := "regionBack", unfollowed := true, recurses := true, apart := false, narrowed := true }
def RegionBackUptoSaid : Prop := regionBackUptoRow.holds Try.pinned (OpenSpec.upto regionBackSpec)

/-- 'flyleaflaw15.RegionKeeps', WHERE WHAT IT READS IS OF BULK AT MOST 1048576: true; the input reads as it did. -/
def regionKeepsUptoRow : OpenClaim := { program := "ytnlgindlmlbfiaa", sum := "ad49f139a37cfb0b4ecd36ca04a931df3c88ee664d028e63464c186e9f44ff9b", func := "flyleaf/flyleaflaw15.RegionKeeps", spec := "regionKeeps", unfollowed := true, recurses := true, apart := false, narrowed := true }
def RegionKeepsUptoSaid : Prop := regionKeepsUptoRow.holds Try.pinned (OpenSpec.upto regionKeepsSpec)

/-- 'flyleaflaw15.RegionGaps', WHERE WHAT IT READS IS OF BULK AT MOST 1048576: true; the input reads as it did. -/
def regionGapsUptoRow : OpenClaim := { program := "ytnlgindlmlbfiaa", sum := "ad49f139a37cfb0b4ecd36ca04a931df3c88ee664d028e63464c186e9f44ff9b", func := "flyleaf/flyleaflaw15.RegionGaps", spec := "regionGaps", unfollowed := true, recurses := true, apart := false, narrowed := true }
def RegionGapsUptoSaid : Prop := regionGapsUptoRow.holds Try.pinned (OpenSpec.upto regionGapsSpec)

/-- 'flyleaflaw15.RegionAsks', WHERE WHAT IT READS IS OF BULK AT MOST 1048576: true; the input reads as it did. -/
def regionAsksUptoRow : OpenClaim := { program := "ytnlgindlmlbfiaa", sum := "ad49f139a37cfb0b4ecd36ca04a931df3c88ee664d028e63464c186e9f44ff9b", func := "flyleaf/flyleaflaw15.RegionAsks", spec := "regionAsks", unfollowed := true, recurses := true, apart := false, narrowed := true }
def RegionAsksUptoSaid : Prop := regionAsksUptoRow.holds Try.pinned (OpenSpec.upto regionAsksSpec)

end Rows
end Go.Proofs.Ytnlgindlmlbfiaa
