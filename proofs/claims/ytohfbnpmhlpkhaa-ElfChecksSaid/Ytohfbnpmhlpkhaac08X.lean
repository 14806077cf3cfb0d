/- Images as they come. -/
import Derived.Test.Ytohfbnpmhlpkhaac08G
import Derived.Test.Ytohfbnpmhlpkhaac08J
import Derived.Test.YtohfbnpmhlpkhaaL1U
namespace Go.Proofs.Ytohfbnpmhlpkhaa.L
open Go.L1 Go.IntWalk Oct
set_option linter.unusedVariables false
set_option linter.unusedSimpArgs false
set_option maxHeartbeats 4000000
theorem wfI_le {n : Int} (h : wfI .i64 n) : n ≤ 9223372036854775807 := by
  unfold wfI at h
  simp only [Lit.wf, IntKind.min, IntKind.max, IntKind.signed, IntKind.bits, Bool.and_eq_true, decide_eq_true_eq, if_true] at h
  omega
abbrev S7 := Int × Int × Int × Int × Int × Int × Int
def S7ok (y : S7) : Prop := wfI .i64 y.1 ∧ wfI .i64 y.2.1 ∧ wfI .i64 y.2.2.1 ∧ wfI .i64 y.2.2.2.1 ∧ wfI .i64 y.2.2.2.2.1 ∧ wfI .i64 y.2.2.2.2.2.1 ∧ wfI .i64 y.2.2.2.2.2.2
def toSg (y : S7) : Sg := ⟨y.1, y.2.1, y.2.2.1, y.2.2.2.1, y.2.2.2.2.1, y.2.2.2.2.2.1, y.2.2.2.2.2.2⟩
abbrev I3 := Int × Int × List S7
def I3ok (x : I3) : Prop := wfI .i64 x.1 ∧ wfI .i64 x.2.1 ∧ wfL S7ok x.2.2
def toIm (x : I3) : Im := ⟨x.1, x.2.1, x.2.2.map toSg⟩
abbrev kI3 : Kn I3 := kPair (kInt .i64) (kPair (kInt .i64) (kList (kPair (kInt .i64) (kPair (kInt .i64) (kPair (kInt .i64) (kPair (kInt .i64) (kPair (kInt .i64) (kPair (kInt .i64) (kInt .i64)))))))))
theorem toIm_rg {x : I3} (h : I3ok x) : (toIm x).rg := by
  obtain ⟨h1, h2, h3⟩ := h
  refine ⟨wfI_le h1, wfI_le h2, fun s hs => ?_⟩
  obtain ⟨y, hy, rfl⟩ := List.mem_map.1 hs
  obtain ⟨q0, q1, q2, q3, q4, q5, q6⟩ := h3.2 y hy
  exact ⟨wfI_le q0, wfI_le q1, wfI_le q2, wfI_le q3, wfI_le q4, wfI_le q5, wfI_le q6⟩
theorem toIm_v (x : I3) : Value.agg (kI3.enc x).toArray = (toIm x).v tg := by
  obtain ⟨a, b, l⟩ := x
  have e : fz tg l.length (l.flatMap (kPair (kInt .i64) (kPair (kInt .i64) (kPair (kInt .i64) (kPair (kInt .i64) (kPair (kInt .i64) (kPair (kInt .i64) (kInt .i64))))))).enc) = rv tg (l.map toSg) := by
    unfold rv
    rw [List.length_map, List.flatMap_map]
    rfl
  exact congrArg (fun w => Value.agg #[Value.int .i64 a, Value.int .i64 b, w]) e
end Go.Proofs.Ytohfbnpmhlpkhaa.L

