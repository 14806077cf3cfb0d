/- Walks of Go functions of this seat: each calls-theorem says that the Go function, called at values of its kinds, returns what the Lean function of its name tells, where that tells something; what was in memory stays. Written by our own program xprint.py. -/
import Derived.Test.YtopbkfgeidnleaaX0
import Derived.Test.YtopbkfgeidnleaaX1
import Derived.Test.YtopbkfgeidnleaaX2
import Derived.Test.YtopbkfgeidnleaaX3
namespace Go.Proofs.Ytopbkfgeidnleaa.X
open Go.RowKit Go.Proofs.YtopbkfgeidnleaaW.PrintWords Go.Proofs.YtopbkfgeidnleaaW.PrintLast Go.Proofs.YtopbkfgeidnleaaW.PrintMore
attribute [local go_sem] max2_int min2_int max_two min_two max_three min_three max_four min_four   -- for this text's walks alone
set_option linter.unusedVariables false
set_option linter.unusedSimpArgs false

/-! ### flyleaflaw01_OctetBack: function 7 -/
def flyleaflaw01_OctetBack.j0 : Nat → ByteArray → Int → Bool → Int → Int → ByteArray → Bool → Option (Bool)
  | 0, _, _, _, _, _, _, _ => none
  | k + 1, x0, x2, x7, x8, x9, x10, x61 => if x61 = true then (some false) else ((octet_Get.f k x10 x9 x8).bind fun bt151 => (if x8 < 8 then (if 0 ≤ (IntKind.u64.wrap (wrap64 (8 * x8))) then ((octet_Part.f x10 x9 x8).bind fun bt153 => (if x7 = true then (if bt151.2 = true then (if bt151.1 = (Go.bits .and .u64 x2 (IntKind.u64.wrap ((shl .u64 1 (IntKind.u64.wrap (wrap64 (8 * x8)))) - 1))) then (if bt153.2 = true then ((octet_Put.f k x2 x8).bind fun t155 => (if bt153.1.toList = t155.toList then (if 0 ≤ x9 then (if x9 ≤ (x10.size : Int) then (if x9 ≤ (x0.size : Int) then (if (x10.extract 0 (x9 : Int).toNat).toList = (x0.extract 0 (x9 : Int).toNat).toList then (if 0 ≤ (wrap64 (x9 + x8)) then (if (wrap64 (x9 + x8)) ≤ (x10.size : Int) then (if (wrap64 (x9 + x8)) ≤ (x0.size : Int) then (some ((x10.extract ((wrap64 (x9 + x8)) : Int).toNat x10.size).toList == (x0.extract ((wrap64 (x9 + x8)) : Int).toNat x0.size).toList)) else (none)) else (none)) else (none)) else (some false)) else (none)) else (none)) else (none)) else (some false))) else (some false)) else (some false)) else (some false)) else (some false))) else (none)) else ((octet_Part.f x10 x9 x8).bind fun bt156 => (if x7 = true then (if bt151.2 = true then (if bt151.1 = x2 then (if bt156.2 = true then ((octet_Put.f k x2 x8).bind fun t158 => (if bt156.1.toList = t158.toList then (if 0 ≤ x9 then (if x9 ≤ (x10.size : Int) then (if x9 ≤ (x0.size : Int) then (if (x10.extract 0 (x9 : Int).toNat).toList = (x0.extract 0 (x9 : Int).toNat).toList then (if 0 ≤ (wrap64 (x9 + x8)) then (if (wrap64 (x9 + x8)) ≤ (x10.size : Int) then (if (wrap64 (x9 + x8)) ≤ (x0.size : Int) then (some ((x10.extract ((wrap64 (x9 + x8)) : Int).toNat x10.size).toList == (x0.extract ((wrap64 (x9 + x8)) : Int).toNat x0.size).toList)) else (none)) else (none)) else (none)) else (some false)) else (none)) else (none)) else (none)) else (some false))) else (some false)) else (some false)) else (some false)) else (some false)))))
def flyleaflaw01_OctetBack.f (k : Nat) (a0 : ByteArray) (a1_0 : Int) (a1_1 : Int) (a2 : Int) : Option (Bool) := (flyleaflaw01_awake.f k).bind fun t147 => ((flyleaflaw01_short.f a0 40).bind fun t148 => (if t148.size + 8 ≤ 9223372036854775807 then (if (wrap64 ((wrap64 (((t148.size : Int) + 8) - (wrap64 (1 + (Go.bits .and .i64 a1_1 7))))) + 1)) = 0 then (none) else ((octet_Set.f k (t148 ++ (⟨#[49, 50, 51, 52, 53, 54, 55, 56]⟩ : ByteArray)) (Int.tmod (wrap64 ((wrap64 ((wrap64 ((Int.tmod a1_0 (wrap64 ((wrap64 (((t148.size : Int) + 8) - (wrap64 (1 + (Go.bits .and .i64 a1_1 7))))) + 1))) + ((t148.size : Int) + 8))) - (wrap64 (1 + (Go.bits .and .i64 a1_1 7))))) + 1)) (wrap64 ((wrap64 (((t148.size : Int) + 8) - (wrap64 (1 + (Go.bits .and .i64 a1_1 7))))) + 1))) (wrap64 (1 + (Go.bits .and .i64 a1_1 7))) a2).bind fun bt149 => (if bt149.2 = true then (flyleaflaw01_OctetBack.j0 k (t148 ++ (⟨#[49, 50, 51, 52, 53, 54, 55, 56]⟩ : ByteArray)) a2 t147 (wrap64 (1 + (Go.bits .and .i64 a1_1 7))) (Int.tmod (wrap64 ((wrap64 ((wrap64 ((Int.tmod a1_0 (wrap64 ((wrap64 (((t148.size : Int) + 8) - (wrap64 (1 + (Go.bits .and .i64 a1_1 7))))) + 1))) + ((t148.size : Int) + 8))) - (wrap64 (1 + (Go.bits .and .i64 a1_1 7))))) + 1)) (wrap64 ((wrap64 (((t148.size : Int) + 8) - (wrap64 (1 + (Go.bits .and .i64 a1_1 7))))) + 1))) bt149.1 ((bt149.1.size : Int) != ((t148.size : Int) + 8))) else (flyleaflaw01_OctetBack.j0 k (t148 ++ (⟨#[49, 50, 51, 52, 53, 54, 55, 56]⟩ : ByteArray)) a2 t147 (wrap64 (1 + (Go.bits .and .i64 a1_1 7))) (Int.tmod (wrap64 ((wrap64 ((wrap64 ((Int.tmod a1_0 (wrap64 ((wrap64 (((t148.size : Int) + 8) - (wrap64 (1 + (Go.bits .and .i64 a1_1 7))))) + 1))) + ((t148.size : Int) + 8))) - (wrap64 (1 + (Go.bits .and .i64 a1_1 7))))) + 1)) (wrap64 ((wrap64 (((t148.size : Int) + 8) - (wrap64 (1 + (Go.bits .and .i64 a1_1 7))))) + 1))) bt149.1 true)))) else (none)))
theorem flyleaflaw01_OctetBack.mono_l : ∀ k, (∀ y0 y1 y2 y3 y4 y5 y6, LeO (flyleaflaw01_OctetBack.j0 k y0 y1 y2 y3 y4 y5 y6) (flyleaflaw01_OctetBack.j0 (k + 1) y0 y1 y2 y3 y4 y5 y6))
  | 0 => fun _ _ _ _ _ _ _ r h => by simp [flyleaflaw01_OctetBack.j0] at h
  | k + 1 => by
    have ih0 := flyleaflaw01_OctetBack.mono_l k
    · intro y0 y1 y2 y3 y4 y5 y6
      unfold flyleaflaw01_OctetBack.j0
      repeat' first
      | (with_reducible exact ih0 _ _ _ _ _ _ _)
      | (with_reducible exact flyleaflaw01_awake.mono _)
      | (with_reducible exact octet_Get.mono _ _ _ _)
      | (with_reducible exact octet_Put.mono _ _ _)
      | (with_reducible exact octet_Set.mono _ _ _ _ _)
      | (with_reducible exact LeO.refl _)
      | (with_reducible exact LeO.none _)
      | (with_reducible refine LeO.ite ?_ ?_)
      | (with_reducible refine LeO.bind ?_ (fun _ => ?_))
      | exact ih0 _ _ _ _ _ _ _
      | exact flyleaflaw01_awake.mono _
      | exact octet_Get.mono _ _ _ _
      | exact octet_Put.mono _ _ _
      | exact octet_Set.mono _ _ _ _ _
      | exact LeO.none _
      | refine LeO.ite ?_ ?_
      | refine LeO.bind ?_ (fun _ => ?_)
theorem flyleaflaw01_OctetBack.mono : ∀ a0 a1 a2 a3 k, LeO (flyleaflaw01_OctetBack.f k a0 a1 a2 a3) (flyleaflaw01_OctetBack.f (k + 1) a0 a1 a2 a3) := by
  intro a0 a1 a2 a3 k
  have ih0 := flyleaflaw01_OctetBack.mono_l k
  unfold flyleaflaw01_OctetBack.f
  repeat' first
      | (with_reducible exact ih0 _ _ _ _ _ _ _)
      | (with_reducible exact flyleaflaw01_awake.mono _)
      | (with_reducible exact octet_Get.mono _ _ _ _)
      | (with_reducible exact octet_Put.mono _ _ _)
      | (with_reducible exact octet_Set.mono _ _ _ _ _)
      | (with_reducible exact LeO.refl _)
      | (with_reducible exact LeO.none _)
      | (with_reducible refine LeO.ite ?_ ?_)
      | (with_reducible refine LeO.bind ?_ (fun _ => ?_))
      | exact ih0 _ _ _ _ _ _ _
      | exact flyleaflaw01_awake.mono _
      | exact octet_Get.mono _ _ _ _
      | exact octet_Put.mono _ _ _
      | exact octet_Set.mono _ _ _ _ _
      | exact LeO.none _
      | refine LeO.ite ?_ ?_
      | refine LeO.bind ?_ (fun _ => ?_)
def flyleaflaw01_OctetBack.T13 : Bool × List (List Nat × List Nat) := (true, [([], []), ([0], [0]), ([1], [1]), ([1, 2], [1, 2]), ([3, 1], [3]), ([4], [4]), ([4], [4]), ([5, 6, 4], [4, 5, 6]), ([4, 7], [4, 7]), ([8, 4], [8]), ([9], [9]), ([9, 10], [9, 10]), ([11, 9], [11]), ([12], [12]), ([12], [12]), ([12], [12]), ([14, 15, 12, 12], [12, 14, 15]), ([13, 16, 12], [12, 13, 16]), ([12, 17], [12, 17]), ([18, 16], [18]), ([19], [19]), ([19], [19]), ([20, 21, 19], [19, 20, 21]), ([19], [19]), ([19], [19]), ([23, 24, 19], [19, 23, 24]), ([22, 25, 19], [19, 22, 25]), ([19, 26], [19, 26]), ([27, 19], [27]), ([28], [28]), ([28], [28]), ([28], [28]), ([30, 31, 28], [28, 30, 31]), ([29, 32, 28], [28, 29, 32]), ([28], [28]), ([28], [28]), ([28], [28]), ([35, 36, 28], [28, 35, 36]), ([34, 37, 28], [28, 34, 37]), ([33, 38, 28], [28, 33, 38]), ([28, 39], [28, 39]), ([40, 28, 0, 1, 2, 3, 4, 5, 6, 7, 8, 9, 10, 11, 12, 13, 14, 15, 16, 17, 18, 19, 20, 21, 22, 23, 24, 25, 26, 27, 28, 29, 30, 31, 32, 33, 34, 35, 36, 37, 38, 39, 40], [40])])
def flyleaflaw01_OctetBack.B13 : List Nat := [0, 1, 3, 7, 15, 31, 31, 127, 255, 511, 1023, 2047, 4095, 8191, 8191, 8191, 57343, 131071, 262143, 524287, 1048575, 1048575, 4194303, 1048575, 1048575, 26214399, 67108863, 134217727, 268435455, 536870911, 536870911, 536870911, 3758096383, 8589934591, 536870911, 536870911, 536870911, 103616086015, 258234908671, 549755813887, 1099511627775, 2199023255551]
theorem flyleaflaw01_OctetBack.tab13 : rtab .any (opsOf Try.f7 13) = flyleaflaw01_OctetBack.T13 := by kernel_rfl
theorem flyleaflaw01_OctetBack.bits13 : waitsOk flyleaflaw01_OctetBack.T13.2 flyleaflaw01_OctetBack.B13 = true := by kernel_rfl
set_option maxHeartbeats 8000000 in
set_option maxRecDepth 100000 in
theorem flyleaflaw01_OctetBack.calls (k : Nat) (a0 : ByteArray) (a1_0 : Int) (a1_1 : Int) (a2 : Int) (w : World) (h : flyleaflaw01_OctetBack.f k a0 a1_0 a1_1 a2 = some true) :
    Calls Try.prog 7 #[.string a0, .agg #[.int .i64 a1_0, .int .i64 a1_1], .int .u64 a2] w fun e w' => e = .returned (.bool true) ∧ Below w.heap.size w w' := by
  have hu32 := Try.underlying32
  have HB := Aside0.mk (Below.refl w.heap.size w)
  have H : ((flyleaflaw01_awake.f k).bind fun t147 => ((flyleaflaw01_short.f a0 40).bind fun t148 => (if t148.size + 8 ≤ 9223372036854775807 then (if (wrap64 ((wrap64 (((t148.size : Int) + 8) - (wrap64 (1 + (Go.bits .and .i64 a1_1 7))))) + 1)) = 0 then (none) else ((octet_Set.f k (t148 ++ (⟨#[49, 50, 51, 52, 53, 54, 55, 56]⟩ : ByteArray)) (Int.tmod (wrap64 ((wrap64 ((wrap64 ((Int.tmod a1_0 (wrap64 ((wrap64 (((t148.size : Int) + 8) - (wrap64 (1 + (Go.bits .and .i64 a1_1 7))))) + 1))) + ((t148.size : Int) + 8))) - (wrap64 (1 + (Go.bits .and .i64 a1_1 7))))) + 1)) (wrap64 ((wrap64 (((t148.size : Int) + 8) - (wrap64 (1 + (Go.bits .and .i64 a1_1 7))))) + 1))) (wrap64 (1 + (Go.bits .and .i64 a1_1 7))) a2).bind fun bt149 => (if bt149.2 = true then (flyleaflaw01_OctetBack.j0 k (t148 ++ (⟨#[49, 50, 51, 52, 53, 54, 55, 56]⟩ : ByteArray)) a2 t147 (wrap64 (1 + (Go.bits .and .i64 a1_1 7))) (Int.tmod (wrap64 ((wrap64 ((wrap64 ((Int.tmod a1_0 (wrap64 ((wrap64 (((t148.size : Int) + 8) - (wrap64 (1 + (Go.bits .and .i64 a1_1 7))))) + 1))) + ((t148.size : Int) + 8))) - (wrap64 (1 + (Go.bits .and .i64 a1_1 7))))) + 1)) (wrap64 ((wrap64 (((t148.size : Int) + 8) - (wrap64 (1 + (Go.bits .and .i64 a1_1 7))))) + 1))) bt149.1 ((bt149.1.size : Int) != ((t148.size : Int) + 8))) else (flyleaflaw01_OctetBack.j0 k (t148 ++ (⟨#[49, 50, 51, 52, 53, 54, 55, 56]⟩ : ByteArray)) a2 t147 (wrap64 (1 + (Go.bits .and .i64 a1_1 7))) (Int.tmod (wrap64 ((wrap64 ((wrap64 ((Int.tmod a1_0 (wrap64 ((wrap64 (((t148.size : Int) + 8) - (wrap64 (1 + (Go.bits .and .i64 a1_1 7))))) + 1))) + ((t148.size : Int) + 8))) - (wrap64 (1 + (Go.bits .and .i64 a1_1 7))))) + 1)) (wrap64 ((wrap64 (((t148.size : Int) + 8) - (wrap64 (1 + (Go.bits .and .i64 a1_1 7))))) + 1))) bt149.1 true)))) else (none)))) = some true := h
  clear h
  replace H := Option.bind_eq_some_iff.mp H
  obtain ⟨t147, A40, H⟩ := H
  replace H : ((flyleaflaw01_short.f a0 40).bind fun t148 => (if t148.size + 8 ≤ 9223372036854775807 then (if (wrap64 ((wrap64 (((t148.size : Int) + 8) - (wrap64 (1 + (Go.bits .and .i64 a1_1 7))))) + 1)) = 0 then (none) else ((octet_Set.f k (t148 ++ (⟨#[49, 50, 51, 52, 53, 54, 55, 56]⟩ : ByteArray)) (Int.tmod (wrap64 ((wrap64 ((wrap64 ((Int.tmod a1_0 (wrap64 ((wrap64 (((t148.size : Int) + 8) - (wrap64 (1 + (Go.bits .and .i64 a1_1 7))))) + 1))) + ((t148.size : Int) + 8))) - (wrap64 (1 + (Go.bits .and .i64 a1_1 7))))) + 1)) (wrap64 ((wrap64 (((t148.size : Int) + 8) - (wrap64 (1 + (Go.bits .and .i64 a1_1 7))))) + 1))) (wrap64 (1 + (Go.bits .and .i64 a1_1 7))) a2).bind fun bt149 => (if bt149.2 = true then (flyleaflaw01_OctetBack.j0 k (t148 ++ (⟨#[49, 50, 51, 52, 53, 54, 55, 56]⟩ : ByteArray)) a2 t147 (wrap64 (1 + (Go.bits .and .i64 a1_1 7))) (Int.tmod (wrap64 ((wrap64 ((wrap64 ((Int.tmod a1_0 (wrap64 ((wrap64 (((t148.size : Int) + 8) - (wrap64 (1 + (Go.bits .and .i64 a1_1 7))))) + 1))) + ((t148.size : Int) + 8))) - (wrap64 (1 + (Go.bits .and .i64 a1_1 7))))) + 1)) (wrap64 ((wrap64 (((t148.size : Int) + 8) - (wrap64 (1 + (Go.bits .and .i64 a1_1 7))))) + 1))) bt149.1 ((bt149.1.size : Int) != ((t148.size : Int) + 8))) else (flyleaflaw01_OctetBack.j0 k (t148 ++ (⟨#[49, 50, 51, 52, 53, 54, 55, 56]⟩ : ByteArray)) a2 t147 (wrap64 (1 + (Go.bits .and .i64 a1_1 7))) (Int.tmod (wrap64 ((wrap64 ((wrap64 ((Int.tmod a1_0 (wrap64 ((wrap64 (((t148.size : Int) + 8) - (wrap64 (1 + (Go.bits .and .i64 a1_1 7))))) + 1))) + ((t148.size : Int) + 8))) - (wrap64 (1 + (Go.bits .and .i64 a1_1 7))))) + 1)) (wrap64 ((wrap64 (((t148.size : Int) + 8) - (wrap64 (1 + (Go.bits .and .i64 a1_1 7))))) + 1))) bt149.1 true)))) else (none))) = some true := H
  have A4 := Aside0.mk A40
  clear A40
  replace H := Option.bind_eq_some_iff.mp H
  obtain ⟨t148, A50, H⟩ := H
  replace H : (if t148.size + 8 ≤ 9223372036854775807 then (if (wrap64 ((wrap64 (((t148.size : Int) + 8) - (wrap64 (1 + (Go.bits .and .i64 a1_1 7))))) + 1)) = 0 then (none) else ((octet_Set.f k (t148 ++ (⟨#[49, 50, 51, 52, 53, 54, 55, 56]⟩ : ByteArray)) (Int.tmod (wrap64 ((wrap64 ((wrap64 ((Int.tmod a1_0 (wrap64 ((wrap64 (((t148.size : Int) + 8) - (wrap64 (1 + (Go.bits .and .i64 a1_1 7))))) + 1))) + ((t148.size : Int) + 8))) - (wrap64 (1 + (Go.bits .and .i64 a1_1 7))))) + 1)) (wrap64 ((wrap64 (((t148.size : Int) + 8) - (wrap64 (1 + (Go.bits .and .i64 a1_1 7))))) + 1))) (wrap64 (1 + (Go.bits .and .i64 a1_1 7))) a2).bind fun bt149 => (if bt149.2 = true then (flyleaflaw01_OctetBack.j0 k (t148 ++ (⟨#[49, 50, 51, 52, 53, 54, 55, 56]⟩ : ByteArray)) a2 t147 (wrap64 (1 + (Go.bits .and .i64 a1_1 7))) (Int.tmod (wrap64 ((wrap64 ((wrap64 ((Int.tmod a1_0 (wrap64 ((wrap64 (((t148.size : Int) + 8) - (wrap64 (1 + (Go.bits .and .i64 a1_1 7))))) + 1))) + ((t148.size : Int) + 8))) - (wrap64 (1 + (Go.bits .and .i64 a1_1 7))))) + 1)) (wrap64 ((wrap64 (((t148.size : Int) + 8) - (wrap64 (1 + (Go.bits .and .i64 a1_1 7))))) + 1))) bt149.1 ((bt149.1.size : Int) != ((t148.size : Int) + 8))) else (flyleaflaw01_OctetBack.j0 k (t148 ++ (⟨#[49, 50, 51, 52, 53, 54, 55, 56]⟩ : ByteArray)) a2 t147 (wrap64 (1 + (Go.bits .and .i64 a1_1 7))) (Int.tmod (wrap64 ((wrap64 ((wrap64 ((Int.tmod a1_0 (wrap64 ((wrap64 (((t148.size : Int) + 8) - (wrap64 (1 + (Go.bits .and .i64 a1_1 7))))) + 1))) + ((t148.size : Int) + 8))) - (wrap64 (1 + (Go.bits .and .i64 a1_1 7))))) + 1)) (wrap64 ((wrap64 (((t148.size : Int) + 8) - (wrap64 (1 + (Go.bits .and .i64 a1_1 7))))) + 1))) bt149.1 true)))) else (none)) = some true := H
  have A5 := Aside0.mk A50
  clear A50
  by_cases c6 : t148.size + 8 ≤ 9223372036854775807
  · rw [if_pos c6] at H
    have c6b0 := eq_true c6
    have c6b1 : decide (t148.size + 8 ≤ 9223372036854775807) = true := decide_eq_true c6
    try have c6b2 : (9223372036854775807 < t148.size + 8) = False := eq_false (Nat.not_lt.2 c6)
    clear c6
    by_cases c7 : (wrap64 ((wrap64 (((t148.size : Int) + 8) - (wrap64 (1 + (Go.bits .and .i64 a1_1 7))))) + 1)) = 0
    · rw [if_pos c7] at H
      exact absurd H (by simp)
    · rw [if_neg c7] at H
      have c7b0 : ((wrap64 ((wrap64 (((t148.size : Int) + 8) - (wrap64 (1 + (Go.bits .and .i64 a1_1 7))))) + 1)) == 0) = false := beq_eq_false_iff_ne.mpr c7
      have c7b1 : ((wrap64 ((wrap64 (((t148.size : Int) + 8) - (wrap64 (1 + (Go.bits .and .i64 a1_1 7))))) + 1)) != 0) = true := bne_iff_ne.mpr c7
      replace H := Option.bind_eq_some_iff.mp H
      obtain ⟨⟨t149, t150⟩, A80, H⟩ := H
      replace H : (if t150 = true then (flyleaflaw01_OctetBack.j0 k (t148 ++ (⟨#[49, 50, 51, 52, 53, 54, 55, 56]⟩ : ByteArray)) a2 t147 (wrap64 (1 + (Go.bits .and .i64 a1_1 7))) (Int.tmod (wrap64 ((wrap64 ((wrap64 ((Int.tmod a1_0 (wrap64 ((wrap64 (((t148.size : Int) + 8) - (wrap64 (1 + (Go.bits .and .i64 a1_1 7))))) + 1))) + ((t148.size : Int) + 8))) - (wrap64 (1 + (Go.bits .and .i64 a1_1 7))))) + 1)) (wrap64 ((wrap64 (((t148.size : Int) + 8) - (wrap64 (1 + (Go.bits .and .i64 a1_1 7))))) + 1))) t149 ((t149.size : Int) != ((t148.size : Int) + 8))) else (flyleaflaw01_OctetBack.j0 k (t148 ++ (⟨#[49, 50, 51, 52, 53, 54, 55, 56]⟩ : ByteArray)) a2 t147 (wrap64 (1 + (Go.bits .and .i64 a1_1 7))) (Int.tmod (wrap64 ((wrap64 ((wrap64 ((Int.tmod a1_0 (wrap64 ((wrap64 (((t148.size : Int) + 8) - (wrap64 (1 + (Go.bits .and .i64 a1_1 7))))) + 1))) + ((t148.size : Int) + 8))) - (wrap64 (1 + (Go.bits .and .i64 a1_1 7))))) + 1)) (wrap64 ((wrap64 (((t148.size : Int) + 8) - (wrap64 (1 + (Go.bits .and .i64 a1_1 7))))) + 1))) t149 true)) = some true := H
      have A8 := Aside0.mk A80
      clear A80
      have HC9 := Aside0.mk H
      clear H
      go_enter Try.func7, Try.ntmps7
      go_upto_region 6 with (first | ((with_reducible refine gate_dst (N := 4) rfl ?_); (try (refine gate_guard (by rfl) ?_; dsimp only)); refine box_event ?hg (N := 4) ?hd (cs := #[.int .i64 a1_0, .int .i64 a1_1]) (t := 32) ?hr ?_; (case hd => rfl); (case hg => rfl); (case hr => first | (go_simp; done) | (go_simp; rfl)); intro gb146 hg w10 hbox hb; have n0_ := Aside0.mk (below_step (by repeat (first | (with_reducible first | exact HB.out | apply below_alloc | apply pw_below_drewN | apply below_drew1) | exact HB.out)) hb); have n1_ := Aside0.mk (hbox); have n2_ := Aside0.mk ((by rw [hg]; exact (below_size (by repeat (first | (with_reducible first | exact HB.out | apply below_alloc | apply pw_below_drewN | apply below_drew1) | exact HB.out))) : w.heap.size ≤ gb146)); have n3_ := Aside0.mk ((by rw [hg]; exact (below_size (by repeat (first | (with_reducible first | exact HB.out | apply below_alloc | apply pw_below_drewN | apply below_drew1) | exact HB.out))) : w.heap.size ≤ gb146)); clear HB; have HB := n0_; have BK146 := n1_; have GW146 := n2_; have GE146 := n3_; clear n0_ n1_ n2_ n3_; clear hb hbox hg) | ((with_reducible refine gate_callee (f := 10) rfl ?_); refine goesL_ (some 17) rfl rfl Try.func10 (by kernel_rfl) rfl #[] rfl (by (try simp only [List.map_toArray, List.map_cons, List.map_nil]); first | done | rfl | (simp only [List.length_drop, List.length_take]; rfl) | (simp only [ByteArray.size_append, Int.natCast_add]; rfl)) ?_; (with_reducible refine (flyleaflaw01_awake.calls k  t147 _ A4.out).mono ?_); rintro e w11 ⟨rfl, hb⟩; refine ⟨_, rfl, ?_⟩; have n0_ := Aside0.mk (blk_below (g := gb146) (o := .cells #[.int .i64 a1_0, .int .i64 a1_1] 32 (0, 0)) (by (with_reducible repeat (first | refine blk_drewN ?_ _ | refine blk_drew ?_ | refine blk_alloc ?_ _)); exact BK146.out) hb); have n1_ := Aside0.mk (below_step (by repeat (first | (with_reducible first | exact HB.out | apply below_alloc | apply pw_below_drewN | apply below_drew1 | refine below_set ?_ GE146.out) | exact HB.out)) hb); clear BK146; clear HB; have BK146 := n0_; have HB := n1_; clear n0_ n1_; (try clear hb); (try clear hb2); (try clear hk); (try clear hi)) | ((with_reducible refine gate_callee (f := 14) rfl ?_); refine goesL_ (some 19) rfl rfl Try.func14 (by kernel_rfl) rfl #[.string a0, .int .i64 40] rfl (by (try simp only [List.map_toArray, List.map_cons, List.map_nil]); first | done | rfl | (simp only [List.length_drop, List.length_take]; rfl) | (simp only [ByteArray.size_append, Int.natCast_add]; rfl)) ?_; (with_reducible refine (flyleaflaw01_short.calls a0 40 t148 _ A5.out).mono ?_); rintro e w' ⟨rfl, ⟨nd, rfl⟩⟩; refine ⟨_, rfl, ?_⟩; have hcz12_0 : w11.cell? ⟨gb146, 0, none⟩ = some (.int .i64 a1_0) := (blk_cell BK146.out 0).trans rfl; have hcz12_1 : w11.cell? ⟨gb146, 1, none⟩ = some (.int .i64 a1_1) := (blk_cell BK146.out 1).trans rfl; have hfz12_0 := blk_frozen BK146.out 0; have hfz12_1 := blk_frozen BK146.out 1) | ((with_reducible refine gate_callee (f := 17) rfl ?_); refine goesL_ (some 50) rfl rfl Try.func17 (by kernel_rfl) rfl #[.string (t148 ++ (⟨#[49, 50, 51, 52, 53, 54, 55, 56]⟩ : ByteArray)), .int .i64 (Int.tmod (wrap64 ((wrap64 ((wrap64 ((Int.tmod a1_0 (wrap64 ((wrap64 (((t148.size : Int) + 8) - (wrap64 (1 + (Go.bits .and .i64 a1_1 7))))) + 1))) + ((t148.size : Int) + 8))) - (wrap64 (1 + (Go.bits .and .i64 a1_1 7))))) + 1)) (wrap64 ((wrap64 (((t148.size : Int) + 8) - (wrap64 (1 + (Go.bits .and .i64 a1_1 7))))) + 1))), .int .i64 (wrap64 (1 + (Go.bits .and .i64 a1_1 7))), .int .u64 a2] rfl (by (try simp only [List.map_toArray, List.map_cons, List.map_nil]); first | done | rfl | (simp only [List.length_drop, List.length_take]; rfl) | (simp only [ByteArray.size_append, Int.natCast_add]; rfl)) ?_; (with_reducible refine (octet_Set.calls k (t148 ++ (⟨#[49, 50, 51, 52, 53, 54, 55, 56]⟩ : ByteArray)) (Int.tmod (wrap64 ((wrap64 ((wrap64 ((Int.tmod a1_0 (wrap64 ((wrap64 (((t148.size : Int) + 8) - (wrap64 (1 + (Go.bits .and .i64 a1_1 7))))) + 1))) + ((t148.size : Int) + 8))) - (wrap64 (1 + (Go.bits .and .i64 a1_1 7))))) + 1)) (wrap64 ((wrap64 (((t148.size : Int) + 8) - (wrap64 (1 + (Go.bits .and .i64 a1_1 7))))) + 1))) (wrap64 (1 + (Go.bits .and .i64 a1_1 7))) a2 t149 t150 _ A8.out).mono ?_); rintro e w13 ⟨rfl, hb⟩; refine ⟨_, rfl, ?_⟩; have n0_ := Aside0.mk (blk_below (g := gb146) (o := .cells #[.int .i64 a1_0, .int .i64 a1_1] 32 (0, 0)) (by (with_reducible repeat (first | refine blk_drewN ?_ _ | refine blk_drew ?_ | refine blk_alloc ?_ _)); exact BK146.out) hb); have n1_ := Aside0.mk (below_step (by repeat (first | (with_reducible first | exact HB.out | apply below_alloc | apply pw_below_drewN | apply below_drew1 | refine below_set ?_ GE146.out) | exact HB.out)) hb); clear BK146; clear HB; have BK146 := n0_; have HB := n1_; clear n0_ n1_; (try clear hb); (try clear hb2); (try clear hk); (try clear hi)))
      (try simp only [Act.put, List.setIfInBounds_toArray, List.set_cons_zero, List.set_cons_succ])
      go_cut [61] (fun v61 wc => ∃ (kq : Nat) (x61_8 : Bool), v61 = .bool x61_8 ∧ Aside0 (flyleaflaw01_OctetBack.j0 kq (t148 ++ (⟨#[49, 50, 51, 52, 53, 54, 55, 56]⟩ : ByteArray)) a2 t147 (wrap64 (1 + (Go.bits .and .i64 a1_1 7))) (Int.tmod (wrap64 ((wrap64 ((wrap64 ((Int.tmod a1_0 (wrap64 ((wrap64 (((t148.size : Int) + 8) - (wrap64 (1 + (Go.bits .and .i64 a1_1 7))))) + 1))) + ((t148.size : Int) + 8))) - (wrap64 (1 + (Go.bits .and .i64 a1_1 7))))) + 1)) (wrap64 ((wrap64 (((t148.size : Int) + 8) - (wrap64 (1 + (Go.bits .and .i64 a1_1 7))))) + 1))) t149 x61_8 = some true) ∧ Aside0 (kq ≤ k) ∧ Aside0 (wc.heap[gb146]? = some (.cells #[.int .i64 a1_0, .int .i64 a1_1] 32 (0, 0))) ∧ Aside0 (Below w.heap.size w wc))
      case first =>
        have H := HC9.out
        clear HC9
        by_cases c14 : t150 = true
        · subst c14
          have H1 : (flyleaflaw01_OctetBack.j0 k (t148 ++ (⟨#[49, 50, 51, 52, 53, 54, 55, 56]⟩ : ByteArray)) a2 t147 (wrap64 (1 + (Go.bits .and .i64 a1_1 7))) (Int.tmod (wrap64 ((wrap64 ((wrap64 ((Int.tmod a1_0 (wrap64 ((wrap64 (((t148.size : Int) + 8) - (wrap64 (1 + (Go.bits .and .i64 a1_1 7))))) + 1))) + ((t148.size : Int) + 8))) - (wrap64 (1 + (Go.bits .and .i64 a1_1 7))))) + 1)) (wrap64 ((wrap64 (((t148.size : Int) + 8) - (wrap64 (1 + (Go.bits .and .i64 a1_1 7))))) + 1))) t149 ((t149.size : Int) != ((t148.size : Int) + 8))) = some true := by rw [if_pos rfl] at H; exact H
          clear H
          have H := H1
          clear H1
          have H' := Aside0.mk H
          clear H
          go_wp2
          go_meet
          case rel => exact ⟨_, (((t149.size : Int) != ((t148.size : Int) + 8))), (by first | rfl | (simp; done) | (simp [*]; done)), H', ⟨by first | omega | exact Nat.le_refl _⟩, ⟨by (with_reducible repeat (first | refine blk_drewN ?_ _ | refine blk_drew ?_ | refine blk_alloc ?_ _)); exact BK146.out⟩, ⟨by repeat (first | (with_reducible first | exact HB.out | apply below_alloc | apply pw_below_drewN | apply below_drew1 | refine below_set ?_ GE146.out) | exact HB.out)⟩⟩
        · replace c14 := Bool.eq_false_iff.mpr c14
          subst c14
          have H1 : (flyleaflaw01_OctetBack.j0 k (t148 ++ (⟨#[49, 50, 51, 52, 53, 54, 55, 56]⟩ : ByteArray)) a2 t147 (wrap64 (1 + (Go.bits .and .i64 a1_1 7))) (Int.tmod (wrap64 ((wrap64 ((wrap64 ((Int.tmod a1_0 (wrap64 ((wrap64 (((t148.size : Int) + 8) - (wrap64 (1 + (Go.bits .and .i64 a1_1 7))))) + 1))) + ((t148.size : Int) + 8))) - (wrap64 (1 + (Go.bits .and .i64 a1_1 7))))) + 1)) (wrap64 ((wrap64 (((t148.size : Int) + 8) - (wrap64 (1 + (Go.bits .and .i64 a1_1 7))))) + 1))) t149 true) = some true := by rw [if_neg (show ¬ (false = true) by decide)] at H; exact H
          clear H
          have H := H1
          clear H1
          have H' := Aside0.mk H
          clear H
          go_wp2
          go_meet
          case rel => exact ⟨_, (true), (by first | rfl | (simp; done) | (simp [*]; done)), H', ⟨by first | omega | exact Nat.le_refl _⟩, ⟨by (with_reducible repeat (first | refine blk_drewN ?_ _ | refine blk_drew ?_ | refine blk_alloc ?_ _)); exact BK146.out⟩, ⟨by repeat (first | (with_reducible first | exact HB.out | apply below_alloc | apply pw_below_drewN | apply below_drew1 | refine below_set ?_ GE146.out) | exact HB.out)⟩⟩
      case rest =>
        clear HC9
        try clear c1
        try clear p2
        try clear c6
        try clear c6b0
        try clear c6b1
        try clear c6b2
        try clear p6
        try clear c7
        try clear c7b0
        try clear c7b1
        try clear c10
        try clear c14
        try clear hcz12_0
        try clear hcz12_1
        try clear hfz12_0
        try clear hfz12_1
        obtain ⟨kq, x61_8, rfl, HA, HJ8, BK146, HB⟩ := hcut
        cases kq with
        | zero => exact absurd HA.out (by simp [flyleaflaw01_OctetBack.j0])
        | succ kj8 =>
          have H := HA.out
          clear HA
          simp only [flyleaflaw01_OctetBack.j0] at H
          by_cases c15 : x61_8 = true
          · subst c15
            have H1 : (some false) = some true := by rw [if_pos rfl] at H; exact H
            clear H
            have H := H1
            clear H1
            exact absurd H (by simp)
          · replace c15 := Bool.eq_false_iff.mpr c15
            subst c15
            have H1 : ((octet_Get.f kj8 t149 (Int.tmod (wrap64 ((wrap64 ((wrap64 ((Int.tmod a1_0 (wrap64 ((wrap64 (((t148.size : Int) + 8) - (wrap64 (1 + (Go.bits .and .i64 a1_1 7))))) + 1))) + ((t148.size : Int) + 8))) - (wrap64 (1 + (Go.bits .and .i64 a1_1 7))))) + 1)) (wrap64 ((wrap64 (((t148.size : Int) + 8) - (wrap64 (1 + (Go.bits .and .i64 a1_1 7))))) + 1))) (wrap64 (1 + (Go.bits .and .i64 a1_1 7)))).bind fun bt151 => (if (wrap64 (1 + (Go.bits .and .i64 a1_1 7))) < 8 then (if 0 ≤ (IntKind.u64.wrap (wrap64 (8 * (wrap64 (1 + (Go.bits .and .i64 a1_1 7)))))) then ((octet_Part.f t149 (Int.tmod (wrap64 ((wrap64 ((wrap64 ((Int.tmod a1_0 (wrap64 ((wrap64 (((t148.size : Int) + 8) - (wrap64 (1 + (Go.bits .and .i64 a1_1 7))))) + 1))) + ((t148.size : Int) + 8))) - (wrap64 (1 + (Go.bits .and .i64 a1_1 7))))) + 1)) (wrap64 ((wrap64 (((t148.size : Int) + 8) - (wrap64 (1 + (Go.bits .and .i64 a1_1 7))))) + 1))) (wrap64 (1 + (Go.bits .and .i64 a1_1 7)))).bind fun bt153 => (if t147 = true then (if bt151.2 = true then (if bt151.1 = (Go.bits .and .u64 a2 (IntKind.u64.wrap ((shl .u64 1 (IntKind.u64.wrap (wrap64 (8 * (wrap64 (1 + (Go.bits .and .i64 a1_1 7))))))) - 1))) then (if bt153.2 = true then ((octet_Put.f kj8 a2 (wrap64 (1 + (Go.bits .and .i64 a1_1 7)))).bind fun t155 => (if bt153.1.toList = t155.toList then (if 0 ≤ (Int.tmod (wrap64 ((wrap64 ((wrap64 ((Int.tmod a1_0 (wrap64 ((wrap64 (((t148.size : Int) + 8) - (wrap64 (1 + (Go.bits .and .i64 a1_1 7))))) + 1))) + ((t148.size : Int) + 8))) - (wrap64 (1 + (Go.bits .and .i64 a1_1 7))))) + 1)) (wrap64 ((wrap64 (((t148.size : Int) + 8) - (wrap64 (1 + (Go.bits .and .i64 a1_1 7))))) + 1))) then (if (Int.tmod (wrap64 ((wrap64 ((wrap64 ((Int.tmod a1_0 (wrap64 ((wrap64 (((t148.size : Int) + 8) - (wrap64 (1 + (Go.bits .and .i64 a1_1 7))))) + 1))) + ((t148.size : Int) + 8))) - (wrap64 (1 + (Go.bits .and .i64 a1_1 7))))) + 1)) (wrap64 ((wrap64 (((t148.size : Int) + 8) - (wrap64 (1 + (Go.bits .and .i64 a1_1 7))))) + 1))) ≤ (t149.size : Int) then (if (Int.tmod (wrap64 ((wrap64 ((wrap64 ((Int.tmod a1_0 (wrap64 ((wrap64 (((t148.size : Int) + 8) - (wrap64 (1 + (Go.bits .and .i64 a1_1 7))))) + 1))) + ((t148.size : Int) + 8))) - (wrap64 (1 + (Go.bits .and .i64 a1_1 7))))) + 1)) (wrap64 ((wrap64 (((t148.size : Int) + 8) - (wrap64 (1 + (Go.bits .and .i64 a1_1 7))))) + 1))) ≤ ((t148 ++ (⟨#[49, 50, 51, 52, 53, 54, 55, 56]⟩ : ByteArray)).size : Int) then (if (t149.extract 0 ((Int.tmod (wrap64 ((wrap64 ((wrap64 ((Int.tmod a1_0 (wrap64 ((wrap64 (((t148.size : Int) + 8) - (wrap64 (1 + (Go.bits .and .i64 a1_1 7))))) + 1))) + ((t148.size : Int) + 8))) - (wrap64 (1 + (Go.bits .and .i64 a1_1 7))))) + 1)) (wrap64 ((wrap64 (((t148.size : Int) + 8) - (wrap64 (1 + (Go.bits .and .i64 a1_1 7))))) + 1))) : Int).toNat).toList = ((t148 ++ (⟨#[49, 50, 51, 52, 53, 54, 55, 56]⟩ : ByteArray)).extract 0 ((Int.tmod (wrap64 ((wrap64 ((wrap64 ((Int.tmod a1_0 (wrap64 ((wrap64 (((t148.size : Int) + 8) - (wrap64 (1 + (Go.bits .and .i64 a1_1 7))))) + 1))) + ((t148.size : Int) + 8))) - (wrap64 (1 + (Go.bits .and .i64 a1_1 7))))) + 1)) (wrap64 ((wrap64 (((t148.size : Int) + 8) - (wrap64 (1 + (Go.bits .and .i64 a1_1 7))))) + 1))) : Int).toNat).toList then (if 0 ≤ (wrap64 ((Int.tmod (wrap64 ((wrap64 ((wrap64 ((Int.tmod a1_0 (wrap64 ((wrap64 (((t148.size : Int) + 8) - (wrap64 (1 + (Go.bits .and .i64 a1_1 7))))) + 1))) + ((t148.size : Int) + 8))) - (wrap64 (1 + (Go.bits .and .i64 a1_1 7))))) + 1)) (wrap64 ((wrap64 (((t148.size : Int) + 8) - (wrap64 (1 + (Go.bits .and .i64 a1_1 7))))) + 1))) + (wrap64 (1 + (Go.bits .and .i64 a1_1 7))))) then (if (wrap64 ((Int.tmod (wrap64 ((wrap64 ((wrap64 ((Int.tmod a1_0 (wrap64 ((wrap64 (((t148.size : Int) + 8) - (wrap64 (1 + (Go.bits .and .i64 a1_1 7))))) + 1))) + ((t148.size : Int) + 8))) - (wrap64 (1 + (Go.bits .and .i64 a1_1 7))))) + 1)) (wrap64 ((wrap64 (((t148.size : Int) + 8) - (wrap64 (1 + (Go.bits .and .i64 a1_1 7))))) + 1))) + (wrap64 (1 + (Go.bits .and .i64 a1_1 7))))) ≤ (t149.size : Int) then (if (wrap64 ((Int.tmod (wrap64 ((wrap64 ((wrap64 ((Int.tmod a1_0 (wrap64 ((wrap64 (((t148.size : Int) + 8) - (wrap64 (1 + (Go.bits .and .i64 a1_1 7))))) + 1))) + ((t148.size : Int) + 8))) - (wrap64 (1 + (Go.bits .and .i64 a1_1 7))))) + 1)) (wrap64 ((wrap64 (((t148.size : Int) + 8) - (wrap64 (1 + (Go.bits .and .i64 a1_1 7))))) + 1))) + (wrap64 (1 + (Go.bits .and .i64 a1_1 7))))) ≤ ((t148 ++ (⟨#[49, 50, 51, 52, 53, 54, 55, 56]⟩ : ByteArray)).size : Int) then (some ((t149.extract ((wrap64 ((Int.tmod (wrap64 ((wrap64 ((wrap64 ((Int.tmod a1_0 (wrap64 ((wrap64 (((t148.size : Int) + 8) - (wrap64 (1 + (Go.bits .and .i64 a1_1 7))))) + 1))) + ((t148.size : Int) + 8))) - (wrap64 (1 + (Go.bits .and .i64 a1_1 7))))) + 1)) (wrap64 ((wrap64 (((t148.size : Int) + 8) - (wrap64 (1 + (Go.bits .and .i64 a1_1 7))))) + 1))) + (wrap64 (1 + (Go.bits .and .i64 a1_1 7))))) : Int).toNat t149.size).toList == ((t148 ++ (⟨#[49, 50, 51, 52, 53, 54, 55, 56]⟩ : ByteArray)).extract ((wrap64 ((Int.tmod (wrap64 ((wrap64 ((wrap64 ((Int.tmod a1_0 (wrap64 ((wrap64 (((t148.size : Int) + 8) - (wrap64 (1 + (Go.bits .and .i64 a1_1 7))))) + 1))) + ((t148.size : Int) + 8))) - (wrap64 (1 + (Go.bits .and .i64 a1_1 7))))) + 1)) (wrap64 ((wrap64 (((t148.size : Int) + 8) - (wrap64 (1 + (Go.bits .and .i64 a1_1 7))))) + 1))) + (wrap64 (1 + (Go.bits .and .i64 a1_1 7))))) : Int).toNat (t148 ++ (⟨#[49, 50, 51, 52, 53, 54, 55, 56]⟩ : ByteArray)).size).toList)) else (none)) else (none)) else (none)) else (some false)) else (none)) else (none)) else (none)) else (some false))) else (some false)) else (some false)) else (some false)) else (some false))) else (none)) else ((octet_Part.f t149 (Int.tmod (wrap64 ((wrap64 ((wrap64 ((Int.tmod a1_0 (wrap64 ((wrap64 (((t148.size : Int) + 8) - (wrap64 (1 + (Go.bits .and .i64 a1_1 7))))) + 1))) + ((t148.size : Int) + 8))) - (wrap64 (1 + (Go.bits .and .i64 a1_1 7))))) + 1)) (wrap64 ((wrap64 (((t148.size : Int) + 8) - (wrap64 (1 + (Go.bits .and .i64 a1_1 7))))) + 1))) (wrap64 (1 + (Go.bits .and .i64 a1_1 7)))).bind fun bt156 => (if t147 = true then (if bt151.2 = true then (if bt151.1 = a2 then (if bt156.2 = true then ((octet_Put.f kj8 a2 (wrap64 (1 + (Go.bits .and .i64 a1_1 7)))).bind fun t158 => (if bt156.1.toList = t158.toList then (if 0 ≤ (Int.tmod (wrap64 ((wrap64 ((wrap64 ((Int.tmod a1_0 (wrap64 ((wrap64 (((t148.size : Int) + 8) - (wrap64 (1 + (Go.bits .and .i64 a1_1 7))))) + 1))) + ((t148.size : Int) + 8))) - (wrap64 (1 + (Go.bits .and .i64 a1_1 7))))) + 1)) (wrap64 ((wrap64 (((t148.size : Int) + 8) - (wrap64 (1 + (Go.bits .and .i64 a1_1 7))))) + 1))) then (if (Int.tmod (wrap64 ((wrap64 ((wrap64 ((Int.tmod a1_0 (wrap64 ((wrap64 (((t148.size : Int) + 8) - (wrap64 (1 + (Go.bits .and .i64 a1_1 7))))) + 1))) + ((t148.size : Int) + 8))) - (wrap64 (1 + (Go.bits .and .i64 a1_1 7))))) + 1)) (wrap64 ((wrap64 (((t148.size : Int) + 8) - (wrap64 (1 + (Go.bits .and .i64 a1_1 7))))) + 1))) ≤ (t149.size : Int) then (if (Int.tmod (wrap64 ((wrap64 ((wrap64 ((Int.tmod a1_0 (wrap64 ((wrap64 (((t148.size : Int) + 8) - (wrap64 (1 + (Go.bits .and .i64 a1_1 7))))) + 1))) + ((t148.size : Int) + 8))) - (wrap64 (1 + (Go.bits .and .i64 a1_1 7))))) + 1)) (wrap64 ((wrap64 (((t148.size : Int) + 8) - (wrap64 (1 + (Go.bits .and .i64 a1_1 7))))) + 1))) ≤ ((t148 ++ (⟨#[49, 50, 51, 52, 53, 54, 55, 56]⟩ : ByteArray)).size : Int) then (if (t149.extract 0 ((Int.tmod (wrap64 ((wrap64 ((wrap64 ((Int.tmod a1_0 (wrap64 ((wrap64 (((t148.size : Int) + 8) - (wrap64 (1 + (Go.bits .and .i64 a1_1 7))))) + 1))) + ((t148.size : Int) + 8))) - (wrap64 (1 + (Go.bits .and .i64 a1_1 7))))) + 1)) (wrap64 ((wrap64 (((t148.size : Int) + 8) - (wrap64 (1 + (Go.bits .and .i64 a1_1 7))))) + 1))) : Int).toNat).toList = ((t148 ++ (⟨#[49, 50, 51, 52, 53, 54, 55, 56]⟩ : ByteArray)).extract 0 ((Int.tmod (wrap64 ((wrap64 ((wrap64 ((Int.tmod a1_0 (wrap64 ((wrap64 (((t148.size : Int) + 8) - (wrap64 (1 + (Go.bits .and .i64 a1_1 7))))) + 1))) + ((t148.size : Int) + 8))) - (wrap64 (1 + (Go.bits .and .i64 a1_1 7))))) + 1)) (wrap64 ((wrap64 (((t148.size : Int) + 8) - (wrap64 (1 + (Go.bits .and .i64 a1_1 7))))) + 1))) : Int).toNat).toList then (if 0 ≤ (wrap64 ((Int.tmod (wrap64 ((wrap64 ((wrap64 ((Int.tmod a1_0 (wrap64 ((wrap64 (((t148.size : Int) + 8) - (wrap64 (1 + (Go.bits .and .i64 a1_1 7))))) + 1))) + ((t148.size : Int) + 8))) - (wrap64 (1 + (Go.bits .and .i64 a1_1 7))))) + 1)) (wrap64 ((wrap64 (((t148.size : Int) + 8) - (wrap64 (1 + (Go.bits .and .i64 a1_1 7))))) + 1))) + (wrap64 (1 + (Go.bits .and .i64 a1_1 7))))) then (if (wrap64 ((Int.tmod (wrap64 ((wrap64 ((wrap64 ((Int.tmod a1_0 (wrap64 ((wrap64 (((t148.size : Int) + 8) - (wrap64 (1 + (Go.bits .and .i64 a1_1 7))))) + 1))) + ((t148.size : Int) + 8))) - (wrap64 (1 + (Go.bits .and .i64 a1_1 7))))) + 1)) (wrap64 ((wrap64 (((t148.size : Int) + 8) - (wrap64 (1 + (Go.bits .and .i64 a1_1 7))))) + 1))) + (wrap64 (1 + (Go.bits .and .i64 a1_1 7))))) ≤ (t149.size : Int) then (if (wrap64 ((Int.tmod (wrap64 ((wrap64 ((wrap64 ((Int.tmod a1_0 (wrap64 ((wrap64 (((t148.size : Int) + 8) - (wrap64 (1 + (Go.bits .and .i64 a1_1 7))))) + 1))) + ((t148.size : Int) + 8))) - (wrap64 (1 + (Go.bits .and .i64 a1_1 7))))) + 1)) (wrap64 ((wrap64 (((t148.size : Int) + 8) - (wrap64 (1 + (Go.bits .and .i64 a1_1 7))))) + 1))) + (wrap64 (1 + (Go.bits .and .i64 a1_1 7))))) ≤ ((t148 ++ (⟨#[49, 50, 51, 52, 53, 54, 55, 56]⟩ : ByteArray)).size : Int) then (some ((t149.extract ((wrap64 ((Int.tmod (wrap64 ((wrap64 ((wrap64 ((Int.tmod a1_0 (wrap64 ((wrap64 (((t148.size : Int) + 8) - (wrap64 (1 + (Go.bits .and .i64 a1_1 7))))) + 1))) + ((t148.size : Int) + 8))) - (wrap64 (1 + (Go.bits .and .i64 a1_1 7))))) + 1)) (wrap64 ((wrap64 (((t148.size : Int) + 8) - (wrap64 (1 + (Go.bits .and .i64 a1_1 7))))) + 1))) + (wrap64 (1 + (Go.bits .and .i64 a1_1 7))))) : Int).toNat t149.size).toList == ((t148 ++ (⟨#[49, 50, 51, 52, 53, 54, 55, 56]⟩ : ByteArray)).extract ((wrap64 ((Int.tmod (wrap64 ((wrap64 ((wrap64 ((Int.tmod a1_0 (wrap64 ((wrap64 (((t148.size : Int) + 8) - (wrap64 (1 + (Go.bits .and .i64 a1_1 7))))) + 1))) + ((t148.size : Int) + 8))) - (wrap64 (1 + (Go.bits .and .i64 a1_1 7))))) + 1)) (wrap64 ((wrap64 (((t148.size : Int) + 8) - (wrap64 (1 + (Go.bits .and .i64 a1_1 7))))) + 1))) + (wrap64 (1 + (Go.bits .and .i64 a1_1 7))))) : Int).toNat (t148 ++ (⟨#[49, 50, 51, 52, 53, 54, 55, 56]⟩ : ByteArray)).size).toList)) else (none)) else (none)) else (none)) else (some false)) else (none)) else (none)) else (none)) else (some false))) else (some false)) else (some false)) else (some false)) else (some false))))) = some true := by rw [if_neg (show ¬ (false = true) by decide)] at H; exact H
            clear H
            have H := H1
            clear H1
            replace H := Option.bind_eq_some_iff.mp H
            obtain ⟨⟨t151, t152⟩, A160, H⟩ := H
            replace H : (if (wrap64 (1 + (Go.bits .and .i64 a1_1 7))) < 8 then (if 0 ≤ (IntKind.u64.wrap (wrap64 (8 * (wrap64 (1 + (Go.bits .and .i64 a1_1 7)))))) then ((octet_Part.f t149 (Int.tmod (wrap64 ((wrap64 ((wrap64 ((Int.tmod a1_0 (wrap64 ((wrap64 (((t148.size : Int) + 8) - (wrap64 (1 + (Go.bits .and .i64 a1_1 7))))) + 1))) + ((t148.size : Int) + 8))) - (wrap64 (1 + (Go.bits .and .i64 a1_1 7))))) + 1)) (wrap64 ((wrap64 (((t148.size : Int) + 8) - (wrap64 (1 + (Go.bits .and .i64 a1_1 7))))) + 1))) (wrap64 (1 + (Go.bits .and .i64 a1_1 7)))).bind fun bt153 => (if t147 = true then (if t152 = true then (if t151 = (Go.bits .and .u64 a2 (IntKind.u64.wrap ((shl .u64 1 (IntKind.u64.wrap (wrap64 (8 * (wrap64 (1 + (Go.bits .and .i64 a1_1 7))))))) - 1))) then (if bt153.2 = true then ((octet_Put.f kj8 a2 (wrap64 (1 + (Go.bits .and .i64 a1_1 7)))).bind fun t155 => (if bt153.1.toList = t155.toList then (if 0 ≤ (Int.tmod (wrap64 ((wrap64 ((wrap64 ((Int.tmod a1_0 (wrap64 ((wrap64 (((t148.size : Int) + 8) - (wrap64 (1 + (Go.bits .and .i64 a1_1 7))))) + 1))) + ((t148.size : Int) + 8))) - (wrap64 (1 + (Go.bits .and .i64 a1_1 7))))) + 1)) (wrap64 ((wrap64 (((t148.size : Int) + 8) - (wrap64 (1 + (Go.bits .and .i64 a1_1 7))))) + 1))) then (if (Int.tmod (wrap64 ((wrap64 ((wrap64 ((Int.tmod a1_0 (wrap64 ((wrap64 (((t148.size : Int) + 8) - (wrap64 (1 + (Go.bits .and .i64 a1_1 7))))) + 1))) + ((t148.size : Int) + 8))) - (wrap64 (1 + (Go.bits .and .i64 a1_1 7))))) + 1)) (wrap64 ((wrap64 (((t148.size : Int) + 8) - (wrap64 (1 + (Go.bits .and .i64 a1_1 7))))) + 1))) ≤ (t149.size : Int) then (if (Int.tmod (wrap64 ((wrap64 ((wrap64 ((Int.tmod a1_0 (wrap64 ((wrap64 (((t148.size : Int) + 8) - (wrap64 (1 + (Go.bits .and .i64 a1_1 7))))) + 1))) + ((t148.size : Int) + 8))) - (wrap64 (1 + (Go.bits .and .i64 a1_1 7))))) + 1)) (wrap64 ((wrap64 (((t148.size : Int) + 8) - (wrap64 (1 + (Go.bits .and .i64 a1_1 7))))) + 1))) ≤ ((t148 ++ (⟨#[49, 50, 51, 52, 53, 54, 55, 56]⟩ : ByteArray)).size : Int) then (if (t149.extract 0 ((Int.tmod (wrap64 ((wrap64 ((wrap64 ((Int.tmod a1_0 (wrap64 ((wrap64 (((t148.size : Int) + 8) - (wrap64 (1 + (Go.bits .and .i64 a1_1 7))))) + 1))) + ((t148.size : Int) + 8))) - (wrap64 (1 + (Go.bits .and .i64 a1_1 7))))) + 1)) (wrap64 ((wrap64 (((t148.size : Int) + 8) - (wrap64 (1 + (Go.bits .and .i64 a1_1 7))))) + 1))) : Int).toNat).toList = ((t148 ++ (⟨#[49, 50, 51, 52, 53, 54, 55, 56]⟩ : ByteArray)).extract 0 ((Int.tmod (wrap64 ((wrap64 ((wrap64 ((Int.tmod a1_0 (wrap64 ((wrap64 (((t148.size : Int) + 8) - (wrap64 (1 + (Go.bits .and .i64 a1_1 7))))) + 1))) + ((t148.size : Int) + 8))) - (wrap64 (1 + (Go.bits .and .i64 a1_1 7))))) + 1)) (wrap64 ((wrap64 (((t148.size : Int) + 8) - (wrap64 (1 + (Go.bits .and .i64 a1_1 7))))) + 1))) : Int).toNat).toList then (if 0 ≤ (wrap64 ((Int.tmod (wrap64 ((wrap64 ((wrap64 ((Int.tmod a1_0 (wrap64 ((wrap64 (((t148.size : Int) + 8) - (wrap64 (1 + (Go.bits .and .i64 a1_1 7))))) + 1))) + ((t148.size : Int) + 8))) - (wrap64 (1 + (Go.bits .and .i64 a1_1 7))))) + 1)) (wrap64 ((wrap64 (((t148.size : Int) + 8) - (wrap64 (1 + (Go.bits .and .i64 a1_1 7))))) + 1))) + (wrap64 (1 + (Go.bits .and .i64 a1_1 7))))) then (if (wrap64 ((Int.tmod (wrap64 ((wrap64 ((wrap64 ((Int.tmod a1_0 (wrap64 ((wrap64 (((t148.size : Int) + 8) - (wrap64 (1 + (Go.bits .and .i64 a1_1 7))))) + 1))) + ((t148.size : Int) + 8))) - (wrap64 (1 + (Go.bits .and .i64 a1_1 7))))) + 1)) (wrap64 ((wrap64 (((t148.size : Int) + 8) - (wrap64 (1 + (Go.bits .and .i64 a1_1 7))))) + 1))) + (wrap64 (1 + (Go.bits .and .i64 a1_1 7))))) ≤ (t149.size : Int) then (if (wrap64 ((Int.tmod (wrap64 ((wrap64 ((wrap64 ((Int.tmod a1_0 (wrap64 ((wrap64 (((t148.size : Int) + 8) - (wrap64 (1 + (Go.bits .and .i64 a1_1 7))))) + 1))) + ((t148.size : Int) + 8))) - (wrap64 (1 + (Go.bits .and .i64 a1_1 7))))) + 1)) (wrap64 ((wrap64 (((t148.size : Int) + 8) - (wrap64 (1 + (Go.bits .and .i64 a1_1 7))))) + 1))) + (wrap64 (1 + (Go.bits .and .i64 a1_1 7))))) ≤ ((t148 ++ (⟨#[49, 50, 51, 52, 53, 54, 55, 56]⟩ : ByteArray)).size : Int) then (some ((t149.extract ((wrap64 ((Int.tmod (wrap64 ((wrap64 ((wrap64 ((Int.tmod a1_0 (wrap64 ((wrap64 (((t148.size : Int) + 8) - (wrap64 (1 + (Go.bits .and .i64 a1_1 7))))) + 1))) + ((t148.size : Int) + 8))) - (wrap64 (1 + (Go.bits .and .i64 a1_1 7))))) + 1)) (wrap64 ((wrap64 (((t148.size : Int) + 8) - (wrap64 (1 + (Go.bits .and .i64 a1_1 7))))) + 1))) + (wrap64 (1 + (Go.bits .and .i64 a1_1 7))))) : Int).toNat t149.size).toList == ((t148 ++ (⟨#[49, 50, 51, 52, 53, 54, 55, 56]⟩ : ByteArray)).extract ((wrap64 ((Int.tmod (wrap64 ((wrap64 ((wrap64 ((Int.tmod a1_0 (wrap64 ((wrap64 (((t148.size : Int) + 8) - (wrap64 (1 + (Go.bits .and .i64 a1_1 7))))) + 1))) + ((t148.size : Int) + 8))) - (wrap64 (1 + (Go.bits .and .i64 a1_1 7))))) + 1)) (wrap64 ((wrap64 (((t148.size : Int) + 8) - (wrap64 (1 + (Go.bits .and .i64 a1_1 7))))) + 1))) + (wrap64 (1 + (Go.bits .and .i64 a1_1 7))))) : Int).toNat (t148 ++ (⟨#[49, 50, 51, 52, 53, 54, 55, 56]⟩ : ByteArray)).size).toList)) else (none)) else (none)) else (none)) else (some false)) else (none)) else (none)) else (none)) else (some false))) else (some false)) else (some false)) else (some false)) else (some false))) else (none)) else ((octet_Part.f t149 (Int.tmod (wrap64 ((wrap64 ((wrap64 ((Int.tmod a1_0 (wrap64 ((wrap64 (((t148.size : Int) + 8) - (wrap64 (1 + (Go.bits .and .i64 a1_1 7))))) + 1))) + ((t148.size : Int) + 8))) - (wrap64 (1 + (Go.bits .and .i64 a1_1 7))))) + 1)) (wrap64 ((wrap64 (((t148.size : Int) + 8) - (wrap64 (1 + (Go.bits .and .i64 a1_1 7))))) + 1))) (wrap64 (1 + (Go.bits .and .i64 a1_1 7)))).bind fun bt156 => (if t147 = true then (if t152 = true then (if t151 = a2 then (if bt156.2 = true then ((octet_Put.f kj8 a2 (wrap64 (1 + (Go.bits .and .i64 a1_1 7)))).bind fun t158 => (if bt156.1.toList = t158.toList then (if 0 ≤ (Int.tmod (wrap64 ((wrap64 ((wrap64 ((Int.tmod a1_0 (wrap64 ((wrap64 (((t148.size : Int) + 8) - (wrap64 (1 + (Go.bits .and .i64 a1_1 7))))) + 1))) + ((t148.size : Int) + 8))) - (wrap64 (1 + (Go.bits .and .i64 a1_1 7))))) + 1)) (wrap64 ((wrap64 (((t148.size : Int) + 8) - (wrap64 (1 + (Go.bits .and .i64 a1_1 7))))) + 1))) then (if (Int.tmod (wrap64 ((wrap64 ((wrap64 ((Int.tmod a1_0 (wrap64 ((wrap64 (((t148.size : Int) + 8) - (wrap64 (1 + (Go.bits .and .i64 a1_1 7))))) + 1))) + ((t148.size : Int) + 8))) - (wrap64 (1 + (Go.bits .and .i64 a1_1 7))))) + 1)) (wrap64 ((wrap64 (((t148.size : Int) + 8) - (wrap64 (1 + (Go.bits .and .i64 a1_1 7))))) + 1))) ≤ (t149.size : Int) then (if (Int.tmod (wrap64 ((wrap64 ((wrap64 ((Int.tmod a1_0 (wrap64 ((wrap64 (((t148.size : Int) + 8) - (wrap64 (1 + (Go.bits .and .i64 a1_1 7))))) + 1))) + ((t148.size : Int) + 8))) - (wrap64 (1 + (Go.bits .and .i64 a1_1 7))))) + 1)) (wrap64 ((wrap64 (((t148.size : Int) + 8) - (wrap64 (1 + (Go.bits .and .i64 a1_1 7))))) + 1))) ≤ ((t148 ++ (⟨#[49, 50, 51, 52, 53, 54, 55, 56]⟩ : ByteArray)).size : Int) then (if (t149.extract 0 ((Int.tmod (wrap64 ((wrap64 ((wrap64 ((Int.tmod a1_0 (wrap64 ((wrap64 (((t148.size : Int) + 8) - (wrap64 (1 + (Go.bits .and .i64 a1_1 7))))) + 1))) + ((t148.size : Int) + 8))) - (wrap64 (1 + (Go.bits .and .i64 a1_1 7))))) + 1)) (wrap64 ((wrap64 (((t148.size : Int) + 8) - (wrap64 (1 + (Go.bits .and .i64 a1_1 7))))) + 1))) : Int).toNat).toList = ((t148 ++ (⟨#[49, 50, 51, 52, 53, 54, 55, 56]⟩ : ByteArray)).extract 0 ((Int.tmod (wrap64 ((wrap64 ((wrap64 ((Int.tmod a1_0 (wrap64 ((wrap64 (((t148.size : Int) + 8) - (wrap64 (1 + (Go.bits .and .i64 a1_1 7))))) + 1))) + ((t148.size : Int) + 8))) - (wrap64 (1 + (Go.bits .and .i64 a1_1 7))))) + 1)) (wrap64 ((wrap64 (((t148.size : Int) + 8) - (wrap64 (1 + (Go.bits .and .i64 a1_1 7))))) + 1))) : Int).toNat).toList then (if 0 ≤ (wrap64 ((Int.tmod (wrap64 ((wrap64 ((wrap64 ((Int.tmod a1_0 (wrap64 ((wrap64 (((t148.size : Int) + 8) - (wrap64 (1 + (Go.bits .and .i64 a1_1 7))))) + 1))) + ((t148.size : Int) + 8))) - (wrap64 (1 + (Go.bits .and .i64 a1_1 7))))) + 1)) (wrap64 ((wrap64 (((t148.size : Int) + 8) - (wrap64 (1 + (Go.bits .and .i64 a1_1 7))))) + 1))) + (wrap64 (1 + (Go.bits .and .i64 a1_1 7))))) then (if (wrap64 ((Int.tmod (wrap64 ((wrap64 ((wrap64 ((Int.tmod a1_0 (wrap64 ((wrap64 (((t148.size : Int) + 8) - (wrap64 (1 + (Go.bits .and .i64 a1_1 7))))) + 1))) + ((t148.size : Int) + 8))) - (wrap64 (1 + (Go.bits .and .i64 a1_1 7))))) + 1)) (wrap64 ((wrap64 (((t148.size : Int) + 8) - (wrap64 (1 + (Go.bits .and .i64 a1_1 7))))) + 1))) + (wrap64 (1 + (Go.bits .and .i64 a1_1 7))))) ≤ (t149.size : Int) then (if (wrap64 ((Int.tmod (wrap64 ((wrap64 ((wrap64 ((Int.tmod a1_0 (wrap64 ((wrap64 (((t148.size : Int) + 8) - (wrap64 (1 + (Go.bits .and .i64 a1_1 7))))) + 1))) + ((t148.size : Int) + 8))) - (wrap64 (1 + (Go.bits .and .i64 a1_1 7))))) + 1)) (wrap64 ((wrap64 (((t148.size : Int) + 8) - (wrap64 (1 + (Go.bits .and .i64 a1_1 7))))) + 1))) + (wrap64 (1 + (Go.bits .and .i64 a1_1 7))))) ≤ ((t148 ++ (⟨#[49, 50, 51, 52, 53, 54, 55, 56]⟩ : ByteArray)).size : Int) then (some ((t149.extract ((wrap64 ((Int.tmod (wrap64 ((wrap64 ((wrap64 ((Int.tmod a1_0 (wrap64 ((wrap64 (((t148.size : Int) + 8) - (wrap64 (1 + (Go.bits .and .i64 a1_1 7))))) + 1))) + ((t148.size : Int) + 8))) - (wrap64 (1 + (Go.bits .and .i64 a1_1 7))))) + 1)) (wrap64 ((wrap64 (((t148.size : Int) + 8) - (wrap64 (1 + (Go.bits .and .i64 a1_1 7))))) + 1))) + (wrap64 (1 + (Go.bits .and .i64 a1_1 7))))) : Int).toNat t149.size).toList == ((t148 ++ (⟨#[49, 50, 51, 52, 53, 54, 55, 56]⟩ : ByteArray)).extract ((wrap64 ((Int.tmod (wrap64 ((wrap64 ((wrap64 ((Int.tmod a1_0 (wrap64 ((wrap64 (((t148.size : Int) + 8) - (wrap64 (1 + (Go.bits .and .i64 a1_1 7))))) + 1))) + ((t148.size : Int) + 8))) - (wrap64 (1 + (Go.bits .and .i64 a1_1 7))))) + 1)) (wrap64 ((wrap64 (((t148.size : Int) + 8) - (wrap64 (1 + (Go.bits .and .i64 a1_1 7))))) + 1))) + (wrap64 (1 + (Go.bits .and .i64 a1_1 7))))) : Int).toNat (t148 ++ (⟨#[49, 50, 51, 52, 53, 54, 55, 56]⟩ : ByteArray)).size).toList)) else (none)) else (none)) else (none)) else (some false)) else (none)) else (none)) else (none)) else (some false))) else (some false)) else (some false)) else (some false)) else (some false)))) = some true := H
            have A16 := Aside0.mk A160
            clear A160
            by_cases c17 : (wrap64 (1 + (Go.bits .and .i64 a1_1 7))) < 8
            · rw [if_pos c17] at H
              have c17b0 : decide ((wrap64 (1 + (Go.bits .and .i64 a1_1 7))) < 8) = true := decide_eq_true c17
              clear c17
              obtain ⟨ji18, hji18⟩ : ∃ j_ : Int, (IntKind.u64.wrap (wrap64 (8 * (wrap64 (1 + (Go.bits .and .i64 a1_1 7)))))) = j_ := ⟨_, rfl⟩
              replace H : (if 0 ≤ (ji18) then ((octet_Part.f t149 (Int.tmod (wrap64 ((wrap64 ((wrap64 ((Int.tmod a1_0 (wrap64 ((wrap64 (((t148.size : Int) + 8) - (wrap64 (1 + (Go.bits .and .i64 a1_1 7))))) + 1))) + ((t148.size : Int) + 8))) - (wrap64 (1 + (Go.bits .and .i64 a1_1 7))))) + 1)) (wrap64 ((wrap64 (((t148.size : Int) + 8) - (wrap64 (1 + (Go.bits .and .i64 a1_1 7))))) + 1))) (wrap64 (1 + (Go.bits .and .i64 a1_1 7)))).bind fun bt153 => (if t147 = true then (if t152 = true then (if t151 = (Go.bits .and .u64 a2 (IntKind.u64.wrap ((shl .u64 1 (ji18)) - 1))) then (if bt153.2 = true then ((octet_Put.f kj8 a2 (wrap64 (1 + (Go.bits .and .i64 a1_1 7)))).bind fun t155 => (if bt153.1.toList = t155.toList then (if 0 ≤ (Int.tmod (wrap64 ((wrap64 ((wrap64 ((Int.tmod a1_0 (wrap64 ((wrap64 (((t148.size : Int) + 8) - (wrap64 (1 + (Go.bits .and .i64 a1_1 7))))) + 1))) + ((t148.size : Int) + 8))) - (wrap64 (1 + (Go.bits .and .i64 a1_1 7))))) + 1)) (wrap64 ((wrap64 (((t148.size : Int) + 8) - (wrap64 (1 + (Go.bits .and .i64 a1_1 7))))) + 1))) then (if (Int.tmod (wrap64 ((wrap64 ((wrap64 ((Int.tmod a1_0 (wrap64 ((wrap64 (((t148.size : Int) + 8) - (wrap64 (1 + (Go.bits .and .i64 a1_1 7))))) + 1))) + ((t148.size : Int) + 8))) - (wrap64 (1 + (Go.bits .and .i64 a1_1 7))))) + 1)) (wrap64 ((wrap64 (((t148.size : Int) + 8) - (wrap64 (1 + (Go.bits .and .i64 a1_1 7))))) + 1))) ≤ (t149.size : Int) then (if (Int.tmod (wrap64 ((wrap64 ((wrap64 ((Int.tmod a1_0 (wrap64 ((wrap64 (((t148.size : Int) + 8) - (wrap64 (1 + (Go.bits .and .i64 a1_1 7))))) + 1))) + ((t148.size : Int) + 8))) - (wrap64 (1 + (Go.bits .and .i64 a1_1 7))))) + 1)) (wrap64 ((wrap64 (((t148.size : Int) + 8) - (wrap64 (1 + (Go.bits .and .i64 a1_1 7))))) + 1))) ≤ ((t148 ++ (⟨#[49, 50, 51, 52, 53, 54, 55, 56]⟩ : ByteArray)).size : Int) then (if (t149.extract 0 ((Int.tmod (wrap64 ((wrap64 ((wrap64 ((Int.tmod a1_0 (wrap64 ((wrap64 (((t148.size : Int) + 8) - (wrap64 (1 + (Go.bits .and .i64 a1_1 7))))) + 1))) + ((t148.size : Int) + 8))) - (wrap64 (1 + (Go.bits .and .i64 a1_1 7))))) + 1)) (wrap64 ((wrap64 (((t148.size : Int) + 8) - (wrap64 (1 + (Go.bits .and .i64 a1_1 7))))) + 1))) : Int).toNat).toList = ((t148 ++ (⟨#[49, 50, 51, 52, 53, 54, 55, 56]⟩ : ByteArray)).extract 0 ((Int.tmod (wrap64 ((wrap64 ((wrap64 ((Int.tmod a1_0 (wrap64 ((wrap64 (((t148.size : Int) + 8) - (wrap64 (1 + (Go.bits .and .i64 a1_1 7))))) + 1))) + ((t148.size : Int) + 8))) - (wrap64 (1 + (Go.bits .and .i64 a1_1 7))))) + 1)) (wrap64 ((wrap64 (((t148.size : Int) + 8) - (wrap64 (1 + (Go.bits .and .i64 a1_1 7))))) + 1))) : Int).toNat).toList then (if 0 ≤ (wrap64 ((Int.tmod (wrap64 ((wrap64 ((wrap64 ((Int.tmod a1_0 (wrap64 ((wrap64 (((t148.size : Int) + 8) - (wrap64 (1 + (Go.bits .and .i64 a1_1 7))))) + 1))) + ((t148.size : Int) + 8))) - (wrap64 (1 + (Go.bits .and .i64 a1_1 7))))) + 1)) (wrap64 ((wrap64 (((t148.size : Int) + 8) - (wrap64 (1 + (Go.bits .and .i64 a1_1 7))))) + 1))) + (wrap64 (1 + (Go.bits .and .i64 a1_1 7))))) then (if (wrap64 ((Int.tmod (wrap64 ((wrap64 ((wrap64 ((Int.tmod a1_0 (wrap64 ((wrap64 (((t148.size : Int) + 8) - (wrap64 (1 + (Go.bits .and .i64 a1_1 7))))) + 1))) + ((t148.size : Int) + 8))) - (wrap64 (1 + (Go.bits .and .i64 a1_1 7))))) + 1)) (wrap64 ((wrap64 (((t148.size : Int) + 8) - (wrap64 (1 + (Go.bits .and .i64 a1_1 7))))) + 1))) + (wrap64 (1 + (Go.bits .and .i64 a1_1 7))))) ≤ (t149.size : Int) then (if (wrap64 ((Int.tmod (wrap64 ((wrap64 ((wrap64 ((Int.tmod a1_0 (wrap64 ((wrap64 (((t148.size : Int) + 8) - (wrap64 (1 + (Go.bits .and .i64 a1_1 7))))) + 1))) + ((t148.size : Int) + 8))) - (wrap64 (1 + (Go.bits .and .i64 a1_1 7))))) + 1)) (wrap64 ((wrap64 (((t148.size : Int) + 8) - (wrap64 (1 + (Go.bits .and .i64 a1_1 7))))) + 1))) + (wrap64 (1 + (Go.bits .and .i64 a1_1 7))))) ≤ ((t148 ++ (⟨#[49, 50, 51, 52, 53, 54, 55, 56]⟩ : ByteArray)).size : Int) then (some ((t149.extract ((wrap64 ((Int.tmod (wrap64 ((wrap64 ((wrap64 ((Int.tmod a1_0 (wrap64 ((wrap64 (((t148.size : Int) + 8) - (wrap64 (1 + (Go.bits .and .i64 a1_1 7))))) + 1))) + ((t148.size : Int) + 8))) - (wrap64 (1 + (Go.bits .and .i64 a1_1 7))))) + 1)) (wrap64 ((wrap64 (((t148.size : Int) + 8) - (wrap64 (1 + (Go.bits .and .i64 a1_1 7))))) + 1))) + (wrap64 (1 + (Go.bits .and .i64 a1_1 7))))) : Int).toNat t149.size).toList == ((t148 ++ (⟨#[49, 50, 51, 52, 53, 54, 55, 56]⟩ : ByteArray)).extract ((wrap64 ((Int.tmod (wrap64 ((wrap64 ((wrap64 ((Int.tmod a1_0 (wrap64 ((wrap64 (((t148.size : Int) + 8) - (wrap64 (1 + (Go.bits .and .i64 a1_1 7))))) + 1))) + ((t148.size : Int) + 8))) - (wrap64 (1 + (Go.bits .and .i64 a1_1 7))))) + 1)) (wrap64 ((wrap64 (((t148.size : Int) + 8) - (wrap64 (1 + (Go.bits .and .i64 a1_1 7))))) + 1))) + (wrap64 (1 + (Go.bits .and .i64 a1_1 7))))) : Int).toNat (t148 ++ (⟨#[49, 50, 51, 52, 53, 54, 55, 56]⟩ : ByteArray)).size).toList)) else (none)) else (none)) else (none)) else (some false)) else (none)) else (none)) else (none)) else (some false))) else (some false)) else (some false)) else (some false)) else (some false))) else (none)) = some true := by first | (rw [hji18] at H; exact H) | (simp only [hji18] at H ⊢; exact H)
              (try rw [hji18] at A16)
              by_cases c19 : 0 ≤ (ji18)
              · rw [if_pos c19] at H
                have c19b0 := eq_true c19
                have c19b1 : decide (0 ≤ (ji18)) = true := decide_eq_true c19
                clear c19
                obtain ⟨ji20, hji20⟩ : ∃ j_ : Int, (shl .u64 1 (ji18)) = j_ := ⟨_, rfl⟩
                replace H : ((octet_Part.f t149 (Int.tmod (wrap64 ((wrap64 ((wrap64 ((Int.tmod a1_0 (wrap64 ((wrap64 (((t148.size : Int) + 8) - (wrap64 (1 + (Go.bits .and .i64 a1_1 7))))) + 1))) + ((t148.size : Int) + 8))) - (wrap64 (1 + (Go.bits .and .i64 a1_1 7))))) + 1)) (wrap64 ((wrap64 (((t148.size : Int) + 8) - (wrap64 (1 + (Go.bits .and .i64 a1_1 7))))) + 1))) (wrap64 (1 + (Go.bits .and .i64 a1_1 7)))).bind fun bt153 => (if t147 = true then (if t152 = true then (if t151 = (Go.bits .and .u64 a2 (IntKind.u64.wrap ((ji20) - 1))) then (if bt153.2 = true then ((octet_Put.f kj8 a2 (wrap64 (1 + (Go.bits .and .i64 a1_1 7)))).bind fun t155 => (if bt153.1.toList = t155.toList then (if 0 ≤ (Int.tmod (wrap64 ((wrap64 ((wrap64 ((Int.tmod a1_0 (wrap64 ((wrap64 (((t148.size : Int) + 8) - (wrap64 (1 + (Go.bits .and .i64 a1_1 7))))) + 1))) + ((t148.size : Int) + 8))) - (wrap64 (1 + (Go.bits .and .i64 a1_1 7))))) + 1)) (wrap64 ((wrap64 (((t148.size : Int) + 8) - (wrap64 (1 + (Go.bits .and .i64 a1_1 7))))) + 1))) then (if (Int.tmod (wrap64 ((wrap64 ((wrap64 ((Int.tmod a1_0 (wrap64 ((wrap64 (((t148.size : Int) + 8) - (wrap64 (1 + (Go.bits .and .i64 a1_1 7))))) + 1))) + ((t148.size : Int) + 8))) - (wrap64 (1 + (Go.bits .and .i64 a1_1 7))))) + 1)) (wrap64 ((wrap64 (((t148.size : Int) + 8) - (wrap64 (1 + (Go.bits .and .i64 a1_1 7))))) + 1))) ≤ (t149.size : Int) then (if (Int.tmod (wrap64 ((wrap64 ((wrap64 ((Int.tmod a1_0 (wrap64 ((wrap64 (((t148.size : Int) + 8) - (wrap64 (1 + (Go.bits .and .i64 a1_1 7))))) + 1))) + ((t148.size : Int) + 8))) - (wrap64 (1 + (Go.bits .and .i64 a1_1 7))))) + 1)) (wrap64 ((wrap64 (((t148.size : Int) + 8) - (wrap64 (1 + (Go.bits .and .i64 a1_1 7))))) + 1))) ≤ ((t148 ++ (⟨#[49, 50, 51, 52, 53, 54, 55, 56]⟩ : ByteArray)).size : Int) then (if (t149.extract 0 ((Int.tmod (wrap64 ((wrap64 ((wrap64 ((Int.tmod a1_0 (wrap64 ((wrap64 (((t148.size : Int) + 8) - (wrap64 (1 + (Go.bits .and .i64 a1_1 7))))) + 1))) + ((t148.size : Int) + 8))) - (wrap64 (1 + (Go.bits .and .i64 a1_1 7))))) + 1)) (wrap64 ((wrap64 (((t148.size : Int) + 8) - (wrap64 (1 + (Go.bits .and .i64 a1_1 7))))) + 1))) : Int).toNat).toList = ((t148 ++ (⟨#[49, 50, 51, 52, 53, 54, 55, 56]⟩ : ByteArray)).extract 0 ((Int.tmod (wrap64 ((wrap64 ((wrap64 ((Int.tmod a1_0 (wrap64 ((wrap64 (((t148.size : Int) + 8) - (wrap64 (1 + (Go.bits .and .i64 a1_1 7))))) + 1))) + ((t148.size : Int) + 8))) - (wrap64 (1 + (Go.bits .and .i64 a1_1 7))))) + 1)) (wrap64 ((wrap64 (((t148.size : Int) + 8) - (wrap64 (1 + (Go.bits .and .i64 a1_1 7))))) + 1))) : Int).toNat).toList then (if 0 ≤ (wrap64 ((Int.tmod (wrap64 ((wrap64 ((wrap64 ((Int.tmod a1_0 (wrap64 ((wrap64 (((t148.size : Int) + 8) - (wrap64 (1 + (Go.bits .and .i64 a1_1 7))))) + 1))) + ((t148.size : Int) + 8))) - (wrap64 (1 + (Go.bits .and .i64 a1_1 7))))) + 1)) (wrap64 ((wrap64 (((t148.size : Int) + 8) - (wrap64 (1 + (Go.bits .and .i64 a1_1 7))))) + 1))) + (wrap64 (1 + (Go.bits .and .i64 a1_1 7))))) then (if (wrap64 ((Int.tmod (wrap64 ((wrap64 ((wrap64 ((Int.tmod a1_0 (wrap64 ((wrap64 (((t148.size : Int) + 8) - (wrap64 (1 + (Go.bits .and .i64 a1_1 7))))) + 1))) + ((t148.size : Int) + 8))) - (wrap64 (1 + (Go.bits .and .i64 a1_1 7))))) + 1)) (wrap64 ((wrap64 (((t148.size : Int) + 8) - (wrap64 (1 + (Go.bits .and .i64 a1_1 7))))) + 1))) + (wrap64 (1 + (Go.bits .and .i64 a1_1 7))))) ≤ (t149.size : Int) then (if (wrap64 ((Int.tmod (wrap64 ((wrap64 ((wrap64 ((Int.tmod a1_0 (wrap64 ((wrap64 (((t148.size : Int) + 8) - (wrap64 (1 + (Go.bits .and .i64 a1_1 7))))) + 1))) + ((t148.size : Int) + 8))) - (wrap64 (1 + (Go.bits .and .i64 a1_1 7))))) + 1)) (wrap64 ((wrap64 (((t148.size : Int) + 8) - (wrap64 (1 + (Go.bits .and .i64 a1_1 7))))) + 1))) + (wrap64 (1 + (Go.bits .and .i64 a1_1 7))))) ≤ ((t148 ++ (⟨#[49, 50, 51, 52, 53, 54, 55, 56]⟩ : ByteArray)).size : Int) then (some ((t149.extract ((wrap64 ((Int.tmod (wrap64 ((wrap64 ((wrap64 ((Int.tmod a1_0 (wrap64 ((wrap64 (((t148.size : Int) + 8) - (wrap64 (1 + (Go.bits .and .i64 a1_1 7))))) + 1))) + ((t148.size : Int) + 8))) - (wrap64 (1 + (Go.bits .and .i64 a1_1 7))))) + 1)) (wrap64 ((wrap64 (((t148.size : Int) + 8) - (wrap64 (1 + (Go.bits .and .i64 a1_1 7))))) + 1))) + (wrap64 (1 + (Go.bits .and .i64 a1_1 7))))) : Int).toNat t149.size).toList == ((t148 ++ (⟨#[49, 50, 51, 52, 53, 54, 55, 56]⟩ : ByteArray)).extract ((wrap64 ((Int.tmod (wrap64 ((wrap64 ((wrap64 ((Int.tmod a1_0 (wrap64 ((wrap64 (((t148.size : Int) + 8) - (wrap64 (1 + (Go.bits .and .i64 a1_1 7))))) + 1))) + ((t148.size : Int) + 8))) - (wrap64 (1 + (Go.bits .and .i64 a1_1 7))))) + 1)) (wrap64 ((wrap64 (((t148.size : Int) + 8) - (wrap64 (1 + (Go.bits .and .i64 a1_1 7))))) + 1))) + (wrap64 (1 + (Go.bits .and .i64 a1_1 7))))) : Int).toNat (t148 ++ (⟨#[49, 50, 51, 52, 53, 54, 55, 56]⟩ : ByteArray)).size).toList)) else (none)) else (none)) else (none)) else (some false)) else (none)) else (none)) else (none)) else (some false))) else (some false)) else (some false)) else (some false)) else (some false))) = some true := by first | (rw [hji20] at H; exact H) | (simp only [hji20] at H ⊢; exact H)
                (try rw [hji20] at A16)
                have hji20_ : (IntKind.u64.wrap (1 * 2 ^ min (ji18).toNat 64)) = ji20 := hji20
                have hji20z : (ji18) ≤ 64 → (IntKind.u64.wrap (1 * 2 ^ (ji18).toNat)) = ji20 := shl_small hji20
                have hji20u : (IntKind.u64.wrap (2 ^ min (ji18).toNat 64)) = ji20 := by have h_ := hji20_; rw [Int.one_mul] at h_; exact h_
                have hji20v : (ji18) ≤ 64 → (IntKind.u64.wrap (2 ^ (ji18).toNat)) = ji20 := fun hle_ => by have h_ := hji20z hle_; rw [Int.one_mul] at h_; exact h_
                replace H := Option.bind_eq_some_iff.mp H
                obtain ⟨⟨t153, t154⟩, A210, H⟩ := H
                replace H : (if t147 = true then (if t152 = true then (if t151 = (Go.bits .and .u64 a2 (IntKind.u64.wrap ((ji20) - 1))) then (if t154 = true then ((octet_Put.f kj8 a2 (wrap64 (1 + (Go.bits .and .i64 a1_1 7)))).bind fun t155 => (if t153.toList = t155.toList then (if 0 ≤ (Int.tmod (wrap64 ((wrap64 ((wrap64 ((Int.tmod a1_0 (wrap64 ((wrap64 (((t148.size : Int) + 8) - (wrap64 (1 + (Go.bits .and .i64 a1_1 7))))) + 1))) + ((t148.size : Int) + 8))) - (wrap64 (1 + (Go.bits .and .i64 a1_1 7))))) + 1)) (wrap64 ((wrap64 (((t148.size : Int) + 8) - (wrap64 (1 + (Go.bits .and .i64 a1_1 7))))) + 1))) then (if (Int.tmod (wrap64 ((wrap64 ((wrap64 ((Int.tmod a1_0 (wrap64 ((wrap64 (((t148.size : Int) + 8) - (wrap64 (1 + (Go.bits .and .i64 a1_1 7))))) + 1))) + ((t148.size : Int) + 8))) - (wrap64 (1 + (Go.bits .and .i64 a1_1 7))))) + 1)) (wrap64 ((wrap64 (((t148.size : Int) + 8) - (wrap64 (1 + (Go.bits .and .i64 a1_1 7))))) + 1))) ≤ (t149.size : Int) then (if (Int.tmod (wrap64 ((wrap64 ((wrap64 ((Int.tmod a1_0 (wrap64 ((wrap64 (((t148.size : Int) + 8) - (wrap64 (1 + (Go.bits .and .i64 a1_1 7))))) + 1))) + ((t148.size : Int) + 8))) - (wrap64 (1 + (Go.bits .and .i64 a1_1 7))))) + 1)) (wrap64 ((wrap64 (((t148.size : Int) + 8) - (wrap64 (1 + (Go.bits .and .i64 a1_1 7))))) + 1))) ≤ ((t148 ++ (⟨#[49, 50, 51, 52, 53, 54, 55, 56]⟩ : ByteArray)).size : Int) then (if (t149.extract 0 ((Int.tmod (wrap64 ((wrap64 ((wrap64 ((Int.tmod a1_0 (wrap64 ((wrap64 (((t148.size : Int) + 8) - (wrap64 (1 + (Go.bits .and .i64 a1_1 7))))) + 1))) + ((t148.size : Int) + 8))) - (wrap64 (1 + (Go.bits .and .i64 a1_1 7))))) + 1)) (wrap64 ((wrap64 (((t148.size : Int) + 8) - (wrap64 (1 + (Go.bits .and .i64 a1_1 7))))) + 1))) : Int).toNat).toList = ((t148 ++ (⟨#[49, 50, 51, 52, 53, 54, 55, 56]⟩ : ByteArray)).extract 0 ((Int.tmod (wrap64 ((wrap64 ((wrap64 ((Int.tmod a1_0 (wrap64 ((wrap64 (((t148.size : Int) + 8) - (wrap64 (1 + (Go.bits .and .i64 a1_1 7))))) + 1))) + ((t148.size : Int) + 8))) - (wrap64 (1 + (Go.bits .and .i64 a1_1 7))))) + 1)) (wrap64 ((wrap64 (((t148.size : Int) + 8) - (wrap64 (1 + (Go.bits .and .i64 a1_1 7))))) + 1))) : Int).toNat).toList then (if 0 ≤ (wrap64 ((Int.tmod (wrap64 ((wrap64 ((wrap64 ((Int.tmod a1_0 (wrap64 ((wrap64 (((t148.size : Int) + 8) - (wrap64 (1 + (Go.bits .and .i64 a1_1 7))))) + 1))) + ((t148.size : Int) + 8))) - (wrap64 (1 + (Go.bits .and .i64 a1_1 7))))) + 1)) (wrap64 ((wrap64 (((t148.size : Int) + 8) - (wrap64 (1 + (Go.bits .and .i64 a1_1 7))))) + 1))) + (wrap64 (1 + (Go.bits .and .i64 a1_1 7))))) then (if (wrap64 ((Int.tmod (wrap64 ((wrap64 ((wrap64 ((Int.tmod a1_0 (wrap64 ((wrap64 (((t148.size : Int) + 8) - (wrap64 (1 + (Go.bits .and .i64 a1_1 7))))) + 1))) + ((t148.size : Int) + 8))) - (wrap64 (1 + (Go.bits .and .i64 a1_1 7))))) + 1)) (wrap64 ((wrap64 (((t148.size : Int) + 8) - (wrap64 (1 + (Go.bits .and .i64 a1_1 7))))) + 1))) + (wrap64 (1 + (Go.bits .and .i64 a1_1 7))))) ≤ (t149.size : Int) then (if (wrap64 ((Int.tmod (wrap64 ((wrap64 ((wrap64 ((Int.tmod a1_0 (wrap64 ((wrap64 (((t148.size : Int) + 8) - (wrap64 (1 + (Go.bits .and .i64 a1_1 7))))) + 1))) + ((t148.size : Int) + 8))) - (wrap64 (1 + (Go.bits .and .i64 a1_1 7))))) + 1)) (wrap64 ((wrap64 (((t148.size : Int) + 8) - (wrap64 (1 + (Go.bits .and .i64 a1_1 7))))) + 1))) + (wrap64 (1 + (Go.bits .and .i64 a1_1 7))))) ≤ ((t148 ++ (⟨#[49, 50, 51, 52, 53, 54, 55, 56]⟩ : ByteArray)).size : Int) then (some ((t149.extract ((wrap64 ((Int.tmod (wrap64 ((wrap64 ((wrap64 ((Int.tmod a1_0 (wrap64 ((wrap64 (((t148.size : Int) + 8) - (wrap64 (1 + (Go.bits .and .i64 a1_1 7))))) + 1))) + ((t148.size : Int) + 8))) - (wrap64 (1 + (Go.bits .and .i64 a1_1 7))))) + 1)) (wrap64 ((wrap64 (((t148.size : Int) + 8) - (wrap64 (1 + (Go.bits .and .i64 a1_1 7))))) + 1))) + (wrap64 (1 + (Go.bits .and .i64 a1_1 7))))) : Int).toNat t149.size).toList == ((t148 ++ (⟨#[49, 50, 51, 52, 53, 54, 55, 56]⟩ : ByteArray)).extract ((wrap64 ((Int.tmod (wrap64 ((wrap64 ((wrap64 ((Int.tmod a1_0 (wrap64 ((wrap64 (((t148.size : Int) + 8) - (wrap64 (1 + (Go.bits .and .i64 a1_1 7))))) + 1))) + ((t148.size : Int) + 8))) - (wrap64 (1 + (Go.bits .and .i64 a1_1 7))))) + 1)) (wrap64 ((wrap64 (((t148.size : Int) + 8) - (wrap64 (1 + (Go.bits .and .i64 a1_1 7))))) + 1))) + (wrap64 (1 + (Go.bits .and .i64 a1_1 7))))) : Int).toNat (t148 ++ (⟨#[49, 50, 51, 52, 53, 54, 55, 56]⟩ : ByteArray)).size).toList)) else (none)) else (none)) else (none)) else (some false)) else (none)) else (none)) else (none)) else (some false))) else (some false)) else (some false)) else (some false)) else (some false)) = some true := H
                have A21 := Aside0.mk A210
                clear A210
                by_cases c22 : t147 = true
                · subst c22
                  have H1 : (if t152 = true then (if t151 = (Go.bits .and .u64 a2 (IntKind.u64.wrap ((ji20) - 1))) then (if t154 = true then ((octet_Put.f kj8 a2 (wrap64 (1 + (Go.bits .and .i64 a1_1 7)))).bind fun t155 => (if t153.toList = t155.toList then (if 0 ≤ (Int.tmod (wrap64 ((wrap64 ((wrap64 ((Int.tmod a1_0 (wrap64 ((wrap64 (((t148.size : Int) + 8) - (wrap64 (1 + (Go.bits .and .i64 a1_1 7))))) + 1))) + ((t148.size : Int) + 8))) - (wrap64 (1 + (Go.bits .and .i64 a1_1 7))))) + 1)) (wrap64 ((wrap64 (((t148.size : Int) + 8) - (wrap64 (1 + (Go.bits .and .i64 a1_1 7))))) + 1))) then (if (Int.tmod (wrap64 ((wrap64 ((wrap64 ((Int.tmod a1_0 (wrap64 ((wrap64 (((t148.size : Int) + 8) - (wrap64 (1 + (Go.bits .and .i64 a1_1 7))))) + 1))) + ((t148.size : Int) + 8))) - (wrap64 (1 + (Go.bits .and .i64 a1_1 7))))) + 1)) (wrap64 ((wrap64 (((t148.size : Int) + 8) - (wrap64 (1 + (Go.bits .and .i64 a1_1 7))))) + 1))) ≤ (t149.size : Int) then (if (Int.tmod (wrap64 ((wrap64 ((wrap64 ((Int.tmod a1_0 (wrap64 ((wrap64 (((t148.size : Int) + 8) - (wrap64 (1 + (Go.bits .and .i64 a1_1 7))))) + 1))) + ((t148.size : Int) + 8))) - (wrap64 (1 + (Go.bits .and .i64 a1_1 7))))) + 1)) (wrap64 ((wrap64 (((t148.size : Int) + 8) - (wrap64 (1 + (Go.bits .and .i64 a1_1 7))))) + 1))) ≤ ((t148 ++ (⟨#[49, 50, 51, 52, 53, 54, 55, 56]⟩ : ByteArray)).size : Int) then (if (t149.extract 0 ((Int.tmod (wrap64 ((wrap64 ((wrap64 ((Int.tmod a1_0 (wrap64 ((wrap64 (((t148.size : Int) + 8) - (wrap64 (1 + (Go.bits .and .i64 a1_1 7))))) + 1))) + ((t148.size : Int) + 8))) - (wrap64 (1 + (Go.bits .and .i64 a1_1 7))))) + 1)) (wrap64 ((wrap64 (((t148.size : Int) + 8) - (wrap64 (1 + (Go.bits .and .i64 a1_1 7))))) + 1))) : Int).toNat).toList = ((t148 ++ (⟨#[49, 50, 51, 52, 53, 54, 55, 56]⟩ : ByteArray)).extract 0 ((Int.tmod (wrap64 ((wrap64 ((wrap64 ((Int.tmod a1_0 (wrap64 ((wrap64 (((t148.size : Int) + 8) - (wrap64 (1 + (Go.bits .and .i64 a1_1 7))))) + 1))) + ((t148.size : Int) + 8))) - (wrap64 (1 + (Go.bits .and .i64 a1_1 7))))) + 1)) (wrap64 ((wrap64 (((t148.size : Int) + 8) - (wrap64 (1 + (Go.bits .and .i64 a1_1 7))))) + 1))) : Int).toNat).toList then (if 0 ≤ (wrap64 ((Int.tmod (wrap64 ((wrap64 ((wrap64 ((Int.tmod a1_0 (wrap64 ((wrap64 (((t148.size : Int) + 8) - (wrap64 (1 + (Go.bits .and .i64 a1_1 7))))) + 1))) + ((t148.size : Int) + 8))) - (wrap64 (1 + (Go.bits .and .i64 a1_1 7))))) + 1)) (wrap64 ((wrap64 (((t148.size : Int) + 8) - (wrap64 (1 + (Go.bits .and .i64 a1_1 7))))) + 1))) + (wrap64 (1 + (Go.bits .and .i64 a1_1 7))))) then (if (wrap64 ((Int.tmod (wrap64 ((wrap64 ((wrap64 ((Int.tmod a1_0 (wrap64 ((wrap64 (((t148.size : Int) + 8) - (wrap64 (1 + (Go.bits .and .i64 a1_1 7))))) + 1))) + ((t148.size : Int) + 8))) - (wrap64 (1 + (Go.bits .and .i64 a1_1 7))))) + 1)) (wrap64 ((wrap64 (((t148.size : Int) + 8) - (wrap64 (1 + (Go.bits .and .i64 a1_1 7))))) + 1))) + (wrap64 (1 + (Go.bits .and .i64 a1_1 7))))) ≤ (t149.size : Int) then (if (wrap64 ((Int.tmod (wrap64 ((wrap64 ((wrap64 ((Int.tmod a1_0 (wrap64 ((wrap64 (((t148.size : Int) + 8) - (wrap64 (1 + (Go.bits .and .i64 a1_1 7))))) + 1))) + ((t148.size : Int) + 8))) - (wrap64 (1 + (Go.bits .and .i64 a1_1 7))))) + 1)) (wrap64 ((wrap64 (((t148.size : Int) + 8) - (wrap64 (1 + (Go.bits .and .i64 a1_1 7))))) + 1))) + (wrap64 (1 + (Go.bits .and .i64 a1_1 7))))) ≤ ((t148 ++ (⟨#[49, 50, 51, 52, 53, 54, 55, 56]⟩ : ByteArray)).size : Int) then (some ((t149.extract ((wrap64 ((Int.tmod (wrap64 ((wrap64 ((wrap64 ((Int.tmod a1_0 (wrap64 ((wrap64 (((t148.size : Int) + 8) - (wrap64 (1 + (Go.bits .and .i64 a1_1 7))))) + 1))) + ((t148.size : Int) + 8))) - (wrap64 (1 + (Go.bits .and .i64 a1_1 7))))) + 1)) (wrap64 ((wrap64 (((t148.size : Int) + 8) - (wrap64 (1 + (Go.bits .and .i64 a1_1 7))))) + 1))) + (wrap64 (1 + (Go.bits .and .i64 a1_1 7))))) : Int).toNat t149.size).toList == ((t148 ++ (⟨#[49, 50, 51, 52, 53, 54, 55, 56]⟩ : ByteArray)).extract ((wrap64 ((Int.tmod (wrap64 ((wrap64 ((wrap64 ((Int.tmod a1_0 (wrap64 ((wrap64 (((t148.size : Int) + 8) - (wrap64 (1 + (Go.bits .and .i64 a1_1 7))))) + 1))) + ((t148.size : Int) + 8))) - (wrap64 (1 + (Go.bits .and .i64 a1_1 7))))) + 1)) (wrap64 ((wrap64 (((t148.size : Int) + 8) - (wrap64 (1 + (Go.bits .and .i64 a1_1 7))))) + 1))) + (wrap64 (1 + (Go.bits .and .i64 a1_1 7))))) : Int).toNat (t148 ++ (⟨#[49, 50, 51, 52, 53, 54, 55, 56]⟩ : ByteArray)).size).toList)) else (none)) else (none)) else (none)) else (some false)) else (none)) else (none)) else (none)) else (some false))) else (some false)) else (some false)) else (some false)) = some true := by rw [if_pos rfl] at H; exact H
                  clear H
                  have H := H1
                  clear H1
                  by_cases c23 : t152 = true
                  · subst c23
                    have H1 : (if t151 = (Go.bits .and .u64 a2 (IntKind.u64.wrap ((ji20) - 1))) then (if t154 = true then ((octet_Put.f kj8 a2 (wrap64 (1 + (Go.bits .and .i64 a1_1 7)))).bind fun t155 => (if t153.toList = t155.toList then (if 0 ≤ (Int.tmod (wrap64 ((wrap64 ((wrap64 ((Int.tmod a1_0 (wrap64 ((wrap64 (((t148.size : Int) + 8) - (wrap64 (1 + (Go.bits .and .i64 a1_1 7))))) + 1))) + ((t148.size : Int) + 8))) - (wrap64 (1 + (Go.bits .and .i64 a1_1 7))))) + 1)) (wrap64 ((wrap64 (((t148.size : Int) + 8) - (wrap64 (1 + (Go.bits .and .i64 a1_1 7))))) + 1))) then (if (Int.tmod (wrap64 ((wrap64 ((wrap64 ((Int.tmod a1_0 (wrap64 ((wrap64 (((t148.size : Int) + 8) - (wrap64 (1 + (Go.bits .and .i64 a1_1 7))))) + 1))) + ((t148.size : Int) + 8))) - (wrap64 (1 + (Go.bits .and .i64 a1_1 7))))) + 1)) (wrap64 ((wrap64 (((t148.size : Int) + 8) - (wrap64 (1 + (Go.bits .and .i64 a1_1 7))))) + 1))) ≤ (t149.size : Int) then (if (Int.tmod (wrap64 ((wrap64 ((wrap64 ((Int.tmod a1_0 (wrap64 ((wrap64 (((t148.size : Int) + 8) - (wrap64 (1 + (Go.bits .and .i64 a1_1 7))))) + 1))) + ((t148.size : Int) + 8))) - (wrap64 (1 + (Go.bits .and .i64 a1_1 7))))) + 1)) (wrap64 ((wrap64 (((t148.size : Int) + 8) - (wrap64 (1 + (Go.bits .and .i64 a1_1 7))))) + 1))) ≤ ((t148 ++ (⟨#[49, 50, 51, 52, 53, 54, 55, 56]⟩ : ByteArray)).size : Int) then (if (t149.extract 0 ((Int.tmod (wrap64 ((wrap64 ((wrap64 ((Int.tmod a1_0 (wrap64 ((wrap64 (((t148.size : Int) + 8) - (wrap64 (1 + (Go.bits .and .i64 a1_1 7))))) + 1))) + ((t148.size : Int) + 8))) - (wrap64 (1 + (Go.bits .and .i64 a1_1 7))))) + 1)) (wrap64 ((wrap64 (((t148.size : Int) + 8) - (wrap64 (1 + (Go.bits .and .i64 a1_1 7))))) + 1))) : Int).toNat).toList = ((t148 ++ (⟨#[49, 50, 51, 52, 53, 54, 55, 56]⟩ : ByteArray)).extract 0 ((Int.tmod (wrap64 ((wrap64 ((wrap64 ((Int.tmod a1_0 (wrap64 ((wrap64 (((t148.size : Int) + 8) - (wrap64 (1 + (Go.bits .and .i64 a1_1 7))))) + 1))) + ((t148.size : Int) + 8))) - (wrap64 (1 + (Go.bits .and .i64 a1_1 7))))) + 1)) (wrap64 ((wrap64 (((t148.size : Int) + 8) - (wrap64 (1 + (Go.bits .and .i64 a1_1 7))))) + 1))) : Int).toNat).toList then (if 0 ≤ (wrap64 ((Int.tmod (wrap64 ((wrap64 ((wrap64 ((Int.tmod a1_0 (wrap64 ((wrap64 (((t148.size : Int) + 8) - (wrap64 (1 + (Go.bits .and .i64 a1_1 7))))) + 1))) + ((t148.size : Int) + 8))) - (wrap64 (1 + (Go.bits .and .i64 a1_1 7))))) + 1)) (wrap64 ((wrap64 (((t148.size : Int) + 8) - (wrap64 (1 + (Go.bits .and .i64 a1_1 7))))) + 1))) + (wrap64 (1 + (Go.bits .and .i64 a1_1 7))))) then (if (wrap64 ((Int.tmod (wrap64 ((wrap64 ((wrap64 ((Int.tmod a1_0 (wrap64 ((wrap64 (((t148.size : Int) + 8) - (wrap64 (1 + (Go.bits .and .i64 a1_1 7))))) + 1))) + ((t148.size : Int) + 8))) - (wrap64 (1 + (Go.bits .and .i64 a1_1 7))))) + 1)) (wrap64 ((wrap64 (((t148.size : Int) + 8) - (wrap64 (1 + (Go.bits .and .i64 a1_1 7))))) + 1))) + (wrap64 (1 + (Go.bits .and .i64 a1_1 7))))) ≤ (t149.size : Int) then (if (wrap64 ((Int.tmod (wrap64 ((wrap64 ((wrap64 ((Int.tmod a1_0 (wrap64 ((wrap64 (((t148.size : Int) + 8) - (wrap64 (1 + (Go.bits .and .i64 a1_1 7))))) + 1))) + ((t148.size : Int) + 8))) - (wrap64 (1 + (Go.bits .and .i64 a1_1 7))))) + 1)) (wrap64 ((wrap64 (((t148.size : Int) + 8) - (wrap64 (1 + (Go.bits .and .i64 a1_1 7))))) + 1))) + (wrap64 (1 + (Go.bits .and .i64 a1_1 7))))) ≤ ((t148 ++ (⟨#[49, 50, 51, 52, 53, 54, 55, 56]⟩ : ByteArray)).size : Int) then (some ((t149.extract ((wrap64 ((Int.tmod (wrap64 ((wrap64 ((wrap64 ((Int.tmod a1_0 (wrap64 ((wrap64 (((t148.size : Int) + 8) - (wrap64 (1 + (Go.bits .and .i64 a1_1 7))))) + 1))) + ((t148.size : Int) + 8))) - (wrap64 (1 + (Go.bits .and .i64 a1_1 7))))) + 1)) (wrap64 ((wrap64 (((t148.size : Int) + 8) - (wrap64 (1 + (Go.bits .and .i64 a1_1 7))))) + 1))) + (wrap64 (1 + (Go.bits .and .i64 a1_1 7))))) : Int).toNat t149.size).toList == ((t148 ++ (⟨#[49, 50, 51, 52, 53, 54, 55, 56]⟩ : ByteArray)).extract ((wrap64 ((Int.tmod (wrap64 ((wrap64 ((wrap64 ((Int.tmod a1_0 (wrap64 ((wrap64 (((t148.size : Int) + 8) - (wrap64 (1 + (Go.bits .and .i64 a1_1 7))))) + 1))) + ((t148.size : Int) + 8))) - (wrap64 (1 + (Go.bits .and .i64 a1_1 7))))) + 1)) (wrap64 ((wrap64 (((t148.size : Int) + 8) - (wrap64 (1 + (Go.bits .and .i64 a1_1 7))))) + 1))) + (wrap64 (1 + (Go.bits .and .i64 a1_1 7))))) : Int).toNat (t148 ++ (⟨#[49, 50, 51, 52, 53, 54, 55, 56]⟩ : ByteArray)).size).toList)) else (none)) else (none)) else (none)) else (some false)) else (none)) else (none)) else (none)) else (some false))) else (some false)) else (some false)) = some true := by rw [if_pos rfl] at H; exact H
                    clear H
                    have H := H1
                    clear H1
                    by_cases c24 : t151 = (Go.bits .and .u64 a2 (IntKind.u64.wrap ((ji20) - 1)))
                    · rw [if_pos c24] at H
                      have c24b0 : (t151 == (Go.bits .and .u64 a2 (IntKind.u64.wrap ((ji20) - 1)))) = true := beq_iff_eq.mpr c24
                      have c24b1 : (t151 != (Go.bits .and .u64 a2 (IntKind.u64.wrap ((ji20) - 1)))) = false := bne_eq_false_iff_eq.mpr c24
                      clear c24
                      by_cases c25 : t154 = true
                      · subst c25
                        have H1 : ((octet_Put.f kj8 a2 (wrap64 (1 + (Go.bits .and .i64 a1_1 7)))).bind fun t155 => (if t153.toList = t155.toList then (if 0 ≤ (Int.tmod (wrap64 ((wrap64 ((wrap64 ((Int.tmod a1_0 (wrap64 ((wrap64 (((t148.size : Int) + 8) - (wrap64 (1 + (Go.bits .and .i64 a1_1 7))))) + 1))) + ((t148.size : Int) + 8))) - (wrap64 (1 + (Go.bits .and .i64 a1_1 7))))) + 1)) (wrap64 ((wrap64 (((t148.size : Int) + 8) - (wrap64 (1 + (Go.bits .and .i64 a1_1 7))))) + 1))) then (if (Int.tmod (wrap64 ((wrap64 ((wrap64 ((Int.tmod a1_0 (wrap64 ((wrap64 (((t148.size : Int) + 8) - (wrap64 (1 + (Go.bits .and .i64 a1_1 7))))) + 1))) + ((t148.size : Int) + 8))) - (wrap64 (1 + (Go.bits .and .i64 a1_1 7))))) + 1)) (wrap64 ((wrap64 (((t148.size : Int) + 8) - (wrap64 (1 + (Go.bits .and .i64 a1_1 7))))) + 1))) ≤ (t149.size : Int) then (if (Int.tmod (wrap64 ((wrap64 ((wrap64 ((Int.tmod a1_0 (wrap64 ((wrap64 (((t148.size : Int) + 8) - (wrap64 (1 + (Go.bits .and .i64 a1_1 7))))) + 1))) + ((t148.size : Int) + 8))) - (wrap64 (1 + (Go.bits .and .i64 a1_1 7))))) + 1)) (wrap64 ((wrap64 (((t148.size : Int) + 8) - (wrap64 (1 + (Go.bits .and .i64 a1_1 7))))) + 1))) ≤ ((t148 ++ (⟨#[49, 50, 51, 52, 53, 54, 55, 56]⟩ : ByteArray)).size : Int) then (if (t149.extract 0 ((Int.tmod (wrap64 ((wrap64 ((wrap64 ((Int.tmod a1_0 (wrap64 ((wrap64 (((t148.size : Int) + 8) - (wrap64 (1 + (Go.bits .and .i64 a1_1 7))))) + 1))) + ((t148.size : Int) + 8))) - (wrap64 (1 + (Go.bits .and .i64 a1_1 7))))) + 1)) (wrap64 ((wrap64 (((t148.size : Int) + 8) - (wrap64 (1 + (Go.bits .and .i64 a1_1 7))))) + 1))) : Int).toNat).toList = ((t148 ++ (⟨#[49, 50, 51, 52, 53, 54, 55, 56]⟩ : ByteArray)).extract 0 ((Int.tmod (wrap64 ((wrap64 ((wrap64 ((Int.tmod a1_0 (wrap64 ((wrap64 (((t148.size : Int) + 8) - (wrap64 (1 + (Go.bits .and .i64 a1_1 7))))) + 1))) + ((t148.size : Int) + 8))) - (wrap64 (1 + (Go.bits .and .i64 a1_1 7))))) + 1)) (wrap64 ((wrap64 (((t148.size : Int) + 8) - (wrap64 (1 + (Go.bits .and .i64 a1_1 7))))) + 1))) : Int).toNat).toList then (if 0 ≤ (wrap64 ((Int.tmod (wrap64 ((wrap64 ((wrap64 ((Int.tmod a1_0 (wrap64 ((wrap64 (((t148.size : Int) + 8) - (wrap64 (1 + (Go.bits .and .i64 a1_1 7))))) + 1))) + ((t148.size : Int) + 8))) - (wrap64 (1 + (Go.bits .and .i64 a1_1 7))))) + 1)) (wrap64 ((wrap64 (((t148.size : Int) + 8) - (wrap64 (1 + (Go.bits .and .i64 a1_1 7))))) + 1))) + (wrap64 (1 + (Go.bits .and .i64 a1_1 7))))) then (if (wrap64 ((Int.tmod (wrap64 ((wrap64 ((wrap64 ((Int.tmod a1_0 (wrap64 ((wrap64 (((t148.size : Int) + 8) - (wrap64 (1 + (Go.bits .and .i64 a1_1 7))))) + 1))) + ((t148.size : Int) + 8))) - (wrap64 (1 + (Go.bits .and .i64 a1_1 7))))) + 1)) (wrap64 ((wrap64 (((t148.size : Int) + 8) - (wrap64 (1 + (Go.bits .and .i64 a1_1 7))))) + 1))) + (wrap64 (1 + (Go.bits .and .i64 a1_1 7))))) ≤ (t149.size : Int) then (if (wrap64 ((Int.tmod (wrap64 ((wrap64 ((wrap64 ((Int.tmod a1_0 (wrap64 ((wrap64 (((t148.size : Int) + 8) - (wrap64 (1 + (Go.bits .and .i64 a1_1 7))))) + 1))) + ((t148.size : Int) + 8))) - (wrap64 (1 + (Go.bits .and .i64 a1_1 7))))) + 1)) (wrap64 ((wrap64 (((t148.size : Int) + 8) - (wrap64 (1 + (Go.bits .and .i64 a1_1 7))))) + 1))) + (wrap64 (1 + (Go.bits .and .i64 a1_1 7))))) ≤ ((t148 ++ (⟨#[49, 50, 51, 52, 53, 54, 55, 56]⟩ : ByteArray)).size : Int) then (some ((t149.extract ((wrap64 ((Int.tmod (wrap64 ((wrap64 ((wrap64 ((Int.tmod a1_0 (wrap64 ((wrap64 (((t148.size : Int) + 8) - (wrap64 (1 + (Go.bits .and .i64 a1_1 7))))) + 1))) + ((t148.size : Int) + 8))) - (wrap64 (1 + (Go.bits .and .i64 a1_1 7))))) + 1)) (wrap64 ((wrap64 (((t148.size : Int) + 8) - (wrap64 (1 + (Go.bits .and .i64 a1_1 7))))) + 1))) + (wrap64 (1 + (Go.bits .and .i64 a1_1 7))))) : Int).toNat t149.size).toList == ((t148 ++ (⟨#[49, 50, 51, 52, 53, 54, 55, 56]⟩ : ByteArray)).extract ((wrap64 ((Int.tmod (wrap64 ((wrap64 ((wrap64 ((Int.tmod a1_0 (wrap64 ((wrap64 (((t148.size : Int) + 8) - (wrap64 (1 + (Go.bits .and .i64 a1_1 7))))) + 1))) + ((t148.size : Int) + 8))) - (wrap64 (1 + (Go.bits .and .i64 a1_1 7))))) + 1)) (wrap64 ((wrap64 (((t148.size : Int) + 8) - (wrap64 (1 + (Go.bits .and .i64 a1_1 7))))) + 1))) + (wrap64 (1 + (Go.bits .and .i64 a1_1 7))))) : Int).toNat (t148 ++ (⟨#[49, 50, 51, 52, 53, 54, 55, 56]⟩ : ByteArray)).size).toList)) else (none)) else (none)) else (none)) else (some false)) else (none)) else (none)) else (none)) else (some false))) = some true := by rw [if_pos rfl] at H; exact H
                        clear H
                        have H := H1
                        clear H1
                        replace H := Option.bind_eq_some_iff.mp H
                        obtain ⟨t155, A260, H⟩ := H
                        replace H : (if t153.toList = t155.toList then (if 0 ≤ (Int.tmod (wrap64 ((wrap64 ((wrap64 ((Int.tmod a1_0 (wrap64 ((wrap64 (((t148.size : Int) + 8) - (wrap64 (1 + (Go.bits .and .i64 a1_1 7))))) + 1))) + ((t148.size : Int) + 8))) - (wrap64 (1 + (Go.bits .and .i64 a1_1 7))))) + 1)) (wrap64 ((wrap64 (((t148.size : Int) + 8) - (wrap64 (1 + (Go.bits .and .i64 a1_1 7))))) + 1))) then (if (Int.tmod (wrap64 ((wrap64 ((wrap64 ((Int.tmod a1_0 (wrap64 ((wrap64 (((t148.size : Int) + 8) - (wrap64 (1 + (Go.bits .and .i64 a1_1 7))))) + 1))) + ((t148.size : Int) + 8))) - (wrap64 (1 + (Go.bits .and .i64 a1_1 7))))) + 1)) (wrap64 ((wrap64 (((t148.size : Int) + 8) - (wrap64 (1 + (Go.bits .and .i64 a1_1 7))))) + 1))) ≤ (t149.size : Int) then (if (Int.tmod (wrap64 ((wrap64 ((wrap64 ((Int.tmod a1_0 (wrap64 ((wrap64 (((t148.size : Int) + 8) - (wrap64 (1 + (Go.bits .and .i64 a1_1 7))))) + 1))) + ((t148.size : Int) + 8))) - (wrap64 (1 + (Go.bits .and .i64 a1_1 7))))) + 1)) (wrap64 ((wrap64 (((t148.size : Int) + 8) - (wrap64 (1 + (Go.bits .and .i64 a1_1 7))))) + 1))) ≤ ((t148 ++ (⟨#[49, 50, 51, 52, 53, 54, 55, 56]⟩ : ByteArray)).size : Int) then (if (t149.extract 0 ((Int.tmod (wrap64 ((wrap64 ((wrap64 ((Int.tmod a1_0 (wrap64 ((wrap64 (((t148.size : Int) + 8) - (wrap64 (1 + (Go.bits .and .i64 a1_1 7))))) + 1))) + ((t148.size : Int) + 8))) - (wrap64 (1 + (Go.bits .and .i64 a1_1 7))))) + 1)) (wrap64 ((wrap64 (((t148.size : Int) + 8) - (wrap64 (1 + (Go.bits .and .i64 a1_1 7))))) + 1))) : Int).toNat).toList = ((t148 ++ (⟨#[49, 50, 51, 52, 53, 54, 55, 56]⟩ : ByteArray)).extract 0 ((Int.tmod (wrap64 ((wrap64 ((wrap64 ((Int.tmod a1_0 (wrap64 ((wrap64 (((t148.size : Int) + 8) - (wrap64 (1 + (Go.bits .and .i64 a1_1 7))))) + 1))) + ((t148.size : Int) + 8))) - (wrap64 (1 + (Go.bits .and .i64 a1_1 7))))) + 1)) (wrap64 ((wrap64 (((t148.size : Int) + 8) - (wrap64 (1 + (Go.bits .and .i64 a1_1 7))))) + 1))) : Int).toNat).toList then (if 0 ≤ (wrap64 ((Int.tmod (wrap64 ((wrap64 ((wrap64 ((Int.tmod a1_0 (wrap64 ((wrap64 (((t148.size : Int) + 8) - (wrap64 (1 + (Go.bits .and .i64 a1_1 7))))) + 1))) + ((t148.size : Int) + 8))) - (wrap64 (1 + (Go.bits .and .i64 a1_1 7))))) + 1)) (wrap64 ((wrap64 (((t148.size : Int) + 8) - (wrap64 (1 + (Go.bits .and .i64 a1_1 7))))) + 1))) + (wrap64 (1 + (Go.bits .and .i64 a1_1 7))))) then (if (wrap64 ((Int.tmod (wrap64 ((wrap64 ((wrap64 ((Int.tmod a1_0 (wrap64 ((wrap64 (((t148.size : Int) + 8) - (wrap64 (1 + (Go.bits .and .i64 a1_1 7))))) + 1))) + ((t148.size : Int) + 8))) - (wrap64 (1 + (Go.bits .and .i64 a1_1 7))))) + 1)) (wrap64 ((wrap64 (((t148.size : Int) + 8) - (wrap64 (1 + (Go.bits .and .i64 a1_1 7))))) + 1))) + (wrap64 (1 + (Go.bits .and .i64 a1_1 7))))) ≤ (t149.size : Int) then (if (wrap64 ((Int.tmod (wrap64 ((wrap64 ((wrap64 ((Int.tmod a1_0 (wrap64 ((wrap64 (((t148.size : Int) + 8) - (wrap64 (1 + (Go.bits .and .i64 a1_1 7))))) + 1))) + ((t148.size : Int) + 8))) - (wrap64 (1 + (Go.bits .and .i64 a1_1 7))))) + 1)) (wrap64 ((wrap64 (((t148.size : Int) + 8) - (wrap64 (1 + (Go.bits .and .i64 a1_1 7))))) + 1))) + (wrap64 (1 + (Go.bits .and .i64 a1_1 7))))) ≤ ((t148 ++ (⟨#[49, 50, 51, 52, 53, 54, 55, 56]⟩ : ByteArray)).size : Int) then (some ((t149.extract ((wrap64 ((Int.tmod (wrap64 ((wrap64 ((wrap64 ((Int.tmod a1_0 (wrap64 ((wrap64 (((t148.size : Int) + 8) - (wrap64 (1 + (Go.bits .and .i64 a1_1 7))))) + 1))) + ((t148.size : Int) + 8))) - (wrap64 (1 + (Go.bits .and .i64 a1_1 7))))) + 1)) (wrap64 ((wrap64 (((t148.size : Int) + 8) - (wrap64 (1 + (Go.bits .and .i64 a1_1 7))))) + 1))) + (wrap64 (1 + (Go.bits .and .i64 a1_1 7))))) : Int).toNat t149.size).toList == ((t148 ++ (⟨#[49, 50, 51, 52, 53, 54, 55, 56]⟩ : ByteArray)).extract ((wrap64 ((Int.tmod (wrap64 ((wrap64 ((wrap64 ((Int.tmod a1_0 (wrap64 ((wrap64 (((t148.size : Int) + 8) - (wrap64 (1 + (Go.bits .and .i64 a1_1 7))))) + 1))) + ((t148.size : Int) + 8))) - (wrap64 (1 + (Go.bits .and .i64 a1_1 7))))) + 1)) (wrap64 ((wrap64 (((t148.size : Int) + 8) - (wrap64 (1 + (Go.bits .and .i64 a1_1 7))))) + 1))) + (wrap64 (1 + (Go.bits .and .i64 a1_1 7))))) : Int).toNat (t148 ++ (⟨#[49, 50, 51, 52, 53, 54, 55, 56]⟩ : ByteArray)).size).toList)) else (none)) else (none)) else (none)) else (some false)) else (none)) else (none)) else (none)) else (some false)) = some true := H
                        have A26 := Aside0.mk A260
                        clear A260
                        by_cases c27 : t153.toList = t155.toList
                        · rw [if_pos c27] at H
                          have c27b0 : (t153.toList == t155.toList) = true := beq_iff_eq.mpr c27
                          have c27b1 : (t153.toList != t155.toList) = false := bne_eq_false_iff_eq.mpr c27
                          clear c27
                          obtain ⟨ji28, hji28⟩ : ∃ j_ : Int, (Int.tmod (wrap64 ((wrap64 ((wrap64 ((Int.tmod a1_0 (wrap64 ((wrap64 (((t148.size : Int) + 8) - (wrap64 (1 + (Go.bits .and .i64 a1_1 7))))) + 1))) + ((t148.size : Int) + 8))) - (wrap64 (1 + (Go.bits .and .i64 a1_1 7))))) + 1)) (wrap64 ((wrap64 (((t148.size : Int) + 8) - (wrap64 (1 + (Go.bits .and .i64 a1_1 7))))) + 1))) = j_ := ⟨_, rfl⟩
                          replace H : (if 0 ≤ (ji28) then (if (ji28) ≤ (t149.size : Int) then (if (ji28) ≤ ((t148 ++ (⟨#[49, 50, 51, 52, 53, 54, 55, 56]⟩ : ByteArray)).size : Int) then (if (t149.extract 0 ((ji28) : Int).toNat).toList = ((t148 ++ (⟨#[49, 50, 51, 52, 53, 54, 55, 56]⟩ : ByteArray)).extract 0 ((ji28) : Int).toNat).toList then (if 0 ≤ (wrap64 ((ji28) + (wrap64 (1 + (Go.bits .and .i64 a1_1 7))))) then (if (wrap64 ((ji28) + (wrap64 (1 + (Go.bits .and .i64 a1_1 7))))) ≤ (t149.size : Int) then (if (wrap64 ((ji28) + (wrap64 (1 + (Go.bits .and .i64 a1_1 7))))) ≤ ((t148 ++ (⟨#[49, 50, 51, 52, 53, 54, 55, 56]⟩ : ByteArray)).size : Int) then (some ((t149.extract ((wrap64 ((ji28) + (wrap64 (1 + (Go.bits .and .i64 a1_1 7))))) : Int).toNat t149.size).toList == ((t148 ++ (⟨#[49, 50, 51, 52, 53, 54, 55, 56]⟩ : ByteArray)).extract ((wrap64 ((ji28) + (wrap64 (1 + (Go.bits .and .i64 a1_1 7))))) : Int).toNat (t148 ++ (⟨#[49, 50, 51, 52, 53, 54, 55, 56]⟩ : ByteArray)).size).toList)) else (none)) else (none)) else (none)) else (some false)) else (none)) else (none)) else (none)) = some true := by first | (rw [hji28] at H; exact H) | (simp only [hji28] at H ⊢; exact H)
                          (try rw [hji28] at A16)
                          (try rw [hji28] at A21)
                          (try rw [hji28] at A26)
                          by_cases c29 : 0 ≤ (ji28)
                          · rw [if_pos c29] at H
                            have c29b0 := eq_true c29
                            have c29b1 : decide (0 ≤ (ji28)) = true := decide_eq_true c29
                            clear c29
                            by_cases c30 : (ji28) ≤ (t149.size : Int)
                            · rw [if_pos c30] at H
                              have c30b0 := eq_true c30
                              have c30b1 : decide ((ji28) ≤ (t149.size : Int)) = true := decide_eq_true c30
                              clear c30
                              have c31b0 := eq_true (of_decide_eq_true (by first | (with_reducible assumption) | assumption) : 0 ≤ (ji28))
                              by_cases c32 : (ji28) ≤ ((t148 ++ (⟨#[49, 50, 51, 52, 53, 54, 55, 56]⟩ : ByteArray)).size : Int)
                              · rw [if_pos c32] at H
                                have c32b0 := eq_true c32
                                (try (have c32z0 := c32b0; simp only [ByteArray.size_append, Int.natCast_add, show (⟨#[49, 50, 51, 52, 53, 54, 55, 56]⟩ : ByteArray).size = 8 from rfl, show ((8 : Nat) : Int) = 8 from rfl, Int.natCast_add] at c32z0))
                                have c32b1 : decide ((ji28) ≤ ((t148 ++ (⟨#[49, 50, 51, 52, 53, 54, 55, 56]⟩ : ByteArray)).size : Int)) = true := decide_eq_true c32
                                (try (have c32z1 := c32b1; simp only [ByteArray.size_append, Int.natCast_add, show (⟨#[49, 50, 51, 52, 53, 54, 55, 56]⟩ : ByteArray).size = 8 from rfl, show ((8 : Nat) : Int) = 8 from rfl, Int.natCast_add] at c32z1))
                                by_cases c33 : (t149.extract 0 ((ji28) : Int).toNat).toList = ((t148 ++ (⟨#[49, 50, 51, 52, 53, 54, 55, 56]⟩ : ByteArray)).extract 0 ((ji28) : Int).toNat).toList
                                · rw [if_pos c33] at H
                                  have c33b0 : ((t149.extract 0 ((ji28) : Int).toNat).toList == ((t148 ++ (⟨#[49, 50, 51, 52, 53, 54, 55, 56]⟩ : ByteArray)).extract 0 ((ji28) : Int).toNat).toList) = true := beq_iff_eq.mpr c33
                                  have c33b1 : ((t149.extract 0 ((ji28) : Int).toNat).toList != ((t148 ++ (⟨#[49, 50, 51, 52, 53, 54, 55, 56]⟩ : ByteArray)).extract 0 ((ji28) : Int).toNat).toList) = false := bne_eq_false_iff_eq.mpr c33
                                  clear c33
                                  obtain ⟨ji34, hji34⟩ : ∃ j_ : Int, (wrap64 ((ji28) + (wrap64 (1 + (Go.bits .and .i64 a1_1 7))))) = j_ := ⟨_, rfl⟩
                                  replace H : (if 0 ≤ (ji34) then (if (ji34) ≤ (t149.size : Int) then (if (ji34) ≤ ((t148 ++ (⟨#[49, 50, 51, 52, 53, 54, 55, 56]⟩ : ByteArray)).size : Int) then (some ((t149.extract ((ji34) : Int).toNat t149.size).toList == ((t148 ++ (⟨#[49, 50, 51, 52, 53, 54, 55, 56]⟩ : ByteArray)).extract ((ji34) : Int).toNat (t148 ++ (⟨#[49, 50, 51, 52, 53, 54, 55, 56]⟩ : ByteArray)).size).toList)) else (none)) else (none)) else (none)) = some true := by first | (rw [hji34] at H; exact H) | (simp only [hji34] at H ⊢; exact H)
                                  (try rw [hji34] at A16)
                                  (try rw [hji34] at A21)
                                  (try rw [hji34] at A26)
                                  have hji34w : (IntKind.i64.wrap ((ji28) + (wrap64 (1 + (Go.bits .and .i64 a1_1 7))))) = ji34 := (i64_w _).trans hji34
                                  by_cases c35 : 0 ≤ (ji34)
                                  · rw [if_pos c35] at H
                                    have c35b0 := eq_true c35
                                    have c35b1 : decide (0 ≤ (ji34)) = true := decide_eq_true c35
                                    clear c35
                                    by_cases c36 : (ji34) ≤ (t149.size : Int)
                                    · rw [if_pos c36] at H
                                      have c36b0 := eq_true c36
                                      have c36b1 : decide ((ji34) ≤ (t149.size : Int)) = true := decide_eq_true c36
                                      clear c36
                                      have c37b0 := eq_true (of_decide_eq_true (by first | (with_reducible assumption) | assumption) : 0 ≤ (ji34))
                                      by_cases c38 : (ji34) ≤ ((t148 ++ (⟨#[49, 50, 51, 52, 53, 54, 55, 56]⟩ : ByteArray)).size : Int)
                                      · rw [if_pos c38] at H
                                        have c38b0 := eq_true c38
                                        (try (have c38z0 := c38b0; simp only [ByteArray.size_append, Int.natCast_add, show (⟨#[49, 50, 51, 52, 53, 54, 55, 56]⟩ : ByteArray).size = 8 from rfl, show ((8 : Nat) : Int) = 8 from rfl, Int.natCast_add] at c38z0))
                                        have c38b1 : decide ((ji34) ≤ ((t148 ++ (⟨#[49, 50, 51, 52, 53, 54, 55, 56]⟩ : ByteArray)).size : Int)) = true := decide_eq_true c38
                                        (try (have c38z1 := c38b1; simp only [ByteArray.size_append, Int.natCast_add, show (⟨#[49, 50, 51, 52, 53, 54, 55, 56]⟩ : ByteArray).size = 8 from rfl, show ((8 : Nat) : Int) = 8 from rfl, Int.natCast_add] at c38z1))
                                        have HR_ := Aside0.mk (Option.some.inj H)
                                        clear H
                                        try go_wp2_with (first | ((with_reducible refine gate_callee (f := 15) rfl ?_); refine goesL_ (some 66) rfl rfl Try.func15 (by kernel_rfl) rfl #[.string t149, .int .i64 (ji28), .int .i64 (wrap64 (1 + (Go.bits .and .i64 a1_1 7)))] rfl (by (try simp only [List.map_toArray, List.map_cons, List.map_nil]); first | done | (simp only [hji28]; rfl) | rfl | (simp only [List.length_drop, List.length_take]; rfl)) ?_; (with_reducible refine (octet_Get.calls kj8 t149 (ji28) (wrap64 (1 + (Go.bits .and .i64 a1_1 7))) t151 true _ A16.out).mono ?_); rintro e w' ⟨rfl, ⟨nd, rfl⟩⟩; refine ⟨_, rfl, ?_⟩) | ((with_reducible refine gate_callee (f := 20) rfl ?_); refine goesL_ (some 83) rfl rfl Try.func20 (by kernel_rfl) rfl #[.string t149, .int .i64 (ji28), .int .i64 (wrap64 (1 + (Go.bits .and .i64 a1_1 7)))] rfl (by (try simp only [List.map_toArray, List.map_cons, List.map_nil]); first | done | (simp only [hji28]; rfl) | rfl | (simp only [List.length_drop, List.length_take]; rfl)) ?_; (with_reducible refine (octet_Part.calls t149 (ji28) (wrap64 (1 + (Go.bits .and .i64 a1_1 7))) t153 true _ A21.out).mono ?_); rintro e w' ⟨rfl, ⟨nd, rfl⟩⟩; refine ⟨_, rfl, ?_⟩))
                                        (try (rw [drewN_self wc]; generalize hq_ : World.drewN wc _ = wc; have n0_ : Aside0 (wc.heap[gb146]? = some (.cells #[.int .i64 a1_0, .int .i64 a1_1] 32 (0, 0))) := ⟨by rw [← hq_]; exact (by (with_reducible repeat (first | refine blk_drewN ?_ _ | refine blk_drew ?_ | refine blk_alloc ?_ _)); exact BK146.out)⟩; have n1_ : Aside0 (Below w.heap.size w wc) := ⟨by rw [← hq_]; exact (by repeat (first | (with_reducible first | exact HB.out | apply below_alloc | apply pw_below_drewN | apply below_drew1 | refine below_set ?_ GE146.out) | exact HB.out))⟩; clear BK146 HB hq_; have BK146 := n0_; have HB := n1_; clear n0_ n1_))
                                        have n0_ := Aside0.mk (blk_drew BK146.out)
                                        have n1_ := Aside0.mk (below_drew1 HB.out)
                                        clear BK146
                                        clear HB
                                        have BK146 := n0_
                                        have HB := n1_
                                        clear n0_ n1_
                                        refine start_ (n := 42) (S := fun w' => True) (ds := []) #[false, false, false, false, false, false, false, false, false, false, false, false, false, false, false, false, false, false, false, false, false, false, false, false, false, false, false, false, false, false, false, false, false, false, false, false, false, false, false, false, false, false] (by kernel_rfl) rfl rfl trivial (fun hHeld => ?_); refine with_tabW flyleaflaw01_OctetBack.tab13 flyleaflaw01_OctetBack.bits13 (fun HT_ HW_ => ?_)
                                        generalize wc.drew = w39 at BK146 HB hHeld ⊢
                                        refine pure_ (i := 0) (N := some 86) (v := ?_) (a' := ?_) #[true, false, false, false, false, false, false, false, false, false, false, false, false, false, false, false, false, false, false, false, false, false, false, false, false, false, false, false, false, false, false, false, false, false, false, false, false, false, false, false, false, false] rfl rfl (any_of HT_.out (by kernel_rfl)) (fun _ _ _ h => h) (Or.inl ⟨by rfl, ?_⟩) ?_ ?_
                                        rotate_left
                                        · intro w'
                                          go_simp
                                          with_reducible rfl
                                        rotate_left
                                        · simp only [Act.put, List.setIfInBounds_toArray, List.set_cons_zero, List.set_cons_succ, i64_w, i32_w]
                                          rfl
                                        refine pure_ (i := 1) (N := some 87) (v := ?_) (a' := ?_) #[true, true, false, false, false, false, false, false, false, false, false, false, false, false, false, false, false, false, false, false, false, false, false, false, false, false, false, false, false, false, false, false, false, false, false, false, false, false, false, false, false, false] rfl rfl (any_of HT_.out (by kernel_rfl)) (fun _ _ _ h => h) (Or.inl ⟨by rfl, ?_⟩) ?_ ?_
                                        rotate_left
                                        · intro w'
                                          go_simp
                                          with_reducible rfl
                                        rotate_left
                                        · simp only [Act.put, List.setIfInBounds_toArray, List.set_cons_zero, List.set_cons_succ, i64_w, i32_w]
                                          rfl
                                        refine pure_ (i := 2) (N := some 88) (v := ?_) (a' := ?_) #[true, true, true, false, false, false, false, false, false, false, false, false, false, false, false, false, false, false, false, false, false, false, false, false, false, false, false, false, false, false, false, false, false, false, false, false, false, false, false, false, false, false] rfl rfl (any_of HT_.out (by kernel_rfl)) (fun _ _ _ h => h) (Or.inl ⟨by rfl, ?_⟩) ?_ ?_
                                        rotate_left
                                        · intro w'
                                          go_simp
                                          with_reducible rfl
                                        rotate_left
                                        · simp only [Act.put, List.setIfInBounds_toArray, List.set_cons_zero, List.set_cons_succ, i64_w, i32_w]
                                          rfl
                                        refine pure_ (i := 3) (N := some 89) (v := ?_) (a' := ?_) #[true, true, true, true, false, false, false, false, false, false, false, false, false, false, false, false, false, false, false, false, false, false, false, false, false, false, false, false, false, false, false, false, false, false, false, false, false, false, false, false, false, false] rfl rfl (any_of HT_.out (by kernel_rfl)) (fun _ _ _ h => h) (Or.inl ⟨by rfl, ?_⟩) ?_ ?_
                                        rotate_left
                                        · intro w'
                                          go_simp
                                          with_reducible rfl
                                        rotate_left
                                        · simp only [Act.put, List.setIfInBounds_toArray, List.set_cons_zero, List.set_cons_succ, i64_w, i32_w]
                                          rfl
                                        refine pure_ (i := 4) (N := some 90) (v := ?_) (a' := ?_) #[true, true, true, true, true, false, false, false, false, false, false, false, false, false, false, false, false, false, false, false, false, false, false, false, false, false, false, false, false, false, false, false, false, false, false, false, false, false, false, false, false, false] rfl rfl (any_of HT_.out (by kernel_rfl)) (fun _ _ _ h => h) (Or.inl ⟨by rfl, ?_⟩) ?_ ?_
                                        rotate_left
                                        · intro w'
                                          go_simp
                                          with_reducible rfl
                                        rotate_left
                                        · simp only [Act.put, List.setIfInBounds_toArray, List.set_cons_zero, List.set_cons_succ, i64_w, i32_w]
                                          rfl
                                        refine pure_ (i := 5) (N := some 91) (v := ?_) (a' := ?_) #[true, true, true, true, true, true, false, false, false, false, false, false, false, false, false, false, false, false, false, false, false, false, false, false, false, false, false, false, false, false, false, false, false, false, false, false, false, false, false, false, false, false] rfl rfl (any_of HT_.out (by kernel_rfl)) (fun _ _ _ h => h) (Or.inl ⟨by rfl, ?_⟩) ?_ ?_
                                        rotate_left
                                        · intro w'
                                          go_simp
                                          with_reducible rfl
                                        rotate_left
                                        · simp only [Act.put, List.setIfInBounds_toArray, List.set_cons_zero, List.set_cons_succ, i64_w, i32_w]
                                          rfl
                                        refine pure_ (i := 6) (N := some 92) (v := ?_) (a' := ?_) #[true, true, true, true, true, true, true, false, false, false, false, false, false, false, false, false, false, false, false, false, false, false, false, false, false, false, false, false, false, false, false, false, false, false, false, false, false, false, false, false, false, false] rfl rfl (any_of HT_.out (by kernel_rfl)) (fun _ _ _ h => h) (Or.inl ⟨by rfl, ?_⟩) ?_ ?_
                                        rotate_left
                                        · intro w'
                                          go_simp
                                          with_reducible rfl
                                        rotate_left
                                        · simp only [Act.put, List.setIfInBounds_toArray, List.set_cons_zero, List.set_cons_succ, i64_w, i32_w]
                                          rfl
                                        refine pure_ (i := 7) (N := some 93) (v := ?_) (a' := ?_) #[true, true, true, true, true, true, true, true, false, false, false, false, false, false, false, false, false, false, false, false, false, false, false, false, false, false, false, false, false, false, false, false, false, false, false, false, false, false, false, false, false, false] rfl rfl (any_of HT_.out (by kernel_rfl)) (fun _ _ _ h => h) (Or.inl ⟨by rfl, ?_⟩) ?_ ?_
                                        rotate_left
                                        · intro w'
                                          go_simp
                                          with_reducible rfl
                                        rotate_left
                                        · simp only [Act.put, List.setIfInBounds_toArray, List.set_cons_zero, List.set_cons_succ, i64_w, i32_w]
                                          rfl
                                        refine pure_ (i := 8) (N := some 94) (v := ?_) (a' := ?_) #[true, true, true, true, true, true, true, true, true, false, false, false, false, false, false, false, false, false, false, false, false, false, false, false, false, false, false, false, false, false, false, false, false, false, false, false, false, false, false, false, false, false] rfl rfl (any_of HT_.out (by kernel_rfl)) (fun _ _ _ h => h) (Or.inl ⟨by rfl, ?_⟩) ?_ ?_
                                        rotate_left
                                        · intro w'
                                          go_simp
                                          with_reducible rfl
                                        rotate_left
                                        · simp only [Act.put, List.setIfInBounds_toArray, List.set_cons_zero, List.set_cons_succ, i64_w, i32_w]
                                          rfl
                                        refine pure_ (i := 9) (N := some 95) (v := ?_) (a' := ?_) #[true, true, true, true, true, true, true, true, true, true, false, false, false, false, false, false, false, false, false, false, false, false, false, false, false, false, false, false, false, false, false, false, false, false, false, false, false, false, false, false, false, false] rfl rfl (any_of HT_.out (by kernel_rfl)) (fun _ _ _ h => h) (Or.inl ⟨by rfl, ?_⟩) ?_ ?_
                                        rotate_left
                                        · intro w'
                                          go_simp
                                          with_reducible rfl
                                        rotate_left
                                        · simp only [Act.put, List.setIfInBounds_toArray, List.set_cons_zero, List.set_cons_succ, i64_w, i32_w]
                                          rfl
                                        refine pure_ (i := 10) (N := some 96) (v := ?_) (a' := ?_) #[true, true, true, true, true, true, true, true, true, true, true, false, false, false, false, false, false, false, false, false, false, false, false, false, false, false, false, false, false, false, false, false, false, false, false, false, false, false, false, false, false, false] rfl rfl (any_of HT_.out (by kernel_rfl)) (fun _ _ _ h => h) (Or.inl ⟨by rfl, ?_⟩) ?_ ?_
                                        rotate_left
                                        · intro w'
                                          go_simp
                                          with_reducible rfl
                                        rotate_left
                                        · simp only [Act.put, List.setIfInBounds_toArray, List.set_cons_zero, List.set_cons_succ, i64_w, i32_w]
                                          rfl
                                        refine pure_ (i := 11) (N := some 97) (v := ?_) (a' := ?_) #[true, true, true, true, true, true, true, true, true, true, true, true, false, false, false, false, false, false, false, false, false, false, false, false, false, false, false, false, false, false, false, false, false, false, false, false, false, false, false, false, false, false] rfl rfl (any_of HT_.out (by kernel_rfl)) (fun _ _ _ h => h) (Or.inl ⟨by rfl, ?_⟩) ?_ ?_
                                        rotate_left
                                        · intro w'
                                          go_simp
                                          with_reducible rfl
                                        rotate_left
                                        · simp only [Act.put, List.setIfInBounds_toArray, List.set_cons_zero, List.set_cons_succ, i64_w, i32_w]
                                          rfl
                                        refine pure_ (i := 12) (N := some 98) (v := ?_) (a' := ?_) #[true, true, true, true, true, true, true, true, true, true, true, true, true, false, false, false, false, false, false, false, false, false, false, false, false, false, false, false, false, false, false, false, false, false, false, false, false, false, false, false, false, false] rfl rfl (any_of HT_.out (by kernel_rfl)) (fun _ _ _ h => h) (Or.inl ⟨by rfl, ?_⟩) ?_ ?_
                                        rotate_left
                                        · intro w'
                                          go_simp
                                          with_reducible rfl
                                        rotate_left
                                        · simp only [Act.put, List.setIfInBounds_toArray, List.set_cons_zero, List.set_cons_succ, i64_w, i32_w]
                                          rfl
                                        refine pure_ (i := 13) (N := some 99) (v := ?_) (a' := ?_) #[true, true, true, true, true, true, true, true, true, true, true, true, true, true, false, false, false, false, false, false, false, false, false, false, false, false, false, false, false, false, false, false, false, false, false, false, false, false, false, false, false, false] rfl rfl (any_of HT_.out (by kernel_rfl)) (fun _ _ _ h => h) (Or.inl ⟨by rfl, ?_⟩) ?_ ?_
                                        rotate_left
                                        · intro w'
                                          go_simp
                                          with_reducible rfl
                                        rotate_left
                                        · simp only [Act.put, List.setIfInBounds_toArray, List.set_cons_zero, List.set_cons_succ, i64_w, i32_w]
                                          rfl
                                        refine pure_ (i := 14) (N := some 100) (v := ?_) (a' := ?_) #[true, true, true, true, true, true, true, true, true, true, true, true, true, true, true, false, false, false, false, false, false, false, false, false, false, false, false, false, false, false, false, false, false, false, false, false, false, false, false, false, false, false] rfl rfl (any_of HT_.out (by kernel_rfl)) (fun _ _ _ h => h) (Or.inl ⟨by rfl, ?_⟩) ?_ ?_
                                        rotate_left
                                        · intro w'
                                          go_simp
                                          with_reducible rfl
                                        rotate_left
                                        · simp only [Act.put, List.setIfInBounds_toArray, List.set_cons_zero, List.set_cons_succ, i64_w, i32_w]
                                          rfl
                                        refine pure_ (i := 15) (N := some 101) (v := ?_) (a' := ?_) #[true, true, true, true, true, true, true, true, true, true, true, true, true, true, true, true, false, false, false, false, false, false, false, false, false, false, false, false, false, false, false, false, false, false, false, false, false, false, false, false, false, false] rfl rfl (any_of HT_.out (by kernel_rfl)) (fun _ _ _ h => h) (Or.inl ⟨by rfl, ?_⟩) ?_ ?_
                                        rotate_left
                                        · intro w'
                                          go_simp
                                          with_reducible rfl
                                        rotate_left
                                        · simp only [Act.put, List.setIfInBounds_toArray, List.set_cons_zero, List.set_cons_succ, i64_w, i32_w]
                                          rfl
                                        refine one_ (i := 16) (N := some 102) #[true, true, true, true, true, true, true, true, true, true, true, true, true, true, true, true, true, false, false, false, false, false, false, false, false, false, false, false, false, false, false, false, false, false, false, false, false, false, false, false, false, false] rfl rfl (one_of HT_.out (by kernel_rfl)) (by decide) (fun K hK => ?_)
                                        refine goes_ Try.func13 (by kernel_rfl) rfl #[.int .u64 a2, .int .i64 (wrap64 (1 + (Go.bits .and .i64 a1_1 7)))] (by rfl) rfl rfl (by (try simp only [List.map_toArray, List.map_cons, List.map_nil]); first | done | rfl | (simp only [List.length_drop, List.length_take]; rfl) | (simp only [ByteArray.size_append, Int.natCast_add]; rfl)) ?_
                                        with_reducible refine (octet_Put.calls kj8 a2 (wrap64 (1 + (Go.bits .and .i64 a1_1 7))) t155 _ A26.out).mono ?_
                                        rintro e w40 ⟨rfl, hb⟩
                                        refine ⟨_, rfl, ?_⟩
                                        have n0_ := Aside0.mk (blk_below (g := gb146) (o := .cells #[.int .i64 a1_0, .int .i64 a1_1] 32 (0, 0)) (by (with_reducible repeat (first | refine blk_drewN ?_ _ | refine blk_drew ?_ | refine blk_alloc ?_ _)); exact BK146.out) hb)
                                        have n1_ := Aside0.mk (below_step (by repeat (first | (with_reducible first | exact HB.out | apply below_alloc | apply pw_below_drewN | apply below_drew1 | refine below_set ?_ GE146.out) | exact HB.out)) hb)
                                        clear BK146
                                        clear HB
                                        have BK146 := n0_
                                        have HB := n1_
                                        clear n0_ n1_
                                        (try clear hb)
                                        (try clear hb2)
                                        (try clear hk)
                                        (try clear hi)
                                        refine hK.out _ _ trivial (fun hHeld => ?_)
                                        clear hK K
                                        refine norm_ (a' := ?_) ?_ ?_
                                        rotate_left
                                        · show Act.put _ (some 102) _ = _
                                          simp only [Act.put, List.setIfInBounds_toArray, List.set_cons_zero, List.set_cons_succ, i64_w, i32_w]
                                          rfl
                                        refine pure_ (i := 17) (N := some 103) (v := ?_) (a' := ?_) #[true, true, true, true, true, true, true, true, true, true, true, true, true, true, true, true, true, true, false, false, false, false, false, false, false, false, false, false, false, false, false, false, false, false, false, false, false, false, false, false, false, false] rfl rfl (any_of HT_.out (by kernel_rfl)) (fun _ _ _ h => h) (Or.inl ⟨by rfl, ?_⟩) ?_ ?_
                                        rotate_left
                                        · intro w'
                                          go_simp
                                          with_reducible rfl
                                        rotate_left
                                        · simp only [Act.put, List.setIfInBounds_toArray, List.set_cons_zero, List.set_cons_succ, i64_w, i32_w]
                                          rfl
                                        refine pure_ (i := 18) (N := some 104) (v := ?_) (a' := ?_) #[true, true, true, true, true, true, true, true, true, true, true, true, true, true, true, true, true, true, true, false, false, false, false, false, false, false, false, false, false, false, false, false, false, false, false, false, false, false, false, false, false, false] rfl rfl (any_of HT_.out (by kernel_rfl)) (fun _ _ _ h => h) (Or.inl ⟨by rfl, ?_⟩) ?_ ?_
                                        rotate_left
                                        · intro w'
                                          go_simp
                                          with_reducible rfl
                                        rotate_left
                                        · simp only [Act.put, List.setIfInBounds_toArray, List.set_cons_zero, List.set_cons_succ, i64_w, i32_w]
                                          rfl
                                        refine pure_ (i := 19) (N := some 105) (v := ?_) (a' := ?_) #[true, true, true, true, true, true, true, true, true, true, true, true, true, true, true, true, true, true, true, true, false, false, false, false, false, false, false, false, false, false, false, false, false, false, false, false, false, false, false, false, false, false] rfl rfl (any_of HT_.out (by kernel_rfl)) (fun _ _ _ h => h) (Or.inl ⟨by rfl, ?_⟩) ?_ ?_
                                        rotate_left
                                        · intro w'
                                          go_simp
                                          with_reducible rfl
                                        rotate_left
                                        · simp only [Act.put, List.setIfInBounds_toArray, List.set_cons_zero, List.set_cons_succ, i64_w, i32_w]
                                          rfl
                                        refine pure_ (i := 20) (N := some 106) (v := ?_) (a' := ?_) #[true, true, true, true, true, true, true, true, true, true, true, true, true, true, true, true, true, true, true, true, true, false, false, false, false, false, false, false, false, false, false, false, false, false, false, false, false, false, false, false, false, false] rfl rfl (any_of HT_.out (by kernel_rfl)) (fun _ _ _ h => h) (Or.inl ⟨by rfl, ?_⟩) ?_ ?_
                                        rotate_left
                                        · intro w'
                                          go_simp
                                          with_reducible rfl
                                        rotate_left
                                        · simp only [Act.put, List.setIfInBounds_toArray, List.set_cons_zero, List.set_cons_succ, i64_w, i32_w]
                                          rfl
                                        refine pure_ (i := 21) (N := some 107) (v := ?_) (a' := ?_) #[true, true, true, true, true, true, true, true, true, true, true, true, true, true, true, true, true, true, true, true, true, true, false, false, false, false, false, false, false, false, false, false, false, false, false, false, false, false, false, false, false, false] rfl rfl (any_of HT_.out (by kernel_rfl)) (fun _ _ _ h => h) (Or.inl ⟨by rfl, ?_⟩) ?_ ?_
                                        rotate_left
                                        · intro w'
                                          go_simp
                                          with_reducible rfl
                                        rotate_left
                                        · simp only [Act.put, List.setIfInBounds_toArray, List.set_cons_zero, List.set_cons_succ, i64_w, i32_w]
                                          rfl
                                        refine pure_ (i := 22) (N := some 108) (v := ?_) (a' := ?_) #[true, true, true, true, true, true, true, true, true, true, true, true, true, true, true, true, true, true, true, true, true, true, true, false, false, false, false, false, false, false, false, false, false, false, false, false, false, false, false, false, false, false] rfl rfl (any_of HT_.out (by kernel_rfl)) (fun _ _ _ h => h) (Or.inl ⟨by rfl, ?_⟩) ?_ ?_
                                        rotate_left
                                        · intro w'
                                          go_simp
                                          with_reducible rfl
                                        rotate_left
                                        · simp only [Act.put, List.setIfInBounds_toArray, List.set_cons_zero, List.set_cons_succ, i64_w, i32_w]
                                          rfl
                                        refine pure_ (i := 23) (N := some 109) (v := ?_) (a' := ?_) #[true, true, true, true, true, true, true, true, true, true, true, true, true, true, true, true, true, true, true, true, true, true, true, true, false, false, false, false, false, false, false, false, false, false, false, false, false, false, false, false, false, false] rfl rfl (any_of HT_.out (by kernel_rfl)) (fun _ _ _ h => h) (Or.inl ⟨by rfl, ?_⟩) ?_ ?_
                                        rotate_left
                                        · intro w'
                                          go_simp
                                          with_reducible rfl
                                        rotate_left
                                        · simp only [Act.put, List.setIfInBounds_toArray, List.set_cons_zero, List.set_cons_succ, i64_w, i32_w]
                                          rfl
                                        refine pure_ (i := 24) (N := some 110) (v := ?_) (a' := ?_) #[true, true, true, true, true, true, true, true, true, true, true, true, true, true, true, true, true, true, true, true, true, true, true, true, true, false, false, false, false, false, false, false, false, false, false, false, false, false, false, false, false, false] rfl rfl (any_of HT_.out (by kernel_rfl)) (fun _ _ _ h => h) (Or.inl ⟨by rfl, ?_⟩) ?_ ?_
                                        rotate_left
                                        · intro w'
                                          go_simp
                                          with_reducible rfl
                                        rotate_left
                                        · simp only [Act.put, List.setIfInBounds_toArray, List.set_cons_zero, List.set_cons_succ, i64_w, i32_w]
                                          rfl
                                        refine pure_ (i := 25) (N := some 111) (v := ?_) (a' := ?_) #[true, true, true, true, true, true, true, true, true, true, true, true, true, true, true, true, true, true, true, true, true, true, true, true, true, true, false, false, false, false, false, false, false, false, false, false, false, false, false, false, false, false] rfl rfl (any_of HT_.out (by kernel_rfl)) (fun _ _ _ h => h) (Or.inl ⟨by rfl, ?_⟩) ?_ ?_
                                        rotate_left
                                        · intro w'
                                          go_simp
                                          with_reducible rfl
                                        rotate_left
                                        · simp only [Act.put, List.setIfInBounds_toArray, List.set_cons_zero, List.set_cons_succ, i64_w, i32_w]
                                          rfl
                                        refine pure_ (i := 26) (N := some 112) (v := ?_) (a' := ?_) #[true, true, true, true, true, true, true, true, true, true, true, true, true, true, true, true, true, true, true, true, true, true, true, true, true, true, true, false, false, false, false, false, false, false, false, false, false, false, false, false, false, false] rfl rfl (any_of HT_.out (by kernel_rfl)) (fun _ _ _ h => h) (Or.inl ⟨by rfl, ?_⟩) ?_ ?_
                                        rotate_left
                                        · intro w'
                                          go_simp
                                          with_reducible rfl
                                        rotate_left
                                        · simp only [Act.put, List.setIfInBounds_toArray, List.set_cons_zero, List.set_cons_succ, i64_w, i32_w]
                                          rfl
                                        refine pure_ (i := 27) (N := some 113) (v := ?_) (a' := ?_) #[true, true, true, true, true, true, true, true, true, true, true, true, true, true, true, true, true, true, true, true, true, true, true, true, true, true, true, true, false, false, false, false, false, false, false, false, false, false, false, false, false, false] rfl rfl (any_of HT_.out (by kernel_rfl)) (fun _ _ _ h => h) (Or.inl ⟨by rfl, ?_⟩) ?_ ?_
                                        rotate_left
                                        · intro w'
                                          go_simp
                                          with_reducible rfl
                                        rotate_left
                                        · simp only [Act.put, List.setIfInBounds_toArray, List.set_cons_zero, List.set_cons_succ, i64_w, i32_w]
                                          rfl
                                        refine pure_ (i := 28) (N := some 114) (v := ?_) (a' := ?_) #[true, true, true, true, true, true, true, true, true, true, true, true, true, true, true, true, true, true, true, true, true, true, true, true, true, true, true, true, true, false, false, false, false, false, false, false, false, false, false, false, false, false] rfl rfl (any_of HT_.out (by kernel_rfl)) (fun _ _ _ h => h) (Or.inl ⟨by rfl, ?_⟩) ?_ ?_
                                        rotate_left
                                        · intro w'
                                          go_simp
                                          with_reducible rfl
                                        rotate_left
                                        · simp only [Act.put, List.setIfInBounds_toArray, List.set_cons_zero, List.set_cons_succ, i64_w, i32_w]
                                          rfl
                                        refine pure_ (i := 29) (N := some 115) (v := ?_) (a' := ?_) #[true, true, true, true, true, true, true, true, true, true, true, true, true, true, true, true, true, true, true, true, true, true, true, true, true, true, true, true, true, true, false, false, false, false, false, false, false, false, false, false, false, false] rfl rfl (any_of HT_.out (by kernel_rfl)) (fun _ _ _ h => h) (Or.inl ⟨by rfl, ?_⟩) ?_ ?_
                                        rotate_left
                                        · intro w'
                                          go_simp
                                          with_reducible rfl
                                        rotate_left
                                        · simp only [Act.put, List.setIfInBounds_toArray, List.set_cons_zero, List.set_cons_succ, i64_w, i32_w]
                                          rfl
                                        refine pure_ (i := 30) (N := some 116) (v := ?_) (a' := ?_) #[true, true, true, true, true, true, true, true, true, true, true, true, true, true, true, true, true, true, true, true, true, true, true, true, true, true, true, true, true, true, true, false, false, false, false, false, false, false, false, false, false, false] rfl rfl (any_of HT_.out (by kernel_rfl)) (fun _ _ _ h => h) (Or.inl ⟨by rfl, ?_⟩) ?_ ?_
                                        rotate_left
                                        · intro w'
                                          go_simp
                                          with_reducible rfl
                                        rotate_left
                                        · simp only [Act.put, List.setIfInBounds_toArray, List.set_cons_zero, List.set_cons_succ, i64_w, i32_w]
                                          rfl
                                        refine pure_ (i := 31) (N := some 117) (v := ?_) (a' := ?_) #[true, true, true, true, true, true, true, true, true, true, true, true, true, true, true, true, true, true, true, true, true, true, true, true, true, true, true, true, true, true, true, true, false, false, false, false, false, false, false, false, false, false] rfl rfl (any_of HT_.out (by kernel_rfl)) (fun _ _ _ h => h) (Or.inl ⟨by rfl, ?_⟩) ?_ ?_
                                        rotate_left
                                        · intro w'
                                          go_simp
                                          with_reducible rfl
                                        rotate_left
                                        · simp only [Act.put, List.setIfInBounds_toArray, List.set_cons_zero, List.set_cons_succ, i64_w, i32_w]
                                          rfl
                                        refine pure_ (i := 32) (N := some 118) (v := ?_) (a' := ?_) #[true, true, true, true, true, true, true, true, true, true, true, true, true, true, true, true, true, true, true, true, true, true, true, true, true, true, true, true, true, true, true, true, true, false, false, false, false, false, false, false, false, false] rfl rfl (any_of HT_.out (by kernel_rfl)) (fun _ _ _ h => h) (Or.inl ⟨by rfl, ?_⟩) ?_ ?_
                                        rotate_left
                                        · intro w'
                                          go_simp
                                          with_reducible rfl
                                        rotate_left
                                        · simp only [Act.put, List.setIfInBounds_toArray, List.set_cons_zero, List.set_cons_succ, i64_w, i32_w]
                                          rfl
                                        refine pure_ (i := 33) (N := some 119) (v := ?_) (a' := ?_) #[true, true, true, true, true, true, true, true, true, true, true, true, true, true, true, true, true, true, true, true, true, true, true, true, true, true, true, true, true, true, true, true, true, true, false, false, false, false, false, false, false, false] rfl rfl (any_of HT_.out (by kernel_rfl)) (fun _ _ _ h => h) (Or.inl ⟨by rfl, ?_⟩) ?_ ?_
                                        rotate_left
                                        · intro w'
                                          go_simp
                                          with_reducible rfl
                                        rotate_left
                                        · simp only [Act.put, List.setIfInBounds_toArray, List.set_cons_zero, List.set_cons_succ, i64_w, i32_w]
                                          rfl
                                        refine pure_ (i := 34) (N := some 120) (v := ?_) (a' := ?_) #[true, true, true, true, true, true, true, true, true, true, true, true, true, true, true, true, true, true, true, true, true, true, true, true, true, true, true, true, true, true, true, true, true, true, true, false, false, false, false, false, false, false] rfl rfl (any_of HT_.out (by kernel_rfl)) (fun _ _ _ h => h) (Or.inl ⟨by rfl, ?_⟩) ?_ ?_
                                        rotate_left
                                        · intro w'
                                          go_simp
                                          with_reducible rfl
                                        rotate_left
                                        · simp only [Act.put, List.setIfInBounds_toArray, List.set_cons_zero, List.set_cons_succ, i64_w, i32_w]
                                          rfl
                                        refine pure_ (i := 35) (N := some 121) (v := ?_) (a' := ?_) #[true, true, true, true, true, true, true, true, true, true, true, true, true, true, true, true, true, true, true, true, true, true, true, true, true, true, true, true, true, true, true, true, true, true, true, true, false, false, false, false, false, false] rfl rfl (any_of HT_.out (by kernel_rfl)) (fun _ _ _ h => h) (Or.inl ⟨by rfl, ?_⟩) ?_ ?_
                                        rotate_left
                                        · intro w'
                                          go_simp
                                          with_reducible rfl
                                        rotate_left
                                        · simp only [Act.put, List.setIfInBounds_toArray, List.set_cons_zero, List.set_cons_succ, i64_w, i32_w]
                                          rfl
                                        refine pure_ (i := 36) (N := some 122) (v := ?_) (a' := ?_) #[true, true, true, true, true, true, true, true, true, true, true, true, true, true, true, true, true, true, true, true, true, true, true, true, true, true, true, true, true, true, true, true, true, true, true, true, true, false, false, false, false, false] rfl rfl (any_of HT_.out (by kernel_rfl)) (fun _ _ _ h => h) (Or.inl ⟨by rfl, ?_⟩) ?_ ?_
                                        rotate_left
                                        · intro w'
                                          go_simp
                                          with_reducible rfl
                                        rotate_left
                                        · simp only [Act.put, List.setIfInBounds_toArray, List.set_cons_zero, List.set_cons_succ, i64_w, i32_w]
                                          rfl
                                        refine pure_ (i := 37) (N := some 123) (v := ?_) (a' := ?_) #[true, true, true, true, true, true, true, true, true, true, true, true, true, true, true, true, true, true, true, true, true, true, true, true, true, true, true, true, true, true, true, true, true, true, true, true, true, true, false, false, false, false] rfl rfl (any_of HT_.out (by kernel_rfl)) (fun _ _ _ h => h) (Or.inl ⟨by rfl, ?_⟩) ?_ ?_
                                        rotate_left
                                        · intro w'
                                          go_simp
                                          with_reducible rfl
                                        rotate_left
                                        · simp only [Act.put, List.setIfInBounds_toArray, List.set_cons_zero, List.set_cons_succ, i64_w, i32_w]
                                          rfl
                                        refine pure_ (i := 38) (N := some 124) (v := ?_) (a' := ?_) #[true, true, true, true, true, true, true, true, true, true, true, true, true, true, true, true, true, true, true, true, true, true, true, true, true, true, true, true, true, true, true, true, true, true, true, true, true, true, true, false, false, false] rfl rfl (any_of HT_.out (by kernel_rfl)) (fun _ _ _ h => h) (Or.inl ⟨by rfl, ?_⟩) ?_ ?_
                                        rotate_left
                                        · intro w'
                                          go_simp
                                          with_reducible rfl
                                        rotate_left
                                        · simp only [Act.put, List.setIfInBounds_toArray, List.set_cons_zero, List.set_cons_succ, i64_w, i32_w]
                                          rfl
                                        refine pure_ (i := 39) (N := some 125) (v := ?_) (a' := ?_) #[true, true, true, true, true, true, true, true, true, true, true, true, true, true, true, true, true, true, true, true, true, true, true, true, true, true, true, true, true, true, true, true, true, true, true, true, true, true, true, true, false, false] rfl rfl (any_of HT_.out (by kernel_rfl)) (fun _ _ _ h => h) (Or.inl ⟨by rfl, ?_⟩) ?_ ?_
                                        rotate_left
                                        · intro w'
                                          go_simp
                                          with_reducible rfl
                                        rotate_left
                                        · simp only [Act.put, List.setIfInBounds_toArray, List.set_cons_zero, List.set_cons_succ, i64_w, i32_w]
                                          rfl
                                        refine pure_ (i := 40) (N := some 126) (v := ?_) (a' := ?_) #[true, true, true, true, true, true, true, true, true, true, true, true, true, true, true, true, true, true, true, true, true, true, true, true, true, true, true, true, true, true, true, true, true, true, true, true, true, true, true, true, true, false] rfl rfl (any_of HT_.out (by kernel_rfl)) (fun _ _ _ h => h) (Or.inl ⟨by rfl, ?_⟩) ?_ ?_
                                        rotate_left
                                        · intro w'
                                          go_simp
                                          with_reducible rfl
                                        rotate_left
                                        · simp only [Act.put, List.setIfInBounds_toArray, List.set_cons_zero, List.set_cons_succ, i64_w, i32_w]
                                          rfl
                                        refine pure_ (i := 41) (N := some 6) (v := ?_) (a' := ?_) #[true, true, true, true, true, true, true, true, true, true, true, true, true, true, true, true, true, true, true, true, true, true, true, true, true, true, true, true, true, true, true, true, true, true, true, true, true, true, true, true, true, true] rfl rfl (any_of HT_.out (by kernel_rfl)) (fun _ _ _ h => h) (Or.inl ⟨by rfl, ?_⟩) ?_ ?_
                                        rotate_left
                                        · intro w'
                                          go_simp
                                          with_reducible rfl
                                        rotate_left
                                        · simp only [Act.put, List.setIfInBounds_toArray, List.set_cons_zero, List.set_cons_succ, i64_w, i32_w]
                                          rfl
                                        refine done_ (done_of HT_.out (by kernel_rfl)) ?_
                                        try go_wp2
                                        go_ret
                                        exact ⟨by first | rfl | (simp [errW_none, errW_some] <;> rfl) | (rw [HR_.out]; done) | (rw [← HR_.out]; done) | (have hR_ := HR_.out; simp only [hR_]; done) | (have hR_ := HR_.out; simp only [ByteArray.size_append] at hR_; exact congrArg (fun b_ => Ending.returned (.bool b_)) hR_) | (have hR_ := HR_.out; simp_all; done) | (simp only [← hji18, ← hji20, ← hji28, ← hji34]; first | rfl | (simp [errW_none, errW_some] <;> rfl)) | (simp [*, errW_none, errW_some] <;> rfl), by repeat (first | (with_reducible first | exact HB.out | apply below_alloc | apply pw_below_drewN | apply below_drew1 | refine below_set ?_ GE146.out) | exact HB.out)⟩
                                      · rw [if_neg c38] at H
                                        exact absurd H (by simp)
                                    · rw [if_neg c36] at H
                                      exact absurd H (by simp)
                                  · rw [if_neg c35] at H
                                    exact absurd H (by simp)
                                · rw [if_neg c33] at H
                                  have c33b0 : ((t149.extract 0 ((ji28) : Int).toNat).toList == ((t148 ++ (⟨#[49, 50, 51, 52, 53, 54, 55, 56]⟩ : ByteArray)).extract 0 ((ji28) : Int).toNat).toList) = false := beq_eq_false_iff_ne.mpr c33
                                  have c33b1 : ((t149.extract 0 ((ji28) : Int).toNat).toList != ((t148 ++ (⟨#[49, 50, 51, 52, 53, 54, 55, 56]⟩ : ByteArray)).extract 0 ((ji28) : Int).toNat).toList) = true := bne_iff_ne.mpr c33
                                  exact absurd H (by simp)
                              · rw [if_neg c32] at H
                                exact absurd H (by simp)
                            · rw [if_neg c30] at H
                              exact absurd H (by simp)
                          · rw [if_neg c29] at H
                            exact absurd H (by simp)
                        · rw [if_neg c27] at H
                          have c27b0 : (t153.toList == t155.toList) = false := beq_eq_false_iff_ne.mpr c27
                          have c27b1 : (t153.toList != t155.toList) = true := bne_iff_ne.mpr c27
                          exact absurd H (by simp)
                      · replace c25 := Bool.eq_false_iff.mpr c25
                        subst c25
                        have H1 : (some false) = some true := by rw [if_neg (show ¬ (false = true) by decide)] at H; exact H
                        clear H
                        have H := H1
                        clear H1
                        exact absurd H (by simp)
                    · rw [if_neg c24] at H
                      have c24b0 : (t151 == (Go.bits .and .u64 a2 (IntKind.u64.wrap ((ji20) - 1)))) = false := beq_eq_false_iff_ne.mpr c24
                      have c24b1 : (t151 != (Go.bits .and .u64 a2 (IntKind.u64.wrap ((ji20) - 1)))) = true := bne_iff_ne.mpr c24
                      exact absurd H (by simp)
                  · replace c23 := Bool.eq_false_iff.mpr c23
                    subst c23
                    have H1 : (some false) = some true := by rw [if_neg (show ¬ (false = true) by decide)] at H; exact H
                    clear H
                    have H := H1
                    clear H1
                    exact absurd H (by simp)
                · replace c22 := Bool.eq_false_iff.mpr c22
                  subst c22
                  have H1 : (some false) = some true := by rw [if_neg (show ¬ (false = true) by decide)] at H; exact H
                  clear H
                  have H := H1
                  clear H1
                  exact absurd H (by simp)
              · rw [if_neg c19] at H
                exact absurd H (by simp)
            · rw [if_neg c17] at H
              have c17b0 : decide ((wrap64 (1 + (Go.bits .and .i64 a1_1 7))) < 8) = false := decide_eq_false c17
              clear c17
              replace H := Option.bind_eq_some_iff.mp H
              obtain ⟨⟨t156, t157⟩, A410, H⟩ := H
              replace H : (if t147 = true then (if t152 = true then (if t151 = a2 then (if t157 = true then ((octet_Put.f kj8 a2 (wrap64 (1 + (Go.bits .and .i64 a1_1 7)))).bind fun t158 => (if t156.toList = t158.toList then (if 0 ≤ (Int.tmod (wrap64 ((wrap64 ((wrap64 ((Int.tmod a1_0 (wrap64 ((wrap64 (((t148.size : Int) + 8) - (wrap64 (1 + (Go.bits .and .i64 a1_1 7))))) + 1))) + ((t148.size : Int) + 8))) - (wrap64 (1 + (Go.bits .and .i64 a1_1 7))))) + 1)) (wrap64 ((wrap64 (((t148.size : Int) + 8) - (wrap64 (1 + (Go.bits .and .i64 a1_1 7))))) + 1))) then (if (Int.tmod (wrap64 ((wrap64 ((wrap64 ((Int.tmod a1_0 (wrap64 ((wrap64 (((t148.size : Int) + 8) - (wrap64 (1 + (Go.bits .and .i64 a1_1 7))))) + 1))) + ((t148.size : Int) + 8))) - (wrap64 (1 + (Go.bits .and .i64 a1_1 7))))) + 1)) (wrap64 ((wrap64 (((t148.size : Int) + 8) - (wrap64 (1 + (Go.bits .and .i64 a1_1 7))))) + 1))) ≤ (t149.size : Int) then (if (Int.tmod (wrap64 ((wrap64 ((wrap64 ((Int.tmod a1_0 (wrap64 ((wrap64 (((t148.size : Int) + 8) - (wrap64 (1 + (Go.bits .and .i64 a1_1 7))))) + 1))) + ((t148.size : Int) + 8))) - (wrap64 (1 + (Go.bits .and .i64 a1_1 7))))) + 1)) (wrap64 ((wrap64 (((t148.size : Int) + 8) - (wrap64 (1 + (Go.bits .and .i64 a1_1 7))))) + 1))) ≤ ((t148 ++ (⟨#[49, 50, 51, 52, 53, 54, 55, 56]⟩ : ByteArray)).size : Int) then (if (t149.extract 0 ((Int.tmod (wrap64 ((wrap64 ((wrap64 ((Int.tmod a1_0 (wrap64 ((wrap64 (((t148.size : Int) + 8) - (wrap64 (1 + (Go.bits .and .i64 a1_1 7))))) + 1))) + ((t148.size : Int) + 8))) - (wrap64 (1 + (Go.bits .and .i64 a1_1 7))))) + 1)) (wrap64 ((wrap64 (((t148.size : Int) + 8) - (wrap64 (1 + (Go.bits .and .i64 a1_1 7))))) + 1))) : Int).toNat).toList = ((t148 ++ (⟨#[49, 50, 51, 52, 53, 54, 55, 56]⟩ : ByteArray)).extract 0 ((Int.tmod (wrap64 ((wrap64 ((wrap64 ((Int.tmod a1_0 (wrap64 ((wrap64 (((t148.size : Int) + 8) - (wrap64 (1 + (Go.bits .and .i64 a1_1 7))))) + 1))) + ((t148.size : Int) + 8))) - (wrap64 (1 + (Go.bits .and .i64 a1_1 7))))) + 1)) (wrap64 ((wrap64 (((t148.size : Int) + 8) - (wrap64 (1 + (Go.bits .and .i64 a1_1 7))))) + 1))) : Int).toNat).toList then (if 0 ≤ (wrap64 ((Int.tmod (wrap64 ((wrap64 ((wrap64 ((Int.tmod a1_0 (wrap64 ((wrap64 (((t148.size : Int) + 8) - (wrap64 (1 + (Go.bits .and .i64 a1_1 7))))) + 1))) + ((t148.size : Int) + 8))) - (wrap64 (1 + (Go.bits .and .i64 a1_1 7))))) + 1)) (wrap64 ((wrap64 (((t148.size : Int) + 8) - (wrap64 (1 + (Go.bits .and .i64 a1_1 7))))) + 1))) + (wrap64 (1 + (Go.bits .and .i64 a1_1 7))))) then (if (wrap64 ((Int.tmod (wrap64 ((wrap64 ((wrap64 ((Int.tmod a1_0 (wrap64 ((wrap64 (((t148.size : Int) + 8) - (wrap64 (1 + (Go.bits .and .i64 a1_1 7))))) + 1))) + ((t148.size : Int) + 8))) - (wrap64 (1 + (Go.bits .and .i64 a1_1 7))))) + 1)) (wrap64 ((wrap64 (((t148.size : Int) + 8) - (wrap64 (1 + (Go.bits .and .i64 a1_1 7))))) + 1))) + (wrap64 (1 + (Go.bits .and .i64 a1_1 7))))) ≤ (t149.size : Int) then (if (wrap64 ((Int.tmod (wrap64 ((wrap64 ((wrap64 ((Int.tmod a1_0 (wrap64 ((wrap64 (((t148.size : Int) + 8) - (wrap64 (1 + (Go.bits .and .i64 a1_1 7))))) + 1))) + ((t148.size : Int) + 8))) - (wrap64 (1 + (Go.bits .and .i64 a1_1 7))))) + 1)) (wrap64 ((wrap64 (((t148.size : Int) + 8) - (wrap64 (1 + (Go.bits .and .i64 a1_1 7))))) + 1))) + (wrap64 (1 + (Go.bits .and .i64 a1_1 7))))) ≤ ((t148 ++ (⟨#[49, 50, 51, 52, 53, 54, 55, 56]⟩ : ByteArray)).size : Int) then (some ((t149.extract ((wrap64 ((Int.tmod (wrap64 ((wrap64 ((wrap64 ((Int.tmod a1_0 (wrap64 ((wrap64 (((t148.size : Int) + 8) - (wrap64 (1 + (Go.bits .and .i64 a1_1 7))))) + 1))) + ((t148.size : Int) + 8))) - (wrap64 (1 + (Go.bits .and .i64 a1_1 7))))) + 1)) (wrap64 ((wrap64 (((t148.size : Int) + 8) - (wrap64 (1 + (Go.bits .and .i64 a1_1 7))))) + 1))) + (wrap64 (1 + (Go.bits .and .i64 a1_1 7))))) : Int).toNat t149.size).toList == ((t148 ++ (⟨#[49, 50, 51, 52, 53, 54, 55, 56]⟩ : ByteArray)).extract ((wrap64 ((Int.tmod (wrap64 ((wrap64 ((wrap64 ((Int.tmod a1_0 (wrap64 ((wrap64 (((t148.size : Int) + 8) - (wrap64 (1 + (Go.bits .and .i64 a1_1 7))))) + 1))) + ((t148.size : Int) + 8))) - (wrap64 (1 + (Go.bits .and .i64 a1_1 7))))) + 1)) (wrap64 ((wrap64 (((t148.size : Int) + 8) - (wrap64 (1 + (Go.bits .and .i64 a1_1 7))))) + 1))) + (wrap64 (1 + (Go.bits .and .i64 a1_1 7))))) : Int).toNat (t148 ++ (⟨#[49, 50, 51, 52, 53, 54, 55, 56]⟩ : ByteArray)).size).toList)) else (none)) else (none)) else (none)) else (some false)) else (none)) else (none)) else (none)) else (some false))) else (some false)) else (some false)) else (some false)) else (some false)) = some true := H
              have A41 := Aside0.mk A410
              clear A410
              by_cases c42 : t147 = true
              · subst c42
                have H1 : (if t152 = true then (if t151 = a2 then (if t157 = true then ((octet_Put.f kj8 a2 (wrap64 (1 + (Go.bits .and .i64 a1_1 7)))).bind fun t158 => (if t156.toList = t158.toList then (if 0 ≤ (Int.tmod (wrap64 ((wrap64 ((wrap64 ((Int.tmod a1_0 (wrap64 ((wrap64 (((t148.size : Int) + 8) - (wrap64 (1 + (Go.bits .and .i64 a1_1 7))))) + 1))) + ((t148.size : Int) + 8))) - (wrap64 (1 + (Go.bits .and .i64 a1_1 7))))) + 1)) (wrap64 ((wrap64 (((t148.size : Int) + 8) - (wrap64 (1 + (Go.bits .and .i64 a1_1 7))))) + 1))) then (if (Int.tmod (wrap64 ((wrap64 ((wrap64 ((Int.tmod a1_0 (wrap64 ((wrap64 (((t148.size : Int) + 8) - (wrap64 (1 + (Go.bits .and .i64 a1_1 7))))) + 1))) + ((t148.size : Int) + 8))) - (wrap64 (1 + (Go.bits .and .i64 a1_1 7))))) + 1)) (wrap64 ((wrap64 (((t148.size : Int) + 8) - (wrap64 (1 + (Go.bits .and .i64 a1_1 7))))) + 1))) ≤ (t149.size : Int) then (if (Int.tmod (wrap64 ((wrap64 ((wrap64 ((Int.tmod a1_0 (wrap64 ((wrap64 (((t148.size : Int) + 8) - (wrap64 (1 + (Go.bits .and .i64 a1_1 7))))) + 1))) + ((t148.size : Int) + 8))) - (wrap64 (1 + (Go.bits .and .i64 a1_1 7))))) + 1)) (wrap64 ((wrap64 (((t148.size : Int) + 8) - (wrap64 (1 + (Go.bits .and .i64 a1_1 7))))) + 1))) ≤ ((t148 ++ (⟨#[49, 50, 51, 52, 53, 54, 55, 56]⟩ : ByteArray)).size : Int) then (if (t149.extract 0 ((Int.tmod (wrap64 ((wrap64 ((wrap64 ((Int.tmod a1_0 (wrap64 ((wrap64 (((t148.size : Int) + 8) - (wrap64 (1 + (Go.bits .and .i64 a1_1 7))))) + 1))) + ((t148.size : Int) + 8))) - (wrap64 (1 + (Go.bits .and .i64 a1_1 7))))) + 1)) (wrap64 ((wrap64 (((t148.size : Int) + 8) - (wrap64 (1 + (Go.bits .and .i64 a1_1 7))))) + 1))) : Int).toNat).toList = ((t148 ++ (⟨#[49, 50, 51, 52, 53, 54, 55, 56]⟩ : ByteArray)).extract 0 ((Int.tmod (wrap64 ((wrap64 ((wrap64 ((Int.tmod a1_0 (wrap64 ((wrap64 (((t148.size : Int) + 8) - (wrap64 (1 + (Go.bits .and .i64 a1_1 7))))) + 1))) + ((t148.size : Int) + 8))) - (wrap64 (1 + (Go.bits .and .i64 a1_1 7))))) + 1)) (wrap64 ((wrap64 (((t148.size : Int) + 8) - (wrap64 (1 + (Go.bits .and .i64 a1_1 7))))) + 1))) : Int).toNat).toList then (if 0 ≤ (wrap64 ((Int.tmod (wrap64 ((wrap64 ((wrap64 ((Int.tmod a1_0 (wrap64 ((wrap64 (((t148.size : Int) + 8) - (wrap64 (1 + (Go.bits .and .i64 a1_1 7))))) + 1))) + ((t148.size : Int) + 8))) - (wrap64 (1 + (Go.bits .and .i64 a1_1 7))))) + 1)) (wrap64 ((wrap64 (((t148.size : Int) + 8) - (wrap64 (1 + (Go.bits .and .i64 a1_1 7))))) + 1))) + (wrap64 (1 + (Go.bits .and .i64 a1_1 7))))) then (if (wrap64 ((Int.tmod (wrap64 ((wrap64 ((wrap64 ((Int.tmod a1_0 (wrap64 ((wrap64 (((t148.size : Int) + 8) - (wrap64 (1 + (Go.bits .and .i64 a1_1 7))))) + 1))) + ((t148.size : Int) + 8))) - (wrap64 (1 + (Go.bits .and .i64 a1_1 7))))) + 1)) (wrap64 ((wrap64 (((t148.size : Int) + 8) - (wrap64 (1 + (Go.bits .and .i64 a1_1 7))))) + 1))) + (wrap64 (1 + (Go.bits .and .i64 a1_1 7))))) ≤ (t149.size : Int) then (if (wrap64 ((Int.tmod (wrap64 ((wrap64 ((wrap64 ((Int.tmod a1_0 (wrap64 ((wrap64 (((t148.size : Int) + 8) - (wrap64 (1 + (Go.bits .and .i64 a1_1 7))))) + 1))) + ((t148.size : Int) + 8))) - (wrap64 (1 + (Go.bits .and .i64 a1_1 7))))) + 1)) (wrap64 ((wrap64 (((t148.size : Int) + 8) - (wrap64 (1 + (Go.bits .and .i64 a1_1 7))))) + 1))) + (wrap64 (1 + (Go.bits .and .i64 a1_1 7))))) ≤ ((t148 ++ (⟨#[49, 50, 51, 52, 53, 54, 55, 56]⟩ : ByteArray)).size : Int) then (some ((t149.extract ((wrap64 ((Int.tmod (wrap64 ((wrap64 ((wrap64 ((Int.tmod a1_0 (wrap64 ((wrap64 (((t148.size : Int) + 8) - (wrap64 (1 + (Go.bits .and .i64 a1_1 7))))) + 1))) + ((t148.size : Int) + 8))) - (wrap64 (1 + (Go.bits .and .i64 a1_1 7))))) + 1)) (wrap64 ((wrap64 (((t148.size : Int) + 8) - (wrap64 (1 + (Go.bits .and .i64 a1_1 7))))) + 1))) + (wrap64 (1 + (Go.bits .and .i64 a1_1 7))))) : Int).toNat t149.size).toList == ((t148 ++ (⟨#[49, 50, 51, 52, 53, 54, 55, 56]⟩ : ByteArray)).extract ((wrap64 ((Int.tmod (wrap64 ((wrap64 ((wrap64 ((Int.tmod a1_0 (wrap64 ((wrap64 (((t148.size : Int) + 8) - (wrap64 (1 + (Go.bits .and .i64 a1_1 7))))) + 1))) + ((t148.size : Int) + 8))) - (wrap64 (1 + (Go.bits .and .i64 a1_1 7))))) + 1)) (wrap64 ((wrap64 (((t148.size : Int) + 8) - (wrap64 (1 + (Go.bits .and .i64 a1_1 7))))) + 1))) + (wrap64 (1 + (Go.bits .and .i64 a1_1 7))))) : Int).toNat (t148 ++ (⟨#[49, 50, 51, 52, 53, 54, 55, 56]⟩ : ByteArray)).size).toList)) else (none)) else (none)) else (none)) else (some false)) else (none)) else (none)) else (none)) else (some false))) else (some false)) else (some false)) else (some false)) = some true := by rw [if_pos rfl] at H; exact H
                clear H
                have H := H1
                clear H1
                by_cases c43 : t152 = true
                · subst c43
                  have H1 : (if t151 = a2 then (if t157 = true then ((octet_Put.f kj8 a2 (wrap64 (1 + (Go.bits .and .i64 a1_1 7)))).bind fun t158 => (if t156.toList = t158.toList then (if 0 ≤ (Int.tmod (wrap64 ((wrap64 ((wrap64 ((Int.tmod a1_0 (wrap64 ((wrap64 (((t148.size : Int) + 8) - (wrap64 (1 + (Go.bits .and .i64 a1_1 7))))) + 1))) + ((t148.size : Int) + 8))) - (wrap64 (1 + (Go.bits .and .i64 a1_1 7))))) + 1)) (wrap64 ((wrap64 (((t148.size : Int) + 8) - (wrap64 (1 + (Go.bits .and .i64 a1_1 7))))) + 1))) then (if (Int.tmod (wrap64 ((wrap64 ((wrap64 ((Int.tmod a1_0 (wrap64 ((wrap64 (((t148.size : Int) + 8) - (wrap64 (1 + (Go.bits .and .i64 a1_1 7))))) + 1))) + ((t148.size : Int) + 8))) - (wrap64 (1 + (Go.bits .and .i64 a1_1 7))))) + 1)) (wrap64 ((wrap64 (((t148.size : Int) + 8) - (wrap64 (1 + (Go.bits .and .i64 a1_1 7))))) + 1))) ≤ (t149.size : Int) then (if (Int.tmod (wrap64 ((wrap64 ((wrap64 ((Int.tmod a1_0 (wrap64 ((wrap64 (((t148.size : Int) + 8) - (wrap64 (1 + (Go.bits .and .i64 a1_1 7))))) + 1))) + ((t148.size : Int) + 8))) - (wrap64 (1 + (Go.bits .and .i64 a1_1 7))))) + 1)) (wrap64 ((wrap64 (((t148.size : Int) + 8) - (wrap64 (1 + (Go.bits .and .i64 a1_1 7))))) + 1))) ≤ ((t148 ++ (⟨#[49, 50, 51, 52, 53, 54, 55, 56]⟩ : ByteArray)).size : Int) then (if (t149.extract 0 ((Int.tmod (wrap64 ((wrap64 ((wrap64 ((Int.tmod a1_0 (wrap64 ((wrap64 (((t148.size : Int) + 8) - (wrap64 (1 + (Go.bits .and .i64 a1_1 7))))) + 1))) + ((t148.size : Int) + 8))) - (wrap64 (1 + (Go.bits .and .i64 a1_1 7))))) + 1)) (wrap64 ((wrap64 (((t148.size : Int) + 8) - (wrap64 (1 + (Go.bits .and .i64 a1_1 7))))) + 1))) : Int).toNat).toList = ((t148 ++ (⟨#[49, 50, 51, 52, 53, 54, 55, 56]⟩ : ByteArray)).extract 0 ((Int.tmod (wrap64 ((wrap64 ((wrap64 ((Int.tmod a1_0 (wrap64 ((wrap64 (((t148.size : Int) + 8) - (wrap64 (1 + (Go.bits .and .i64 a1_1 7))))) + 1))) + ((t148.size : Int) + 8))) - (wrap64 (1 + (Go.bits .and .i64 a1_1 7))))) + 1)) (wrap64 ((wrap64 (((t148.size : Int) + 8) - (wrap64 (1 + (Go.bits .and .i64 a1_1 7))))) + 1))) : Int).toNat).toList then (if 0 ≤ (wrap64 ((Int.tmod (wrap64 ((wrap64 ((wrap64 ((Int.tmod a1_0 (wrap64 ((wrap64 (((t148.size : Int) + 8) - (wrap64 (1 + (Go.bits .and .i64 a1_1 7))))) + 1))) + ((t148.size : Int) + 8))) - (wrap64 (1 + (Go.bits .and .i64 a1_1 7))))) + 1)) (wrap64 ((wrap64 (((t148.size : Int) + 8) - (wrap64 (1 + (Go.bits .and .i64 a1_1 7))))) + 1))) + (wrap64 (1 + (Go.bits .and .i64 a1_1 7))))) then (if (wrap64 ((Int.tmod (wrap64 ((wrap64 ((wrap64 ((Int.tmod a1_0 (wrap64 ((wrap64 (((t148.size : Int) + 8) - (wrap64 (1 + (Go.bits .and .i64 a1_1 7))))) + 1))) + ((t148.size : Int) + 8))) - (wrap64 (1 + (Go.bits .and .i64 a1_1 7))))) + 1)) (wrap64 ((wrap64 (((t148.size : Int) + 8) - (wrap64 (1 + (Go.bits .and .i64 a1_1 7))))) + 1))) + (wrap64 (1 + (Go.bits .and .i64 a1_1 7))))) ≤ (t149.size : Int) then (if (wrap64 ((Int.tmod (wrap64 ((wrap64 ((wrap64 ((Int.tmod a1_0 (wrap64 ((wrap64 (((t148.size : Int) + 8) - (wrap64 (1 + (Go.bits .and .i64 a1_1 7))))) + 1))) + ((t148.size : Int) + 8))) - (wrap64 (1 + (Go.bits .and .i64 a1_1 7))))) + 1)) (wrap64 ((wrap64 (((t148.size : Int) + 8) - (wrap64 (1 + (Go.bits .and .i64 a1_1 7))))) + 1))) + (wrap64 (1 + (Go.bits .and .i64 a1_1 7))))) ≤ ((t148 ++ (⟨#[49, 50, 51, 52, 53, 54, 55, 56]⟩ : ByteArray)).size : Int) then (some ((t149.extract ((wrap64 ((Int.tmod (wrap64 ((wrap64 ((wrap64 ((Int.tmod a1_0 (wrap64 ((wrap64 (((t148.size : Int) + 8) - (wrap64 (1 + (Go.bits .and .i64 a1_1 7))))) + 1))) + ((t148.size : Int) + 8))) - (wrap64 (1 + (Go.bits .and .i64 a1_1 7))))) + 1)) (wrap64 ((wrap64 (((t148.size : Int) + 8) - (wrap64 (1 + (Go.bits .and .i64 a1_1 7))))) + 1))) + (wrap64 (1 + (Go.bits .and .i64 a1_1 7))))) : Int).toNat t149.size).toList == ((t148 ++ (⟨#[49, 50, 51, 52, 53, 54, 55, 56]⟩ : ByteArray)).extract ((wrap64 ((Int.tmod (wrap64 ((wrap64 ((wrap64 ((Int.tmod a1_0 (wrap64 ((wrap64 (((t148.size : Int) + 8) - (wrap64 (1 + (Go.bits .and .i64 a1_1 7))))) + 1))) + ((t148.size : Int) + 8))) - (wrap64 (1 + (Go.bits .and .i64 a1_1 7))))) + 1)) (wrap64 ((wrap64 (((t148.size : Int) + 8) - (wrap64 (1 + (Go.bits .and .i64 a1_1 7))))) + 1))) + (wrap64 (1 + (Go.bits .and .i64 a1_1 7))))) : Int).toNat (t148 ++ (⟨#[49, 50, 51, 52, 53, 54, 55, 56]⟩ : ByteArray)).size).toList)) else (none)) else (none)) else (none)) else (some false)) else (none)) else (none)) else (none)) else (some false))) else (some false)) else (some false)) = some true := by rw [if_pos rfl] at H; exact H
                  clear H
                  have H := H1
                  clear H1
                  by_cases c44 : t151 = a2
                  · rw [if_pos c44] at H
                    have c44b0 : (t151 == a2) = true := beq_iff_eq.mpr c44
                    have c44b1 : (t151 != a2) = false := bne_eq_false_iff_eq.mpr c44
                    clear c44
                    by_cases c45 : t157 = true
                    · subst c45
                      have H1 : ((octet_Put.f kj8 a2 (wrap64 (1 + (Go.bits .and .i64 a1_1 7)))).bind fun t158 => (if t156.toList = t158.toList then (if 0 ≤ (Int.tmod (wrap64 ((wrap64 ((wrap64 ((Int.tmod a1_0 (wrap64 ((wrap64 (((t148.size : Int) + 8) - (wrap64 (1 + (Go.bits .and .i64 a1_1 7))))) + 1))) + ((t148.size : Int) + 8))) - (wrap64 (1 + (Go.bits .and .i64 a1_1 7))))) + 1)) (wrap64 ((wrap64 (((t148.size : Int) + 8) - (wrap64 (1 + (Go.bits .and .i64 a1_1 7))))) + 1))) then (if (Int.tmod (wrap64 ((wrap64 ((wrap64 ((Int.tmod a1_0 (wrap64 ((wrap64 (((t148.size : Int) + 8) - (wrap64 (1 + (Go.bits .and .i64 a1_1 7))))) + 1))) + ((t148.size : Int) + 8))) - (wrap64 (1 + (Go.bits .and .i64 a1_1 7))))) + 1)) (wrap64 ((wrap64 (((t148.size : Int) + 8) - (wrap64 (1 + (Go.bits .and .i64 a1_1 7))))) + 1))) ≤ (t149.size : Int) then (if (Int.tmod (wrap64 ((wrap64 ((wrap64 ((Int.tmod a1_0 (wrap64 ((wrap64 (((t148.size : Int) + 8) - (wrap64 (1 + (Go.bits .and .i64 a1_1 7))))) + 1))) + ((t148.size : Int) + 8))) - (wrap64 (1 + (Go.bits .and .i64 a1_1 7))))) + 1)) (wrap64 ((wrap64 (((t148.size : Int) + 8) - (wrap64 (1 + (Go.bits .and .i64 a1_1 7))))) + 1))) ≤ ((t148 ++ (⟨#[49, 50, 51, 52, 53, 54, 55, 56]⟩ : ByteArray)).size : Int) then (if (t149.extract 0 ((Int.tmod (wrap64 ((wrap64 ((wrap64 ((Int.tmod a1_0 (wrap64 ((wrap64 (((t148.size : Int) + 8) - (wrap64 (1 + (Go.bits .and .i64 a1_1 7))))) + 1))) + ((t148.size : Int) + 8))) - (wrap64 (1 + (Go.bits .and .i64 a1_1 7))))) + 1)) (wrap64 ((wrap64 (((t148.size : Int) + 8) - (wrap64 (1 + (Go.bits .and .i64 a1_1 7))))) + 1))) : Int).toNat).toList = ((t148 ++ (⟨#[49, 50, 51, 52, 53, 54, 55, 56]⟩ : ByteArray)).extract 0 ((Int.tmod (wrap64 ((wrap64 ((wrap64 ((Int.tmod a1_0 (wrap64 ((wrap64 (((t148.size : Int) + 8) - (wrap64 (1 + (Go.bits .and .i64 a1_1 7))))) + 1))) + ((t148.size : Int) + 8))) - (wrap64 (1 + (Go.bits .and .i64 a1_1 7))))) + 1)) (wrap64 ((wrap64 (((t148.size : Int) + 8) - (wrap64 (1 + (Go.bits .and .i64 a1_1 7))))) + 1))) : Int).toNat).toList then (if 0 ≤ (wrap64 ((Int.tmod (wrap64 ((wrap64 ((wrap64 ((Int.tmod a1_0 (wrap64 ((wrap64 (((t148.size : Int) + 8) - (wrap64 (1 + (Go.bits .and .i64 a1_1 7))))) + 1))) + ((t148.size : Int) + 8))) - (wrap64 (1 + (Go.bits .and .i64 a1_1 7))))) + 1)) (wrap64 ((wrap64 (((t148.size : Int) + 8) - (wrap64 (1 + (Go.bits .and .i64 a1_1 7))))) + 1))) + (wrap64 (1 + (Go.bits .and .i64 a1_1 7))))) then (if (wrap64 ((Int.tmod (wrap64 ((wrap64 ((wrap64 ((Int.tmod a1_0 (wrap64 ((wrap64 (((t148.size : Int) + 8) - (wrap64 (1 + (Go.bits .and .i64 a1_1 7))))) + 1))) + ((t148.size : Int) + 8))) - (wrap64 (1 + (Go.bits .and .i64 a1_1 7))))) + 1)) (wrap64 ((wrap64 (((t148.size : Int) + 8) - (wrap64 (1 + (Go.bits .and .i64 a1_1 7))))) + 1))) + (wrap64 (1 + (Go.bits .and .i64 a1_1 7))))) ≤ (t149.size : Int) then (if (wrap64 ((Int.tmod (wrap64 ((wrap64 ((wrap64 ((Int.tmod a1_0 (wrap64 ((wrap64 (((t148.size : Int) + 8) - (wrap64 (1 + (Go.bits .and .i64 a1_1 7))))) + 1))) + ((t148.size : Int) + 8))) - (wrap64 (1 + (Go.bits .and .i64 a1_1 7))))) + 1)) (wrap64 ((wrap64 (((t148.size : Int) + 8) - (wrap64 (1 + (Go.bits .and .i64 a1_1 7))))) + 1))) + (wrap64 (1 + (Go.bits .and .i64 a1_1 7))))) ≤ ((t148 ++ (⟨#[49, 50, 51, 52, 53, 54, 55, 56]⟩ : ByteArray)).size : Int) then (some ((t149.extract ((wrap64 ((Int.tmod (wrap64 ((wrap64 ((wrap64 ((Int.tmod a1_0 (wrap64 ((wrap64 (((t148.size : Int) + 8) - (wrap64 (1 + (Go.bits .and .i64 a1_1 7))))) + 1))) + ((t148.size : Int) + 8))) - (wrap64 (1 + (Go.bits .and .i64 a1_1 7))))) + 1)) (wrap64 ((wrap64 (((t148.size : Int) + 8) - (wrap64 (1 + (Go.bits .and .i64 a1_1 7))))) + 1))) + (wrap64 (1 + (Go.bits .and .i64 a1_1 7))))) : Int).toNat t149.size).toList == ((t148 ++ (⟨#[49, 50, 51, 52, 53, 54, 55, 56]⟩ : ByteArray)).extract ((wrap64 ((Int.tmod (wrap64 ((wrap64 ((wrap64 ((Int.tmod a1_0 (wrap64 ((wrap64 (((t148.size : Int) + 8) - (wrap64 (1 + (Go.bits .and .i64 a1_1 7))))) + 1))) + ((t148.size : Int) + 8))) - (wrap64 (1 + (Go.bits .and .i64 a1_1 7))))) + 1)) (wrap64 ((wrap64 (((t148.size : Int) + 8) - (wrap64 (1 + (Go.bits .and .i64 a1_1 7))))) + 1))) + (wrap64 (1 + (Go.bits .and .i64 a1_1 7))))) : Int).toNat (t148 ++ (⟨#[49, 50, 51, 52, 53, 54, 55, 56]⟩ : ByteArray)).size).toList)) else (none)) else (none)) else (none)) else (some false)) else (none)) else (none)) else (none)) else (some false))) = some true := by rw [if_pos rfl] at H; exact H
                      clear H
                      have H := H1
                      clear H1
                      replace H := Option.bind_eq_some_iff.mp H
                      obtain ⟨t158, A460, H⟩ := H
                      replace H : (if t156.toList = t158.toList then (if 0 ≤ (Int.tmod (wrap64 ((wrap64 ((wrap64 ((Int.tmod a1_0 (wrap64 ((wrap64 (((t148.size : Int) + 8) - (wrap64 (1 + (Go.bits .and .i64 a1_1 7))))) + 1))) + ((t148.size : Int) + 8))) - (wrap64 (1 + (Go.bits .and .i64 a1_1 7))))) + 1)) (wrap64 ((wrap64 (((t148.size : Int) + 8) - (wrap64 (1 + (Go.bits .and .i64 a1_1 7))))) + 1))) then (if (Int.tmod (wrap64 ((wrap64 ((wrap64 ((Int.tmod a1_0 (wrap64 ((wrap64 (((t148.size : Int) + 8) - (wrap64 (1 + (Go.bits .and .i64 a1_1 7))))) + 1))) + ((t148.size : Int) + 8))) - (wrap64 (1 + (Go.bits .and .i64 a1_1 7))))) + 1)) (wrap64 ((wrap64 (((t148.size : Int) + 8) - (wrap64 (1 + (Go.bits .and .i64 a1_1 7))))) + 1))) ≤ (t149.size : Int) then (if (Int.tmod (wrap64 ((wrap64 ((wrap64 ((Int.tmod a1_0 (wrap64 ((wrap64 (((t148.size : Int) + 8) - (wrap64 (1 + (Go.bits .and .i64 a1_1 7))))) + 1))) + ((t148.size : Int) + 8))) - (wrap64 (1 + (Go.bits .and .i64 a1_1 7))))) + 1)) (wrap64 ((wrap64 (((t148.size : Int) + 8) - (wrap64 (1 + (Go.bits .and .i64 a1_1 7))))) + 1))) ≤ ((t148 ++ (⟨#[49, 50, 51, 52, 53, 54, 55, 56]⟩ : ByteArray)).size : Int) then (if (t149.extract 0 ((Int.tmod (wrap64 ((wrap64 ((wrap64 ((Int.tmod a1_0 (wrap64 ((wrap64 (((t148.size : Int) + 8) - (wrap64 (1 + (Go.bits .and .i64 a1_1 7))))) + 1))) + ((t148.size : Int) + 8))) - (wrap64 (1 + (Go.bits .and .i64 a1_1 7))))) + 1)) (wrap64 ((wrap64 (((t148.size : Int) + 8) - (wrap64 (1 + (Go.bits .and .i64 a1_1 7))))) + 1))) : Int).toNat).toList = ((t148 ++ (⟨#[49, 50, 51, 52, 53, 54, 55, 56]⟩ : ByteArray)).extract 0 ((Int.tmod (wrap64 ((wrap64 ((wrap64 ((Int.tmod a1_0 (wrap64 ((wrap64 (((t148.size : Int) + 8) - (wrap64 (1 + (Go.bits .and .i64 a1_1 7))))) + 1))) + ((t148.size : Int) + 8))) - (wrap64 (1 + (Go.bits .and .i64 a1_1 7))))) + 1)) (wrap64 ((wrap64 (((t148.size : Int) + 8) - (wrap64 (1 + (Go.bits .and .i64 a1_1 7))))) + 1))) : Int).toNat).toList then (if 0 ≤ (wrap64 ((Int.tmod (wrap64 ((wrap64 ((wrap64 ((Int.tmod a1_0 (wrap64 ((wrap64 (((t148.size : Int) + 8) - (wrap64 (1 + (Go.bits .and .i64 a1_1 7))))) + 1))) + ((t148.size : Int) + 8))) - (wrap64 (1 + (Go.bits .and .i64 a1_1 7))))) + 1)) (wrap64 ((wrap64 (((t148.size : Int) + 8) - (wrap64 (1 + (Go.bits .and .i64 a1_1 7))))) + 1))) + (wrap64 (1 + (Go.bits .and .i64 a1_1 7))))) then (if (wrap64 ((Int.tmod (wrap64 ((wrap64 ((wrap64 ((Int.tmod a1_0 (wrap64 ((wrap64 (((t148.size : Int) + 8) - (wrap64 (1 + (Go.bits .and .i64 a1_1 7))))) + 1))) + ((t148.size : Int) + 8))) - (wrap64 (1 + (Go.bits .and .i64 a1_1 7))))) + 1)) (wrap64 ((wrap64 (((t148.size : Int) + 8) - (wrap64 (1 + (Go.bits .and .i64 a1_1 7))))) + 1))) + (wrap64 (1 + (Go.bits .and .i64 a1_1 7))))) ≤ (t149.size : Int) then (if (wrap64 ((Int.tmod (wrap64 ((wrap64 ((wrap64 ((Int.tmod a1_0 (wrap64 ((wrap64 (((t148.size : Int) + 8) - (wrap64 (1 + (Go.bits .and .i64 a1_1 7))))) + 1))) + ((t148.size : Int) + 8))) - (wrap64 (1 + (Go.bits .and .i64 a1_1 7))))) + 1)) (wrap64 ((wrap64 (((t148.size : Int) + 8) - (wrap64 (1 + (Go.bits .and .i64 a1_1 7))))) + 1))) + (wrap64 (1 + (Go.bits .and .i64 a1_1 7))))) ≤ ((t148 ++ (⟨#[49, 50, 51, 52, 53, 54, 55, 56]⟩ : ByteArray)).size : Int) then (some ((t149.extract ((wrap64 ((Int.tmod (wrap64 ((wrap64 ((wrap64 ((Int.tmod a1_0 (wrap64 ((wrap64 (((t148.size : Int) + 8) - (wrap64 (1 + (Go.bits .and .i64 a1_1 7))))) + 1))) + ((t148.size : Int) + 8))) - (wrap64 (1 + (Go.bits .and .i64 a1_1 7))))) + 1)) (wrap64 ((wrap64 (((t148.size : Int) + 8) - (wrap64 (1 + (Go.bits .and .i64 a1_1 7))))) + 1))) + (wrap64 (1 + (Go.bits .and .i64 a1_1 7))))) : Int).toNat t149.size).toList == ((t148 ++ (⟨#[49, 50, 51, 52, 53, 54, 55, 56]⟩ : ByteArray)).extract ((wrap64 ((Int.tmod (wrap64 ((wrap64 ((wrap64 ((Int.tmod a1_0 (wrap64 ((wrap64 (((t148.size : Int) + 8) - (wrap64 (1 + (Go.bits .and .i64 a1_1 7))))) + 1))) + ((t148.size : Int) + 8))) - (wrap64 (1 + (Go.bits .and .i64 a1_1 7))))) + 1)) (wrap64 ((wrap64 (((t148.size : Int) + 8) - (wrap64 (1 + (Go.bits .and .i64 a1_1 7))))) + 1))) + (wrap64 (1 + (Go.bits .and .i64 a1_1 7))))) : Int).toNat (t148 ++ (⟨#[49, 50, 51, 52, 53, 54, 55, 56]⟩ : ByteArray)).size).toList)) else (none)) else (none)) else (none)) else (some false)) else (none)) else (none)) else (none)) else (some false)) = some true := H
                      have A46 := Aside0.mk A460
                      clear A460
                      by_cases c47 : t156.toList = t158.toList
                      · rw [if_pos c47] at H
                        have c47b0 : (t156.toList == t158.toList) = true := beq_iff_eq.mpr c47
                        have c47b1 : (t156.toList != t158.toList) = false := bne_eq_false_iff_eq.mpr c47
                        clear c47
                        obtain ⟨ji48, hji48⟩ : ∃ j_ : Int, (Int.tmod (wrap64 ((wrap64 ((wrap64 ((Int.tmod a1_0 (wrap64 ((wrap64 (((t148.size : Int) + 8) - (wrap64 (1 + (Go.bits .and .i64 a1_1 7))))) + 1))) + ((t148.size : Int) + 8))) - (wrap64 (1 + (Go.bits .and .i64 a1_1 7))))) + 1)) (wrap64 ((wrap64 (((t148.size : Int) + 8) - (wrap64 (1 + (Go.bits .and .i64 a1_1 7))))) + 1))) = j_ := ⟨_, rfl⟩
                        replace H : (if 0 ≤ (ji48) then (if (ji48) ≤ (t149.size : Int) then (if (ji48) ≤ ((t148 ++ (⟨#[49, 50, 51, 52, 53, 54, 55, 56]⟩ : ByteArray)).size : Int) then (if (t149.extract 0 ((ji48) : Int).toNat).toList = ((t148 ++ (⟨#[49, 50, 51, 52, 53, 54, 55, 56]⟩ : ByteArray)).extract 0 ((ji48) : Int).toNat).toList then (if 0 ≤ (wrap64 ((ji48) + (wrap64 (1 + (Go.bits .and .i64 a1_1 7))))) then (if (wrap64 ((ji48) + (wrap64 (1 + (Go.bits .and .i64 a1_1 7))))) ≤ (t149.size : Int) then (if (wrap64 ((ji48) + (wrap64 (1 + (Go.bits .and .i64 a1_1 7))))) ≤ ((t148 ++ (⟨#[49, 50, 51, 52, 53, 54, 55, 56]⟩ : ByteArray)).size : Int) then (some ((t149.extract ((wrap64 ((ji48) + (wrap64 (1 + (Go.bits .and .i64 a1_1 7))))) : Int).toNat t149.size).toList == ((t148 ++ (⟨#[49, 50, 51, 52, 53, 54, 55, 56]⟩ : ByteArray)).extract ((wrap64 ((ji48) + (wrap64 (1 + (Go.bits .and .i64 a1_1 7))))) : Int).toNat (t148 ++ (⟨#[49, 50, 51, 52, 53, 54, 55, 56]⟩ : ByteArray)).size).toList)) else (none)) else (none)) else (none)) else (some false)) else (none)) else (none)) else (none)) = some true := by first | (rw [hji48] at H; exact H) | (simp only [hji48] at H ⊢; exact H)
                        (try rw [hji48] at A16)
                        (try rw [hji48] at A41)
                        (try rw [hji48] at A46)
                        by_cases c49 : 0 ≤ (ji48)
                        · rw [if_pos c49] at H
                          have c49b0 := eq_true c49
                          have c49b1 : decide (0 ≤ (ji48)) = true := decide_eq_true c49
                          clear c49
                          by_cases c50 : (ji48) ≤ (t149.size : Int)
                          · rw [if_pos c50] at H
                            have c50b0 := eq_true c50
                            have c50b1 : decide ((ji48) ≤ (t149.size : Int)) = true := decide_eq_true c50
                            clear c50
                            have c51b0 := eq_true (of_decide_eq_true (by first | (with_reducible assumption) | assumption) : 0 ≤ (ji48))
                            by_cases c52 : (ji48) ≤ ((t148 ++ (⟨#[49, 50, 51, 52, 53, 54, 55, 56]⟩ : ByteArray)).size : Int)
                            · rw [if_pos c52] at H
                              have c52b0 := eq_true c52
                              (try (have c52z0 := c52b0; simp only [ByteArray.size_append, Int.natCast_add, show (⟨#[49, 50, 51, 52, 53, 54, 55, 56]⟩ : ByteArray).size = 8 from rfl, show ((8 : Nat) : Int) = 8 from rfl, Int.natCast_add] at c52z0))
                              have c52b1 : decide ((ji48) ≤ ((t148 ++ (⟨#[49, 50, 51, 52, 53, 54, 55, 56]⟩ : ByteArray)).size : Int)) = true := decide_eq_true c52
                              (try (have c52z1 := c52b1; simp only [ByteArray.size_append, Int.natCast_add, show (⟨#[49, 50, 51, 52, 53, 54, 55, 56]⟩ : ByteArray).size = 8 from rfl, show ((8 : Nat) : Int) = 8 from rfl, Int.natCast_add] at c52z1))
                              by_cases c53 : (t149.extract 0 ((ji48) : Int).toNat).toList = ((t148 ++ (⟨#[49, 50, 51, 52, 53, 54, 55, 56]⟩ : ByteArray)).extract 0 ((ji48) : Int).toNat).toList
                              · rw [if_pos c53] at H
                                have c53b0 : ((t149.extract 0 ((ji48) : Int).toNat).toList == ((t148 ++ (⟨#[49, 50, 51, 52, 53, 54, 55, 56]⟩ : ByteArray)).extract 0 ((ji48) : Int).toNat).toList) = true := beq_iff_eq.mpr c53
                                have c53b1 : ((t149.extract 0 ((ji48) : Int).toNat).toList != ((t148 ++ (⟨#[49, 50, 51, 52, 53, 54, 55, 56]⟩ : ByteArray)).extract 0 ((ji48) : Int).toNat).toList) = false := bne_eq_false_iff_eq.mpr c53
                                clear c53
                                obtain ⟨ji54, hji54⟩ : ∃ j_ : Int, (wrap64 ((ji48) + (wrap64 (1 + (Go.bits .and .i64 a1_1 7))))) = j_ := ⟨_, rfl⟩
                                replace H : (if 0 ≤ (ji54) then (if (ji54) ≤ (t149.size : Int) then (if (ji54) ≤ ((t148 ++ (⟨#[49, 50, 51, 52, 53, 54, 55, 56]⟩ : ByteArray)).size : Int) then (some ((t149.extract ((ji54) : Int).toNat t149.size).toList == ((t148 ++ (⟨#[49, 50, 51, 52, 53, 54, 55, 56]⟩ : ByteArray)).extract ((ji54) : Int).toNat (t148 ++ (⟨#[49, 50, 51, 52, 53, 54, 55, 56]⟩ : ByteArray)).size).toList)) else (none)) else (none)) else (none)) = some true := by first | (rw [hji54] at H; exact H) | (simp only [hji54] at H ⊢; exact H)
                                (try rw [hji54] at A16)
                                (try rw [hji54] at A41)
                                (try rw [hji54] at A46)
                                have hji54w : (IntKind.i64.wrap ((ji48) + (wrap64 (1 + (Go.bits .and .i64 a1_1 7))))) = ji54 := (i64_w _).trans hji54
                                by_cases c55 : 0 ≤ (ji54)
                                · rw [if_pos c55] at H
                                  have c55b0 := eq_true c55
                                  have c55b1 : decide (0 ≤ (ji54)) = true := decide_eq_true c55
                                  clear c55
                                  by_cases c56 : (ji54) ≤ (t149.size : Int)
                                  · rw [if_pos c56] at H
                                    have c56b0 := eq_true c56
                                    have c56b1 : decide ((ji54) ≤ (t149.size : Int)) = true := decide_eq_true c56
                                    clear c56
                                    have c57b0 := eq_true (of_decide_eq_true (by first | (with_reducible assumption) | assumption) : 0 ≤ (ji54))
                                    by_cases c58 : (ji54) ≤ ((t148 ++ (⟨#[49, 50, 51, 52, 53, 54, 55, 56]⟩ : ByteArray)).size : Int)
                                    · rw [if_pos c58] at H
                                      have c58b0 := eq_true c58
                                      (try (have c58z0 := c58b0; simp only [ByteArray.size_append, Int.natCast_add, show (⟨#[49, 50, 51, 52, 53, 54, 55, 56]⟩ : ByteArray).size = 8 from rfl, show ((8 : Nat) : Int) = 8 from rfl, Int.natCast_add] at c58z0))
                                      have c58b1 : decide ((ji54) ≤ ((t148 ++ (⟨#[49, 50, 51, 52, 53, 54, 55, 56]⟩ : ByteArray)).size : Int)) = true := decide_eq_true c58
                                      (try (have c58z1 := c58b1; simp only [ByteArray.size_append, Int.natCast_add, show (⟨#[49, 50, 51, 52, 53, 54, 55, 56]⟩ : ByteArray).size = 8 from rfl, show ((8 : Nat) : Int) = 8 from rfl, Int.natCast_add] at c58z1))
                                      have HR_ := Aside0.mk (Option.some.inj H)
                                      clear H
                                      try go_wp2_with (first | ((with_reducible refine gate_callee (f := 15) rfl ?_); refine goesL_ (some 66) rfl rfl Try.func15 (by kernel_rfl) rfl #[.string t149, .int .i64 (ji48), .int .i64 (wrap64 (1 + (Go.bits .and .i64 a1_1 7)))] rfl (by (try simp only [List.map_toArray, List.map_cons, List.map_nil]); first | done | (simp only [hji48]; rfl) | rfl | (simp only [List.length_drop, List.length_take]; rfl)) ?_; (with_reducible refine (octet_Get.calls kj8 t149 (ji48) (wrap64 (1 + (Go.bits .and .i64 a1_1 7))) t151 true _ A16.out).mono ?_); rintro e w' ⟨rfl, ⟨nd, rfl⟩⟩; refine ⟨_, rfl, ?_⟩) | ((with_reducible refine gate_callee (f := 20) rfl ?_); refine goesL_ (some 83) rfl rfl Try.func20 (by kernel_rfl) rfl #[.string t149, .int .i64 (ji48), .int .i64 (wrap64 (1 + (Go.bits .and .i64 a1_1 7)))] rfl (by (try simp only [List.map_toArray, List.map_cons, List.map_nil]); first | done | (simp only [hji48]; rfl) | rfl | (simp only [List.length_drop, List.length_take]; rfl)) ?_; (with_reducible refine (octet_Part.calls t149 (ji48) (wrap64 (1 + (Go.bits .and .i64 a1_1 7))) t156 true _ A41.out).mono ?_); rintro e w' ⟨rfl, ⟨nd, rfl⟩⟩; refine ⟨_, rfl, ?_⟩))
                                      (try (rw [drewN_self wc]; generalize hq_ : World.drewN wc _ = wc; have n0_ : Aside0 (wc.heap[gb146]? = some (.cells #[.int .i64 a1_0, .int .i64 a1_1] 32 (0, 0))) := ⟨by rw [← hq_]; exact (by (with_reducible repeat (first | refine blk_drewN ?_ _ | refine blk_drew ?_ | refine blk_alloc ?_ _)); exact BK146.out)⟩; have n1_ : Aside0 (Below w.heap.size w wc) := ⟨by rw [← hq_]; exact (by repeat (first | (with_reducible first | exact HB.out | apply below_alloc | apply pw_below_drewN | apply below_drew1 | refine below_set ?_ GE146.out) | exact HB.out))⟩; clear BK146 HB hq_; have BK146 := n0_; have HB := n1_; clear n0_ n1_))
                                      have n0_ := Aside0.mk (blk_drew BK146.out)
                                      have n1_ := Aside0.mk (below_drew1 HB.out)
                                      clear BK146
                                      clear HB
                                      have BK146 := n0_
                                      have HB := n1_
                                      clear n0_ n1_
                                      refine start_ (n := 42) (S := fun w' => True) (ds := []) #[false, false, false, false, false, false, false, false, false, false, false, false, false, false, false, false, false, false, false, false, false, false, false, false, false, false, false, false, false, false, false, false, false, false, false, false, false, false, false, false, false, false] (by kernel_rfl) rfl rfl trivial (fun hHeld => ?_); refine with_tabW flyleaflaw01_OctetBack.tab13 flyleaflaw01_OctetBack.bits13 (fun HT_ HW_ => ?_)
                                      generalize wc.drew = w59 at BK146 HB hHeld ⊢
                                      refine pure_ (i := 0) (N := some 86) (v := ?_) (a' := ?_) #[true, false, false, false, false, false, false, false, false, false, false, false, false, false, false, false, false, false, false, false, false, false, false, false, false, false, false, false, false, false, false, false, false, false, false, false, false, false, false, false, false, false] rfl rfl (any_of HT_.out (by kernel_rfl)) (fun _ _ _ h => h) (Or.inl ⟨by rfl, ?_⟩) ?_ ?_
                                      rotate_left
                                      · intro w'
                                        go_simp
                                        with_reducible rfl
                                      rotate_left
                                      · simp only [Act.put, List.setIfInBounds_toArray, List.set_cons_zero, List.set_cons_succ, i64_w, i32_w]
                                        rfl
                                      refine pure_ (i := 1) (N := some 87) (v := ?_) (a' := ?_) #[true, true, false, false, false, false, false, false, false, false, false, false, false, false, false, false, false, false, false, false, false, false, false, false, false, false, false, false, false, false, false, false, false, false, false, false, false, false, false, false, false, false] rfl rfl (any_of HT_.out (by kernel_rfl)) (fun _ _ _ h => h) (Or.inl ⟨by rfl, ?_⟩) ?_ ?_
                                      rotate_left
                                      · intro w'
                                        go_simp
                                        with_reducible rfl
                                      rotate_left
                                      · simp only [Act.put, List.setIfInBounds_toArray, List.set_cons_zero, List.set_cons_succ, i64_w, i32_w]
                                        rfl
                                      refine pure_ (i := 2) (N := some 88) (v := ?_) (a' := ?_) #[true, true, true, false, false, false, false, false, false, false, false, false, false, false, false, false, false, false, false, false, false, false, false, false, false, false, false, false, false, false, false, false, false, false, false, false, false, false, false, false, false, false] rfl rfl (any_of HT_.out (by kernel_rfl)) (fun _ _ _ h => h) (Or.inl ⟨by rfl, ?_⟩) ?_ ?_
                                      rotate_left
                                      · intro w'
                                        go_simp
                                        with_reducible rfl
                                      rotate_left
                                      · simp only [Act.put, List.setIfInBounds_toArray, List.set_cons_zero, List.set_cons_succ, i64_w, i32_w]
                                        rfl
                                      refine pure_ (i := 3) (N := some 89) (v := ?_) (a' := ?_) #[true, true, true, true, false, false, false, false, false, false, false, false, false, false, false, false, false, false, false, false, false, false, false, false, false, false, false, false, false, false, false, false, false, false, false, false, false, false, false, false, false, false] rfl rfl (any_of HT_.out (by kernel_rfl)) (fun _ _ _ h => h) (Or.inl ⟨by rfl, ?_⟩) ?_ ?_
                                      rotate_left
                                      · intro w'
                                        go_simp
                                        with_reducible rfl
                                      rotate_left
                                      · simp only [Act.put, List.setIfInBounds_toArray, List.set_cons_zero, List.set_cons_succ, i64_w, i32_w]
                                        rfl
                                      refine pure_ (i := 4) (N := some 90) (v := ?_) (a' := ?_) #[true, true, true, true, true, false, false, false, false, false, false, false, false, false, false, false, false, false, false, false, false, false, false, false, false, false, false, false, false, false, false, false, false, false, false, false, false, false, false, false, false, false] rfl rfl (any_of HT_.out (by kernel_rfl)) (fun _ _ _ h => h) (Or.inl ⟨by rfl, ?_⟩) ?_ ?_
                                      rotate_left
                                      · intro w'
                                        go_simp
                                        with_reducible rfl
                                      rotate_left
                                      · simp only [Act.put, List.setIfInBounds_toArray, List.set_cons_zero, List.set_cons_succ, i64_w, i32_w]
                                        rfl
                                      refine pure_ (i := 5) (N := some 91) (v := ?_) (a' := ?_) #[true, true, true, true, true, true, false, false, false, false, false, false, false, false, false, false, false, false, false, false, false, false, false, false, false, false, false, false, false, false, false, false, false, false, false, false, false, false, false, false, false, false] rfl rfl (any_of HT_.out (by kernel_rfl)) (fun _ _ _ h => h) (Or.inl ⟨by rfl, ?_⟩) ?_ ?_
                                      rotate_left
                                      · intro w'
                                        go_simp
                                        with_reducible rfl
                                      rotate_left
                                      · simp only [Act.put, List.setIfInBounds_toArray, List.set_cons_zero, List.set_cons_succ, i64_w, i32_w]
                                        rfl
                                      refine pure_ (i := 6) (N := some 92) (v := ?_) (a' := ?_) #[true, true, true, true, true, true, true, false, false, false, false, false, false, false, false, false, false, false, false, false, false, false, false, false, false, false, false, false, false, false, false, false, false, false, false, false, false, false, false, false, false, false] rfl rfl (any_of HT_.out (by kernel_rfl)) (fun _ _ _ h => h) (Or.inl ⟨by rfl, ?_⟩) ?_ ?_
                                      rotate_left
                                      · intro w'
                                        go_simp
                                        with_reducible rfl
                                      rotate_left
                                      · simp only [Act.put, List.setIfInBounds_toArray, List.set_cons_zero, List.set_cons_succ, i64_w, i32_w]
                                        rfl
                                      refine pure_ (i := 7) (N := some 93) (v := ?_) (a' := ?_) #[true, true, true, true, true, true, true, true, false, false, false, false, false, false, false, false, false, false, false, false, false, false, false, false, false, false, false, false, false, false, false, false, false, false, false, false, false, false, false, false, false, false] rfl rfl (any_of HT_.out (by kernel_rfl)) (fun _ _ _ h => h) (Or.inl ⟨by rfl, ?_⟩) ?_ ?_
                                      rotate_left
                                      · intro w'
                                        go_simp
                                        with_reducible rfl
                                      rotate_left
                                      · simp only [Act.put, List.setIfInBounds_toArray, List.set_cons_zero, List.set_cons_succ, i64_w, i32_w]
                                        rfl
                                      refine pure_ (i := 8) (N := some 94) (v := ?_) (a' := ?_) #[true, true, true, true, true, true, true, true, true, false, false, false, false, false, false, false, false, false, false, false, false, false, false, false, false, false, false, false, false, false, false, false, false, false, false, false, false, false, false, false, false, false] rfl rfl (any_of HT_.out (by kernel_rfl)) (fun _ _ _ h => h) (Or.inl ⟨by rfl, ?_⟩) ?_ ?_
                                      rotate_left
                                      · intro w'
                                        go_simp
                                        with_reducible rfl
                                      rotate_left
                                      · simp only [Act.put, List.setIfInBounds_toArray, List.set_cons_zero, List.set_cons_succ, i64_w, i32_w]
                                        rfl
                                      refine pure_ (i := 9) (N := some 95) (v := ?_) (a' := ?_) #[true, true, true, true, true, true, true, true, true, true, false, false, false, false, false, false, false, false, false, false, false, false, false, false, false, false, false, false, false, false, false, false, false, false, false, false, false, false, false, false, false, false] rfl rfl (any_of HT_.out (by kernel_rfl)) (fun _ _ _ h => h) (Or.inl ⟨by rfl, ?_⟩) ?_ ?_
                                      rotate_left
                                      · intro w'
                                        go_simp
                                        with_reducible rfl
                                      rotate_left
                                      · simp only [Act.put, List.setIfInBounds_toArray, List.set_cons_zero, List.set_cons_succ, i64_w, i32_w]
                                        rfl
                                      refine pure_ (i := 10) (N := some 96) (v := ?_) (a' := ?_) #[true, true, true, true, true, true, true, true, true, true, true, false, false, false, false, false, false, false, false, false, false, false, false, false, false, false, false, false, false, false, false, false, false, false, false, false, false, false, false, false, false, false] rfl rfl (any_of HT_.out (by kernel_rfl)) (fun _ _ _ h => h) (Or.inl ⟨by rfl, ?_⟩) ?_ ?_
                                      rotate_left
                                      · intro w'
                                        go_simp
                                        with_reducible rfl
                                      rotate_left
                                      · simp only [Act.put, List.setIfInBounds_toArray, List.set_cons_zero, List.set_cons_succ, i64_w, i32_w]
                                        rfl
                                      refine pure_ (i := 11) (N := some 97) (v := ?_) (a' := ?_) #[true, true, true, true, true, true, true, true, true, true, true, true, false, false, false, false, false, false, false, false, false, false, false, false, false, false, false, false, false, false, false, false, false, false, false, false, false, false, false, false, false, false] rfl rfl (any_of HT_.out (by kernel_rfl)) (fun _ _ _ h => h) (Or.inl ⟨by rfl, ?_⟩) ?_ ?_
                                      rotate_left
                                      · intro w'
                                        go_simp
                                        with_reducible rfl
                                      rotate_left
                                      · simp only [Act.put, List.setIfInBounds_toArray, List.set_cons_zero, List.set_cons_succ, i64_w, i32_w]
                                        rfl
                                      refine pure_ (i := 12) (N := some 98) (v := ?_) (a' := ?_) #[true, true, true, true, true, true, true, true, true, true, true, true, true, false, false, false, false, false, false, false, false, false, false, false, false, false, false, false, false, false, false, false, false, false, false, false, false, false, false, false, false, false] rfl rfl (any_of HT_.out (by kernel_rfl)) (fun _ _ _ h => h) (Or.inl ⟨by rfl, ?_⟩) ?_ ?_
                                      rotate_left
                                      · intro w'
                                        go_simp
                                        with_reducible rfl
                                      rotate_left
                                      · simp only [Act.put, List.setIfInBounds_toArray, List.set_cons_zero, List.set_cons_succ, i64_w, i32_w]
                                        rfl
                                      refine pure_ (i := 13) (N := some 99) (v := ?_) (a' := ?_) #[true, true, true, true, true, true, true, true, true, true, true, true, true, true, false, false, false, false, false, false, false, false, false, false, false, false, false, false, false, false, false, false, false, false, false, false, false, false, false, false, false, false] rfl rfl (any_of HT_.out (by kernel_rfl)) (fun _ _ _ h => h) (Or.inl ⟨by rfl, ?_⟩) ?_ ?_
                                      rotate_left
                                      · intro w'
                                        go_simp
                                        with_reducible rfl
                                      rotate_left
                                      · simp only [Act.put, List.setIfInBounds_toArray, List.set_cons_zero, List.set_cons_succ, i64_w, i32_w]
                                        rfl
                                      refine pure_ (i := 14) (N := some 100) (v := ?_) (a' := ?_) #[true, true, true, true, true, true, true, true, true, true, true, true, true, true, true, false, false, false, false, false, false, false, false, false, false, false, false, false, false, false, false, false, false, false, false, false, false, false, false, false, false, false] rfl rfl (any_of HT_.out (by kernel_rfl)) (fun _ _ _ h => h) (Or.inl ⟨by rfl, ?_⟩) ?_ ?_
                                      rotate_left
                                      · intro w'
                                        go_simp
                                        with_reducible rfl
                                      rotate_left
                                      · simp only [Act.put, List.setIfInBounds_toArray, List.set_cons_zero, List.set_cons_succ, i64_w, i32_w]
                                        rfl
                                      refine pure_ (i := 15) (N := some 101) (v := ?_) (a' := ?_) #[true, true, true, true, true, true, true, true, true, true, true, true, true, true, true, true, false, false, false, false, false, false, false, false, false, false, false, false, false, false, false, false, false, false, false, false, false, false, false, false, false, false] rfl rfl (any_of HT_.out (by kernel_rfl)) (fun _ _ _ h => h) (Or.inl ⟨by rfl, ?_⟩) ?_ ?_
                                      rotate_left
                                      · intro w'
                                        go_simp
                                        with_reducible rfl
                                      rotate_left
                                      · simp only [Act.put, List.setIfInBounds_toArray, List.set_cons_zero, List.set_cons_succ, i64_w, i32_w]
                                        rfl
                                      refine one_ (i := 16) (N := some 102) #[true, true, true, true, true, true, true, true, true, true, true, true, true, true, true, true, true, false, false, false, false, false, false, false, false, false, false, false, false, false, false, false, false, false, false, false, false, false, false, false, false, false] rfl rfl (one_of HT_.out (by kernel_rfl)) (by decide) (fun K hK => ?_)
                                      refine goes_ Try.func13 (by kernel_rfl) rfl #[.int .u64 a2, .int .i64 (wrap64 (1 + (Go.bits .and .i64 a1_1 7)))] (by rfl) rfl rfl (by (try simp only [List.map_toArray, List.map_cons, List.map_nil]); first | done | rfl | (simp only [List.length_drop, List.length_take]; rfl) | (simp only [ByteArray.size_append, Int.natCast_add]; rfl)) ?_
                                      with_reducible refine (octet_Put.calls kj8 a2 (wrap64 (1 + (Go.bits .and .i64 a1_1 7))) t158 _ A46.out).mono ?_
                                      rintro e w60 ⟨rfl, hb⟩
                                      refine ⟨_, rfl, ?_⟩
                                      have n0_ := Aside0.mk (blk_below (g := gb146) (o := .cells #[.int .i64 a1_0, .int .i64 a1_1] 32 (0, 0)) (by (with_reducible repeat (first | refine blk_drewN ?_ _ | refine blk_drew ?_ | refine blk_alloc ?_ _)); exact BK146.out) hb)
                                      have n1_ := Aside0.mk (below_step (by repeat (first | (with_reducible first | exact HB.out | apply below_alloc | apply pw_below_drewN | apply below_drew1 | refine below_set ?_ GE146.out) | exact HB.out)) hb)
                                      clear BK146
                                      clear HB
                                      have BK146 := n0_
                                      have HB := n1_
                                      clear n0_ n1_
                                      (try clear hb)
                                      (try clear hb2)
                                      (try clear hk)
                                      (try clear hi)
                                      refine hK.out _ _ trivial (fun hHeld => ?_)
                                      clear hK K
                                      refine norm_ (a' := ?_) ?_ ?_
                                      rotate_left
                                      · show Act.put _ (some 102) _ = _
                                        simp only [Act.put, List.setIfInBounds_toArray, List.set_cons_zero, List.set_cons_succ, i64_w, i32_w]
                                        rfl
                                      refine pure_ (i := 17) (N := some 103) (v := ?_) (a' := ?_) #[true, true, true, true, true, true, true, true, true, true, true, true, true, true, true, true, true, true, false, false, false, false, false, false, false, false, false, false, false, false, false, false, false, false, false, false, false, false, false, false, false, false] rfl rfl (any_of HT_.out (by kernel_rfl)) (fun _ _ _ h => h) (Or.inl ⟨by rfl, ?_⟩) ?_ ?_
                                      rotate_left
                                      · intro w'
                                        go_simp
                                        with_reducible rfl
                                      rotate_left
                                      · simp only [Act.put, List.setIfInBounds_toArray, List.set_cons_zero, List.set_cons_succ, i64_w, i32_w]
                                        rfl
                                      refine pure_ (i := 18) (N := some 104) (v := ?_) (a' := ?_) #[true, true, true, true, true, true, true, true, true, true, true, true, true, true, true, true, true, true, true, false, false, false, false, false, false, false, false, false, false, false, false, false, false, false, false, false, false, false, false, false, false, false] rfl rfl (any_of HT_.out (by kernel_rfl)) (fun _ _ _ h => h) (Or.inl ⟨by rfl, ?_⟩) ?_ ?_
                                      rotate_left
                                      · intro w'
                                        go_simp
                                        with_reducible rfl
                                      rotate_left
                                      · simp only [Act.put, List.setIfInBounds_toArray, List.set_cons_zero, List.set_cons_succ, i64_w, i32_w]
                                        rfl
                                      refine pure_ (i := 19) (N := some 105) (v := ?_) (a' := ?_) #[true, true, true, true, true, true, true, true, true, true, true, true, true, true, true, true, true, true, true, true, false, false, false, false, false, false, false, false, false, false, false, false, false, false, false, false, false, false, false, false, false, false] rfl rfl (any_of HT_.out (by kernel_rfl)) (fun _ _ _ h => h) (Or.inl ⟨by rfl, ?_⟩) ?_ ?_
                                      rotate_left
                                      · intro w'
                                        go_simp
                                        with_reducible rfl
                                      rotate_left
                                      · simp only [Act.put, List.setIfInBounds_toArray, List.set_cons_zero, List.set_cons_succ, i64_w, i32_w]
                                        rfl
                                      refine pure_ (i := 20) (N := some 106) (v := ?_) (a' := ?_) #[true, true, true, true, true, true, true, true, true, true, true, true, true, true, true, true, true, true, true, true, true, false, false, false, false, false, false, false, false, false, false, false, false, false, false, false, false, false, false, false, false, false] rfl rfl (any_of HT_.out (by kernel_rfl)) (fun _ _ _ h => h) (Or.inl ⟨by rfl, ?_⟩) ?_ ?_
                                      rotate_left
                                      · intro w'
                                        go_simp
                                        with_reducible rfl
                                      rotate_left
                                      · simp only [Act.put, List.setIfInBounds_toArray, List.set_cons_zero, List.set_cons_succ, i64_w, i32_w]
                                        rfl
                                      refine pure_ (i := 21) (N := some 107) (v := ?_) (a' := ?_) #[true, true, true, true, true, true, true, true, true, true, true, true, true, true, true, true, true, true, true, true, true, true, false, false, false, false, false, false, false, false, false, false, false, false, false, false, false, false, false, false, false, false] rfl rfl (any_of HT_.out (by kernel_rfl)) (fun _ _ _ h => h) (Or.inl ⟨by rfl, ?_⟩) ?_ ?_
                                      rotate_left
                                      · intro w'
                                        go_simp
                                        with_reducible rfl
                                      rotate_left
                                      · simp only [Act.put, List.setIfInBounds_toArray, List.set_cons_zero, List.set_cons_succ, i64_w, i32_w]
                                        rfl
                                      refine pure_ (i := 22) (N := some 108) (v := ?_) (a' := ?_) #[true, true, true, true, true, true, true, true, true, true, true, true, true, true, true, true, true, true, true, true, true, true, true, false, false, false, false, false, false, false, false, false, false, false, false, false, false, false, false, false, false, false] rfl rfl (any_of HT_.out (by kernel_rfl)) (fun _ _ _ h => h) (Or.inl ⟨by rfl, ?_⟩) ?_ ?_
                                      rotate_left
                                      · intro w'
                                        go_simp
                                        with_reducible rfl
                                      rotate_left
                                      · simp only [Act.put, List.setIfInBounds_toArray, List.set_cons_zero, List.set_cons_succ, i64_w, i32_w]
                                        rfl
                                      refine pure_ (i := 23) (N := some 109) (v := ?_) (a' := ?_) #[true, true, true, true, true, true, true, true, true, true, true, true, true, true, true, true, true, true, true, true, true, true, true, true, false, false, false, false, false, false, false, false, false, false, false, false, false, false, false, false, false, false] rfl rfl (any_of HT_.out (by kernel_rfl)) (fun _ _ _ h => h) (Or.inl ⟨by rfl, ?_⟩) ?_ ?_
                                      rotate_left
                                      · intro w'
                                        go_simp
                                        with_reducible rfl
                                      rotate_left
                                      · simp only [Act.put, List.setIfInBounds_toArray, List.set_cons_zero, List.set_cons_succ, i64_w, i32_w]
                                        rfl
                                      refine pure_ (i := 24) (N := some 110) (v := ?_) (a' := ?_) #[true, true, true, true, true, true, true, true, true, true, true, true, true, true, true, true, true, true, true, true, true, true, true, true, true, false, false, false, false, false, false, false, false, false, false, false, false, false, false, false, false, false] rfl rfl (any_of HT_.out (by kernel_rfl)) (fun _ _ _ h => h) (Or.inl ⟨by rfl, ?_⟩) ?_ ?_
                                      rotate_left
                                      · intro w'
                                        go_simp
                                        with_reducible rfl
                                      rotate_left
                                      · simp only [Act.put, List.setIfInBounds_toArray, List.set_cons_zero, List.set_cons_succ, i64_w, i32_w]
                                        rfl
                                      refine pure_ (i := 25) (N := some 111) (v := ?_) (a' := ?_) #[true, true, true, true, true, true, true, true, true, true, true, true, true, true, true, true, true, true, true, true, true, true, true, true, true, true, false, false, false, false, false, false, false, false, false, false, false, false, false, false, false, false] rfl rfl (any_of HT_.out (by kernel_rfl)) (fun _ _ _ h => h) (Or.inl ⟨by rfl, ?_⟩) ?_ ?_
                                      rotate_left
                                      · intro w'
                                        go_simp
                                        with_reducible rfl
                                      rotate_left
                                      · simp only [Act.put, List.setIfInBounds_toArray, List.set_cons_zero, List.set_cons_succ, i64_w, i32_w]
                                        rfl
                                      refine pure_ (i := 26) (N := some 112) (v := ?_) (a' := ?_) #[true, true, true, true, true, true, true, true, true, true, true, true, true, true, true, true, true, true, true, true, true, true, true, true, true, true, true, false, false, false, false, false, false, false, false, false, false, false, false, false, false, false] rfl rfl (any_of HT_.out (by kernel_rfl)) (fun _ _ _ h => h) (Or.inl ⟨by rfl, ?_⟩) ?_ ?_
                                      rotate_left
                                      · intro w'
                                        go_simp
                                        with_reducible rfl
                                      rotate_left
                                      · simp only [Act.put, List.setIfInBounds_toArray, List.set_cons_zero, List.set_cons_succ, i64_w, i32_w]
                                        rfl
                                      refine pure_ (i := 27) (N := some 113) (v := ?_) (a' := ?_) #[true, true, true, true, true, true, true, true, true, true, true, true, true, true, true, true, true, true, true, true, true, true, true, true, true, true, true, true, false, false, false, false, false, false, false, false, false, false, false, false, false, false] rfl rfl (any_of HT_.out (by kernel_rfl)) (fun _ _ _ h => h) (Or.inl ⟨by rfl, ?_⟩) ?_ ?_
                                      rotate_left
                                      · intro w'
                                        go_simp
                                        with_reducible rfl
                                      rotate_left
                                      · simp only [Act.put, List.setIfInBounds_toArray, List.set_cons_zero, List.set_cons_succ, i64_w, i32_w]
                                        rfl
                                      refine pure_ (i := 28) (N := some 114) (v := ?_) (a' := ?_) #[true, true, true, true, true, true, true, true, true, true, true, true, true, true, true, true, true, true, true, true, true, true, true, true, true, true, true, true, true, false, false, false, false, false, false, false, false, false, false, false, false, false] rfl rfl (any_of HT_.out (by kernel_rfl)) (fun _ _ _ h => h) (Or.inl ⟨by rfl, ?_⟩) ?_ ?_
                                      rotate_left
                                      · intro w'
                                        go_simp
                                        with_reducible rfl
                                      rotate_left
                                      · simp only [Act.put, List.setIfInBounds_toArray, List.set_cons_zero, List.set_cons_succ, i64_w, i32_w]
                                        rfl
                                      refine pure_ (i := 29) (N := some 115) (v := ?_) (a' := ?_) #[true, true, true, true, true, true, true, true, true, true, true, true, true, true, true, true, true, true, true, true, true, true, true, true, true, true, true, true, true, true, false, false, false, false, false, false, false, false, false, false, false, false] rfl rfl (any_of HT_.out (by kernel_rfl)) (fun _ _ _ h => h) (Or.inl ⟨by rfl, ?_⟩) ?_ ?_
                                      rotate_left
                                      · intro w'
                                        go_simp
                                        with_reducible rfl
                                      rotate_left
                                      · simp only [Act.put, List.setIfInBounds_toArray, List.set_cons_zero, List.set_cons_succ, i64_w, i32_w]
                                        rfl
                                      refine pure_ (i := 30) (N := some 116) (v := ?_) (a' := ?_) #[true, true, true, true, true, true, true, true, true, true, true, true, true, true, true, true, true, true, true, true, true, true, true, true, true, true, true, true, true, true, true, false, false, false, false, false, false, false, false, false, false, false] rfl rfl (any_of HT_.out (by kernel_rfl)) (fun _ _ _ h => h) (Or.inl ⟨by rfl, ?_⟩) ?_ ?_
                                      rotate_left
                                      · intro w'
                                        go_simp
                                        with_reducible rfl
                                      rotate_left
                                      · simp only [Act.put, List.setIfInBounds_toArray, List.set_cons_zero, List.set_cons_succ, i64_w, i32_w]
                                        rfl
                                      refine pure_ (i := 31) (N := some 117) (v := ?_) (a' := ?_) #[true, true, true, true, true, true, true, true, true, true, true, true, true, true, true, true, true, true, true, true, true, true, true, true, true, true, true, true, true, true, true, true, false, false, false, false, false, false, false, false, false, false] rfl rfl (any_of HT_.out (by kernel_rfl)) (fun _ _ _ h => h) (Or.inl ⟨by rfl, ?_⟩) ?_ ?_
                                      rotate_left
                                      · intro w'
                                        go_simp
                                        with_reducible rfl
                                      rotate_left
                                      · simp only [Act.put, List.setIfInBounds_toArray, List.set_cons_zero, List.set_cons_succ, i64_w, i32_w]
                                        rfl
                                      refine pure_ (i := 32) (N := some 118) (v := ?_) (a' := ?_) #[true, true, true, true, true, true, true, true, true, true, true, true, true, true, true, true, true, true, true, true, true, true, true, true, true, true, true, true, true, true, true, true, true, false, false, false, false, false, false, false, false, false] rfl rfl (any_of HT_.out (by kernel_rfl)) (fun _ _ _ h => h) (Or.inl ⟨by rfl, ?_⟩) ?_ ?_
                                      rotate_left
                                      · intro w'
                                        go_simp
                                        with_reducible rfl
                                      rotate_left
                                      · simp only [Act.put, List.setIfInBounds_toArray, List.set_cons_zero, List.set_cons_succ, i64_w, i32_w]
                                        rfl
                                      refine pure_ (i := 33) (N := some 119) (v := ?_) (a' := ?_) #[true, true, true, true, true, true, true, true, true, true, true, true, true, true, true, true, true, true, true, true, true, true, true, true, true, true, true, true, true, true, true, true, true, true, false, false, false, false, false, false, false, false] rfl rfl (any_of HT_.out (by kernel_rfl)) (fun _ _ _ h => h) (Or.inl ⟨by rfl, ?_⟩) ?_ ?_
                                      rotate_left
                                      · intro w'
                                        go_simp
                                        with_reducible rfl
                                      rotate_left
                                      · simp only [Act.put, List.setIfInBounds_toArray, List.set_cons_zero, List.set_cons_succ, i64_w, i32_w]
                                        rfl
                                      refine pure_ (i := 34) (N := some 120) (v := ?_) (a' := ?_) #[true, true, true, true, true, true, true, true, true, true, true, true, true, true, true, true, true, true, true, true, true, true, true, true, true, true, true, true, true, true, true, true, true, true, true, false, false, false, false, false, false, false] rfl rfl (any_of HT_.out (by kernel_rfl)) (fun _ _ _ h => h) (Or.inl ⟨by rfl, ?_⟩) ?_ ?_
                                      rotate_left
                                      · intro w'
                                        go_simp
                                        with_reducible rfl
                                      rotate_left
                                      · simp only [Act.put, List.setIfInBounds_toArray, List.set_cons_zero, List.set_cons_succ, i64_w, i32_w]
                                        rfl
                                      refine pure_ (i := 35) (N := some 121) (v := ?_) (a' := ?_) #[true, true, true, true, true, true, true, true, true, true, true, true, true, true, true, true, true, true, true, true, true, true, true, true, true, true, true, true, true, true, true, true, true, true, true, true, false, false, false, false, false, false] rfl rfl (any_of HT_.out (by kernel_rfl)) (fun _ _ _ h => h) (Or.inl ⟨by rfl, ?_⟩) ?_ ?_
                                      rotate_left
                                      · intro w'
                                        go_simp
                                        with_reducible rfl
                                      rotate_left
                                      · simp only [Act.put, List.setIfInBounds_toArray, List.set_cons_zero, List.set_cons_succ, i64_w, i32_w]
                                        rfl
                                      refine pure_ (i := 36) (N := some 122) (v := ?_) (a' := ?_) #[true, true, true, true, true, true, true, true, true, true, true, true, true, true, true, true, true, true, true, true, true, true, true, true, true, true, true, true, true, true, true, true, true, true, true, true, true, false, false, false, false, false] rfl rfl (any_of HT_.out (by kernel_rfl)) (fun _ _ _ h => h) (Or.inl ⟨by rfl, ?_⟩) ?_ ?_
                                      rotate_left
                                      · intro w'
                                        go_simp
                                        with_reducible rfl
                                      rotate_left
                                      · simp only [Act.put, List.setIfInBounds_toArray, List.set_cons_zero, List.set_cons_succ, i64_w, i32_w]
                                        rfl
                                      refine pure_ (i := 37) (N := some 123) (v := ?_) (a' := ?_) #[true, true, true, true, true, true, true, true, true, true, true, true, true, true, true, true, true, true, true, true, true, true, true, true, true, true, true, true, true, true, true, true, true, true, true, true, true, true, false, false, false, false] rfl rfl (any_of HT_.out (by kernel_rfl)) (fun _ _ _ h => h) (Or.inl ⟨by rfl, ?_⟩) ?_ ?_
                                      rotate_left
                                      · intro w'
                                        go_simp
                                        with_reducible rfl
                                      rotate_left
                                      · simp only [Act.put, List.setIfInBounds_toArray, List.set_cons_zero, List.set_cons_succ, i64_w, i32_w]
                                        rfl
                                      refine pure_ (i := 38) (N := some 124) (v := ?_) (a' := ?_) #[true, true, true, true, true, true, true, true, true, true, true, true, true, true, true, true, true, true, true, true, true, true, true, true, true, true, true, true, true, true, true, true, true, true, true, true, true, true, true, false, false, false] rfl rfl (any_of HT_.out (by kernel_rfl)) (fun _ _ _ h => h) (Or.inl ⟨by rfl, ?_⟩) ?_ ?_
                                      rotate_left
                                      · intro w'
                                        go_simp
                                        with_reducible rfl
                                      rotate_left
                                      · simp only [Act.put, List.setIfInBounds_toArray, List.set_cons_zero, List.set_cons_succ, i64_w, i32_w]
                                        rfl
                                      refine pure_ (i := 39) (N := some 125) (v := ?_) (a' := ?_) #[true, true, true, true, true, true, true, true, true, true, true, true, true, true, true, true, true, true, true, true, true, true, true, true, true, true, true, true, true, true, true, true, true, true, true, true, true, true, true, true, false, false] rfl rfl (any_of HT_.out (by kernel_rfl)) (fun _ _ _ h => h) (Or.inl ⟨by rfl, ?_⟩) ?_ ?_
                                      rotate_left
                                      · intro w'
                                        go_simp
                                        with_reducible rfl
                                      rotate_left
                                      · simp only [Act.put, List.setIfInBounds_toArray, List.set_cons_zero, List.set_cons_succ, i64_w, i32_w]
                                        rfl
                                      refine pure_ (i := 40) (N := some 126) (v := ?_) (a' := ?_) #[true, true, true, true, true, true, true, true, true, true, true, true, true, true, true, true, true, true, true, true, true, true, true, true, true, true, true, true, true, true, true, true, true, true, true, true, true, true, true, true, true, false] rfl rfl (any_of HT_.out (by kernel_rfl)) (fun _ _ _ h => h) (Or.inl ⟨by rfl, ?_⟩) ?_ ?_
                                      rotate_left
                                      · intro w'
                                        go_simp
                                        with_reducible rfl
                                      rotate_left
                                      · simp only [Act.put, List.setIfInBounds_toArray, List.set_cons_zero, List.set_cons_succ, i64_w, i32_w]
                                        rfl
                                      refine pure_ (i := 41) (N := some 6) (v := ?_) (a' := ?_) #[true, true, true, true, true, true, true, true, true, true, true, true, true, true, true, true, true, true, true, true, true, true, true, true, true, true, true, true, true, true, true, true, true, true, true, true, true, true, true, true, true, true] rfl rfl (any_of HT_.out (by kernel_rfl)) (fun _ _ _ h => h) (Or.inl ⟨by rfl, ?_⟩) ?_ ?_
                                      rotate_left
                                      · intro w'
                                        go_simp
                                        with_reducible rfl
                                      rotate_left
                                      · simp only [Act.put, List.setIfInBounds_toArray, List.set_cons_zero, List.set_cons_succ, i64_w, i32_w]
                                        rfl
                                      refine done_ (done_of HT_.out (by kernel_rfl)) ?_
                                      try go_wp2
                                      go_ret
                                      exact ⟨by first | rfl | (simp [errW_none, errW_some] <;> rfl) | (rw [HR_.out]; done) | (rw [← HR_.out]; done) | (have hR_ := HR_.out; simp only [hR_]; done) | (have hR_ := HR_.out; simp only [ByteArray.size_append] at hR_; exact congrArg (fun b_ => Ending.returned (.bool b_)) hR_) | (have hR_ := HR_.out; simp_all; done) | (simp only [← hji48, ← hji54]; first | rfl | (simp [errW_none, errW_some] <;> rfl)) | (simp [*, errW_none, errW_some] <;> rfl), by repeat (first | (with_reducible first | exact HB.out | apply below_alloc | apply pw_below_drewN | apply below_drew1 | refine below_set ?_ GE146.out) | exact HB.out)⟩
                                    · rw [if_neg c58] at H
                                      exact absurd H (by simp)
                                  · rw [if_neg c56] at H
                                    exact absurd H (by simp)
                                · rw [if_neg c55] at H
                                  exact absurd H (by simp)
                              · rw [if_neg c53] at H
                                have c53b0 : ((t149.extract 0 ((ji48) : Int).toNat).toList == ((t148 ++ (⟨#[49, 50, 51, 52, 53, 54, 55, 56]⟩ : ByteArray)).extract 0 ((ji48) : Int).toNat).toList) = false := beq_eq_false_iff_ne.mpr c53
                                have c53b1 : ((t149.extract 0 ((ji48) : Int).toNat).toList != ((t148 ++ (⟨#[49, 50, 51, 52, 53, 54, 55, 56]⟩ : ByteArray)).extract 0 ((ji48) : Int).toNat).toList) = true := bne_iff_ne.mpr c53
                                exact absurd H (by simp)
                            · rw [if_neg c52] at H
                              exact absurd H (by simp)
                          · rw [if_neg c50] at H
                            exact absurd H (by simp)
                        · rw [if_neg c49] at H
                          exact absurd H (by simp)
                      · rw [if_neg c47] at H
                        have c47b0 : (t156.toList == t158.toList) = false := beq_eq_false_iff_ne.mpr c47
                        have c47b1 : (t156.toList != t158.toList) = true := bne_iff_ne.mpr c47
                        exact absurd H (by simp)
                    · replace c45 := Bool.eq_false_iff.mpr c45
                      subst c45
                      have H1 : (some false) = some true := by rw [if_neg (show ¬ (false = true) by decide)] at H; exact H
                      clear H
                      have H := H1
                      clear H1
                      exact absurd H (by simp)
                  · rw [if_neg c44] at H
                    have c44b0 : (t151 == a2) = false := beq_eq_false_iff_ne.mpr c44
                    have c44b1 : (t151 != a2) = true := bne_iff_ne.mpr c44
                    exact absurd H (by simp)
                · replace c43 := Bool.eq_false_iff.mpr c43
                  subst c43
                  have H1 : (some false) = some true := by rw [if_neg (show ¬ (false = true) by decide)] at H; exact H
                  clear H
                  have H := H1
                  clear H1
                  exact absurd H (by simp)
              · replace c42 := Bool.eq_false_iff.mpr c42
                subst c42
                have H1 : (some false) = some true := by rw [if_neg (show ¬ (false = true) by decide)] at H; exact H
                clear H
                have H := H1
                clear H1
                exact absurd H (by simp)
  · rw [if_neg c6] at H
    exact absurd H (by simp)

end Go.Proofs.Ytopbkfgeidnleaa.X
