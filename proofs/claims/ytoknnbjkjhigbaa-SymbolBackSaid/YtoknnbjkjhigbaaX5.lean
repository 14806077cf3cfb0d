/- Walks of Go functions of this seat: each calls-theorem says that the Go function, called at values of its kinds, returns what the Lean function of its name tells, where that tells something; what was in memory stays. Written by our own program xprint.py. -/
import Derived.Test.YtoknnbjkjhigbaaX0
import Derived.Test.YtoknnbjkjhigbaaX2
import Derived.Test.YtoknnbjkjhigbaaX3
import Derived.Test.YtoknnbjkjhigbaaX4
namespace Go.Proofs.Ytoknnbjkjhigbaa.X
open Go.RowKit Go.Proofs.YtoknnbjkjhigbaaW.PrintWords Go.Proofs.YtoknnbjkjhigbaaW.PrintLast Go.Proofs.YtoknnbjkjhigbaaW.PrintMore
attribute [local go_sem] max2_int min2_int max_two min_two max_three min_three max_four min_four   -- for this text's walks alone
set_option linter.unusedVariables false
set_option linter.unusedSimpArgs false

/-! ### flyleaflaw10_Program_made: function 10 -/
mutual
def flyleaflaw10_Program_made.l0 : Nat → ByteArray → List (S37) → List ByteArray → Int → List ByteArray → List Int → Int → Int → Int → Int → Int → Int → Int → Int → Int → Option (ByteArray × List Int × Int × Int × Int × Int × Int × Int × Int × Int × (List (S37)))
  | 0, _, _, _, _, _, _, _, _, _, _, _, _, _, _, _ => none
  | k + 1, x5, x7, x8, x9, x139000, x139001, x139002, x142001, x142002, x142003, x142004, x142005, x142006, x142007, x142008 => if x9 < (x139000.length : Int) then (flyleaflaw10_Program_made.j1 k x5 x7 x8 x9 (decide (x9 < 12)) x139000 x139001 x139002 x142001 x142002 x142003 x142004 x142005 x142006 x142007 x142008) else (flyleaflaw10_Program_made.j1 k x5 x7 x8 x9 false x139000 x139001 x139002 x142001 x142002 x142003 x142004 x142005 x142006 x142007 x142008)
def flyleaflaw10_Program_made.j1 : Nat → ByteArray → List (S37) → List ByteArray → Int → Bool → List ByteArray → List Int → Int → Int → Int → Int → Int → Int → Int → Int → Int → Option (ByteArray × List Int × Int × Int × Int × Int × Int × Int × Int × Int × (List (S37)))
  | 0, _, _, _, _, _, _, _, _, _, _, _, _, _, _, _, _ => none
  | k + 1, x5, x7, x8, x9, x32, x139000, x139001, x139002, x142001, x142002, x142003, x142004, x142005, x142006, x142007, x142008 => if x32 = true then (if 0 ≤ x9 then (if x9 < (x139000.length : Int) then ((flyleaflaw10_short.f (rdOf ByteArray.empty x139000 x9) 8).bind fun t143 => (flyleaflaw10_Program_made.l1 k x5 x7 x8 x9 t143 0 x139000 x139001 x139002 x142001 x142002 x142003 x142004 x142005 x142006 x142007 x142008)) else (none)) else (none)) else (flyleaflaw10_Program_made.l2 k x5 x7 x8 0 x142001 (wrap64 ((x5.size : Int) - x142001)) (x5.size : Int) x142004 x142005 x142006 x142007 x142008)
def flyleaflaw10_Program_made.l1 : Nat → ByteArray → List (S37) → List ByteArray → Int → ByteArray → Int → List ByteArray → List Int → Int → Int → Int → Int → Int → Int → Int → Int → Int → Option (ByteArray × List Int × Int × Int × Int × Int × Int × Int × Int × Int × (List (S37)))
  | 0, _, _, _, _, _, _, _, _, _, _, _, _, _, _, _, _, _ => none
  | k + 1, x5, x7, x8, x9, x10, x11, x139000, x139001, x139002, x142001, x142002, x142003, x142004, x142005, x142006, x142007, x142008 => if x11 < (x10.size : Int) then (if 0 ≤ x11 then (if (bt x10 x11) = 0 then (if x11 ≤ (x10.size : Int) then (flyleaflaw10_Program_made.l1 k x5 x7 x8 x9 (x10.extract 0 (x11 : Int).toNat) (wrap64 (x11 + 1)) x139000 x139001 x139002 x142001 x142002 x142003 x142004 x142005 x142006 x142007 x142008) else (none)) else (flyleaflaw10_Program_made.l1 k x5 x7 x8 x9 x10 (wrap64 (x11 + 1)) x139000 x139001 x139002 x142001 x142002 x142003 x142004 x142005 x142006 x142007 x142008)) else (none)) else (if x9 < (x139001.length : Int) then (if 0 ≤ x9 then (if x8.length < 8796093022208 then (if x7.length < 5864062014805 then (if x5.size + x10.size ≤ 9223372036854775807 then (if x5.size + x10.size + 1 ≤ 9223372036854775807 then (flyleaflaw10_Program_made.l0 k ((x5 ++ x10) ++ (⟨#[0]⟩ : ByteArray)) (x7 ++ [(⟨wrap64 ((x5.size : Int) - x142001), ((Go.bits .and .i64 (Go.bits .and .i64 (rd x139001 x9) 4095) 3) != 0), Go.bits .and .i64 (rd x139001 x9) 4095⟩ : S37)]) (x8 ++ [x10]) (wrap64 (x9 + 1)) x139000 x139001 x139002 x142001 x142002 x142003 x142004 x142005 x142006 x142007 x142008) else (none)) else (none)) else (none)) else (none)) else (none)) else (if x8.length < 8796093022208 then (if x7.length < 5864062014805 then (if x5.size + x10.size ≤ 9223372036854775807 then (if x5.size + x10.size + 1 ≤ 9223372036854775807 then (flyleaflaw10_Program_made.l0 k ((x5 ++ x10) ++ (⟨#[0]⟩ : ByteArray)) (x7 ++ [(⟨wrap64 ((x5.size : Int) - x142001), ((Go.bits .and .i64 0 3) != 0), 0⟩ : S37)]) (x8 ++ [x10]) (wrap64 (x9 + 1)) x139000 x139001 x139002 x142001 x142002 x142003 x142004 x142005 x142006 x142007 x142008) else (none)) else (none)) else (none)) else (none)))
def flyleaflaw10_Program_made.l2 : Nat → ByteArray → List (S37) → List ByteArray → Int → Int → Int → Int → Int → Int → Int → Int → Int → Option (ByteArray × List Int × Int × Int × Int × Int × Int × Int × Int × Int × (List (S37)))
  | 0, _, _, _, _, _, _, _, _, _, _, _, _ => none
  | k + 1, x5, x7, x8, x13, x142001, x142002, x142003, x142004, x142005, x142006, x142007, x142008 => if x13 < (x7.length : Int) then (if 0 ≤ x13 then ((flyleafref10_Bytes.f k ((rd_T37 x7 x13).f0) ((rd_T37 x7 x13).f1) ((rd_T37 x7 x13).f2)).bind fun t158 => (if x5.size + t158.size ≤ 9223372036854775807 then (flyleaflaw10_Program_made.l2 k (x5 ++ t158) x7 x8 (wrap64 (x13 + 1)) x142001 x142002 x142003 x142004 x142005 x142006 x142007 x142008) else (none))) else (none)) else ((flyleafref10_Table.f k x8).bind fun bt159 => (if x5.size + bt159.1.size ≤ 9223372036854775807 then (some (x5 ++ bt159.1, ([] : List Int), x142001, x142002, x142003, (x5.size : Int), x142005, x142006, x142007, x142008, x7)) else (none)))
end
def flyleaflaw10_Program_made.f (k : Nat) (l0_0 : List ByteArray) (l0_1 : List Int) (a0_2 : Int) : Option (ByteArray × List Int × Int × Int × Int × Int × Int × Int × Int × Int × (List (S37))) := (flyleafref01_Fill.f (⟨#[]⟩ : ByteArray) (wrap64 (8 + (Go.bits .and .i64 a0_2 63)))).bind fun t140 => (flyleaflaw10_Program_made.l0 k t140 ([] : List (S37)) ([] : List ByteArray) 0 l0_0 l0_1 a0_2 (t140.size : Int) 0 0 0 0 0 0 0)
theorem flyleaflaw10_Program_made.mono_l : ∀ k, (∀ y0 y1 y2 y3 y4 y5 y6 y7 y8 y9 y10 y11 y12 y13 y14, LeO (flyleaflaw10_Program_made.l0 k y0 y1 y2 y3 y4 y5 y6 y7 y8 y9 y10 y11 y12 y13 y14) (flyleaflaw10_Program_made.l0 (k + 1) y0 y1 y2 y3 y4 y5 y6 y7 y8 y9 y10 y11 y12 y13 y14)) ∧ (∀ y0 y1 y2 y3 y4 y5 y6 y7 y8 y9 y10 y11 y12 y13 y14 y15, LeO (flyleaflaw10_Program_made.j1 k y0 y1 y2 y3 y4 y5 y6 y7 y8 y9 y10 y11 y12 y13 y14 y15) (flyleaflaw10_Program_made.j1 (k + 1) y0 y1 y2 y3 y4 y5 y6 y7 y8 y9 y10 y11 y12 y13 y14 y15)) ∧ (∀ y0 y1 y2 y3 y4 y5 y6 y7 y8 y9 y10 y11 y12 y13 y14 y15 y16, LeO (flyleaflaw10_Program_made.l1 k y0 y1 y2 y3 y4 y5 y6 y7 y8 y9 y10 y11 y12 y13 y14 y15 y16) (flyleaflaw10_Program_made.l1 (k + 1) y0 y1 y2 y3 y4 y5 y6 y7 y8 y9 y10 y11 y12 y13 y14 y15 y16)) ∧ (∀ y0 y1 y2 y3 y4 y5 y6 y7 y8 y9 y10 y11, LeO (flyleaflaw10_Program_made.l2 k y0 y1 y2 y3 y4 y5 y6 y7 y8 y9 y10 y11) (flyleaflaw10_Program_made.l2 (k + 1) y0 y1 y2 y3 y4 y5 y6 y7 y8 y9 y10 y11))
  | 0 => ⟨fun _ _ _ _ _ _ _ _ _ _ _ _ _ _ _ r h => by simp [flyleaflaw10_Program_made.l0] at h, fun _ _ _ _ _ _ _ _ _ _ _ _ _ _ _ _ r h => by simp [flyleaflaw10_Program_made.j1] at h, fun _ _ _ _ _ _ _ _ _ _ _ _ _ _ _ _ _ r h => by simp [flyleaflaw10_Program_made.l1] at h, fun _ _ _ _ _ _ _ _ _ _ _ _ r h => by simp [flyleaflaw10_Program_made.l2] at h⟩
  | k + 1 => by
    obtain ⟨ih0, ih1, ih2, ih3⟩ := flyleaflaw10_Program_made.mono_l k
    refine ⟨?_, ?_, ?_, ?_⟩
    · intro y0 y1 y2 y3 y4 y5 y6 y7 y8 y9 y10 y11 y12 y13 y14
      unfold flyleaflaw10_Program_made.l0
      repeat' first
      | (with_reducible exact ih0 _ _ _ _ _ _ _ _ _ _ _ _ _ _ _)
      | (with_reducible exact ih1 _ _ _ _ _ _ _ _ _ _ _ _ _ _ _ _)
      | (with_reducible exact ih2 _ _ _ _ _ _ _ _ _ _ _ _ _ _ _ _ _)
      | (with_reducible exact ih3 _ _ _ _ _ _ _ _ _ _ _ _)
      | (with_reducible exact flyleafref10_Bytes.mono _ _ _ _)
      | (with_reducible exact flyleafref10_Table.mono _ _)
      | (with_reducible exact LeO.refl _)
      | (with_reducible exact LeO.none _)
      | (with_reducible refine LeO.ite ?_ ?_)
      | (with_reducible refine LeO.bind ?_ (fun _ => ?_))
      | exact ih0 _ _ _ _ _ _ _ _ _ _ _ _ _ _ _
      | exact ih1 _ _ _ _ _ _ _ _ _ _ _ _ _ _ _ _
      | exact ih2 _ _ _ _ _ _ _ _ _ _ _ _ _ _ _ _ _
      | exact ih3 _ _ _ _ _ _ _ _ _ _ _ _
      | exact flyleafref10_Bytes.mono _ _ _ _
      | exact flyleafref10_Table.mono _ _
      | exact LeO.none _
      | refine LeO.ite ?_ ?_
      | refine LeO.bind ?_ (fun _ => ?_)
    · intro y0 y1 y2 y3 y4 y5 y6 y7 y8 y9 y10 y11 y12 y13 y14 y15
      unfold flyleaflaw10_Program_made.j1
      repeat' first
      | (with_reducible exact ih0 _ _ _ _ _ _ _ _ _ _ _ _ _ _ _)
      | (with_reducible exact ih1 _ _ _ _ _ _ _ _ _ _ _ _ _ _ _ _)
      | (with_reducible exact ih2 _ _ _ _ _ _ _ _ _ _ _ _ _ _ _ _ _)
      | (with_reducible exact ih3 _ _ _ _ _ _ _ _ _ _ _ _)
      | (with_reducible exact flyleafref10_Bytes.mono _ _ _ _)
      | (with_reducible exact flyleafref10_Table.mono _ _)
      | (with_reducible exact LeO.refl _)
      | (with_reducible exact LeO.none _)
      | (with_reducible refine LeO.ite ?_ ?_)
      | (with_reducible refine LeO.bind ?_ (fun _ => ?_))
      | exact ih0 _ _ _ _ _ _ _ _ _ _ _ _ _ _ _
      | exact ih1 _ _ _ _ _ _ _ _ _ _ _ _ _ _ _ _
      | exact ih2 _ _ _ _ _ _ _ _ _ _ _ _ _ _ _ _ _
      | exact ih3 _ _ _ _ _ _ _ _ _ _ _ _
      | exact flyleafref10_Bytes.mono _ _ _ _
      | exact flyleafref10_Table.mono _ _
      | exact LeO.none _
      | refine LeO.ite ?_ ?_
      | refine LeO.bind ?_ (fun _ => ?_)
    · intro y0 y1 y2 y3 y4 y5 y6 y7 y8 y9 y10 y11 y12 y13 y14 y15 y16
      unfold flyleaflaw10_Program_made.l1
      repeat' first
      | (with_reducible exact ih0 _ _ _ _ _ _ _ _ _ _ _ _ _ _ _)
      | (with_reducible exact ih1 _ _ _ _ _ _ _ _ _ _ _ _ _ _ _ _)
      | (with_reducible exact ih2 _ _ _ _ _ _ _ _ _ _ _ _ _ _ _ _ _)
      | (with_reducible exact ih3 _ _ _ _ _ _ _ _ _ _ _ _)
      | (with_reducible exact flyleafref10_Bytes.mono _ _ _ _)
      | (with_reducible exact flyleafref10_Table.mono _ _)
      | (with_reducible exact LeO.refl _)
      | (with_reducible exact LeO.none _)
      | (with_reducible refine LeO.ite ?_ ?_)
      | (with_reducible refine LeO.bind ?_ (fun _ => ?_))
      | exact ih0 _ _ _ _ _ _ _ _ _ _ _ _ _ _ _
      | exact ih1 _ _ _ _ _ _ _ _ _ _ _ _ _ _ _ _
      | exact ih2 _ _ _ _ _ _ _ _ _ _ _ _ _ _ _ _ _
      | exact ih3 _ _ _ _ _ _ _ _ _ _ _ _
      | exact flyleafref10_Bytes.mono _ _ _ _
      | exact flyleafref10_Table.mono _ _
      | exact LeO.none _
      | refine LeO.ite ?_ ?_
      | refine LeO.bind ?_ (fun _ => ?_)
    · intro y0 y1 y2 y3 y4 y5 y6 y7 y8 y9 y10 y11
      unfold flyleaflaw10_Program_made.l2
      repeat' first
      | (with_reducible exact ih0 _ _ _ _ _ _ _ _ _ _ _ _ _ _ _)
      | (with_reducible exact ih1 _ _ _ _ _ _ _ _ _ _ _ _ _ _ _ _)
      | (with_reducible exact ih2 _ _ _ _ _ _ _ _ _ _ _ _ _ _ _ _ _)
      | (with_reducible exact ih3 _ _ _ _ _ _ _ _ _ _ _ _)
      | (with_reducible exact flyleafref10_Bytes.mono _ _ _ _)
      | (with_reducible exact flyleafref10_Table.mono _ _)
      | (with_reducible exact LeO.refl _)
      | (with_reducible exact LeO.none _)
      | (with_reducible refine LeO.ite ?_ ?_)
      | (with_reducible refine LeO.bind ?_ (fun _ => ?_))
      | exact ih0 _ _ _ _ _ _ _ _ _ _ _ _ _ _ _
      | exact ih1 _ _ _ _ _ _ _ _ _ _ _ _ _ _ _ _
      | exact ih2 _ _ _ _ _ _ _ _ _ _ _ _ _ _ _ _ _
      | exact ih3 _ _ _ _ _ _ _ _ _ _ _ _
      | exact flyleafref10_Bytes.mono _ _ _ _
      | exact flyleafref10_Table.mono _ _
      | exact LeO.none _
      | refine LeO.ite ?_ ?_
      | refine LeO.bind ?_ (fun _ => ?_)
theorem flyleaflaw10_Program_made.mono : ∀ a0 a1 a2 k, LeO (flyleaflaw10_Program_made.f k a0 a1 a2) (flyleaflaw10_Program_made.f (k + 1) a0 a1 a2) := by
  intro a0 a1 a2 k
  obtain ⟨ih0, ih1, ih2, ih3⟩ := flyleaflaw10_Program_made.mono_l k
  unfold flyleaflaw10_Program_made.f
  repeat' first
      | (with_reducible exact ih0 _ _ _ _ _ _ _ _ _ _ _ _ _ _ _)
      | (with_reducible exact ih1 _ _ _ _ _ _ _ _ _ _ _ _ _ _ _ _)
      | (with_reducible exact ih2 _ _ _ _ _ _ _ _ _ _ _ _ _ _ _ _ _)
      | (with_reducible exact ih3 _ _ _ _ _ _ _ _ _ _ _ _)
      | (with_reducible exact flyleafref10_Bytes.mono _ _ _ _)
      | (with_reducible exact flyleafref10_Table.mono _ _)
      | (with_reducible exact LeO.refl _)
      | (with_reducible exact LeO.none _)
      | (with_reducible refine LeO.ite ?_ ?_)
      | (with_reducible refine LeO.bind ?_ (fun _ => ?_))
      | exact ih0 _ _ _ _ _ _ _ _ _ _ _ _ _ _ _
      | exact ih1 _ _ _ _ _ _ _ _ _ _ _ _ _ _ _ _
      | exact ih2 _ _ _ _ _ _ _ _ _ _ _ _ _ _ _ _ _
      | exact ih3 _ _ _ _ _ _ _ _ _ _ _ _
      | exact flyleafref10_Bytes.mono _ _ _ _
      | exact flyleafref10_Table.mono _ _
      | exact LeO.none _
      | refine LeO.ite ?_ ?_
      | refine LeO.bind ?_ (fun _ => ?_)
def flyleaflaw10_Program_made.T29 : Bool × List (List Nat × List Nat) := (true, [([], []), ([], []), ([0, 1], [0, 1]), ([], []), ([], []), ([2, 0, 1, 2], [2]), ([3, 5, 0, 1, 2, 3, 5], [3]), ([4, 6, 0, 1, 2, 3, 4, 5, 6], [4])])
def flyleaflaw10_Program_made.B29 : List Nat := [0, 0, 3, 0, 0, 7, 47, 127]
theorem flyleaflaw10_Program_made.tab29 : rtab .any (opsOf Try.f10 29) = flyleaflaw10_Program_made.T29 := by kernel_rfl
theorem flyleaflaw10_Program_made.bits29 : waitsOk flyleaflaw10_Program_made.T29.2 flyleaflaw10_Program_made.B29 = true := by kernel_rfl
set_option maxHeartbeats 8000000 in
set_option maxRecDepth 100000 in
theorem flyleaflaw10_Program_made.calls (k : Nat) (A0_0 : Option Addr) (c0_0 : Nat) (l0_0 : List ByteArray) (A0_1 : Option Addr) (c0_1 : Nat) (l0_1 : List Int) (a0_2 : Int) (r1 : ByteArray) (r2 : List Int) (r3 : Int) (r4 : Int) (r5 : Int) (r6 : Int) (r7 : Int) (r8 : Int) (r9 : Int) (r10 : Int) (r11 : List (S37)) (w : World) (hr0_0 : Kd.C Kd.string w A0_0 l0_0.length l0_0) (hc0_0 : l0_0.length ≤ c0_0) (hr0_1 : Kd.C (Kd.int .i64) w A0_1 l0_1.length l0_1) (hc0_1 : l0_1.length ≤ c0_1) (h : flyleaflaw10_Program_made.f k l0_0 l0_1 a0_2 = some (r1, r2, r3, r4, r5, r6, r7, r8, r9, r10, r11)) :
    Calls Try.prog 10 #[.agg #[.slice A0_0 l0_0.length c0_0, .slice A0_1 l0_1.length c0_1, .int .i64 a0_2]] w fun e w' => ∃ v1_ v10_ : Value, e = .returned (.tuple #[.string r1, .agg #[v1_, .int .i64 r3, .int .i64 r4, .int .i64 r5, .int .i64 r6, .int .i64 r7, .int .i64 r8, .int .i64 r9, .int .i64 r10], v10_]) ∧ Kd.R (Kd.int .i64) 3 w' w.heap.size (fun _ => True) v1_ r2 ∧ Kd.R k37 37 w' w.heap.size (fun _ => True) v10_ r11 ∧ Below w.heap.size w w' := by
  have hu30 := Try.underlying30
  have hu32 := Try.underlying32
  have hu37 := Try.underlying37
  have HR0_0 := Aside0.mk hr0_0
  have HC0_0 := Aside0.mk hc0_0
  clear hr0_0 hc0_0
  have HR0_1 := Aside0.mk hr0_1
  have HC0_1 := Aside0.mk hc0_1
  clear hr0_1 hc0_1
  have HB := Aside0.mk (Below.refl w.heap.size w)
  have H : ((flyleafref01_Fill.f (⟨#[]⟩ : ByteArray) (wrap64 (8 + (Go.bits .and .i64 a0_2 63)))).bind fun t140 => (flyleaflaw10_Program_made.l0 k t140 ([] : List (S37)) ([] : List ByteArray) 0 l0_0 l0_1 a0_2 (t140.size : Int) 0 0 0 0 0 0 0)) = some (r1, r2, r3, r4, r5, r6, r7, r8, r9, r10, r11) := h
  clear h
  replace H := Option.bind_eq_some_iff.mp H
  obtain ⟨t140, A20, H⟩ := H
  replace H : (flyleaflaw10_Program_made.l0 k t140 ([] : List (S37)) ([] : List ByteArray) 0 l0_0 l0_1 a0_2 (t140.size : Int) 0 0 0 0 0 0 0) = some (r1, r2, r3, r4, r5, r6, r7, r8, r9, r10, r11) := H
  have A2 := Aside0.mk A20
  clear A20
  have H' := Aside0.mk H
  clear H
  go_enter Try.func10, Try.ntmps10
  go_wp2_with (first | ((with_reducible refine gate_dst (N := 1) rfl ?_); refine box_event ?hg (N := 1) ?hd (cs := #[.slice A0_0 l0_0.length c0_0, .slice A0_1 l0_1.length c0_1, .int .i64 a0_2]) (t := 30) ?hr ?_; (case hd => rfl); (case hg => rfl); (case hr => first | (go_simp; done) | (go_simp; rfl)); intro gb138 hg w3 hbox hb; have n0_ := Aside0.mk (below_step (by repeat (first | (with_reducible first | exact HB.out | apply below_alloc | apply pw_below_drewN | apply below_drew1) | exact HB.out)) hb); have n1_ := Aside0.mk (hbox); have n2_ := Aside0.mk ((by rw [hg]; exact (below_size (by repeat (first | (with_reducible first | exact HB.out | apply below_alloc | apply pw_below_drewN | apply below_drew1) | exact HB.out))) : w.heap.size ≤ gb138)); have n3_ := Aside0.mk ((by rw [hg]; exact (below_size (by repeat (first | (with_reducible first | exact HB.out | apply below_alloc | apply pw_below_drewN | apply below_drew1) | exact HB.out))) : w.heap.size ≤ gb138)); clear HB; have HB := n0_; have BK138 := n1_; have GW138 := n2_; have GE138 := n3_; clear n0_ n1_ n2_ n3_; clear hb hbox hg) | ((with_reducible refine gate_dst (N := 3) rfl ?_); refine box_event ?hg (N := 3) ?hd (cs := #[.slice none 0 0, .int .i64 0, .int .i64 0, .int .i64 0, .int .i64 0, .int .i64 0, .int .i64 0, .int .i64 0, .int .i64 0]) (t := 32) ?hr ?_; (case hd => rfl); (case hg => rfl); (case hr => first | (go_simp; done) | (go_simp; rfl)); intro gb139 hg w4 hbox hb; have n0_ := Aside0.mk (blk_below (g := gb138) (o := .cells #[.slice A0_0 l0_0.length c0_0, .slice A0_1 l0_1.length c0_1, .int .i64 a0_2] 30 (0, 0)) (by (with_reducible repeat (first | refine blk_drewN ?_ _ | refine blk_drew ?_ | refine blk_alloc ?_ _)); exact BK138.out) hb); have n1_ := Aside0.mk (below_step (by repeat (first | (with_reducible first | exact HB.out | apply below_alloc | apply pw_below_drewN | apply below_drew1 | refine below_set ?_ GE138.out) | exact HB.out)) hb); have n2_ := Aside0.mk (hbox); have n3_ := Aside0.mk ((by rw [hg]; exact (below_size (by repeat (first | (with_reducible first | exact HB.out | apply below_alloc | apply pw_below_drewN | apply below_drew1 | refine below_set ?_ GE138.out) | exact HB.out))) : w.heap.size ≤ gb139)); have n4_ := Aside0.mk ((by rw [hg]; exact (below_size (by repeat (first | (with_reducible first | exact HB.out | apply below_alloc | apply pw_below_drewN | apply below_drew1 | refine below_set ?_ GE138.out) | exact HB.out))) : w.heap.size ≤ gb139)); have n5_ := Aside0.mk ((by rw [hg]; exact Nat.ne_of_lt (blk_lt (g := gb138) (o := .cells #[.slice A0_0 l0_0.length c0_0, .slice A0_1 l0_1.length c0_1, .int .i64 a0_2] 30 (0, 0)) (by (with_reducible repeat (first | refine blk_drewN ?_ _ | refine blk_drew ?_ | refine blk_alloc ?_ _)); exact BK138.out)) : gb138 ≠ gb139)); have n6_ := Aside0.mk ((by rw [hg]; exact Nat.ne_of_gt (blk_lt (g := gb138) (o := .cells #[.slice A0_0 l0_0.length c0_0, .slice A0_1 l0_1.length c0_1, .int .i64 a0_2] 30 (0, 0)) (by (with_reducible repeat (first | refine blk_drewN ?_ _ | refine blk_drew ?_ | refine blk_alloc ?_ _)); exact BK138.out)) : gb139 ≠ gb138)); clear BK138; clear HB; have BK138 := n0_; have HB := n1_; have BK139 := n2_; have GW139 := n3_; have GE139 := n4_; have NB138_139 := n5_; have NB139_138 := n6_; clear n0_ n1_ n2_ n3_ n4_ n5_ n6_; clear hb hbox hg; have hnb5 := NB138_139.out; have hnc5 := NB139_138.out; have hcz6_0 : w4.cell? ⟨gb138, 0, none⟩ = some (.slice A0_0 l0_0.length c0_0) := (blk_cell BK138.out 0).trans rfl; have hcz6_1 : w4.cell? ⟨gb138, 1, none⟩ = some (.slice A0_1 l0_1.length c0_1) := (blk_cell BK138.out 1).trans rfl; have hcz6_2 : w4.cell? ⟨gb138, 2, none⟩ = some (.int .i64 a0_2) := (blk_cell BK138.out 2).trans rfl; have hfz6_0 := blk_frozen BK138.out 0; have hfz6_1 := blk_frozen BK138.out 1; have hfz6_2 := blk_frozen BK138.out 2) | ((with_reducible refine gate_callee (f := 19) rfl ?_); refine goesL_ (some 20) rfl rfl Try.func19 (by kernel_rfl) rfl #[.string (⟨#[]⟩ : ByteArray), .int .i64 (wrap64 (8 + (Go.bits .and .i64 a0_2 63)))] rfl (by (try simp only [List.map_toArray, List.map_cons, List.map_nil]); first | done | rfl | (simp only [List.length_drop, List.length_take]; rfl) | (simp only [ByteArray.size_append, Int.natCast_add]; rfl)) ?_; (with_reducible refine (flyleafref01_Fill.calls (⟨#[]⟩ : ByteArray) (wrap64 (8 + (Go.bits .and .i64 a0_2 63))) t140 _ A2.out).mono ?_); rintro e w7 ⟨rfl, hb⟩; refine ⟨_, rfl, ?_⟩; have n0_ := Aside0.mk (blk_below (g := gb138) (o := .cells #[.slice A0_0 l0_0.length c0_0, .slice A0_1 l0_1.length c0_1, .int .i64 a0_2] 30 (0, 0)) (by (with_reducible repeat (first | refine blk_drewN ?_ _ | refine blk_drew ?_ | refine blk_alloc ?_ _)); exact BK138.out) hb); have n1_ := Aside0.mk (blk_below (g := gb139) (o := .cells #[.slice none 0 0, .int .i64 0, .int .i64 0, .int .i64 0, .int .i64 0, .int .i64 0, .int .i64 0, .int .i64 0, .int .i64 0] 32 (0, 0)) (by (with_reducible repeat (first | refine blk_drewN ?_ _ | refine blk_drew ?_ | refine blk_alloc ?_ _)); exact BK139.out) hb); have n2_ := Aside0.mk (below_step (by repeat (first | (with_reducible first | exact HB.out | apply below_alloc | apply pw_below_drewN | apply below_drew1 | refine below_set ?_ GE138.out | refine below_set ?_ GE139.out) | exact HB.out)) hb); clear BK138; clear BK139; clear HB; have BK138 := n0_; have BK139 := n1_; have HB := n2_; clear n0_ n1_ n2_; (try clear hb); (try clear hb2); (try clear hk); (try clear hi)) | ((with_reducible refine gate_dst (N := 6) rfl ?_); refine box_event ?hg (N := 6) ?hd (cs := #[.slice none 0 0, .int .i64 0, .int .i64 0, .int .i64 0, .int .i64 0, .int .i64 0, .int .i64 0, .int .i64 0, .int .i64 0]) (t := 32) ?hr ?_; (case hd => rfl); (case hg => rfl); (case hr => first | (go_simp; done) | (go_simp; rfl)); intro gb141 hg w8 hbox hb; have n0_ := Aside0.mk (blk_below (g := gb138) (o := .cells #[.slice A0_0 l0_0.length c0_0, .slice A0_1 l0_1.length c0_1, .int .i64 a0_2] 30 (0, 0)) (by (with_reducible repeat (first | refine blk_drewN ?_ _ | refine blk_drew ?_ | refine blk_alloc ?_ _)); exact BK138.out) hb); have n1_ := Aside0.mk (blk_below (g := gb139) (o := .cells #[.slice none 0 0, .int .i64 0, .int .i64 0, .int .i64 0, .int .i64 0, .int .i64 0, .int .i64 0, .int .i64 0, .int .i64 0] 32 (0, 0)) (by (with_reducible repeat (first | refine blk_drewN ?_ _ | refine blk_drew ?_ | refine blk_alloc ?_ _)); exact BK139.out) hb); have n2_ := Aside0.mk (below_step (by repeat (first | (with_reducible first | exact HB.out | apply below_alloc | apply pw_below_drewN | apply below_drew1 | refine below_set ?_ GE138.out | refine below_set ?_ GE139.out) | exact HB.out)) hb); have n3_ := Aside0.mk (hbox); have n4_ := Aside0.mk ((by rw [hg]; exact (below_size (by repeat (first | (with_reducible first | exact HB.out | apply below_alloc | apply pw_below_drewN | apply below_drew1 | refine below_set ?_ GE138.out | refine below_set ?_ GE139.out) | exact HB.out))) : w.heap.size ≤ gb141)); have n5_ := Aside0.mk ((by rw [hg]; exact (below_size (by repeat (first | (with_reducible first | exact HB.out | apply below_alloc | apply pw_below_drewN | apply below_drew1 | refine below_set ?_ GE138.out | refine below_set ?_ GE139.out) | exact HB.out))) : w.heap.size ≤ gb141)); have n6_ := Aside0.mk ((by rw [hg]; exact Nat.ne_of_lt (blk_lt (g := gb138) (o := .cells #[.slice A0_0 l0_0.length c0_0, .slice A0_1 l0_1.length c0_1, .int .i64 a0_2] 30 (0, 0)) (by (with_reducible repeat (first | refine blk_drewN ?_ _ | refine blk_drew ?_ | refine blk_alloc ?_ _)); exact BK138.out)) : gb138 ≠ gb141)); have n7_ := Aside0.mk ((by rw [hg]; exact Nat.ne_of_gt (blk_lt (g := gb138) (o := .cells #[.slice A0_0 l0_0.length c0_0, .slice A0_1 l0_1.length c0_1, .int .i64 a0_2] 30 (0, 0)) (by (with_reducible repeat (first | refine blk_drewN ?_ _ | refine blk_drew ?_ | refine blk_alloc ?_ _)); exact BK138.out)) : gb141 ≠ gb138)); have n8_ := Aside0.mk ((by rw [hg]; exact Nat.ne_of_lt (blk_lt (g := gb139) (o := .cells #[.slice none 0 0, .int .i64 0, .int .i64 0, .int .i64 0, .int .i64 0, .int .i64 0, .int .i64 0, .int .i64 0, .int .i64 0] 32 (0, 0)) (by (with_reducible repeat (first | refine blk_drewN ?_ _ | refine blk_drew ?_ | refine blk_alloc ?_ _)); exact BK139.out)) : gb139 ≠ gb141)); have n9_ := Aside0.mk ((by rw [hg]; exact Nat.ne_of_gt (blk_lt (g := gb139) (o := .cells #[.slice none 0 0, .int .i64 0, .int .i64 0, .int .i64 0, .int .i64 0, .int .i64 0, .int .i64 0, .int .i64 0, .int .i64 0] 32 (0, 0)) (by (with_reducible repeat (first | refine blk_drewN ?_ _ | refine blk_drew ?_ | refine blk_alloc ?_ _)); exact BK139.out)) : gb141 ≠ gb139)); clear BK138; clear BK139; clear HB; have BK138 := n0_; have BK139 := n1_; have HB := n2_; have BK141 := n3_; have GW141 := n4_; have GE141 := n5_; have NB138_141 := n6_; have NB141_138 := n7_; have NB139_141 := n8_; have NB141_139 := n9_; clear n0_ n1_ n2_ n3_ n4_ n5_ n6_ n7_ n8_ n9_; clear hb hbox hg; have hnb9 := NB141_138.out; have hnc9 := NB138_141.out; have hnb10 := NB141_139.out; have hnc10 := NB139_141.out; have hcz11_0 : w8.cell? ⟨gb141, 0, none⟩ = some (.slice none 0 0) := (blk_cell BK141.out 0).trans rfl; have hcz11_1 : w8.cell? ⟨gb141, 1, none⟩ = some (.int .i64 0) := (blk_cell BK141.out 1).trans rfl; have hcz11_2 : w8.cell? ⟨gb141, 2, none⟩ = some (.int .i64 0) := (blk_cell BK141.out 2).trans rfl; have hcz11_3 : w8.cell? ⟨gb141, 3, none⟩ = some (.int .i64 0) := (blk_cell BK141.out 3).trans rfl; have hcz11_4 : w8.cell? ⟨gb141, 4, none⟩ = some (.int .i64 0) := (blk_cell BK141.out 4).trans rfl; have hcz11_5 : w8.cell? ⟨gb141, 5, none⟩ = some (.int .i64 0) := (blk_cell BK141.out 5).trans rfl; have hcz11_6 : w8.cell? ⟨gb141, 6, none⟩ = some (.int .i64 0) := (blk_cell BK141.out 6).trans rfl; have hcz11_7 : w8.cell? ⟨gb141, 7, none⟩ = some (.int .i64 0) := (blk_cell BK141.out 7).trans rfl; have hcz11_8 : w8.cell? ⟨gb141, 8, none⟩ = some (.int .i64 0) := (blk_cell BK141.out 8).trans rfl; have hfz11_0 := blk_frozen BK141.out 0; have hfz11_1 := blk_frozen BK141.out 1; have hfz11_2 := blk_frozen BK141.out 2; have hfz11_3 := blk_frozen BK141.out 3; have hfz11_4 := blk_frozen BK141.out 4; have hfz11_5 := blk_frozen BK141.out 5; have hfz11_6 := blk_frozen BK141.out 6; have hfz11_7 := blk_frozen BK141.out 7; have hfz11_8 := blk_frozen BK141.out 8))
  go_loopg [5, 7, 8, 9] k (fun kq v5 v7 v8 v9 w' => ∃ (x5_1 : ByteArray) (x7_1 : List (S37)) (x8_1 : List ByteArray) (x9_1 : Int), v5 = .string x5_1 ∧ v9 = .int .i64 x9_1 ∧ Aside0 (flyleaflaw10_Program_made.l0 kq x5_1 x7_1 x8_1 x9_1 l0_0 l0_1 a0_2 (t140.size : Int) 0 0 0 0 0 0 0 = some (r1, r2, r3, r4, r5, r6, r7, r8, r9, r10, r11)) ∧ Aside0 (kq ≤ k) ∧ Aside0 (Kd.R k37 37 w' w.heap.size (fun _ => True) v7 x7_1) ∧ Aside0 (Kd.R Kd.string 9 w' w.heap.size (fun _ => True) v8 x8_1) ∧ Aside0 (w'.heap[gb138]? = some (.cells #[(.slice A0_0 l0_0.length c0_0), (.slice A0_1 l0_1.length c0_1), .int .i64 a0_2] 30 (0, 0))) ∧ Aside0 (w'.heap[gb139]? = some (.cells #[(.slice none 0 0), .int .i64 0, .int .i64 0, .int .i64 0, .int .i64 0, .int .i64 0, .int .i64 0, .int .i64 0, .int .i64 0] 32 (0, 0))) ∧ Aside0 (w'.heap[gb141]? = some (.cells #[(.slice none 0 0), .int .i64 (t140.size : Int), .int .i64 0, .int .i64 0, .int .i64 0, .int .i64 0, .int .i64 0, .int .i64 0, .int .i64 0] 32 (0, 0))) ∧ Aside0 (Below w.heap.size w w'))
  case atStart => exact ⟨(t140), (([] : List (S37))), (([] : List ByteArray)), (0), (by first | rfl | (simp; done) | (simp [*]; done)), (by first | rfl | (simp; done) | (simp [*]; done)), H', ⟨Nat.le_refl _⟩, ⟨by first | exact Kd.R_nil _ _ _ _ _ | exact Kd.N_nil _ _ _ _ _ | exact Kd.V_nil _ _ _ _ _ | exact Kd.Q_nil _ _ _ _ _ | exact Kd.S_nil _ _ _ _ _⟩, ⟨by first | exact Kd.R_nil _ _ _ _ _ | exact Kd.N_nil _ _ _ _ _ | exact Kd.V_nil _ _ _ _ _ | exact Kd.Q_nil _ _ _ _ _ | exact Kd.S_nil _ _ _ _ _⟩, ⟨by (with_reducible repeat (first | refine blk_drewN ?_ _ | refine blk_drew ?_ | refine blk_alloc ?_ _)); refine blk_far ?_ NB138_141.out _; (with_reducible repeat (first | refine blk_drewN ?_ _ | refine blk_drew ?_ | refine blk_alloc ?_ _)); exact BK138.out⟩, ⟨by (with_reducible repeat (first | refine blk_drewN ?_ _ | refine blk_drew ?_ | refine blk_alloc ?_ _)); refine blk_far ?_ NB139_141.out _; (with_reducible repeat (first | refine blk_drewN ?_ _ | refine blk_drew ?_ | refine blk_alloc ?_ _)); exact BK139.out⟩, ⟨by (with_reducible repeat (first | refine blk_drewN ?_ _ | refine blk_drew ?_ | refine blk_alloc ?_ _)); refine blk_put (cs := #[.slice none 0 0, .int .i64 0, .int .i64 0, .int .i64 0, .int .i64 0, .int .i64 0, .int .i64 0, .int .i64 0, .int .i64 0]) ?_ 1 _ rfl; (with_reducible repeat (first | refine blk_drewN ?_ _ | refine blk_drew ?_ | refine blk_alloc ?_ _)); exact BK141.out⟩, ⟨by repeat (first | (with_reducible first | exact HB.out | apply below_alloc | apply pw_below_drewN | apply below_drew1 | refine below_set ?_ GE138.out | refine below_set ?_ GE139.out | refine below_set ?_ GE141.out) | exact HB.out)⟩⟩
  case round =>
    clear H'
    try clear c1
    try clear p2
    try clear c5
    try clear p6
    try clear c9
    try clear c10
    try clear hcz11_0
    try clear hcz11_1
    try clear hcz11_2
    try clear hcz11_3
    try clear hcz11_4
    try clear hcz11_5
    try clear hcz11_6
    try clear hcz11_7
    try clear hcz11_8
    try clear hcz6_0
    try clear hcz6_1
    try clear hcz6_2
    try clear hfz11_0
    try clear hfz11_1
    try clear hfz11_2
    try clear hfz11_3
    try clear hfz11_4
    try clear hfz11_5
    try clear hfz11_6
    try clear hfz11_7
    try clear hfz11_8
    try clear hfz6_0
    try clear hfz6_1
    try clear hfz6_2
    obtain ⟨x5_1, x7_1, x8_1, x9_1, rfl, rfl, HA, HK1, HO_7, HO_8, BK138, BK139, BK141, HB⟩ := hrel
    cases gk with
    | zero => exact absurd HA.out (by simp [flyleaflaw10_Program_made.l0])
    | succ k1 =>
      have H := HA.out
      clear HA
      simp only [flyleaflaw10_Program_made.l0] at H
      have HC12 := Aside0.mk H
      clear H
      go_upto_region 7 with (fail)
      go_cut [32] (fun v32 wc => ∃ (kq : Nat) (x32_11 : Bool), v32 = .bool x32_11 ∧ Aside0 (flyleaflaw10_Program_made.j1 kq x5_1 x7_1 x8_1 x9_1 x32_11 l0_0 l0_1 a0_2 (t140.size : Int) 0 0 0 0 0 0 0 = some (r1, r2, r3, r4, r5, r6, r7, r8, r9, r10, r11)) ∧ Aside0 (kq ≤ k1) ∧ Aside0 (Kd.R k37 37 wc w.heap.size (fun _ => True) u7 x7_1) ∧ Aside0 (Kd.R Kd.string 9 wc w.heap.size (fun _ => True) u8 x8_1) ∧ Aside0 (wc.heap[gb138]? = some (.cells #[(.slice A0_0 l0_0.length c0_0), (.slice A0_1 l0_1.length c0_1), .int .i64 a0_2] 30 (0, 0))) ∧ Aside0 (wc.heap[gb139]? = some (.cells #[(.slice none 0 0), .int .i64 0, .int .i64 0, .int .i64 0, .int .i64 0, .int .i64 0, .int .i64 0, .int .i64 0, .int .i64 0] 32 (0, 0))) ∧ Aside0 (wc.heap[gb141]? = some (.cells #[(.slice none 0 0), .int .i64 (t140.size : Int), .int .i64 0, .int .i64 0, .int .i64 0, .int .i64 0, .int .i64 0, .int .i64 0, .int .i64 0] 32 (0, 0))) ∧ Aside0 (Below w.heap.size w wc))
      case first =>
        have H := HC12.out
        clear HC12
        by_cases c13 : x9_1 < (l0_0.length : Int)
        · rw [if_pos c13] at H
          have c13b0 : decide (x9_1 < (l0_0.length : Int)) = true := decide_eq_true c13
          clear c13
          (first | rw [c13b0] | (simp only [i64_w, i32_w]; rw [c13b0]) | skip)
          have H' := Aside0.mk H
          clear H
          have hnb14 := NB138_139.out
          have hnc14 := NB139_138.out
          have hnb15 := NB138_141.out
          have hnc15 := NB141_138.out
          have hcz16_0 : wr.cell? ⟨gb138, 0, none⟩ = some (.slice A0_0 l0_0.length c0_0) := (blk_cell BK138.out 0).trans rfl
          have hcz16_1 : wr.cell? ⟨gb138, 1, none⟩ = some (.slice A0_1 l0_1.length c0_1) := (blk_cell BK138.out 1).trans rfl
          have hcz16_2 : wr.cell? ⟨gb138, 2, none⟩ = some (.int .i64 a0_2) := (blk_cell BK138.out 2).trans rfl
          have hfz16_0 := blk_frozen BK138.out 0
          have hfz16_1 := blk_frozen BK138.out 1
          have hfz16_2 := blk_frozen BK138.out 2
          go_wp2
          go_meet
          case rel => exact ⟨_, (decide (x9_1 < 12)), (by first | rfl | (simp; done) | (simp [*]; done)), H', ⟨by have := HK1.out; first | omega | exact Nat.le_refl _⟩, ⟨by (with_reducible repeat (first | apply Kd.R_alloc | apply Kd.R_drewN | apply Kd.R_drew)); exact HO_7.out⟩, ⟨by (with_reducible repeat (first | apply Kd.R_alloc | apply Kd.R_drewN | apply Kd.R_drew)); exact HO_8.out⟩, ⟨by (with_reducible repeat (first | refine blk_drewN ?_ _ | refine blk_drew ?_ | refine blk_alloc ?_ _)); exact BK138.out⟩, ⟨by (with_reducible repeat (first | refine blk_drewN ?_ _ | refine blk_drew ?_ | refine blk_alloc ?_ _)); exact BK139.out⟩, ⟨by (with_reducible repeat (first | refine blk_drewN ?_ _ | refine blk_drew ?_ | refine blk_alloc ?_ _)); exact BK141.out⟩, ⟨by repeat (first | (with_reducible first | exact HB.out | apply below_alloc | apply pw_below_drewN | apply below_drew1 | refine below_set ?_ GE138.out | refine below_set ?_ GE139.out | refine below_set ?_ GE141.out) | exact HB.out)⟩⟩
        · rw [if_neg c13] at H
          have c13b0 : decide (x9_1 < (l0_0.length : Int)) = false := decide_eq_false c13
          clear c13
          (first | rw [c13b0] | (simp only [i64_w, i32_w]; rw [c13b0]) | skip)
          have H' := Aside0.mk H
          clear H
          have hnb17 := NB138_139.out
          have hnc17 := NB139_138.out
          have hnb18 := NB138_141.out
          have hnc18 := NB141_138.out
          have hcz19_0 : wr.cell? ⟨gb138, 0, none⟩ = some (.slice A0_0 l0_0.length c0_0) := (blk_cell BK138.out 0).trans rfl
          have hcz19_1 : wr.cell? ⟨gb138, 1, none⟩ = some (.slice A0_1 l0_1.length c0_1) := (blk_cell BK138.out 1).trans rfl
          have hcz19_2 : wr.cell? ⟨gb138, 2, none⟩ = some (.int .i64 a0_2) := (blk_cell BK138.out 2).trans rfl
          have hfz19_0 := blk_frozen BK138.out 0
          have hfz19_1 := blk_frozen BK138.out 1
          have hfz19_2 := blk_frozen BK138.out 2
          go_wp2
          go_meet
          case rel => exact ⟨_, (false), (by first | rfl | (simp; done) | (simp [*]; done)), H', ⟨by have := HK1.out; first | omega | exact Nat.le_refl _⟩, ⟨by (with_reducible repeat (first | apply Kd.R_alloc | apply Kd.R_drewN | apply Kd.R_drew)); exact HO_7.out⟩, ⟨by (with_reducible repeat (first | apply Kd.R_alloc | apply Kd.R_drewN | apply Kd.R_drew)); exact HO_8.out⟩, ⟨by (with_reducible repeat (first | refine blk_drewN ?_ _ | refine blk_drew ?_ | refine blk_alloc ?_ _)); exact BK138.out⟩, ⟨by (with_reducible repeat (first | refine blk_drewN ?_ _ | refine blk_drew ?_ | refine blk_alloc ?_ _)); exact BK139.out⟩, ⟨by (with_reducible repeat (first | refine blk_drewN ?_ _ | refine blk_drew ?_ | refine blk_alloc ?_ _)); exact BK141.out⟩, ⟨by repeat (first | (with_reducible first | exact HB.out | apply below_alloc | apply pw_below_drewN | apply below_drew1 | refine below_set ?_ GE138.out | refine below_set ?_ GE139.out | refine below_set ?_ GE141.out) | exact HB.out)⟩⟩
      case rest =>
        clear HC12
        try clear c1
        try clear p2
        try clear c5
        try clear p6
        try clear c9
        try clear c10
        try clear c13
        try clear c13b0
        try clear c14
        try clear c15
        try clear c17
        try clear c18
        try clear c19
        try clear hcz11_0
        try clear hcz11_1
        try clear hcz11_2
        try clear hcz11_3
        try clear hcz11_4
        try clear hcz11_5
        try clear hcz11_6
        try clear hcz11_7
        try clear hcz11_8
        try clear hcz16_0
        try clear hcz16_1
        try clear hcz16_2
        try clear hcz19_0
        try clear hcz19_1
        try clear hcz19_2
        try clear hcz6_0
        try clear hcz6_1
        try clear hcz6_2
        try clear hfz11_0
        try clear hfz11_1
        try clear hfz11_2
        try clear hfz11_3
        try clear hfz11_4
        try clear hfz11_5
        try clear hfz11_6
        try clear hfz11_7
        try clear hfz11_8
        try clear hfz16_0
        try clear hfz16_1
        try clear hfz16_2
        try clear hfz19_0
        try clear hfz19_1
        try clear hfz19_2
        try clear hfz6_0
        try clear hfz6_1
        try clear hfz6_2
        try clear p2
        try clear p6
        obtain ⟨kq, x32_11, rfl, HA, HJ11, HO_7, HO_8, BK138, BK139, BK141, HB⟩ := hcut
        cases kq with
        | zero => exact absurd HA.out (by simp [flyleaflaw10_Program_made.j1])
        | succ kj11 =>
          have H := HA.out
          clear HA
          simp only [flyleaflaw10_Program_made.j1] at H
          by_cases c20 : x32_11 = true
          · subst c20
            have H1 : (if 0 ≤ x9_1 then (if x9_1 < (l0_0.length : Int) then ((flyleaflaw10_short.f (rdOf ByteArray.empty l0_0 x9_1) 8).bind fun t143 => (flyleaflaw10_Program_made.l1 kj11 x5_1 x7_1 x8_1 x9_1 t143 0 l0_0 l0_1 a0_2 (t140.size : Int) 0 0 0 0 0 0 0)) else (none)) else (none)) = some (r1, r2, r3, r4, r5, r6, r7, r8, r9, r10, r11) := by rw [if_pos rfl] at H; exact H
            clear H
            have H := H1
            clear H1
            by_cases c21 : 0 ≤ x9_1
            · rw [if_pos c21] at H
              have c21b0 : decide (0 ≤ x9_1) = true := decide_eq_true c21
              clear c21
              by_cases c22 : x9_1 < (l0_0.length : Int)
              · rw [if_pos c22] at H
                have c22b0 : decide (x9_1 < (l0_0.length : Int)) = true := decide_eq_true c22
                clear c22
                replace H := Option.bind_eq_some_iff.mp H
                obtain ⟨t143, A230, H⟩ := H
                replace H : (flyleaflaw10_Program_made.l1 kj11 x5_1 x7_1 x8_1 x9_1 t143 0 l0_0 l0_1 a0_2 (t140.size : Int) 0 0 0 0 0 0 0) = some (r1, r2, r3, r4, r5, r6, r7, r8, r9, r10, r11) := H
                have A23 := Aside0.mk A230
                clear A230
                have H' := Aside0.mk H
                clear H
                have hnb24 := NB138_139.out
                have hnc24 := NB139_138.out
                have hnb25 := NB138_141.out
                have hnc25 := NB141_138.out
                have hcz26_0 : wc.cell? ⟨gb138, 0, none⟩ = some (.slice A0_0 l0_0.length c0_0) := (blk_cell BK138.out 0).trans rfl
                have hcz26_1 : wc.cell? ⟨gb138, 1, none⟩ = some (.slice A0_1 l0_1.length c0_1) := (blk_cell BK138.out 1).trans rfl
                have hcz26_2 : wc.cell? ⟨gb138, 2, none⟩ = some (.int .i64 a0_2) := (blk_cell BK138.out 2).trans rfl
                have hfz26_0 := blk_frozen BK138.out 0
                have hfz26_1 := blk_frozen BK138.out 1
                have hfz26_2 := blk_frozen BK138.out 2
                have p142 : 0 ≤ (x9_1 : Int) := of_decide_eq_true (by first | (with_reducible assumption) | assumption)
                have q142 : x9_1 < (l0_0.length : Int) := of_decide_eq_true (by first | (with_reducible assumption) | assumption)
                obtain ⟨ad142, e142, hx142_0⟩ := Kd.at_string HR0_0.out x9_1 p142 q142
                cases e142
                replace hx142_0 := (HB.out.cell (World.block_lt_of_cell? w _ hx142_0)).trans hx142_0
                replace p142 := eq_true p142
                replace q142 := eq_true q142
                go_wp2_with (first | ((with_reducible refine gate_callee (f := 8) rfl ?_); refine goesL_ (some 40) rfl rfl Try.func8 (by kernel_rfl) rfl #[.string (rdOf ByteArray.empty l0_0 x9_1), .int .i64 8] rfl (by (try simp only [List.map_toArray, List.map_cons, List.map_nil]); first | done | rfl | (simp only [List.length_drop, List.length_take]; rfl) | (simp only [ByteArray.size_append, Int.natCast_add]; rfl)) ?_; (with_reducible refine (flyleaflaw10_short.calls (rdOf ByteArray.empty l0_0 x9_1) 8 t143 _ A23.out).mono ?_); rintro e w' ⟨rfl, ⟨nd, rfl⟩⟩; refine ⟨_, rfl, ?_⟩))
                go_loopg [10, 11] kj11 (fun kq v10 v11 w' => ∃ (x10_3 : ByteArray) (x11_3 : Int), v10 = .string x10_3 ∧ v11 = .int .i64 x11_3 ∧ Aside0 (flyleaflaw10_Program_made.l1 kq x5_1 x7_1 x8_1 x9_1 x10_3 x11_3 l0_0 l0_1 a0_2 (t140.size : Int) 0 0 0 0 0 0 0 = some (r1, r2, r3, r4, r5, r6, r7, r8, r9, r10, r11)) ∧ Aside0 (kq ≤ kj11) ∧ Aside0 (Kd.R k37 37 w' w.heap.size (fun _ => True) u7 x7_1) ∧ Aside0 (Kd.R Kd.string 9 w' w.heap.size (fun _ => True) u8 x8_1) ∧ Aside0 (w'.heap[gb138]? = some (.cells #[(.slice (some ad142) l0_0.length c0_0), (.slice A0_1 l0_1.length c0_1), .int .i64 a0_2] 30 (0, 0))) ∧ Aside0 (w'.heap[gb139]? = some (.cells #[(.slice none 0 0), .int .i64 0, .int .i64 0, .int .i64 0, .int .i64 0, .int .i64 0, .int .i64 0, .int .i64 0, .int .i64 0] 32 (0, 0))) ∧ Aside0 (w'.heap[gb141]? = some (.cells #[(.slice none 0 0), .int .i64 (t140.size : Int), .int .i64 0, .int .i64 0, .int .i64 0, .int .i64 0, .int .i64 0, .int .i64 0, .int .i64 0] 32 (0, 0))) ∧ Aside0 (Below w.heap.size w w'))
                case atStart => exact ⟨(t143), (0), (by first | rfl | (simp; done) | (simp [*]; done)), (by first | rfl | (simp; done) | (simp [*]; done)), H', ⟨Nat.le_refl _⟩, ⟨by (with_reducible repeat (first | apply Kd.R_alloc | apply Kd.R_drewN | apply Kd.R_drew)); exact HO_7.out⟩, ⟨by (with_reducible repeat (first | apply Kd.R_alloc | apply Kd.R_drewN | apply Kd.R_drew)); exact HO_8.out⟩, ⟨by (with_reducible repeat (first | refine blk_drewN ?_ _ | refine blk_drew ?_ | refine blk_alloc ?_ _)); exact BK138.out⟩, ⟨by (with_reducible repeat (first | refine blk_drewN ?_ _ | refine blk_drew ?_ | refine blk_alloc ?_ _)); exact BK139.out⟩, ⟨by (with_reducible repeat (first | refine blk_drewN ?_ _ | refine blk_drew ?_ | refine blk_alloc ?_ _)); exact BK141.out⟩, ⟨by repeat (first | (with_reducible first | exact HB.out | apply below_alloc | apply pw_below_drewN | apply below_drew1 | refine below_set ?_ GE138.out | refine below_set ?_ GE139.out | refine below_set ?_ GE141.out) | exact HB.out)⟩⟩
                case round =>
                  clear H'
                  try clear c1
                  try clear p1
                  try clear q1
                  try clear hx1
                  try clear c2
                  try clear p2
                  try clear c5
                  try clear p6
                  try clear c8
                  try clear c9
                  try clear c10
                  try clear c13
                  try clear c13b0
                  try clear c14
                  try clear p14
                  try clear q14
                  try clear hx14
                  try clear c15
                  try clear c17
                  try clear c18
                  try clear c19
                  try clear c20
                  try clear c21
                  try clear c21b0
                  try clear c22
                  try clear c22b0
                  try clear c24
                  try clear c25
                  try clear hcz11_0
                  try clear hcz11_1
                  try clear hcz11_2
                  try clear hcz11_3
                  try clear hcz11_4
                  try clear hcz11_5
                  try clear hcz11_6
                  try clear hcz11_7
                  try clear hcz11_8
                  try clear hcz16_0
                  try clear hcz16_1
                  try clear hcz16_2
                  try clear hcz19_0
                  try clear hcz19_1
                  try clear hcz19_2
                  try clear hcz26_0
                  try clear hcz26_1
                  try clear hcz26_2
                  try clear hcz6_0
                  try clear hcz6_1
                  try clear hcz6_2
                  try clear hfz11_0
                  try clear hfz11_1
                  try clear hfz11_2
                  try clear hfz11_3
                  try clear hfz11_4
                  try clear hfz11_5
                  try clear hfz11_6
                  try clear hfz11_7
                  try clear hfz11_8
                  try clear hfz16_0
                  try clear hfz16_1
                  try clear hfz16_2
                  try clear hfz19_0
                  try clear hfz19_1
                  try clear hfz19_2
                  try clear hfz26_0
                  try clear hfz26_1
                  try clear hfz26_2
                  try clear hfz6_0
                  try clear hfz6_1
                  try clear hfz6_2
                  try clear hx142_0
                  try clear p142
                  try clear p2
                  try clear p6
                  try clear q142
                  obtain ⟨x10_3, x11_3, rfl, rfl, HA, HK3, HO_7, HO_8, BK138, BK139, BK141, HB⟩ := hrel
                  cases gk with
                  | zero => exact absurd HA.out (by simp [flyleaflaw10_Program_made.l1])
                  | succ k3 =>
                    have H := HA.out
                    clear HA
                    simp only [flyleaflaw10_Program_made.l1] at H
                    by_cases c27 : x11_3 < (x10_3.size : Int)
                    · rw [if_pos c27] at H
                      have c27b0 : decide (x11_3 < (x10_3.size : Int)) = true := decide_eq_true c27
                      clear c27
                      by_cases c28 : 0 ≤ x11_3
                      · rw [if_pos c28] at H
                        have c28b0 : decide (0 ≤ x11_3) = true := decide_eq_true c28
                        clear c28
                        by_cases c30 : (bt x10_3 x11_3) = 0
                        · rw [if_pos c30] at H
                          have c30b0 : ((bt x10_3 x11_3) == 0) = true := beq_iff_eq.mpr c30
                          have c30b1 : ((bt x10_3 x11_3) != 0) = false := bne_eq_false_iff_eq.mpr c30
                          clear c30
                          have c31b0 := eq_true (of_decide_eq_true (by first | (with_reducible assumption) | assumption) : 0 ≤ x11_3)
                          by_cases c32 : x11_3 ≤ (x10_3.size : Int)
                          · rw [if_pos c32] at H
                            have c32b0 := eq_true c32
                            have c32b1 : decide (x11_3 ≤ (x10_3.size : Int)) = true := decide_eq_true c32
                            clear c32
                            have H' := Aside0.mk H
                            clear H
                            have p29 : 0 ≤ (x11_3 : Int) := of_decide_eq_true (by first | (with_reducible assumption) | assumption)
                            have q29 : x11_3 < (x10_3.size : Int) := of_decide_eq_true (by first | (with_reducible assumption) | assumption)
                            have hx29 := bt_at x10_3 x11_3
                            replace p29 := eq_true p29
                            replace q29 := eq_true q29
                            go_wp2
                            go_roundg k3
                            case measure => have := HK1.out; have := HJ11.out; have := HK3.out; omega
                            case rel => exact ⟨(x10_3.extract 0 (x11_3 : Int).toNat), (wrap64 (x11_3 + 1)), (by first | rfl | (simp; done) | (simp [*]; done)), (by first | rfl | (simp; done) | (simp [*]; done)), H', ⟨by have := HK1.out; have := HJ11.out; have := HK3.out; omega⟩, ⟨by (with_reducible repeat (first | apply Kd.R_alloc | apply Kd.R_drewN | apply Kd.R_drew)); exact HO_7.out⟩, ⟨by (with_reducible repeat (first | apply Kd.R_alloc | apply Kd.R_drewN | apply Kd.R_drew)); exact HO_8.out⟩, ⟨by (with_reducible repeat (first | refine blk_drewN ?_ _ | refine blk_drew ?_ | refine blk_alloc ?_ _)); exact BK138.out⟩, ⟨by (with_reducible repeat (first | refine blk_drewN ?_ _ | refine blk_drew ?_ | refine blk_alloc ?_ _)); exact BK139.out⟩, ⟨by (with_reducible repeat (first | refine blk_drewN ?_ _ | refine blk_drew ?_ | refine blk_alloc ?_ _)); exact BK141.out⟩, ⟨by repeat (first | (with_reducible first | exact HB.out | apply below_alloc | apply pw_below_drewN | apply below_drew1 | refine below_set ?_ GE138.out | refine below_set ?_ GE139.out | refine below_set ?_ GE141.out) | exact HB.out)⟩⟩
                          · rw [if_neg c32] at H
                            exact absurd H (by simp)
                        · rw [if_neg c30] at H
                          have c30b0 : ((bt x10_3 x11_3) == 0) = false := beq_eq_false_iff_ne.mpr c30
                          have c30b1 : ((bt x10_3 x11_3) != 0) = true := bne_iff_ne.mpr c30
                          have H' := Aside0.mk H
                          clear H
                          have p29 : 0 ≤ (x11_3 : Int) := of_decide_eq_true (by first | (with_reducible assumption) | assumption)
                          have q29 : x11_3 < (x10_3.size : Int) := of_decide_eq_true (by first | (with_reducible assumption) | assumption)
                          have hx29 := bt_at x10_3 x11_3
                          replace p29 := eq_true p29
                          replace q29 := eq_true q29
                          go_wp2
                          go_roundg k3
                          case measure => have := HK1.out; have := HJ11.out; have := HK3.out; omega
                          case rel => exact ⟨(x10_3), (wrap64 (x11_3 + 1)), (by first | rfl | (simp; done) | (simp [*]; done)), (by first | rfl | (simp; done) | (simp [*]; done)), H', ⟨by have := HK1.out; have := HJ11.out; have := HK3.out; omega⟩, ⟨by (with_reducible repeat (first | apply Kd.R_alloc | apply Kd.R_drewN | apply Kd.R_drew)); exact HO_7.out⟩, ⟨by (with_reducible repeat (first | apply Kd.R_alloc | apply Kd.R_drewN | apply Kd.R_drew)); exact HO_8.out⟩, ⟨by (with_reducible repeat (first | refine blk_drewN ?_ _ | refine blk_drew ?_ | refine blk_alloc ?_ _)); exact BK138.out⟩, ⟨by (with_reducible repeat (first | refine blk_drewN ?_ _ | refine blk_drew ?_ | refine blk_alloc ?_ _)); exact BK139.out⟩, ⟨by (with_reducible repeat (first | refine blk_drewN ?_ _ | refine blk_drew ?_ | refine blk_alloc ?_ _)); exact BK141.out⟩, ⟨by repeat (first | (with_reducible first | exact HB.out | apply below_alloc | apply pw_below_drewN | apply below_drew1 | refine below_set ?_ GE138.out | refine below_set ?_ GE139.out | refine below_set ?_ GE141.out) | exact HB.out)⟩⟩
                      · rw [if_neg c28] at H
                        exact absurd H (by simp)
                    · rw [if_neg c27] at H
                      have c27b0 : decide (x11_3 < (x10_3.size : Int)) = false := decide_eq_false c27
                      clear c27
                      by_cases c33 : x9_1 < (l0_1.length : Int)
                      · rw [if_pos c33] at H
                        have c33b0 : decide (x9_1 < (l0_1.length : Int)) = true := decide_eq_true c33
                        clear c33
                        by_cases c34 : 0 ≤ x9_1
                        · rw [if_pos c34] at H
                          have c34b0 : decide (0 ≤ x9_1) = true := decide_eq_true c34
                          clear c34
                          by_cases c35 : x8_1.length < 8796093022208
                          · rw [if_pos c35] at H
                            have LMc35 := Aside0.mk c35
                            clear c35
                            obtain ⟨y145, hy145⟩ : ∃ y_ : List ByteArray, y_ = (x8_1 ++ [x10_3]) := ⟨_, rfl⟩
                            replace H : (if x7_1.length < 5864062014805 then (if x5_1.size + x10_3.size ≤ 9223372036854775807 then (if x5_1.size + x10_3.size + 1 ≤ 9223372036854775807 then (flyleaflaw10_Program_made.l0 k3 ((x5_1 ++ x10_3) ++ (⟨#[0]⟩ : ByteArray)) (x7_1 ++ [(⟨wrap64 ((x5_1.size : Int) - (t140.size : Int)), ((Go.bits .and .i64 (Go.bits .and .i64 (rd l0_1 x9_1) 4095) 3) != 0), Go.bits .and .i64 (rd l0_1 x9_1) 4095⟩ : S37)]) y145 (wrap64 (x9_1 + 1)) l0_0 l0_1 a0_2 (t140.size : Int) 0 0 0 0 0 0 0) else (none)) else (none)) else (none)) = some (r1, r2, r3, r4, r5, r6, r7, r8, r9, r10, r11) := by first | (rw [hy145]; with_reducible exact H) | (have H2_ := (Option.bind_some _ _).symm.trans H; rw [hy145]; with_reducible exact H2_) | (have H2_ := (Option.bind_some _ _).symm.trans H; with_reducible exact H2_) | with_reducible exact H | (rw [hy145]; exact H) | exact H
                            have Ny145 := Aside0.mk hy145
                            clear hy145
                            by_cases c36 : x7_1.length < 5864062014805
                            · rw [if_pos c36] at H
                              have LMc36 := Aside0.mk c36
                              clear c36
                              obtain ⟨y148, hy148⟩ : ∃ y_ : List (S37), y_ = (x7_1 ++ [(⟨wrap64 ((x5_1.size : Int) - (t140.size : Int)), ((Go.bits .and .i64 (Go.bits .and .i64 (rd l0_1 x9_1) 4095) 3) != 0), Go.bits .and .i64 (rd l0_1 x9_1) 4095⟩ : S37)]) := ⟨_, rfl⟩
                              replace H : (if x5_1.size + x10_3.size ≤ 9223372036854775807 then (if x5_1.size + x10_3.size + 1 ≤ 9223372036854775807 then (flyleaflaw10_Program_made.l0 k3 ((x5_1 ++ x10_3) ++ (⟨#[0]⟩ : ByteArray)) y148 y145 (wrap64 (x9_1 + 1)) l0_0 l0_1 a0_2 (t140.size : Int) 0 0 0 0 0 0 0) else (none)) else (none)) = some (r1, r2, r3, r4, r5, r6, r7, r8, r9, r10, r11) := by first | (rw [hy148]; with_reducible exact H) | (have H2_ := (Option.bind_some _ _).symm.trans H; rw [hy148]; with_reducible exact H2_) | (have H2_ := (Option.bind_some _ _).symm.trans H; with_reducible exact H2_) | with_reducible exact H | (rw [hy148]; exact H) | exact H
                              have Ny148 := Aside0.mk hy148
                              clear hy148
                              by_cases c37 : x5_1.size + x10_3.size ≤ 9223372036854775807
                              · rw [if_pos c37] at H
                                have c37b0 := eq_true c37
                                have c37b1 : decide (x5_1.size + x10_3.size ≤ 9223372036854775807) = true := decide_eq_true c37
                                try have c37b2 : (9223372036854775807 < x5_1.size + x10_3.size) = False := eq_false (Nat.not_lt.2 c37)
                                clear c37
                                by_cases c38 : x5_1.size + x10_3.size + 1 ≤ 9223372036854775807
                                · rw [if_pos c38] at H
                                  have c38b0 := eq_true c38
                                  have c38b1 : decide (x5_1.size + x10_3.size + 1 ≤ 9223372036854775807) = true := decide_eq_true c38
                                  try have c38b2 : (9223372036854775807 < x5_1.size + x10_3.size + 1) = False := eq_false (Nat.not_lt.2 c38)
                                  clear c38
                                  have H' := Aside0.mk H
                                  clear H
                                  have hnb39 := NB138_139.out
                                  have hnc39 := NB139_138.out
                                  have hnb40 := NB138_141.out
                                  have hnc40 := NB141_138.out
                                  have hcz41_0 : wr.cell? ⟨gb138, 0, none⟩ = some (.slice (some ad142) l0_0.length c0_0) := (blk_cell BK138.out 0).trans rfl
                                  have hcz41_1 : wr.cell? ⟨gb138, 1, none⟩ = some (.slice A0_1 l0_1.length c0_1) := (blk_cell BK138.out 1).trans rfl
                                  have hcz41_2 : wr.cell? ⟨gb138, 2, none⟩ = some (.int .i64 a0_2) := (blk_cell BK138.out 2).trans rfl
                                  have hfz41_0 := blk_frozen BK138.out 0
                                  have hfz41_1 := blk_frozen BK138.out 1
                                  have hfz41_2 := blk_frozen BK138.out 2
                                  have p144 : 0 ≤ (x9_1 : Int) := of_decide_eq_true (by first | (with_reducible assumption) | assumption)
                                  have q144 : x9_1 < (l0_1.length : Int) := of_decide_eq_true (by first | (with_reducible assumption) | assumption)
                                  obtain ⟨ad144, e144, hx144_0⟩ := Kd.at_int HR0_1.out x9_1 p144 q144
                                  cases e144
                                  replace hx144_0 := (HB.out.cell (World.block_lt_of_cell? w _ hx144_0)).trans hx144_0
                                  replace p144 := eq_true p144
                                  replace q144 := eq_true q144
                                  go_wp2_with (first | ((with_reducible refine gate_builtin (b := .append) (xs := #[.tmp 65, .tmp 67]) rfl ?_); at_builtin; refine Kd.R_append Kd.string (w0 := w) w.heap.size rfl (.tmp 65) (.tmp 67) 27 9 (.string ⟨#[]⟩) 16 rfl Try.underlying27 info9 rfl (by decide) (by omega) u8 x8_1 x10_3 [.string x10_3] (fun _ => True) (fun _ => False) rfl rfl ?aP (fun _ hk => hk.elim) ?aF ?aO ?aB ?aS ?aL ?_; (case aP => exact rfl); (case aB => exact (by repeat (first | (with_reducible first | exact HB.out | apply below_alloc | apply pw_below_drewN | apply below_drew1 | refine below_set ?_ GE138.out | refine below_set ?_ GE139.out | refine below_set ?_ GE141.out) | exact HB.out))); (case aF => exact (fun _ _ => trivial)); (case aO => exact (by (with_reducible repeat (first | apply Kd.R_alloc | apply Kd.R_drewN | apply Kd.R_drew)); exact HO_8.out)); (case aS => exact (below_size (by repeat (first | (with_reducible first | exact HB.out | apply below_alloc | apply pw_below_drewN | apply below_drew1 | refine below_set ?_ GE138.out | refine below_set ?_ GE139.out | refine below_set ?_ GE141.out) | exact HB.out)))); (case aL => have := LMc35.out; omega); intro v146 w42 ho hb hg hat; rw [← Ny145.out] at ho; have n0_ := Aside0.mk (Kd.R_over' (by (with_reducible repeat (first | apply Kd.R_alloc | apply Kd.R_drewN | apply Kd.R_drew)); exact HO_7.out) (Kd.R_typed (by (with_reducible repeat (first | apply Kd.R_alloc | apply Kd.R_drewN | apply Kd.R_drew)); exact HO_8.out)) (by decide) hg); have n1_ := Aside0.mk (blk_grown (g := gb138) (o := .cells #[.slice (some ad142) l0_0.length c0_0, .slice (some ad144) l0_1.length c0_1, .int .i64 a0_2] 30 (0, 0)) (by (with_reducible repeat (first | refine blk_drewN ?_ _ | refine blk_drew ?_ | refine blk_alloc ?_ _)); exact BK138.out) hg (Kd.R_ne HO_8.out BK138.out (by decide))); have n2_ := Aside0.mk (blk_grown (g := gb139) (o := .cells #[.slice none 0 0, .int .i64 0, .int .i64 0, .int .i64 0, .int .i64 0, .int .i64 0, .int .i64 0, .int .i64 0, .int .i64 0] 32 (0, 0)) (by (with_reducible repeat (first | refine blk_drewN ?_ _ | refine blk_drew ?_ | refine blk_alloc ?_ _)); exact BK139.out) hg (Kd.R_ne HO_8.out BK139.out (by decide))); have n3_ := Aside0.mk (blk_grown (g := gb141) (o := .cells #[.slice none 0 0, .int .i64 (t140.size : Int), .int .i64 0, .int .i64 0, .int .i64 0, .int .i64 0, .int .i64 0, .int .i64 0, .int .i64 0] 32 (0, 0)) (by (with_reducible repeat (first | refine blk_drewN ?_ _ | refine blk_drew ?_ | refine blk_alloc ?_ _)); exact BK141.out) hg (Kd.R_ne HO_8.out BK141.out (by decide))); have n4_ := Aside0.mk (hb); have n5_ := Aside0.mk (ho); clear HO_7; clear BK138; clear BK139; clear BK141; clear HB; clear HO_8; have HO_7 := n0_; have BK138 := n1_; have BK139 := n2_; have BK141 := n3_; have HB := n4_; have HO147 := n5_; clear n0_ n1_ n2_ n3_ n4_ n5_; clear ho hb hg hat; have hnb43 := NB141_139.out; have hnc43 := NB139_141.out; have hcz44_0 : w42.cell? ⟨gb141, 0, none⟩ = some (.slice none 0 0) := (blk_cell BK141.out 0).trans rfl; have hcz44_1 : w42.cell? ⟨gb141, 1, none⟩ = some (.int .i64 (t140.size : Int)) := (blk_cell BK141.out 1).trans rfl; have hcz44_2 : w42.cell? ⟨gb141, 2, none⟩ = some (.int .i64 0) := (blk_cell BK141.out 2).trans rfl; have hcz44_3 : w42.cell? ⟨gb141, 3, none⟩ = some (.int .i64 0) := (blk_cell BK141.out 3).trans rfl; have hcz44_4 : w42.cell? ⟨gb141, 4, none⟩ = some (.int .i64 0) := (blk_cell BK141.out 4).trans rfl; have hcz44_5 : w42.cell? ⟨gb141, 5, none⟩ = some (.int .i64 0) := (blk_cell BK141.out 5).trans rfl; have hcz44_6 : w42.cell? ⟨gb141, 6, none⟩ = some (.int .i64 0) := (blk_cell BK141.out 6).trans rfl; have hcz44_7 : w42.cell? ⟨gb141, 7, none⟩ = some (.int .i64 0) := (blk_cell BK141.out 7).trans rfl; have hcz44_8 : w42.cell? ⟨gb141, 8, none⟩ = some (.int .i64 0) := (blk_cell BK141.out 8).trans rfl; have hfz44_0 := blk_frozen BK141.out 0; have hfz44_1 := blk_frozen BK141.out 1; have hfz44_2 := blk_frozen BK141.out 2; have hfz44_3 := blk_frozen BK141.out 3; have hfz44_4 := blk_frozen BK141.out 4; have hfz44_5 := blk_frozen BK141.out 5; have hfz44_6 := blk_frozen BK141.out 6; have hfz44_7 := blk_frozen BK141.out 7; have hfz44_8 := blk_frozen BK141.out 8) | ((with_reducible refine gate_builtin (b := .append) (xs := #[.tmp 69, .tmp 80]) rfl ?_); at_builtin; refine Kd.R_append k37 (w0 := w) w.heap.size rfl (.tmp 69) (.tmp 80) 33 37 (.agg #[(.int .i64 0), (.bool false), (.int .i64 0)]) 24 rfl Try.underlying33 info37 rfl (by decide) (by omega) u7 x7_1 (⟨wrap64 ((x5_1.size : Int) - (t140.size : Int)), ((Go.bits .and .i64 (Go.bits .and .i64 (rd l0_1 x9_1) 4095) 3) != 0), Go.bits .and .i64 (rd l0_1 x9_1) 4095⟩ : S37) [.int .i64 (wrap64 ((x5_1.size : Int) - (t140.size : Int))), .bool ((Go.bits .and .i64 (Go.bits .and .i64 (rd l0_1 x9_1) 4095) 3) != 0), .int .i64 (Go.bits .and .i64 (rd l0_1 x9_1) 4095)] (fun _ => True) (fun _ => False) rfl rfl ?aP (fun _ hk => hk.elim) ?aF ?aO ?aB ?aS ?aL ?_; (case aP => exact k37_mkM _ _ _ (⟨wrap64 ((x5_1.size : Int) - (t140.size : Int)), ((Go.bits .and .i64 (Go.bits .and .i64 (rd l0_1 x9_1) 4095) 3) != 0), Go.bits .and .i64 (rd l0_1 x9_1) 4095⟩ : S37)); (case aB => exact (by repeat (first | (with_reducible first | exact HB.out | apply below_alloc | apply pw_below_drewN | apply below_drew1 | refine below_set ?_ GE138.out | refine below_set ?_ GE139.out | refine below_set ?_ GE141.out) | exact HB.out))); (case aF => exact (fun _ _ => trivial)); (case aO => exact (by (with_reducible repeat (first | apply Kd.R_alloc | apply Kd.R_drewN | apply Kd.R_drew)); exact HO_7.out)); (case aS => exact (below_size (by repeat (first | (with_reducible first | exact HB.out | apply below_alloc | apply pw_below_drewN | apply below_drew1 | refine below_set ?_ GE138.out | refine below_set ?_ GE139.out | refine below_set ?_ GE141.out) | exact HB.out)))); (case aL => have := LMc36.out; omega); intro v149 w45 ho hb hg hat; rw [← Ny148.out] at ho; have n0_ := Aside0.mk (blk_grown (g := gb138) (o := .cells #[.slice (some ad142) l0_0.length c0_0, .slice (some ad144) l0_1.length c0_1, .int .i64 a0_2] 30 (0, 0)) (by (with_reducible repeat (first | refine blk_drewN ?_ _ | refine blk_drew ?_ | refine blk_alloc ?_ _)); exact BK138.out) hg (Kd.R_ne HO_7.out BK138.out (by decide))); have n1_ := Aside0.mk (blk_grown (g := gb139) (o := .cells #[.slice none 0 0, .int .i64 0, .int .i64 0, .int .i64 0, .int .i64 0, .int .i64 0, .int .i64 0, .int .i64 0, .int .i64 0] 32 (0, 0)) (by (with_reducible repeat (first | refine blk_drewN ?_ _ | refine blk_drew ?_ | refine blk_alloc ?_ _)); exact BK139.out) hg (Kd.R_ne HO_7.out BK139.out (by decide))); have n2_ := Aside0.mk (blk_grown (g := gb141) (o := .cells #[.slice none 0 0, .int .i64 (t140.size : Int), .int .i64 0, .int .i64 0, .int .i64 0, .int .i64 0, .int .i64 0, .int .i64 0, .int .i64 0] 32 (0, 0)) (by (with_reducible repeat (first | refine blk_drewN ?_ _ | refine blk_drew ?_ | refine blk_alloc ?_ _)); exact BK141.out) hg (Kd.R_ne HO_7.out BK141.out (by decide))); have n3_ := Aside0.mk (Kd.R_over' (by (with_reducible repeat (first | apply Kd.R_alloc | apply Kd.R_drewN | apply Kd.R_drew)); exact HO147.out) (Kd.R_typed (by (with_reducible repeat (first | apply Kd.R_alloc | apply Kd.R_drewN | apply Kd.R_drew)); exact HO_7.out)) (by decide) hg); have n4_ := Aside0.mk (hb); have n5_ := Aside0.mk (ho); clear BK138; clear BK139; clear BK141; clear HO147; clear HB; clear HO_7; have BK138 := n0_; have BK139 := n1_; have BK141 := n2_; have HO147 := n3_; have HB := n4_; have HO150 := n5_; clear n0_ n1_ n2_ n3_ n4_ n5_; clear ho hb hg hat))
                                  go_roundg k3
                                  case measure => have := HK1.out; have := HJ11.out; have := HK3.out; omega
                                  case rel => exact ⟨((x5_1 ++ x10_3) ++ (⟨#[0]⟩ : ByteArray)), (y148), (y145), (wrap64 (x9_1 + 1)), (by first | rfl | (simp; done) | (simp [*]; done)), (by first | rfl | (simp; done) | (simp [*]; done)), H', ⟨by have := HK1.out; have := HJ11.out; have := HK3.out; omega⟩, ⟨by (with_reducible repeat (first | apply Kd.R_alloc | apply Kd.R_drewN | apply Kd.R_drew)); exact HO150.out⟩, ⟨by (with_reducible repeat (first | apply Kd.R_alloc | apply Kd.R_drewN | apply Kd.R_drew)); exact HO147.out⟩, ⟨by (with_reducible repeat (first | refine blk_drewN ?_ _ | refine blk_drew ?_ | refine blk_alloc ?_ _)); exact BK138.out⟩, ⟨by (with_reducible repeat (first | refine blk_drewN ?_ _ | refine blk_drew ?_ | refine blk_alloc ?_ _)); exact BK139.out⟩, ⟨by (with_reducible repeat (first | refine blk_drewN ?_ _ | refine blk_drew ?_ | refine blk_alloc ?_ _)); exact BK141.out⟩, ⟨by repeat (first | (with_reducible first | exact HB.out | apply below_alloc | apply pw_below_drewN | apply below_drew1 | refine below_set ?_ GE138.out | refine below_set ?_ GE139.out | refine below_set ?_ GE141.out) | exact HB.out)⟩⟩
                                · rw [if_neg c38] at H
                                  exact absurd H (by simp)
                              · rw [if_neg c37] at H
                                exact absurd H (by simp)
                            · rw [if_neg c36] at H
                              exact absurd H (by simp)
                          · rw [if_neg c35] at H
                            exact absurd H (by simp)
                        · rw [if_neg c34] at H
                          exact absurd H (by simp)
                      · rw [if_neg c33] at H
                        have c33b0 : decide (x9_1 < (l0_1.length : Int)) = false := decide_eq_false c33
                        clear c33
                        by_cases c46 : x8_1.length < 8796093022208
                        · rw [if_pos c46] at H
                          have LMc46 := Aside0.mk c46
                          clear c46
                          obtain ⟨y151, hy151⟩ : ∃ y_ : List ByteArray, y_ = (x8_1 ++ [x10_3]) := ⟨_, rfl⟩
                          replace H : (if x7_1.length < 5864062014805 then (if x5_1.size + x10_3.size ≤ 9223372036854775807 then (if x5_1.size + x10_3.size + 1 ≤ 9223372036854775807 then (flyleaflaw10_Program_made.l0 k3 ((x5_1 ++ x10_3) ++ (⟨#[0]⟩ : ByteArray)) (x7_1 ++ [(⟨wrap64 ((x5_1.size : Int) - (t140.size : Int)), ((Go.bits .and .i64 0 3) != 0), 0⟩ : S37)]) y151 (wrap64 (x9_1 + 1)) l0_0 l0_1 a0_2 (t140.size : Int) 0 0 0 0 0 0 0) else (none)) else (none)) else (none)) = some (r1, r2, r3, r4, r5, r6, r7, r8, r9, r10, r11) := by first | (rw [hy151]; with_reducible exact H) | (have H2_ := (Option.bind_some _ _).symm.trans H; rw [hy151]; with_reducible exact H2_) | (have H2_ := (Option.bind_some _ _).symm.trans H; with_reducible exact H2_) | with_reducible exact H | (rw [hy151]; exact H) | exact H
                          have Ny151 := Aside0.mk hy151
                          clear hy151
                          by_cases c47 : x7_1.length < 5864062014805
                          · rw [if_pos c47] at H
                            have LMc47 := Aside0.mk c47
                            clear c47
                            obtain ⟨y154, hy154⟩ : ∃ y_ : List (S37), y_ = (x7_1 ++ [(⟨wrap64 ((x5_1.size : Int) - (t140.size : Int)), ((Go.bits .and .i64 0 3) != 0), 0⟩ : S37)]) := ⟨_, rfl⟩
                            replace H : (if x5_1.size + x10_3.size ≤ 9223372036854775807 then (if x5_1.size + x10_3.size + 1 ≤ 9223372036854775807 then (flyleaflaw10_Program_made.l0 k3 ((x5_1 ++ x10_3) ++ (⟨#[0]⟩ : ByteArray)) y154 y151 (wrap64 (x9_1 + 1)) l0_0 l0_1 a0_2 (t140.size : Int) 0 0 0 0 0 0 0) else (none)) else (none)) = some (r1, r2, r3, r4, r5, r6, r7, r8, r9, r10, r11) := by first | (rw [hy154]; with_reducible exact H) | (have H2_ := (Option.bind_some _ _).symm.trans H; rw [hy154]; with_reducible exact H2_) | (have H2_ := (Option.bind_some _ _).symm.trans H; with_reducible exact H2_) | with_reducible exact H | (rw [hy154]; exact H) | exact H
                            have Ny154 := Aside0.mk hy154
                            clear hy154
                            by_cases c48 : x5_1.size + x10_3.size ≤ 9223372036854775807
                            · rw [if_pos c48] at H
                              have c48b0 := eq_true c48
                              have c48b1 : decide (x5_1.size + x10_3.size ≤ 9223372036854775807) = true := decide_eq_true c48
                              try have c48b2 : (9223372036854775807 < x5_1.size + x10_3.size) = False := eq_false (Nat.not_lt.2 c48)
                              clear c48
                              by_cases c49 : x5_1.size + x10_3.size + 1 ≤ 9223372036854775807
                              · rw [if_pos c49] at H
                                have c49b0 := eq_true c49
                                have c49b1 : decide (x5_1.size + x10_3.size + 1 ≤ 9223372036854775807) = true := decide_eq_true c49
                                try have c49b2 : (9223372036854775807 < x5_1.size + x10_3.size + 1) = False := eq_false (Nat.not_lt.2 c49)
                                clear c49
                                have H' := Aside0.mk H
                                clear H
                                have hnb50 := NB138_139.out
                                have hnc50 := NB139_138.out
                                have hnb51 := NB138_141.out
                                have hnc51 := NB141_138.out
                                have hcz52_0 : wr.cell? ⟨gb138, 0, none⟩ = some (.slice (some ad142) l0_0.length c0_0) := (blk_cell BK138.out 0).trans rfl
                                have hcz52_1 : wr.cell? ⟨gb138, 1, none⟩ = some (.slice A0_1 l0_1.length c0_1) := (blk_cell BK138.out 1).trans rfl
                                have hcz52_2 : wr.cell? ⟨gb138, 2, none⟩ = some (.int .i64 a0_2) := (blk_cell BK138.out 2).trans rfl
                                have hfz52_0 := blk_frozen BK138.out 0
                                have hfz52_1 := blk_frozen BK138.out 1
                                have hfz52_2 := blk_frozen BK138.out 2
                                go_wp2_with (first | ((with_reducible refine gate_builtin (b := .append) (xs := #[.tmp 65, .tmp 67]) rfl ?_); at_builtin; refine Kd.R_append Kd.string (w0 := w) w.heap.size rfl (.tmp 65) (.tmp 67) 27 9 (.string ⟨#[]⟩) 16 rfl Try.underlying27 info9 rfl (by decide) (by omega) u8 x8_1 x10_3 [.string x10_3] (fun _ => True) (fun _ => False) rfl rfl ?aP (fun _ hk => hk.elim) ?aF ?aO ?aB ?aS ?aL ?_; (case aP => exact rfl); (case aB => exact (by repeat (first | (with_reducible first | exact HB.out | apply below_alloc | apply pw_below_drewN | apply below_drew1 | refine below_set ?_ GE138.out | refine below_set ?_ GE139.out | refine below_set ?_ GE141.out) | exact HB.out))); (case aF => exact (fun _ _ => trivial)); (case aO => exact (by (with_reducible repeat (first | apply Kd.R_alloc | apply Kd.R_drewN | apply Kd.R_drew)); exact HO_8.out)); (case aS => exact (below_size (by repeat (first | (with_reducible first | exact HB.out | apply below_alloc | apply pw_below_drewN | apply below_drew1 | refine below_set ?_ GE138.out | refine below_set ?_ GE139.out | refine below_set ?_ GE141.out) | exact HB.out)))); (case aL => have := LMc46.out; omega); intro v152 w53 ho hb hg hat; rw [← Ny151.out] at ho; have n0_ := Aside0.mk (Kd.R_over' (by (with_reducible repeat (first | apply Kd.R_alloc | apply Kd.R_drewN | apply Kd.R_drew)); exact HO_7.out) (Kd.R_typed (by (with_reducible repeat (first | apply Kd.R_alloc | apply Kd.R_drewN | apply Kd.R_drew)); exact HO_8.out)) (by decide) hg); have n1_ := Aside0.mk (blk_grown (g := gb138) (o := .cells #[.slice (some ad142) l0_0.length c0_0, .slice A0_1 l0_1.length c0_1, .int .i64 a0_2] 30 (0, 0)) (by (with_reducible repeat (first | refine blk_drewN ?_ _ | refine blk_drew ?_ | refine blk_alloc ?_ _)); exact BK138.out) hg (Kd.R_ne HO_8.out BK138.out (by decide))); have n2_ := Aside0.mk (blk_grown (g := gb139) (o := .cells #[.slice none 0 0, .int .i64 0, .int .i64 0, .int .i64 0, .int .i64 0, .int .i64 0, .int .i64 0, .int .i64 0, .int .i64 0] 32 (0, 0)) (by (with_reducible repeat (first | refine blk_drewN ?_ _ | refine blk_drew ?_ | refine blk_alloc ?_ _)); exact BK139.out) hg (Kd.R_ne HO_8.out BK139.out (by decide))); have n3_ := Aside0.mk (blk_grown (g := gb141) (o := .cells #[.slice none 0 0, .int .i64 (t140.size : Int), .int .i64 0, .int .i64 0, .int .i64 0, .int .i64 0, .int .i64 0, .int .i64 0, .int .i64 0] 32 (0, 0)) (by (with_reducible repeat (first | refine blk_drewN ?_ _ | refine blk_drew ?_ | refine blk_alloc ?_ _)); exact BK141.out) hg (Kd.R_ne HO_8.out BK141.out (by decide))); have n4_ := Aside0.mk (hb); have n5_ := Aside0.mk (ho); clear HO_7; clear BK138; clear BK139; clear BK141; clear HB; clear HO_8; have HO_7 := n0_; have BK138 := n1_; have BK139 := n2_; have BK141 := n3_; have HB := n4_; have HO153 := n5_; clear n0_ n1_ n2_ n3_ n4_ n5_; clear ho hb hg hat; have hnb54 := NB141_139.out; have hnc54 := NB139_141.out; have hcz55_0 : w53.cell? ⟨gb141, 0, none⟩ = some (.slice none 0 0) := (blk_cell BK141.out 0).trans rfl; have hcz55_1 : w53.cell? ⟨gb141, 1, none⟩ = some (.int .i64 (t140.size : Int)) := (blk_cell BK141.out 1).trans rfl; have hcz55_2 : w53.cell? ⟨gb141, 2, none⟩ = some (.int .i64 0) := (blk_cell BK141.out 2).trans rfl; have hcz55_3 : w53.cell? ⟨gb141, 3, none⟩ = some (.int .i64 0) := (blk_cell BK141.out 3).trans rfl; have hcz55_4 : w53.cell? ⟨gb141, 4, none⟩ = some (.int .i64 0) := (blk_cell BK141.out 4).trans rfl; have hcz55_5 : w53.cell? ⟨gb141, 5, none⟩ = some (.int .i64 0) := (blk_cell BK141.out 5).trans rfl; have hcz55_6 : w53.cell? ⟨gb141, 6, none⟩ = some (.int .i64 0) := (blk_cell BK141.out 6).trans rfl; have hcz55_7 : w53.cell? ⟨gb141, 7, none⟩ = some (.int .i64 0) := (blk_cell BK141.out 7).trans rfl; have hcz55_8 : w53.cell? ⟨gb141, 8, none⟩ = some (.int .i64 0) := (blk_cell BK141.out 8).trans rfl; have hfz55_0 := blk_frozen BK141.out 0; have hfz55_1 := blk_frozen BK141.out 1; have hfz55_2 := blk_frozen BK141.out 2; have hfz55_3 := blk_frozen BK141.out 3; have hfz55_4 := blk_frozen BK141.out 4; have hfz55_5 := blk_frozen BK141.out 5; have hfz55_6 := blk_frozen BK141.out 6; have hfz55_7 := blk_frozen BK141.out 7; have hfz55_8 := blk_frozen BK141.out 8) | ((with_reducible refine gate_builtin (b := .append) (xs := #[.tmp 69, .tmp 80]) rfl ?_); at_builtin; refine Kd.R_append k37 (w0 := w) w.heap.size rfl (.tmp 69) (.tmp 80) 33 37 (.agg #[(.int .i64 0), (.bool false), (.int .i64 0)]) 24 rfl Try.underlying33 info37 rfl (by decide) (by omega) u7 x7_1 (⟨wrap64 ((x5_1.size : Int) - (t140.size : Int)), ((Go.bits .and .i64 0 3) != 0), 0⟩ : S37) [.int .i64 (wrap64 ((x5_1.size : Int) - (t140.size : Int))), .bool ((Go.bits .and .i64 0 3) != 0), .int .i64 0] (fun _ => True) (fun _ => False) rfl rfl ?aP (fun _ hk => hk.elim) ?aF ?aO ?aB ?aS ?aL ?_; (case aP => exact k37_mkM _ _ _ (⟨wrap64 ((x5_1.size : Int) - (t140.size : Int)), ((Go.bits .and .i64 0 3) != 0), 0⟩ : S37)); (case aB => exact (by repeat (first | (with_reducible first | exact HB.out | apply below_alloc | apply pw_below_drewN | apply below_drew1 | refine below_set ?_ GE138.out | refine below_set ?_ GE139.out | refine below_set ?_ GE141.out) | exact HB.out))); (case aF => exact (fun _ _ => trivial)); (case aO => exact (by (with_reducible repeat (first | apply Kd.R_alloc | apply Kd.R_drewN | apply Kd.R_drew)); exact HO_7.out)); (case aS => exact (below_size (by repeat (first | (with_reducible first | exact HB.out | apply below_alloc | apply pw_below_drewN | apply below_drew1 | refine below_set ?_ GE138.out | refine below_set ?_ GE139.out | refine below_set ?_ GE141.out) | exact HB.out)))); (case aL => have := LMc47.out; omega); intro v155 w56 ho hb hg hat; rw [← Ny154.out] at ho; have n0_ := Aside0.mk (blk_grown (g := gb138) (o := .cells #[.slice (some ad142) l0_0.length c0_0, .slice A0_1 l0_1.length c0_1, .int .i64 a0_2] 30 (0, 0)) (by (with_reducible repeat (first | refine blk_drewN ?_ _ | refine blk_drew ?_ | refine blk_alloc ?_ _)); exact BK138.out) hg (Kd.R_ne HO_7.out BK138.out (by decide))); have n1_ := Aside0.mk (blk_grown (g := gb139) (o := .cells #[.slice none 0 0, .int .i64 0, .int .i64 0, .int .i64 0, .int .i64 0, .int .i64 0, .int .i64 0, .int .i64 0, .int .i64 0] 32 (0, 0)) (by (with_reducible repeat (first | refine blk_drewN ?_ _ | refine blk_drew ?_ | refine blk_alloc ?_ _)); exact BK139.out) hg (Kd.R_ne HO_7.out BK139.out (by decide))); have n2_ := Aside0.mk (blk_grown (g := gb141) (o := .cells #[.slice none 0 0, .int .i64 (t140.size : Int), .int .i64 0, .int .i64 0, .int .i64 0, .int .i64 0, .int .i64 0, .int .i64 0, .int .i64 0] 32 (0, 0)) (by (with_reducible repeat (first | refine blk_drewN ?_ _ | refine blk_drew ?_ | refine blk_alloc ?_ _)); exact BK141.out) hg (Kd.R_ne HO_7.out BK141.out (by decide))); have n3_ := Aside0.mk (Kd.R_over' (by (with_reducible repeat (first | apply Kd.R_alloc | apply Kd.R_drewN | apply Kd.R_drew)); exact HO153.out) (Kd.R_typed (by (with_reducible repeat (first | apply Kd.R_alloc | apply Kd.R_drewN | apply Kd.R_drew)); exact HO_7.out)) (by decide) hg); have n4_ := Aside0.mk (hb); have n5_ := Aside0.mk (ho); clear BK138; clear BK139; clear BK141; clear HO153; clear HB; clear HO_7; have BK138 := n0_; have BK139 := n1_; have BK141 := n2_; have HO153 := n3_; have HB := n4_; have HO156 := n5_; clear n0_ n1_ n2_ n3_ n4_ n5_; clear ho hb hg hat))
                                go_roundg k3
                                case measure => have := HK1.out; have := HJ11.out; have := HK3.out; omega
                                case rel => exact ⟨((x5_1 ++ x10_3) ++ (⟨#[0]⟩ : ByteArray)), (y154), (y151), (wrap64 (x9_1 + 1)), (by first | rfl | (simp; done) | (simp [*]; done)), (by first | rfl | (simp; done) | (simp [*]; done)), H', ⟨by have := HK1.out; have := HJ11.out; have := HK3.out; omega⟩, ⟨by (with_reducible repeat (first | apply Kd.R_alloc | apply Kd.R_drewN | apply Kd.R_drew)); exact HO156.out⟩, ⟨by (with_reducible repeat (first | apply Kd.R_alloc | apply Kd.R_drewN | apply Kd.R_drew)); exact HO153.out⟩, ⟨by (with_reducible repeat (first | refine blk_drewN ?_ _ | refine blk_drew ?_ | refine blk_alloc ?_ _)); exact BK138.out⟩, ⟨by (with_reducible repeat (first | refine blk_drewN ?_ _ | refine blk_drew ?_ | refine blk_alloc ?_ _)); exact BK139.out⟩, ⟨by (with_reducible repeat (first | refine blk_drewN ?_ _ | refine blk_drew ?_ | refine blk_alloc ?_ _)); exact BK141.out⟩, ⟨by repeat (first | (with_reducible first | exact HB.out | apply below_alloc | apply pw_below_drewN | apply below_drew1 | refine below_set ?_ GE138.out | refine below_set ?_ GE139.out | refine below_set ?_ GE141.out) | exact HB.out)⟩⟩
                              · rw [if_neg c49] at H
                                exact absurd H (by simp)
                            · rw [if_neg c48] at H
                              exact absurd H (by simp)
                          · rw [if_neg c47] at H
                            exact absurd H (by simp)
                        · rw [if_neg c46] at H
                          exact absurd H (by simp)
              · rw [if_neg c22] at H
                exact absurd H (by simp)
            · rw [if_neg c21] at H
              exact absurd H (by simp)
          · replace c20 := Bool.eq_false_iff.mpr c20
            subst c20
            have H1 : (flyleaflaw10_Program_made.l2 kj11 x5_1 x7_1 x8_1 0 (t140.size : Int) (wrap64 ((x5_1.size : Int) - (t140.size : Int))) (x5_1.size : Int) 0 0 0 0 0) = some (r1, r2, r3, r4, r5, r6, r7, r8, r9, r10, r11) := by rw [if_neg (show ¬ (false = true) by decide)] at H; exact H
            clear H
            have H := H1
            clear H1
            have H' := Aside0.mk H
            clear H
            have hnb57 := NB141_138.out
            have hnc57 := NB138_141.out
            have hnb58 := NB141_139.out
            have hnc58 := NB139_141.out
            have hcz59_0 : wc.cell? ⟨gb141, 0, none⟩ = some (.slice none 0 0) := (blk_cell BK141.out 0).trans rfl
            have hcz59_1 : wc.cell? ⟨gb141, 1, none⟩ = some (.int .i64 (t140.size : Int)) := (blk_cell BK141.out 1).trans rfl
            have hcz59_2 : wc.cell? ⟨gb141, 2, none⟩ = some (.int .i64 0) := (blk_cell BK141.out 2).trans rfl
            have hcz59_3 : wc.cell? ⟨gb141, 3, none⟩ = some (.int .i64 0) := (blk_cell BK141.out 3).trans rfl
            have hcz59_4 : wc.cell? ⟨gb141, 4, none⟩ = some (.int .i64 0) := (blk_cell BK141.out 4).trans rfl
            have hcz59_5 : wc.cell? ⟨gb141, 5, none⟩ = some (.int .i64 0) := (blk_cell BK141.out 5).trans rfl
            have hcz59_6 : wc.cell? ⟨gb141, 6, none⟩ = some (.int .i64 0) := (blk_cell BK141.out 6).trans rfl
            have hcz59_7 : wc.cell? ⟨gb141, 7, none⟩ = some (.int .i64 0) := (blk_cell BK141.out 7).trans rfl
            have hcz59_8 : wc.cell? ⟨gb141, 8, none⟩ = some (.int .i64 0) := (blk_cell BK141.out 8).trans rfl
            have hfz59_0 := blk_frozen BK141.out 0
            have hfz59_1 := blk_frozen BK141.out 1
            have hfz59_2 := blk_frozen BK141.out 2
            have hfz59_3 := blk_frozen BK141.out 3
            have hfz59_4 := blk_frozen BK141.out 4
            have hfz59_5 := blk_frozen BK141.out 5
            have hfz59_6 := blk_frozen BK141.out 6
            have hfz59_7 := blk_frozen BK141.out 7
            have hfz59_8 := blk_frozen BK141.out 8
            go_wp2
            go_loopg [5, 13] kj11 (fun kq v5 v13 w' => ∃ (x5_3 : ByteArray) (x13_3 : Int), v5 = .string x5_3 ∧ v13 = .int .i64 x13_3 ∧ Aside0 (flyleaflaw10_Program_made.l2 kq x5_3 x7_1 x8_1 x13_3 (t140.size : Int) (wrap64 ((x5_1.size : Int) - (t140.size : Int))) (x5_1.size : Int) 0 0 0 0 0 = some (r1, r2, r3, r4, r5, r6, r7, r8, r9, r10, r11)) ∧ Aside0 (kq ≤ kj11) ∧ Aside0 (Kd.R k37 37 w' w.heap.size (fun _ => True) u7 x7_1) ∧ Aside0 (Kd.R Kd.string 9 w' w.heap.size (fun _ => True) u8 x8_1) ∧ Aside0 (w'.heap[gb138]? = some (.cells #[(.slice A0_0 l0_0.length c0_0), (.slice A0_1 l0_1.length c0_1), .int .i64 a0_2] 30 (0, 0))) ∧ Aside0 (w'.heap[gb139]? = some (.cells #[(.slice none 0 0), .int .i64 0, .int .i64 0, .int .i64 0, .int .i64 0, .int .i64 0, .int .i64 0, .int .i64 0, .int .i64 0] 32 (0, 0))) ∧ Aside0 (w'.heap[gb141]? = some (.cells #[(.slice none 0 0), .int .i64 (t140.size : Int), .int .i64 (wrap64 ((x5_1.size : Int) - (t140.size : Int))), .int .i64 (x5_1.size : Int), .int .i64 0, .int .i64 0, .int .i64 0, .int .i64 0, .int .i64 0] 32 (0, 0))) ∧ Aside0 (Below w.heap.size w w'))
            case atStart => exact ⟨(x5_1), (0), (by first | rfl | (simp; done) | (simp [*]; done)), (by first | rfl | (simp; done) | (simp [*]; done)), H', ⟨Nat.le_refl _⟩, ⟨by (with_reducible repeat (first | apply Kd.R_alloc | apply Kd.R_drewN | apply Kd.R_drew)); exact Kd.R_mono (Kd.R_far (p := ⟨gb141, 3, none⟩) (Kd.R_far (p := ⟨gb141, 2, none⟩) (Kd.R_types HO_7.out BK141.out (by decide)) (fun _ hk => hk.2) (.int .i64 (wrap64 ((x5_1.size : Int) - (t140.size : Int))))) (fun _ hk => hk.2) (.int .i64 (x5_1.size : Int))) (fun _ hk => trivial)⟩, ⟨by (with_reducible repeat (first | apply Kd.R_alloc | apply Kd.R_drewN | apply Kd.R_drew)); exact Kd.R_mono (Kd.R_far (p := ⟨gb141, 3, none⟩) (Kd.R_far (p := ⟨gb141, 2, none⟩) (Kd.R_types HO_8.out BK141.out (by decide)) (fun _ hk => hk.2) (.int .i64 (wrap64 ((x5_1.size : Int) - (t140.size : Int))))) (fun _ hk => hk.2) (.int .i64 (x5_1.size : Int))) (fun _ hk => trivial)⟩, ⟨by (with_reducible repeat (first | refine blk_drewN ?_ _ | refine blk_drew ?_ | refine blk_alloc ?_ _)); refine blk_far ?_ NB138_141.out _; (with_reducible repeat (first | refine blk_drewN ?_ _ | refine blk_drew ?_ | refine blk_alloc ?_ _)); refine blk_far ?_ NB138_141.out _; (with_reducible repeat (first | refine blk_drewN ?_ _ | refine blk_drew ?_ | refine blk_alloc ?_ _)); exact BK138.out⟩, ⟨by (with_reducible repeat (first | refine blk_drewN ?_ _ | refine blk_drew ?_ | refine blk_alloc ?_ _)); refine blk_far ?_ NB139_141.out _; (with_reducible repeat (first | refine blk_drewN ?_ _ | refine blk_drew ?_ | refine blk_alloc ?_ _)); refine blk_far ?_ NB139_141.out _; (with_reducible repeat (first | refine blk_drewN ?_ _ | refine blk_drew ?_ | refine blk_alloc ?_ _)); exact BK139.out⟩, ⟨by (with_reducible repeat (first | refine blk_drewN ?_ _ | refine blk_drew ?_ | refine blk_alloc ?_ _)); refine blk_put (cs := #[.slice none 0 0, .int .i64 (t140.size : Int), .int .i64 (wrap64 ((x5_1.size : Int) - (t140.size : Int))), .int .i64 0, .int .i64 0, .int .i64 0, .int .i64 0, .int .i64 0, .int .i64 0]) ?_ 3 _ rfl; (with_reducible repeat (first | refine blk_drewN ?_ _ | refine blk_drew ?_ | refine blk_alloc ?_ _)); refine blk_put (cs := #[.slice none 0 0, .int .i64 (t140.size : Int), .int .i64 0, .int .i64 0, .int .i64 0, .int .i64 0, .int .i64 0, .int .i64 0, .int .i64 0]) ?_ 2 _ rfl; (with_reducible repeat (first | refine blk_drewN ?_ _ | refine blk_drew ?_ | refine blk_alloc ?_ _)); exact BK141.out⟩, ⟨by repeat (first | (with_reducible first | exact HB.out | apply below_alloc | apply pw_below_drewN | apply below_drew1 | refine below_set ?_ GE138.out | refine below_set ?_ GE139.out | refine below_set ?_ GE141.out) | exact HB.out)⟩⟩
            case round =>
              clear H'
              try clear c1
              try clear p1
              try clear q1
              try clear hx1
              try clear c2
              try clear p2
              try clear q2
              try clear hx2
              try clear c3
              try clear c4
              try clear c5
              try clear p6
              try clear c8
              try clear c9
              try clear c10
              try clear c13
              try clear c13b0
              try clear c14
              try clear p14
              try clear q14
              try clear hx14
              try clear c15
              try clear c17
              try clear c18
              try clear c19
              try clear c20
              try clear c21
              try clear c21b0
              try clear c22
              try clear c22b0
              try clear c24
              try clear c25
              try clear c27
              try clear c27b0
              try clear c28
              try clear c28b0
              try clear p29
              try clear q29
              try clear hx29
              try clear c30
              try clear c30b0
              try clear c30b1
              try clear c31
              try clear c31b0
              try clear c32
              try clear c32b0
              try clear c32b1
              try clear c33
              try clear c33b0
              try clear c34
              try clear c34b0
              try clear c35
              try clear c36
              try clear c37
              try clear c37b0
              try clear c37b1
              try clear c37b2
              try clear c38
              try clear c38b0
              try clear c38b1
              try clear c38b2
              try clear c39
              try clear c40
              try clear c43
              try clear c46
              try clear c47
              try clear c48
              try clear c48b0
              try clear c48b1
              try clear c48b2
              try clear c49
              try clear c49b0
              try clear c49b1
              try clear c49b2
              try clear c50
              try clear c51
              try clear c54
              try clear c57
              try clear c58
              try clear hcz11_0
              try clear hcz11_1
              try clear hcz11_2
              try clear hcz11_3
              try clear hcz11_4
              try clear hcz11_5
              try clear hcz11_6
              try clear hcz11_7
              try clear hcz11_8
              try clear hcz16_0
              try clear hcz16_1
              try clear hcz16_2
              try clear hcz19_0
              try clear hcz19_1
              try clear hcz19_2
              try clear hcz26_0
              try clear hcz26_1
              try clear hcz26_2
              try clear hcz41_0
              try clear hcz41_1
              try clear hcz41_2
              try clear hcz44_0
              try clear hcz44_1
              try clear hcz44_2
              try clear hcz44_3
              try clear hcz44_4
              try clear hcz44_5
              try clear hcz44_6
              try clear hcz44_7
              try clear hcz44_8
              try clear hcz52_0
              try clear hcz52_1
              try clear hcz52_2
              try clear hcz55_0
              try clear hcz55_1
              try clear hcz55_2
              try clear hcz55_3
              try clear hcz55_4
              try clear hcz55_5
              try clear hcz55_6
              try clear hcz55_7
              try clear hcz55_8
              try clear hcz59_0
              try clear hcz59_1
              try clear hcz59_2
              try clear hcz59_3
              try clear hcz59_4
              try clear hcz59_5
              try clear hcz59_6
              try clear hcz59_7
              try clear hcz59_8
              try clear hcz6_0
              try clear hcz6_1
              try clear hcz6_2
              try clear hfz11_0
              try clear hfz11_1
              try clear hfz11_2
              try clear hfz11_3
              try clear hfz11_4
              try clear hfz11_5
              try clear hfz11_6
              try clear hfz11_7
              try clear hfz11_8
              try clear hfz16_0
              try clear hfz16_1
              try clear hfz16_2
              try clear hfz19_0
              try clear hfz19_1
              try clear hfz19_2
              try clear hfz26_0
              try clear hfz26_1
              try clear hfz26_2
              try clear hfz41_0
              try clear hfz41_1
              try clear hfz41_2
              try clear hfz44_0
              try clear hfz44_1
              try clear hfz44_2
              try clear hfz44_3
              try clear hfz44_4
              try clear hfz44_5
              try clear hfz44_6
              try clear hfz44_7
              try clear hfz44_8
              try clear hfz52_0
              try clear hfz52_1
              try clear hfz52_2
              try clear hfz55_0
              try clear hfz55_1
              try clear hfz55_2
              try clear hfz55_3
              try clear hfz55_4
              try clear hfz55_5
              try clear hfz55_6
              try clear hfz55_7
              try clear hfz55_8
              try clear hfz59_0
              try clear hfz59_1
              try clear hfz59_2
              try clear hfz59_3
              try clear hfz59_4
              try clear hfz59_5
              try clear hfz59_6
              try clear hfz59_7
              try clear hfz59_8
              try clear hfz6_0
              try clear hfz6_1
              try clear hfz6_2
              try clear hx142_0
              try clear hx144_0
              try clear p1
              try clear p14
              try clear p142
              try clear p144
              try clear p2
              try clear p29
              try clear p6
              try clear q1
              try clear q14
              try clear q142
              try clear q144
              try clear q29
              obtain ⟨x5_3, x13_3, rfl, rfl, HA, HK3, HO_7, HO_8, BK138, BK139, BK141, HB⟩ := hrel
              cases gk with
              | zero => exact absurd HA.out (by simp [flyleaflaw10_Program_made.l2])
              | succ k3 =>
                have H := HA.out
                clear HA
                simp only [flyleaflaw10_Program_made.l2] at H
                by_cases c60 : x13_3 < (x7_1.length : Int)
                · rw [if_pos c60] at H
                  have c60b0 : decide (x13_3 < (x7_1.length : Int)) = true := decide_eq_true c60
                  clear c60
                  by_cases c61 : 0 ≤ x13_3
                  · rw [if_pos c61] at H
                    have c61b0 : decide (0 ≤ x13_3) = true := decide_eq_true c61
                    clear c61
                    replace H := Option.bind_eq_some_iff.mp H
                    obtain ⟨t158, A620, H⟩ := H
                    replace H : (if x5_3.size + t158.size ≤ 9223372036854775807 then (flyleaflaw10_Program_made.l2 k3 (x5_3 ++ t158) x7_1 x8_1 (wrap64 (x13_3 + 1)) (t140.size : Int) (wrap64 ((x5_1.size : Int) - (t140.size : Int))) (x5_1.size : Int) 0 0 0 0 0) else (none)) = some (r1, r2, r3, r4, r5, r6, r7, r8, r9, r10, r11) := H
                    have A62 := Aside0.mk A620
                    clear A620
                    by_cases c63 : x5_3.size + t158.size ≤ 9223372036854775807
                    · rw [if_pos c63] at H
                      have c63b0 := eq_true c63
                      have c63b1 : decide (x5_3.size + t158.size ≤ 9223372036854775807) = true := decide_eq_true c63
                      try have c63b2 : (9223372036854775807 < x5_3.size + t158.size) = False := eq_false (Nat.not_lt.2 c63)
                      clear c63
                      have H' := Aside0.mk H
                      clear H
                      obtain ⟨Ao64, co64, eo64⟩ := Kd.R_slice HO_7.out
                      subst eo64
                      have p157 : 0 ≤ (x13_3 : Int) := of_decide_eq_true (by first | (with_reducible assumption) | assumption)
                      have q157 : x13_3 < (x7_1.length : Int) := of_decide_eq_true (by first | (with_reducible assumption) | assumption)
                      obtain ⟨ad157, e157, hx157_0, hx157_1, hx157_2⟩ := at_T37 (Kd.R_reads' HO_7.out).2.2 x13_3 p157 q157
                      cases e157
                      replace p157 := eq_true p157
                      replace q157 := eq_true q157
                      go_wp2_with (first | ((with_reducible refine gate_callee (f := 18) rfl ?_); refine goesL_ (some 106) rfl rfl Try.func18 (by kernel_rfl) rfl #[.agg #[.int .i64 ((rd_T37 x7_1 x13_3).f0), .bool ((rd_T37 x7_1 x13_3).f1), .int .i64 ((rd_T37 x7_1 x13_3).f2)]] rfl (by (try simp only [List.map_toArray, List.map_cons, List.map_nil]); first | done | rfl | (simp only [List.length_drop, List.length_take]; rfl) | (simp only [ByteArray.size_append, Int.natCast_add]; rfl)) ?_; (with_reducible refine (flyleafref10_Bytes.calls k3 ((rd_T37 x7_1 x13_3).f0) ((rd_T37 x7_1 x13_3).f1) ((rd_T37 x7_1 x13_3).f2) t158 _ A62.out).mono ?_); rintro e w65 ⟨rfl, hb⟩; refine ⟨_, rfl, ?_⟩; have n0_ := Aside0.mk (Kd.R_below (by (with_reducible repeat (first | apply Kd.R_alloc | apply Kd.R_drewN | apply Kd.R_drew)); exact HO_7.out) hb); have n1_ := Aside0.mk (Kd.R_below (by (with_reducible repeat (first | apply Kd.R_alloc | apply Kd.R_drewN | apply Kd.R_drew)); exact HO_8.out) hb); have n2_ := Aside0.mk (blk_below (g := gb138) (o := .cells #[.slice A0_0 l0_0.length c0_0, .slice A0_1 l0_1.length c0_1, .int .i64 a0_2] 30 (0, 0)) (by (with_reducible repeat (first | refine blk_drewN ?_ _ | refine blk_drew ?_ | refine blk_alloc ?_ _)); exact BK138.out) hb); have n3_ := Aside0.mk (blk_below (g := gb139) (o := .cells #[.slice none 0 0, .int .i64 0, .int .i64 0, .int .i64 0, .int .i64 0, .int .i64 0, .int .i64 0, .int .i64 0, .int .i64 0] 32 (0, 0)) (by (with_reducible repeat (first | refine blk_drewN ?_ _ | refine blk_drew ?_ | refine blk_alloc ?_ _)); exact BK139.out) hb); have n4_ := Aside0.mk (blk_below (g := gb141) (o := .cells #[.slice none 0 0, .int .i64 (t140.size : Int), .int .i64 (wrap64 ((x5_1.size : Int) - (t140.size : Int))), .int .i64 (x5_1.size : Int), .int .i64 0, .int .i64 0, .int .i64 0, .int .i64 0, .int .i64 0] 32 (0, 0)) (by (with_reducible repeat (first | refine blk_drewN ?_ _ | refine blk_drew ?_ | refine blk_alloc ?_ _)); exact BK141.out) hb); have n5_ := Aside0.mk (below_step (by repeat (first | (with_reducible first | exact HB.out | apply below_alloc | apply pw_below_drewN | apply below_drew1 | refine below_set ?_ GE138.out | refine below_set ?_ GE139.out | refine below_set ?_ GE141.out) | exact HB.out)) hb); clear HO_7; clear HO_8; clear BK138; clear BK139; clear BK141; clear HB; have HO_7 := n0_; have HO_8 := n1_; have BK138 := n2_; have BK139 := n3_; have BK141 := n4_; have HB := n5_; clear n0_ n1_ n2_ n3_ n4_ n5_; (try clear hb); (try clear hb2); (try clear hk); (try clear hi)))
                      go_roundg k3
                      case measure => have := HK1.out; have := HJ11.out; have := HK3.out; omega
                      case rel => exact ⟨(x5_3 ++ t158), (wrap64 (x13_3 + 1)), (by first | rfl | (simp; done) | (simp [*]; done)), (by first | rfl | (simp; done) | (simp [*]; done)), H', ⟨by have := HK1.out; have := HJ11.out; have := HK3.out; omega⟩, ⟨by (with_reducible repeat (first | apply Kd.R_alloc | apply Kd.R_drewN | apply Kd.R_drew)); exact HO_7.out⟩, ⟨by (with_reducible repeat (first | apply Kd.R_alloc | apply Kd.R_drewN | apply Kd.R_drew)); exact HO_8.out⟩, ⟨by (with_reducible repeat (first | refine blk_drewN ?_ _ | refine blk_drew ?_ | refine blk_alloc ?_ _)); exact BK138.out⟩, ⟨by (with_reducible repeat (first | refine blk_drewN ?_ _ | refine blk_drew ?_ | refine blk_alloc ?_ _)); exact BK139.out⟩, ⟨by (with_reducible repeat (first | refine blk_drewN ?_ _ | refine blk_drew ?_ | refine blk_alloc ?_ _)); exact BK141.out⟩, ⟨by repeat (first | (with_reducible first | exact HB.out | apply below_alloc | apply pw_below_drewN | apply below_drew1 | refine below_set ?_ GE138.out | refine below_set ?_ GE139.out | refine below_set ?_ GE141.out) | exact HB.out)⟩⟩
                    · rw [if_neg c63] at H
                      exact absurd H (by simp)
                  · rw [if_neg c61] at H
                    exact absurd H (by simp)
                · rw [if_neg c60] at H
                  have c60b0 : decide (x13_3 < (x7_1.length : Int)) = false := decide_eq_false c60
                  clear c60
                  replace H := Option.bind_eq_some_iff.mp H
                  obtain ⟨⟨t159, t160⟩, A660, H⟩ := H
                  replace H : (if x5_3.size + t159.size ≤ 9223372036854775807 then (some (x5_3 ++ t159, ([] : List Int), (t140.size : Int), (wrap64 ((x5_1.size : Int) - (t140.size : Int))), (x5_1.size : Int), (x5_3.size : Int), 0, 0, 0, 0, x7_1)) else (none)) = some (r1, r2, r3, r4, r5, r6, r7, r8, r9, r10, r11) := H
                  have A66 := Aside0.mk A660
                  clear A660
                  by_cases c67 : x5_3.size + t159.size ≤ 9223372036854775807
                  · rw [if_pos c67] at H
                    have c67b0 := eq_true c67
                    have c67b1 : decide (x5_3.size + t159.size ≤ 9223372036854775807) = true := decide_eq_true c67
                    try have c67b2 : (9223372036854775807 < x5_3.size + t159.size) = False := eq_false (Nat.not_lt.2 c67)
                    clear c67
                    simp only [Option.some.injEq, Prod.mk.injEq] at H
                    obtain ⟨rfl, rfl, rfl, rfl, rfl, rfl, rfl, rfl, rfl, rfl, rfl⟩ := H
                    obtain ⟨Ao68, co68, eo68⟩ := Kd.R_slice HO_7.out
                    subst eo68
                    have hnb69 := NB141_138.out
                    have hnc69 := NB138_141.out
                    have hnb70 := NB141_139.out
                    have hnc70 := NB139_141.out
                    have hcz71_0 : wr.cell? ⟨gb141, 0, none⟩ = some (.slice none 0 0) := (blk_cell BK141.out 0).trans rfl
                    have hcz71_1 : wr.cell? ⟨gb141, 1, none⟩ = some (.int .i64 (t140.size : Int)) := (blk_cell BK141.out 1).trans rfl
                    have hcz71_2 : wr.cell? ⟨gb141, 2, none⟩ = some (.int .i64 (wrap64 ((x5_1.size : Int) - (t140.size : Int)))) := (blk_cell BK141.out 2).trans rfl
                    have hcz71_3 : wr.cell? ⟨gb141, 3, none⟩ = some (.int .i64 (x5_1.size : Int)) := (blk_cell BK141.out 3).trans rfl
                    have hcz71_4 : wr.cell? ⟨gb141, 4, none⟩ = some (.int .i64 0) := (blk_cell BK141.out 4).trans rfl
                    have hcz71_5 : wr.cell? ⟨gb141, 5, none⟩ = some (.int .i64 0) := (blk_cell BK141.out 5).trans rfl
                    have hcz71_6 : wr.cell? ⟨gb141, 6, none⟩ = some (.int .i64 0) := (blk_cell BK141.out 6).trans rfl
                    have hcz71_7 : wr.cell? ⟨gb141, 7, none⟩ = some (.int .i64 0) := (blk_cell BK141.out 7).trans rfl
                    have hcz71_8 : wr.cell? ⟨gb141, 8, none⟩ = some (.int .i64 0) := (blk_cell BK141.out 8).trans rfl
                    have hfz71_0 := blk_frozen BK141.out 0
                    have hfz71_1 := blk_frozen BK141.out 1
                    have hfz71_2 := blk_frozen BK141.out 2
                    have hfz71_3 := blk_frozen BK141.out 3
                    have hfz71_4 := blk_frozen BK141.out 4
                    have hfz71_5 := blk_frozen BK141.out 5
                    have hfz71_6 := blk_frozen BK141.out 6
                    have hfz71_7 := blk_frozen BK141.out 7
                    have hfz71_8 := blk_frozen BK141.out 8
                    obtain ⟨Ao72, co72, eo72⟩ := Kd.R_slice HO_8.out
                    subst eo72
                    try go_wp2_with (first | ((with_reducible refine gate_callee (f := 15) rfl ?_); refine goesL_ (some 113) rfl rfl Try.func15 (by kernel_rfl) rfl #[.slice Ao72 x8_1.length co72] rfl (by (try simp only [List.map_toArray, List.map_cons, List.map_nil]); first | done | rfl | (simp only [List.length_drop, List.length_take]; rfl) | (simp only [ByteArray.size_append, Int.natCast_add]; rfl)) ?_; (with_reducible refine (flyleafref10_Table.calls k3 _ _ x8_1 t159 t160 _ ?side1 ?side2 A66.out).mono ?_); (case side1 => refine (Kd.R_reads' (e := 9) (base := w.heap.size) (ok := fun k_ => True) (n := x8_1.length) (c := co72) ?_).2.2; exact (by (with_reducible repeat (first | apply Kd.R_alloc | apply Kd.R_drewN | apply Kd.R_drew)); exact (Kd.R_mono (Kd.R_far (p := ⟨gb141, 4, none⟩) (Kd.R_types HO_8.out BK141.out (by decide)) (fun _ hk => hk.2) (.int .i64 (x5_3.size : Int))) (fun _ h_ => h_.1)))); (case side2 => exact (Kd.R_reads' HO_8.out).2.1); rintro e w73 ⟨rfl, hb⟩; refine ⟨_, rfl, ?_⟩; have n0_ := Aside0.mk (Kd.R_below (by (with_reducible repeat (first | apply Kd.R_alloc | apply Kd.R_drewN | apply Kd.R_drew)); exact (Kd.R_mono (Kd.R_far (p := ⟨gb141, 4, none⟩) (Kd.R_types HO_7.out BK141.out (by decide)) (fun _ hk => hk.2) (.int .i64 (x5_3.size : Int))) (fun _ h_ => h_.1))) hb); have n1_ := Aside0.mk (Kd.R_below (by (with_reducible repeat (first | apply Kd.R_alloc | apply Kd.R_drewN | apply Kd.R_drew)); exact (Kd.R_mono (Kd.R_far (p := ⟨gb141, 4, none⟩) (Kd.R_types HO_8.out BK141.out (by decide)) (fun _ hk => hk.2) (.int .i64 (x5_3.size : Int))) (fun _ h_ => h_.1))) hb); have n2_ := Aside0.mk (blk_below (g := gb138) (o := .cells #[.slice A0_0 l0_0.length c0_0, .slice A0_1 l0_1.length c0_1, .int .i64 a0_2] 30 (0, 0)) (by (with_reducible repeat (first | refine blk_drewN ?_ _ | refine blk_drew ?_ | refine blk_alloc ?_ _)); refine blk_far ?_ NB138_141.out _; (with_reducible repeat (first | refine blk_drewN ?_ _ | refine blk_drew ?_ | refine blk_alloc ?_ _)); exact BK138.out) hb); have n3_ := Aside0.mk (blk_below (g := gb139) (o := .cells #[.slice none 0 0, .int .i64 0, .int .i64 0, .int .i64 0, .int .i64 0, .int .i64 0, .int .i64 0, .int .i64 0, .int .i64 0] 32 (0, 0)) (by (with_reducible repeat (first | refine blk_drewN ?_ _ | refine blk_drew ?_ | refine blk_alloc ?_ _)); refine blk_far ?_ NB139_141.out _; (with_reducible repeat (first | refine blk_drewN ?_ _ | refine blk_drew ?_ | refine blk_alloc ?_ _)); exact BK139.out) hb); have n4_ := Aside0.mk (blk_below (g := gb141) (o := .cells #[.slice none 0 0, .int .i64 (t140.size : Int), .int .i64 (wrap64 ((x5_1.size : Int) - (t140.size : Int))), .int .i64 (x5_1.size : Int), .int .i64 (x5_3.size : Int), .int .i64 0, .int .i64 0, .int .i64 0, .int .i64 0] 32 (0, 0)) (by (with_reducible repeat (first | refine blk_drewN ?_ _ | refine blk_drew ?_ | refine blk_alloc ?_ _)); refine blk_put (cs := #[.slice none 0 0, .int .i64 (t140.size : Int), .int .i64 (wrap64 ((x5_1.size : Int) - (t140.size : Int))), .int .i64 (x5_1.size : Int), .int .i64 0, .int .i64 0, .int .i64 0, .int .i64 0, .int .i64 0]) ?_ 4 _ rfl; (with_reducible repeat (first | refine blk_drewN ?_ _ | refine blk_drew ?_ | refine blk_alloc ?_ _)); exact BK141.out) hb); have n5_ := Aside0.mk (below_step (by repeat (first | (with_reducible first | exact HB.out | apply below_alloc | apply pw_below_drewN | apply below_drew1 | refine below_set ?_ GE138.out | refine below_set ?_ GE139.out | refine below_set ?_ GE141.out) | exact HB.out)) hb); clear HO_7; clear HO_8; clear BK138; clear BK139; clear BK141; clear HB; have HO_7 := n0_; have HO_8 := n1_; have BK138 := n2_; have BK139 := n3_; have BK141 := n4_; have HB := n5_; clear n0_ n1_ n2_ n3_ n4_ n5_; (try clear hb); (try clear hb2); (try clear hk); (try clear hi)))
                    have n0_ := Aside0.mk (Kd.R_drew HO_7.out)
                    have n1_ := Aside0.mk (Kd.R_drew HO_8.out)
                    have n2_ := Aside0.mk (blk_drew BK138.out)
                    have n3_ := Aside0.mk (blk_drew BK139.out)
                    have n4_ := Aside0.mk (blk_drew BK141.out)
                    have n5_ := Aside0.mk (below_drew1 HB.out)
                    clear HO_7
                    clear HO_8
                    clear BK138
                    clear BK139
                    clear BK141
                    clear HB
                    have HO_7 := n0_
                    have HO_8 := n1_
                    have BK138 := n2_
                    have BK139 := n3_
                    have BK141 := n4_
                    have HB := n5_
                    clear n0_ n1_ n2_ n3_ n4_ n5_
                    refine start_ (n := 8) (S := fun w' => w'.cell? ⟨gb141, 0, none⟩ = some (.slice none 0 0) ∧ w'.cell? ⟨gb141, 1, none⟩ = some (.int .i64 (t140.size : Int)) ∧ w'.cell? ⟨gb141, 2, none⟩ = some (.int .i64 (wrap64 ((x5_1.size : Int) - (t140.size : Int)))) ∧ w'.cell? ⟨gb141, 3, none⟩ = some (.int .i64 (x5_1.size : Int)) ∧ w'.cell? ⟨gb141, 4, none⟩ = some (.int .i64 (x5_3.size : Int)) ∧ w'.cell? ⟨gb141, 5, none⟩ = some (.int .i64 0) ∧ w'.cell? ⟨gb141, 6, none⟩ = some (.int .i64 0) ∧ w'.cell? ⟨gb141, 7, none⟩ = some (.int .i64 0) ∧ w'.cell? ⟨gb141, 8, none⟩ = some (.int .i64 0)) (ds := []) #[false, false, false, false, false, false, false, false] (by kernel_rfl) rfl rfl ⟨(blk_cell BK141.out 0).trans rfl, (blk_cell BK141.out 1).trans rfl, (blk_cell BK141.out 2).trans rfl, (blk_cell BK141.out 3).trans rfl, (blk_cell BK141.out 4).trans rfl, (blk_cell BK141.out 5).trans rfl, (blk_cell BK141.out 6).trans rfl, (blk_cell BK141.out 7).trans rfl, (blk_cell BK141.out 8).trans rfl⟩ (fun hHeld => ?_); refine with_tabW flyleaflaw10_Program_made.tab29 flyleaflaw10_Program_made.bits29 (fun HT_ HW_ => ?_)
                    generalize w73.drew = w74 at HO_7 HO_8 BK138 BK139 BK141 HB hHeld ⊢
                    refine pure_ (i := 0) (N := some 116) (v := ?_) (a' := ?_) #[true, false, false, false, false, false, false, false] rfl rfl (any_of HT_.out (by kernel_rfl)) (fun _ _ _ h => h) (Or.inl ⟨by rfl, ?_⟩) ?_ ?_
                    rotate_left
                    · intro w'
                      go_simp
                      with_reducible rfl
                    rotate_left
                    · simp only [Act.put, List.setIfInBounds_toArray, List.set_cons_zero, List.set_cons_succ, i64_w, i32_w]
                      rfl
                    refine pure_ (i := 1) (N := some 117) (v := ?_) (a' := ?_) #[true, true, false, false, false, false, false, false] rfl rfl (any_of HT_.out (by kernel_rfl)) (fun _ _ _ h => h) (Or.inl ⟨by rfl, ?_⟩) ?_ ?_
                    rotate_left
                    · intro w'
                      go_simp
                      with_reducible rfl
                    rotate_left
                    · simp only [Act.put, List.setIfInBounds_toArray, List.set_cons_zero, List.set_cons_succ, i64_w, i32_w]
                      rfl
                    refine pure_ (i := 2) (N := some 118) (v := ?_) (a' := ?_) #[true, true, true, false, false, false, false, false] rfl rfl (any_of HT_.out (by kernel_rfl)) (fun _ _ _ h => h) (Or.inl ⟨by rfl, ?_⟩) ?_ ?_
                    rotate_left
                    · intro w'
                      go_simp
                      with_reducible rfl
                    rotate_left
                    · simp only [Act.put, List.setIfInBounds_toArray, List.set_cons_zero, List.set_cons_succ, i64_w, i32_w]
                      rfl
                    refine pure_ (i := 4) (N := some 120) (v := ?_) (a' := ?_) #[true, true, true, false, true, false, false, false] rfl rfl (any_of HT_.out (by kernel_rfl)) (fun _ _ _ h => h) (Or.inl ⟨by rfl, ?_⟩) ?_ ?_
                    rotate_left
                    · intro w'
                      go_simp
                      with_reducible rfl
                    rotate_left
                    · simp only [Act.put, List.setIfInBounds_toArray, List.set_cons_zero, List.set_cons_succ, i64_w, i32_w]
                      rfl
                    refine pure_ (i := 5) (N := some 2) (v := ?_) (a' := ?_) #[true, true, true, false, true, true, false, false] rfl rfl (any_of HT_.out (by kernel_rfl)) (fun _ _ _ h => h) (Or.inl ⟨by rfl, ?_⟩) ?_ ?_
                    rotate_left
                    · intro w'
                      go_simp
                      with_reducible rfl
                    rotate_left
                    · simp only [Act.put, List.setIfInBounds_toArray, List.set_cons_zero, List.set_cons_succ, i64_w, i32_w]
                      rfl
                    refine take_ (i := 3) (N := some 119) (v := ?_) (a' := ?_) #[true, true, true, true, true, true, false, false] rfl rfl (take_ofW HT_.out HW_.out (by kernel_rfl)) (fun _ _ _ h => h) (Or.inl ⟨by rfl, ?_⟩) hHeld ?_ ?_
                    rotate_left
                    · rintro w' ⟨s0, s1, s2, s3, s4, s5, s6, s7, s8⟩
                      go_simp
                      with_reducible rfl
                    rotate_left
                    · simp only [Act.put, List.setIfInBounds_toArray, List.set_cons_zero, List.set_cons_succ, i64_w, i32_w]
                      rfl
                    refine one_ (i := 6) (N := none) #[true, true, true, true, true, true, true, false] rfl rfl (one_of HT_.out (by kernel_rfl)) (by decide) (fun K hK => ?_)
                    have hs75 : w74.cell? ⟨gb139, 0, none⟩ = some (.slice none 0 0) := (blk_cell BK139.out 0).trans rfl
                    have hfs75 := blk_frozen BK139.out 0
                    have hns75_0 := NB138_139.out
                    have hns75_2 := NB141_139.out
                    have hms75_0 := NB139_138.out
                    have hms75_2 := NB139_141.out
                    have hs76 : w74.cell? ⟨gb139, 1, none⟩ = some (.int .i64 0) := (blk_cell BK139.out 1).trans rfl
                    have hfs76 := blk_frozen BK139.out 1
                    have hns76_0 := NB138_139.out
                    have hns76_2 := NB141_139.out
                    have hms76_0 := NB139_138.out
                    have hms76_2 := NB139_141.out
                    have hs77 : w74.cell? ⟨gb139, 2, none⟩ = some (.int .i64 0) := (blk_cell BK139.out 2).trans rfl
                    have hfs77 := blk_frozen BK139.out 2
                    have hns77_0 := NB138_139.out
                    have hns77_2 := NB141_139.out
                    have hms77_0 := NB139_138.out
                    have hms77_2 := NB139_141.out
                    have hs78 : w74.cell? ⟨gb139, 3, none⟩ = some (.int .i64 0) := (blk_cell BK139.out 3).trans rfl
                    have hfs78 := blk_frozen BK139.out 3
                    have hns78_0 := NB138_139.out
                    have hns78_2 := NB141_139.out
                    have hms78_0 := NB139_138.out
                    have hms78_2 := NB139_141.out
                    have hs79 : w74.cell? ⟨gb139, 4, none⟩ = some (.int .i64 0) := (blk_cell BK139.out 4).trans rfl
                    have hfs79 := blk_frozen BK139.out 4
                    have hns79_0 := NB138_139.out
                    have hns79_2 := NB141_139.out
                    have hms79_0 := NB139_138.out
                    have hms79_2 := NB139_141.out
                    have hs80 : w74.cell? ⟨gb139, 5, none⟩ = some (.int .i64 0) := (blk_cell BK139.out 5).trans rfl
                    have hfs80 := blk_frozen BK139.out 5
                    have hns80_0 := NB138_139.out
                    have hns80_2 := NB141_139.out
                    have hms80_0 := NB139_138.out
                    have hms80_2 := NB139_141.out
                    have hs81 : w74.cell? ⟨gb139, 6, none⟩ = some (.int .i64 0) := (blk_cell BK139.out 6).trans rfl
                    have hfs81 := blk_frozen BK139.out 6
                    have hns81_0 := NB138_139.out
                    have hns81_2 := NB141_139.out
                    have hms81_0 := NB139_138.out
                    have hms81_2 := NB139_141.out
                    have hs82 : w74.cell? ⟨gb139, 7, none⟩ = some (.int .i64 0) := (blk_cell BK139.out 7).trans rfl
                    have hfs82 := blk_frozen BK139.out 7
                    have hns82_0 := NB138_139.out
                    have hns82_2 := NB141_139.out
                    have hms82_0 := NB139_138.out
                    have hms82_2 := NB139_141.out
                    have hs83 : w74.cell? ⟨gb139, 8, none⟩ = some (.int .i64 0) := (blk_cell BK139.out 8).trans rfl
                    have hfs83 := blk_frozen BK139.out 8
                    have hns83_0 := NB138_139.out
                    have hns83_2 := NB141_139.out
                    have hms83_0 := NB139_138.out
                    have hms83_2 := NB139_141.out
                    refine skip_ (w1 := ?_) (by rfl) rfl ?_ ?_
                    rotate_left
                    · go_simp
                      rfl
                    refine hK.out _ _ ⟨((cell_far (p := ⟨gb139, _, none⟩) NB141_139.out _).trans (((cell_far (p := ⟨gb139, _, none⟩) NB141_139.out _).trans (((cell_far (p := ⟨gb139, _, none⟩) NB141_139.out _).trans (((cell_far (p := ⟨gb139, _, none⟩) NB141_139.out _).trans (((cell_far (p := ⟨gb139, _, none⟩) NB141_139.out _).trans (((cell_far (p := ⟨gb139, _, none⟩) NB141_139.out _).trans (((cell_far (p := ⟨gb139, _, none⟩) NB141_139.out _).trans (((cell_far (p := ⟨gb139, _, none⟩) NB141_139.out _).trans (((cell_far (p := ⟨gb139, _, none⟩) NB141_139.out _).trans (hHeld.1)))))))))))))))))), ((cell_far (p := ⟨gb139, _, none⟩) NB141_139.out _).trans (((cell_far (p := ⟨gb139, _, none⟩) NB141_139.out _).trans (((cell_far (p := ⟨gb139, _, none⟩) NB141_139.out _).trans (((cell_far (p := ⟨gb139, _, none⟩) NB141_139.out _).trans (((cell_far (p := ⟨gb139, _, none⟩) NB141_139.out _).trans (((cell_far (p := ⟨gb139, _, none⟩) NB141_139.out _).trans (((cell_far (p := ⟨gb139, _, none⟩) NB141_139.out _).trans (((cell_far (p := ⟨gb139, _, none⟩) NB141_139.out _).trans (((cell_far (p := ⟨gb139, _, none⟩) NB141_139.out _).trans (hHeld.2.1)))))))))))))))))), ((cell_far (p := ⟨gb139, _, none⟩) NB141_139.out _).trans (((cell_far (p := ⟨gb139, _, none⟩) NB141_139.out _).trans (((cell_far (p := ⟨gb139, _, none⟩) NB141_139.out _).trans (((cell_far (p := ⟨gb139, _, none⟩) NB141_139.out _).trans (((cell_far (p := ⟨gb139, _, none⟩) NB141_139.out _).trans (((cell_far (p := ⟨gb139, _, none⟩) NB141_139.out _).trans (((cell_far (p := ⟨gb139, _, none⟩) NB141_139.out _).trans (((cell_far (p := ⟨gb139, _, none⟩) NB141_139.out _).trans (((cell_far (p := ⟨gb139, _, none⟩) NB141_139.out _).trans (hHeld.2.2.1)))))))))))))))))), ((cell_far (p := ⟨gb139, _, none⟩) NB141_139.out _).trans (((cell_far (p := ⟨gb139, _, none⟩) NB141_139.out _).trans (((cell_far (p := ⟨gb139, _, none⟩) NB141_139.out _).trans (((cell_far (p := ⟨gb139, _, none⟩) NB141_139.out _).trans (((cell_far (p := ⟨gb139, _, none⟩) NB141_139.out _).trans (((cell_far (p := ⟨gb139, _, none⟩) NB141_139.out _).trans (((cell_far (p := ⟨gb139, _, none⟩) NB141_139.out _).trans (((cell_far (p := ⟨gb139, _, none⟩) NB141_139.out _).trans (((cell_far (p := ⟨gb139, _, none⟩) NB141_139.out _).trans (hHeld.2.2.2.1)))))))))))))))))), ((cell_far (p := ⟨gb139, _, none⟩) NB141_139.out _).trans (((cell_far (p := ⟨gb139, _, none⟩) NB141_139.out _).trans (((cell_far (p := ⟨gb139, _, none⟩) NB141_139.out _).trans (((cell_far (p := ⟨gb139, _, none⟩) NB141_139.out _).trans (((cell_far (p := ⟨gb139, _, none⟩) NB141_139.out _).trans (((cell_far (p := ⟨gb139, _, none⟩) NB141_139.out _).trans (((cell_far (p := ⟨gb139, _, none⟩) NB141_139.out _).trans (((cell_far (p := ⟨gb139, _, none⟩) NB141_139.out _).trans (((cell_far (p := ⟨gb139, _, none⟩) NB141_139.out _).trans (hHeld.2.2.2.2.1)))))))))))))))))), ((cell_far (p := ⟨gb139, _, none⟩) NB141_139.out _).trans (((cell_far (p := ⟨gb139, _, none⟩) NB141_139.out _).trans (((cell_far (p := ⟨gb139, _, none⟩) NB141_139.out _).trans (((cell_far (p := ⟨gb139, _, none⟩) NB141_139.out _).trans (((cell_far (p := ⟨gb139, _, none⟩) NB141_139.out _).trans (((cell_far (p := ⟨gb139, _, none⟩) NB141_139.out _).trans (((cell_far (p := ⟨gb139, _, none⟩) NB141_139.out _).trans (((cell_far (p := ⟨gb139, _, none⟩) NB141_139.out _).trans (((cell_far (p := ⟨gb139, _, none⟩) NB141_139.out _).trans (hHeld.2.2.2.2.2.1)))))))))))))))))), ((cell_far (p := ⟨gb139, _, none⟩) NB141_139.out _).trans (((cell_far (p := ⟨gb139, _, none⟩) NB141_139.out _).trans (((cell_far (p := ⟨gb139, _, none⟩) NB141_139.out _).trans (((cell_far (p := ⟨gb139, _, none⟩) NB141_139.out _).trans (((cell_far (p := ⟨gb139, _, none⟩) NB141_139.out _).trans (((cell_far (p := ⟨gb139, _, none⟩) NB141_139.out _).trans (((cell_far (p := ⟨gb139, _, none⟩) NB141_139.out _).trans (((cell_far (p := ⟨gb139, _, none⟩) NB141_139.out _).trans (((cell_far (p := ⟨gb139, _, none⟩) NB141_139.out _).trans (hHeld.2.2.2.2.2.2.1)))))))))))))))))), ((cell_far (p := ⟨gb139, _, none⟩) NB141_139.out _).trans (((cell_far (p := ⟨gb139, _, none⟩) NB141_139.out _).trans (((cell_far (p := ⟨gb139, _, none⟩) NB141_139.out _).trans (((cell_far (p := ⟨gb139, _, none⟩) NB141_139.out _).trans (((cell_far (p := ⟨gb139, _, none⟩) NB141_139.out _).trans (((cell_far (p := ⟨gb139, _, none⟩) NB141_139.out _).trans (((cell_far (p := ⟨gb139, _, none⟩) NB141_139.out _).trans (((cell_far (p := ⟨gb139, _, none⟩) NB141_139.out _).trans (((cell_far (p := ⟨gb139, _, none⟩) NB141_139.out _).trans (hHeld.2.2.2.2.2.2.2.1)))))))))))))))))), ((cell_far (p := ⟨gb139, _, none⟩) NB141_139.out _).trans (((cell_far (p := ⟨gb139, _, none⟩) NB141_139.out _).trans (((cell_far (p := ⟨gb139, _, none⟩) NB141_139.out _).trans (((cell_far (p := ⟨gb139, _, none⟩) NB141_139.out _).trans (((cell_far (p := ⟨gb139, _, none⟩) NB141_139.out _).trans (((cell_far (p := ⟨gb139, _, none⟩) NB141_139.out _).trans (((cell_far (p := ⟨gb139, _, none⟩) NB141_139.out _).trans (((cell_far (p := ⟨gb139, _, none⟩) NB141_139.out _).trans (((cell_far (p := ⟨gb139, _, none⟩) NB141_139.out _).trans (hHeld.2.2.2.2.2.2.2.2))))))))))))))))))⟩ (fun hHeld => ?_)
                    clear hK K
                    refine pure_ (i := 7) (N := some 4) (v := ?_) (a' := ?_) #[true, true, true, true, true, true, true, true] rfl rfl (any_of HT_.out (by kernel_rfl)) (fun _ _ _ h => h) (Or.inl ⟨by rfl, ?_⟩) ?_ ?_
                    rotate_left
                    · intro w'
                      go_simp
                      with_reducible rfl
                    rotate_left
                    · simp only [Act.put, List.setIfInBounds_toArray, List.set_cons_zero, List.set_cons_succ, i64_w, i32_w]
                      rfl
                    refine done_ (done_of HT_.out (by kernel_rfl)) ?_
                    try go_wp2
                    refine bodyPost_ret (results_list (rs := [.tmp 2, .cell 3 32, .tmp 4]) rfl (by simp) (.tmp (.cell gb139 32 #[.slice none 0 0, .int .i64 (t140.size : Int), .int .i64 (wrap64 ((x5_1.size : Int) - (t140.size : Int))), .int .i64 (x5_1.size : Int), .int .i64 (x5_3.size : Int), .int .i64 0, .int .i64 0, .int .i64 0, .int .i64 0] (0, 0) _ rfl (by (with_reducible repeat (first | refine blk_drewN ?_ _ | refine blk_drew ?_ | refine blk_alloc ?_ _)); refine blk_put (cs := #[.slice none 0 0, .int .i64 (t140.size : Int), .int .i64 (wrap64 ((x5_1.size : Int) - (t140.size : Int))), .int .i64 (x5_1.size : Int), .int .i64 (x5_3.size : Int), .int .i64 0, .int .i64 0, .int .i64 0, .int .i64 0]) ?_ 8 _ rfl; (with_reducible repeat (first | refine blk_drewN ?_ _ | refine blk_drew ?_ | refine blk_alloc ?_ _)); refine blk_put (cs := #[.slice none 0 0, .int .i64 (t140.size : Int), .int .i64 (wrap64 ((x5_1.size : Int) - (t140.size : Int))), .int .i64 (x5_1.size : Int), .int .i64 (x5_3.size : Int), .int .i64 0, .int .i64 0, .int .i64 0, .int .i64 0]) ?_ 7 _ rfl; (with_reducible repeat (first | refine blk_drewN ?_ _ | refine blk_drew ?_ | refine blk_alloc ?_ _)); refine blk_put (cs := #[.slice none 0 0, .int .i64 (t140.size : Int), .int .i64 (wrap64 ((x5_1.size : Int) - (t140.size : Int))), .int .i64 (x5_1.size : Int), .int .i64 (x5_3.size : Int), .int .i64 0, .int .i64 0, .int .i64 0, .int .i64 0]) ?_ 6 _ rfl; (with_reducible repeat (first | refine blk_drewN ?_ _ | refine blk_drew ?_ | refine blk_alloc ?_ _)); refine blk_put (cs := #[.slice none 0 0, .int .i64 (t140.size : Int), .int .i64 (wrap64 ((x5_1.size : Int) - (t140.size : Int))), .int .i64 (x5_1.size : Int), .int .i64 (x5_3.size : Int), .int .i64 0, .int .i64 0, .int .i64 0, .int .i64 0]) ?_ 5 _ rfl; (with_reducible repeat (first | refine blk_drewN ?_ _ | refine blk_drew ?_ | refine blk_alloc ?_ _)); refine blk_put (cs := #[.slice none 0 0, .int .i64 (t140.size : Int), .int .i64 (wrap64 ((x5_1.size : Int) - (t140.size : Int))), .int .i64 (x5_1.size : Int), .int .i64 0, .int .i64 0, .int .i64 0, .int .i64 0, .int .i64 0]) ?_ 4 _ rfl; (with_reducible repeat (first | refine blk_drewN ?_ _ | refine blk_drew ?_ | refine blk_alloc ?_ _)); refine blk_put (cs := #[.slice none 0 0, .int .i64 (t140.size : Int), .int .i64 (wrap64 ((x5_1.size : Int) - (t140.size : Int))), .int .i64 0, .int .i64 0, .int .i64 0, .int .i64 0, .int .i64 0, .int .i64 0]) ?_ 3 _ rfl; (with_reducible repeat (first | refine blk_drewN ?_ _ | refine blk_drew ?_ | refine blk_alloc ?_ _)); refine blk_put (cs := #[.slice none 0 0, .int .i64 (t140.size : Int), .int .i64 0, .int .i64 0, .int .i64 0, .int .i64 0, .int .i64 0, .int .i64 0, .int .i64 0]) ?_ 2 _ rfl; (with_reducible repeat (first | refine blk_drewN ?_ _ | refine blk_drew ?_ | refine blk_alloc ?_ _)); refine blk_put (cs := #[.slice none 0 0, .int .i64 0, .int .i64 0, .int .i64 0, .int .i64 0, .int .i64 0, .int .i64 0, .int .i64 0, .int .i64 0]) ?_ 1 _ rfl; (with_reducible repeat (first | refine blk_drewN ?_ _ | refine blk_drew ?_ | refine blk_alloc ?_ _)); refine blk_put (cs := #[.slice none 0 0, .int .i64 0, .int .i64 0, .int .i64 0, .int .i64 0, .int .i64 0, .int .i64 0, .int .i64 0, .int .i64 0]) ?_ 0 _ rfl; (with_reducible repeat (first | refine blk_drewN ?_ _ | refine blk_drew ?_ | refine blk_alloc ?_ _)); exact BK139.out) Try.underlying32 rfl (by kernel_rfl) (.tmp .nil)))) rfl ?_
                    exact ⟨_, _, by first | rfl | (simp [errW_none, errW_some] <;> rfl) | (simp [*, errW_none, errW_some] <;> rfl), by first | exact Kd.R_nil _ _ _ _ _ | exact Kd.N_nil _ _ _ _ _ | exact Kd.V_nil _ _ _ _ _ | exact Kd.Q_nil _ _ _ _ _ | exact Kd.S_nil _ _ _ _ _, by (with_reducible repeat (first | apply Kd.R_alloc | apply Kd.R_drewN | apply Kd.R_drew)); exact Kd.R_mono (Kd.R_far (p := ⟨gb139, 8, none⟩) (Kd.R_far (p := ⟨gb139, 7, none⟩) (Kd.R_far (p := ⟨gb139, 6, none⟩) (Kd.R_far (p := ⟨gb139, 5, none⟩) (Kd.R_far (p := ⟨gb139, 4, none⟩) (Kd.R_far (p := ⟨gb139, 3, none⟩) (Kd.R_far (p := ⟨gb139, 2, none⟩) (Kd.R_far (p := ⟨gb139, 1, none⟩) (Kd.R_far (p := ⟨gb139, 0, none⟩) (Kd.R_types HO_7.out BK139.out (by decide)) (fun _ hk => hk.2) (.slice none 0 0)) (fun _ hk => hk.2) (.int .i64 (t140.size : Int))) (fun _ hk => hk.2) (.int .i64 (wrap64 ((x5_1.size : Int) - (t140.size : Int))))) (fun _ hk => hk.2) (.int .i64 (x5_1.size : Int))) (fun _ hk => hk.2) (.int .i64 (x5_3.size : Int))) (fun _ hk => hk.2) (.int .i64 0)) (fun _ hk => hk.2) (.int .i64 0)) (fun _ hk => hk.2) (.int .i64 0)) (fun _ hk => hk.2) (.int .i64 0)) (fun _ hk => trivial), by repeat (first | (with_reducible first | exact HB.out | apply below_alloc | apply pw_below_drewN | apply below_drew1 | refine below_set ?_ GE138.out | refine below_set ?_ GE139.out | refine below_set ?_ GE141.out) | exact HB.out)⟩
                  · rw [if_neg c67] at H
                    exact absurd H (by simp)

end Go.Proofs.Ytoknnbjkjhigbaa.X
