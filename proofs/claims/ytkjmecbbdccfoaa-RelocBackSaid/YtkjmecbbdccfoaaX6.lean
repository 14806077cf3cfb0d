/- Walks of Go functions of this seat: each calls-theorem says that the Go function, called at values of its kinds, returns what the Lean function of its name tells, where that tells something; what was in memory stays. Written by our own program xprint.py. -/
import Derived.Test.YtkjmecbbdccfoaaX0
import Derived.Test.YtkjmecbbdccfoaaX2
import Derived.Test.YtkjmecbbdccfoaaX5
namespace Go.Proofs.Ytkjmecbbdccfoaa.X
open Go.RowKit Go.Proofs.YtkjmecbbdccfoaaW.PrintWords Go.Proofs.YtkjmecbbdccfoaaW.PrintLast Go.Proofs.YtkjmecbbdccfoaaW.PrintMore
attribute [local go_sem] max2_int min2_int max_two min_two max_three min_three max_four min_four   -- for this text's walks alone
set_option linter.unusedVariables false
set_option linter.unusedSimpArgs false

/-! ### flyleaflaw11_RelocBack: function 6 -/
mutual
def flyleaflaw11_RelocBack.l0 : Nat → List (S23) → Bool → Int → List (S23) → ByteArray → Int → Int → Int → Int → Int → Option (Bool)
  | 0, _, _, _, _, _, _, _, _, _, _ => none
  | k + 1, x0, x5, x6, x7, x8, x10, x156000, x156001, x156002, x156003 => if x10 < (x0.length : Int) then (flyleaflaw11_RelocBack.j1 k x0 x5 x6 x7 x8 x10 (decide (x10 < 8)) x156000 x156001 x156002 x156003) else (flyleaflaw11_RelocBack.j1 k x0 x5 x6 x7 x8 x10 false x156000 x156001 x156002 x156003)
def flyleaflaw11_RelocBack.j1 : Nat → List (S23) → Bool → Int → List (S23) → ByteArray → Int → Bool → Int → Int → Int → Int → Option (Bool)
  | 0, _, _, _, _, _, _, _, _, _, _, _ => none
  | k + 1, x0, x5, x6, x7, x8, x10, x32, x156000, x156001, x156002, x156003 => if x32 = true then (if 0 ≤ x10 then (if x10 < (x0.length : Int) then (if (wrap64 (x6 - 7)) = 0 then (none) else (if 0 ≤ (Go.bits .and .i64 ((rd_T23 x0 x10).f1) 3) then (if (Go.bits .and .i64 ((rd_T23 x0 x10).f1) 3) < 4 then (if (XW.sel [x156000, x156001, x156002, x156003] (Go.bits .and .i64 ((rd_T23 x0 x10).f1) 3)) = 8 then (flyleaflaw11_RelocBack.j2 k x0 x5 x6 x7 x8 x10 x156000 x156001 x156002 x156003 (Int.tmod (wrap64 ((wrap64 ((Int.tmod ((rd_T23 x0 x10).f0) (wrap64 (x6 - 7))) + x6)) - 7)) (wrap64 (x6 - 7))) (XW.sel [x156000, x156001, x156002, x156003] (Go.bits .and .i64 ((rd_T23 x0 x10).f1) 3)) 0 ((rd_T23 x0 x10).f3)) else (flyleaflaw11_RelocBack.j2 k x0 x5 x6 x7 x8 x10 x156000 x156001 x156002 x156003 (Int.tmod (wrap64 ((wrap64 ((Int.tmod ((rd_T23 x0 x10).f0) (wrap64 (x6 - 7))) + x6)) - 7)) (wrap64 (x6 - 7))) (XW.sel [x156000, x156001, x156002, x156003] (Go.bits .and .i64 ((rd_T23 x0 x10).f1) 3)) (wrap64 (1 + (Go.bits .and .i64 ((rd_T23 x0 x10).f2) 1023))) ((rd_T23 x0 x10).f3))) else (none)) else (none))) else (none)) else (none)) else ((flyleafref01_Fill.f x8 x6).bind fun t166 => ((reloc_Read.f k t166 ([] : List Int) 0 0 0 0 0 (x8.size : Int) 0 0).bind fun bt167 => ((flyleafref11_Same.f k bt167.1 x7).bind fun t171 => (if (x7.length : Int) = 0 then (if x5 = true then (if t171 = true then (some (bt167.2 == 0)) else (some false)) else (some false)) else ((flyleafref01_Fill.f x8 x6).bind fun t172 => ((reloc_Read.f k t172 ([] : List Int) 0 0 0 0 0 (wrap64 ((x8.size : Int) - 1)) 0 0).bind fun bt173 => (if 0 < (x7.length : Int) then ((some (x7.set (0 : Int).toNat (⟨wrap64 (x6 - 7), (rd_T23 x7 0).f1, (rd_T23 x7 0).f2, (rd_T23 x7 0).f3⟩ : S23) : List (S23))).bind fun y177 => ((reloc_Bytes.f k ((rd_T23 y177 0).f0) ((rd_T23 y177 0).f1) ((rd_T23 y177 0).f2) ((rd_T23 y177 0).f3)).bind fun t179 => ((flyleafref01_Fill.f t179 x6).bind fun t180 => ((reloc_Read.f k t180 ([] : List Int) 0 0 0 0 0 24 0 0).bind fun bt181 => (if x5 = true then (if t171 = true then (if bt167.2 = 0 then (if bt173.2 = 17 then (some (bt181.2 == 17)) else (some false)) else (some false)) else (some false)) else (some false)))))) else (none))))))))
def flyleaflaw11_RelocBack.j2 : Nat → List (S23) → Bool → Int → List (S23) → ByteArray → Int → Int → Int → Int → Int → Int → Int → Int → Int → Option (Bool)
  | 0, _, _, _, _, _, _, _, _, _, _, _, _, _, _ => none
  | k + 1, x0, x5, x6, x7, x8, x10, x156000, x156001, x156002, x156003, x161000, x161001, x161002, x161003 => if x7.length < 4398046511104 then ((reloc_Bytes.f k x161000 x161001 x161002 x161003).bind fun t164 => (if x8.size + t164.size ≤ 9223372036854775807 then (flyleaflaw11_RelocBack.l0 k x0 x5 x6 (x7 ++ [(⟨x161000, x161001, x161002, x161003⟩ : S23)]) (x8 ++ t164) (wrap64 (x10 + 1)) x156000 x156001 x156002 x156003) else (none))) else (none)
end
def flyleaflaw11_RelocBack.f (k : Nat) (l0 : List (S23)) (a1 : Int) : Option (Bool) := (flyleaflaw11_awake.f k).bind fun t154 => (flyleaflaw11_RelocBack.l0 k l0 t154 (wrap64 (300 + (Go.bits .and .i64 a1 255))) ([] : List (S23)) (⟨#[]⟩ : ByteArray) 0 1 6 7 8)
theorem flyleaflaw11_RelocBack.mono_l : ∀ k, (∀ y0 y1 y2 y3 y4 y5 y6 y7 y8 y9, LeO (flyleaflaw11_RelocBack.l0 k y0 y1 y2 y3 y4 y5 y6 y7 y8 y9) (flyleaflaw11_RelocBack.l0 (k + 1) y0 y1 y2 y3 y4 y5 y6 y7 y8 y9)) ∧ (∀ y0 y1 y2 y3 y4 y5 y6 y7 y8 y9 y10, LeO (flyleaflaw11_RelocBack.j1 k y0 y1 y2 y3 y4 y5 y6 y7 y8 y9 y10) (flyleaflaw11_RelocBack.j1 (k + 1) y0 y1 y2 y3 y4 y5 y6 y7 y8 y9 y10)) ∧ (∀ y0 y1 y2 y3 y4 y5 y6 y7 y8 y9 y10 y11 y12 y13, LeO (flyleaflaw11_RelocBack.j2 k y0 y1 y2 y3 y4 y5 y6 y7 y8 y9 y10 y11 y12 y13) (flyleaflaw11_RelocBack.j2 (k + 1) y0 y1 y2 y3 y4 y5 y6 y7 y8 y9 y10 y11 y12 y13))
  | 0 => ⟨fun _ _ _ _ _ _ _ _ _ _ r h => by simp [flyleaflaw11_RelocBack.l0] at h, fun _ _ _ _ _ _ _ _ _ _ _ r h => by simp [flyleaflaw11_RelocBack.j1] at h, fun _ _ _ _ _ _ _ _ _ _ _ _ _ _ r h => by simp [flyleaflaw11_RelocBack.j2] at h⟩
  | k + 1 => by
    obtain ⟨ih0, ih1, ih2⟩ := flyleaflaw11_RelocBack.mono_l k
    refine ⟨?_, ?_, ?_⟩
    · intro y0 y1 y2 y3 y4 y5 y6 y7 y8 y9
      unfold flyleaflaw11_RelocBack.l0
      repeat' first
      | (with_reducible exact ih0 _ _ _ _ _ _ _ _ _ _)
      | (with_reducible exact ih1 _ _ _ _ _ _ _ _ _ _ _)
      | (with_reducible exact ih2 _ _ _ _ _ _ _ _ _ _ _ _ _ _)
      | (with_reducible exact flyleaflaw11_awake.mono _)
      | (with_reducible exact flyleafref11_Same.mono _ _ _)
      | (with_reducible exact reloc_Bytes.mono _ _ _ _ _)
      | (with_reducible exact reloc_Read.mono _ _ _ _ _ _ _ _ _ _ _)
      | (with_reducible exact LeO.refl _)
      | (with_reducible exact LeO.none _)
      | (with_reducible refine LeO.ite ?_ ?_)
      | (with_reducible refine LeO.bind ?_ (fun _ => ?_))
      | exact ih0 _ _ _ _ _ _ _ _ _ _
      | exact ih1 _ _ _ _ _ _ _ _ _ _ _
      | exact ih2 _ _ _ _ _ _ _ _ _ _ _ _ _ _
      | exact flyleaflaw11_awake.mono _
      | exact flyleafref11_Same.mono _ _ _
      | exact reloc_Bytes.mono _ _ _ _ _
      | exact reloc_Read.mono _ _ _ _ _ _ _ _ _ _ _
      | exact LeO.none _
      | refine LeO.ite ?_ ?_
      | refine LeO.bind ?_ (fun _ => ?_)
    · intro y0 y1 y2 y3 y4 y5 y6 y7 y8 y9 y10
      unfold flyleaflaw11_RelocBack.j1
      repeat' first
      | (with_reducible exact ih0 _ _ _ _ _ _ _ _ _ _)
      | (with_reducible exact ih1 _ _ _ _ _ _ _ _ _ _ _)
      | (with_reducible exact ih2 _ _ _ _ _ _ _ _ _ _ _ _ _ _)
      | (with_reducible exact flyleaflaw11_awake.mono _)
      | (with_reducible exact flyleafref11_Same.mono _ _ _)
      | (with_reducible exact reloc_Bytes.mono _ _ _ _ _)
      | (with_reducible exact reloc_Read.mono _ _ _ _ _ _ _ _ _ _ _)
      | (with_reducible exact LeO.refl _)
      | (with_reducible exact LeO.none _)
      | (with_reducible refine LeO.ite ?_ ?_)
      | (with_reducible refine LeO.bind ?_ (fun _ => ?_))
      | exact ih0 _ _ _ _ _ _ _ _ _ _
      | exact ih1 _ _ _ _ _ _ _ _ _ _ _
      | exact ih2 _ _ _ _ _ _ _ _ _ _ _ _ _ _
      | exact flyleaflaw11_awake.mono _
      | exact flyleafref11_Same.mono _ _ _
      | exact reloc_Bytes.mono _ _ _ _ _
      | exact reloc_Read.mono _ _ _ _ _ _ _ _ _ _ _
      | exact LeO.none _
      | refine LeO.ite ?_ ?_
      | refine LeO.bind ?_ (fun _ => ?_)
    · intro y0 y1 y2 y3 y4 y5 y6 y7 y8 y9 y10 y11 y12 y13
      unfold flyleaflaw11_RelocBack.j2
      repeat' first
      | (with_reducible exact ih0 _ _ _ _ _ _ _ _ _ _)
      | (with_reducible exact ih1 _ _ _ _ _ _ _ _ _ _ _)
      | (with_reducible exact ih2 _ _ _ _ _ _ _ _ _ _ _ _ _ _)
      | (with_reducible exact flyleaflaw11_awake.mono _)
      | (with_reducible exact flyleafref11_Same.mono _ _ _)
      | (with_reducible exact reloc_Bytes.mono _ _ _ _ _)
      | (with_reducible exact reloc_Read.mono _ _ _ _ _ _ _ _ _ _ _)
      | (with_reducible exact LeO.refl _)
      | (with_reducible exact LeO.none _)
      | (with_reducible refine LeO.ite ?_ ?_)
      | (with_reducible refine LeO.bind ?_ (fun _ => ?_))
      | exact ih0 _ _ _ _ _ _ _ _ _ _
      | exact ih1 _ _ _ _ _ _ _ _ _ _ _
      | exact ih2 _ _ _ _ _ _ _ _ _ _ _ _ _ _
      | exact flyleaflaw11_awake.mono _
      | exact flyleafref11_Same.mono _ _ _
      | exact reloc_Bytes.mono _ _ _ _ _
      | exact reloc_Read.mono _ _ _ _ _ _ _ _ _ _ _
      | exact LeO.none _
      | refine LeO.ite ?_ ?_
      | refine LeO.bind ?_ (fun _ => ?_)
theorem flyleaflaw11_RelocBack.mono : ∀ a0 a1 k, LeO (flyleaflaw11_RelocBack.f k a0 a1) (flyleaflaw11_RelocBack.f (k + 1) a0 a1) := by
  intro a0 a1 k
  obtain ⟨ih0, ih1, ih2⟩ := flyleaflaw11_RelocBack.mono_l k
  unfold flyleaflaw11_RelocBack.f
  repeat' first
      | (with_reducible exact ih0 _ _ _ _ _ _ _ _ _ _)
      | (with_reducible exact ih1 _ _ _ _ _ _ _ _ _ _ _)
      | (with_reducible exact ih2 _ _ _ _ _ _ _ _ _ _ _ _ _ _)
      | (with_reducible exact flyleaflaw11_awake.mono _)
      | (with_reducible exact flyleafref11_Same.mono _ _ _)
      | (with_reducible exact reloc_Bytes.mono _ _ _ _ _)
      | (with_reducible exact reloc_Read.mono _ _ _ _ _ _ _ _ _ _ _)
      | (with_reducible exact LeO.refl _)
      | (with_reducible exact LeO.none _)
      | (with_reducible refine LeO.ite ?_ ?_)
      | (with_reducible refine LeO.bind ?_ (fun _ => ?_))
      | exact ih0 _ _ _ _ _ _ _ _ _ _
      | exact ih1 _ _ _ _ _ _ _ _ _ _ _
      | exact ih2 _ _ _ _ _ _ _ _ _ _ _ _ _ _
      | exact flyleaflaw11_awake.mono _
      | exact flyleafref11_Same.mono _ _ _
      | exact reloc_Bytes.mono _ _ _ _ _
      | exact reloc_Read.mono _ _ _ _ _ _ _ _ _ _ _
      | exact LeO.none _
      | refine LeO.ite ?_ ?_
      | refine LeO.bind ?_ (fun _ => ?_)
def flyleaflaw11_RelocBack.T9 : Bool × List (List Nat × List Nat) := (true, [([], []), ([], []), ([0, 1], [0, 1]), ([2], [2]), ([3], [3]), ([], []), ([5], [5]), ([4, 6], [4, 6]), ([], []), ([7, 8], [7, 8]), ([9], [9]), ([], []), ([11], [11]), ([10, 12], [10, 12]), ([], []), ([], []), ([14, 15], [14, 15]), ([16], [16]), ([17], [17]), ([18], [18]), ([19], [19]), ([20], [20]), ([], []), ([], []), ([22, 23], [22, 23]), ([24], [24]), ([25], [25]), ([26], [26]), ([27], [27]), ([], []), ([], []), ([29, 30], [29, 30]), ([31], [31]), ([32], [32]), ([13, 21, 28, 33], [13, 21, 28, 33]), ([], []), ([35, 34, 0, 1, 2, 3, 4, 5, 6, 7, 8, 9, 10, 11, 12, 13, 14, 15, 16, 17, 18, 19, 20, 21, 22, 23, 24, 25, 26, 27, 28, 29, 30, 31, 32, 33, 34, 35], [34, 35])])
def flyleaflaw11_RelocBack.B9 : List Nat := [0, 0, 3, 7, 15, 0, 32, 127, 0, 511, 1023, 0, 2048, 8191, 0, 0, 49152, 114688, 245760, 507904, 1032192, 2080768, 0, 0, 12582912, 29360128, 62914560, 130023424, 264241152, 0, 0, 1610612736, 3758096384, 8053063680, 17179869183, 0, 68719476735]
theorem flyleaflaw11_RelocBack.tab9 : rtab .any (opsOf Try.f6 9) = flyleaflaw11_RelocBack.T9 := by kernel_rfl
theorem flyleaflaw11_RelocBack.bits9 : waitsOk flyleaflaw11_RelocBack.T9.2 flyleaflaw11_RelocBack.B9 = true := by kernel_rfl
def flyleaflaw11_RelocBack.T15 : Bool × List (List Nat × List Nat) := (true, [([], []), ([], []), ([0, 1], [0, 1]), ([], []), ([2, 3, 2], [2, 3]), ([4], [4]), ([5], [5]), ([5], [5]), ([6, 4, 0, 1, 2, 3, 4, 5, 6], [6]), ([7, 8, 0, 1, 2, 3, 4, 5, 6, 7, 8], [7])])
def flyleaflaw11_RelocBack.B15 : List Nat := [0, 0, 3, 0, 15, 31, 63, 63, 127, 511]
theorem flyleaflaw11_RelocBack.tab15 : rtab .any (opsOf Try.f6 15) = flyleaflaw11_RelocBack.T15 := by kernel_rfl
theorem flyleaflaw11_RelocBack.bits15 : waitsOk flyleaflaw11_RelocBack.T15.2 flyleaflaw11_RelocBack.B15 = true := by kernel_rfl
def flyleaflaw11_RelocBack.T20 : Bool × List (List Nat × List Nat) := (true, [([], []), ([], []), ([0, 1], [0, 1]), ([], []), ([2, 3, 2], [2, 3]), ([4], [4]), ([5], [5]), ([5], [5]), ([6, 4, 0, 1, 2, 3, 4, 5, 6], [6]), ([7, 8, 0, 1, 2, 3, 4, 5, 6, 7, 8], [7])])
def flyleaflaw11_RelocBack.B20 : List Nat := [0, 0, 3, 0, 15, 31, 63, 63, 127, 511]
theorem flyleaflaw11_RelocBack.tab20 : rtab .any (opsOf Try.f6 20) = flyleaflaw11_RelocBack.T20 := by kernel_rfl
theorem flyleaflaw11_RelocBack.bits20 : waitsOk flyleaflaw11_RelocBack.T20.2 flyleaflaw11_RelocBack.B20 = true := by kernel_rfl
def flyleaflaw11_RelocBack.T23 : Bool × List (List Nat × List Nat) := (true, [([], []), ([0], [0]), ([1], [1]), ([2], [2]), ([], []), ([3, 4, 3], [3, 4]), ([], []), ([5, 6, 5], [5, 6]), ([7], [7]), ([8], [8]), ([8], [8]), ([9, 7, 0, 1, 2, 3, 4, 5, 6, 7, 8, 9], [9]), ([10, 11, 0, 1, 2, 3, 4, 5, 6, 7, 8, 9, 10, 11], [10])])
def flyleaflaw11_RelocBack.B23 : List Nat := [0, 1, 3, 7, 0, 31, 0, 127, 255, 511, 511, 1023, 4095]
theorem flyleaflaw11_RelocBack.tab23 : rtab .any (opsOf Try.f6 23) = flyleaflaw11_RelocBack.T23 := by kernel_rfl
theorem flyleaflaw11_RelocBack.bits23 : waitsOk flyleaflaw11_RelocBack.T23.2 flyleaflaw11_RelocBack.B23 = true := by kernel_rfl
set_option maxHeartbeats 8000000 in
set_option maxRecDepth 100000 in
theorem flyleaflaw11_RelocBack.calls (k : Nat) (A0 : Option Addr) (c0 : Nat) (l0 : List (S23)) (a1 : Int) (w : World) (hr0 : Kd.C k23 w A0 l0.length l0) (hc0 : l0.length ≤ c0) (h : flyleaflaw11_RelocBack.f k l0 a1 = some true) :
    Calls Try.prog 6 #[.slice A0 l0.length c0, .int .i64 a1] w fun e w' => e = .returned (.bool true) ∧ Below w.heap.size w w' := by
  have hu26 := Try.underlying26
  have hu23 := Try.underlying23
  have hu40 := Try.underlying40
  have HR0 := Aside0.mk hr0
  have HC0 := Aside0.mk hc0
  clear hr0 hc0
  have HB := Aside0.mk (Below.refl w.heap.size w)
  have H : ((flyleaflaw11_awake.f k).bind fun t154 => (flyleaflaw11_RelocBack.l0 k l0 t154 (wrap64 (300 + (Go.bits .and .i64 a1 255))) ([] : List (S23)) (⟨#[]⟩ : ByteArray) 0 1 6 7 8)) = some true := h
  clear h
  replace H := Option.bind_eq_some_iff.mp H
  obtain ⟨t154, A30, H⟩ := H
  replace H : (flyleaflaw11_RelocBack.l0 k l0 t154 (wrap64 (300 + (Go.bits .and .i64 a1 255))) ([] : List (S23)) (⟨#[]⟩ : ByteArray) 0 1 6 7 8) = some true := H
  have A3 := Aside0.mk A30
  clear A30
  have H' := Aside0.mk H
  clear H
  go_enter Try.func6, Try.ntmps6
  go_wp2_with (first | ((with_reducible refine gate_callee (f := 9) rfl ?_); refine goesL_ (some 20) rfl rfl Try.func9 (by kernel_rfl) rfl #[] rfl (by (try simp only [List.map_toArray, List.map_cons, List.map_nil]); first | done | rfl | (simp only [List.length_drop, List.length_take]; rfl) | (simp only [ByteArray.size_append, Int.natCast_add]; rfl)) ?_; (with_reducible refine (flyleaflaw11_awake.calls k  t154 _ A3.out).mono ?_); rintro e w4 ⟨rfl, hb⟩; refine ⟨_, rfl, ?_⟩; have n0_ := Aside0.mk (below_step (by repeat (first | (with_reducible first | exact HB.out | apply below_alloc | apply pw_below_drewN | apply below_drew1) | exact HB.out)) hb); clear HB; have HB := n0_; clear n0_; (try clear hb); (try clear hb2); (try clear hk); (try clear hi)) | ((with_reducible refine gate_dst (N := 9) rfl ?_); refine box_event ?hg (N := 9) ?hd (cs := #[.int .i64 0, .int .i64 0, .int .i64 0, .int .i64 0]) (t := 26) ?hr ?_; (case hd => rfl); (case hg => rfl); (case hr => first | (go_simp; done) | (go_simp; rfl)); intro gb155 hg w5 hbox hb; have n0_ := Aside0.mk (below_step (by repeat (first | (with_reducible first | exact HB.out | apply below_alloc | apply pw_below_drewN | apply below_drew1) | exact HB.out)) hb); have n1_ := Aside0.mk (hbox); have n2_ := Aside0.mk ((by rw [hg]; exact (below_size (by repeat (first | (with_reducible first | exact HB.out | apply below_alloc | apply pw_below_drewN | apply below_drew1) | exact HB.out))) : w.heap.size ≤ gb155)); have n3_ := Aside0.mk ((by rw [hg]; exact (below_size (by repeat (first | (with_reducible first | exact HB.out | apply below_alloc | apply pw_below_drewN | apply below_drew1) | exact HB.out))) : w.heap.size ≤ gb155)); clear HB; have HB := n0_; have BK155 := n1_; have GW155 := n2_; have GE155 := n3_; clear n0_ n1_ n2_ n3_; clear hb hbox hg; have hcz6_0 : w5.cell? ⟨gb155, 0, none⟩ = some (.int .i64 0) := (blk_cell BK155.out 0).trans rfl; have hcz6_1 : w5.cell? ⟨gb155, 1, none⟩ = some (.int .i64 0) := (blk_cell BK155.out 1).trans rfl; have hcz6_2 : w5.cell? ⟨gb155, 2, none⟩ = some (.int .i64 0) := (blk_cell BK155.out 2).trans rfl; have hcz6_3 : w5.cell? ⟨gb155, 3, none⟩ = some (.int .i64 0) := (blk_cell BK155.out 3).trans rfl; have hfz6_0 := blk_frozen BK155.out 0; have hfz6_1 := blk_frozen BK155.out 1; have hfz6_2 := blk_frozen BK155.out 2; have hfz6_3 := blk_frozen BK155.out 3))
  go_loopg [7, 8, 10] k (fun kq v7 v8 v10 w' => ∃ (x7_1 : List (S23)) (x8_1 : ByteArray) (x10_1 : Int), v8 = .string x8_1 ∧ v10 = .int .i64 x10_1 ∧ Aside0 (flyleaflaw11_RelocBack.l0 kq l0 t154 (wrap64 (300 + (Go.bits .and .i64 a1 255))) x7_1 x8_1 x10_1 1 6 7 8 = some true) ∧ Aside0 (kq ≤ k) ∧ Aside0 (Kd.R k23 23 w' w.heap.size (fun _ => True) v7 x7_1) ∧ Aside0 (w'.heap[gb155]? = some (.cells #[.int .i64 1, .int .i64 6, .int .i64 7, .int .i64 8] 26 (0, 0))) ∧ Aside0 (Below w.heap.size w w'))
  case atStart => exact ⟨(([] : List (S23))), ((⟨#[]⟩ : ByteArray)), (0), (by first | rfl | (simp; done) | (simp [*]; done)), (by first | rfl | (simp; done) | (simp [*]; done)), H', ⟨Nat.le_refl _⟩, ⟨by first | exact Kd.R_nil _ _ _ _ _ | exact Kd.N_nil _ _ _ _ _ | exact Kd.V_nil _ _ _ _ _ | exact Kd.Q_nil _ _ _ _ _ | exact Kd.S_nil _ _ _ _ _⟩, ⟨by (with_reducible repeat (first | refine blk_drewN ?_ _ | refine blk_drew ?_ | refine blk_alloc ?_ _)); refine blk_put (cs := #[.int .i64 1, .int .i64 6, .int .i64 7, .int .i64 0]) ?_ 3 _ rfl; (with_reducible repeat (first | refine blk_drewN ?_ _ | refine blk_drew ?_ | refine blk_alloc ?_ _)); refine blk_put (cs := #[.int .i64 1, .int .i64 6, .int .i64 0, .int .i64 0]) ?_ 2 _ rfl; (with_reducible repeat (first | refine blk_drewN ?_ _ | refine blk_drew ?_ | refine blk_alloc ?_ _)); refine blk_put (cs := #[.int .i64 1, .int .i64 0, .int .i64 0, .int .i64 0]) ?_ 1 _ rfl; (with_reducible repeat (first | refine blk_drewN ?_ _ | refine blk_drew ?_ | refine blk_alloc ?_ _)); refine blk_put (cs := #[.int .i64 0, .int .i64 0, .int .i64 0, .int .i64 0]) ?_ 0 _ rfl; (with_reducible repeat (first | refine blk_drewN ?_ _ | refine blk_drew ?_ | refine blk_alloc ?_ _)); exact BK155.out⟩, ⟨by repeat (first | (with_reducible first | exact HB.out | apply below_alloc | apply pw_below_drewN | apply below_drew1 | refine below_set ?_ GE155.out) | exact HB.out)⟩⟩
  case round =>
    clear H'
    try clear p2
    try clear c6
    try clear p6
    try clear hcz6_0
    try clear hcz6_1
    try clear hcz6_2
    try clear hcz6_3
    try clear hfz6_0
    try clear hfz6_1
    try clear hfz6_2
    try clear hfz6_3
    obtain ⟨x7_1, x8_1, x10_1, rfl, rfl, HA, HK1, HO_7, BK155, HB⟩ := hrel
    cases gk with
    | zero => exact absurd HA.out (by simp [flyleaflaw11_RelocBack.l0])
    | succ k1 =>
      have H := HA.out
      clear HA
      simp only [flyleaflaw11_RelocBack.l0] at H
      have HC7 := Aside0.mk H
      clear H
      go_upto_region 7 with (fail)
      go_cut [32] (fun v32 wc => ∃ (kq : Nat) (x32_6 : Bool), v32 = .bool x32_6 ∧ Aside0 (flyleaflaw11_RelocBack.j1 kq l0 t154 (wrap64 (300 + (Go.bits .and .i64 a1 255))) x7_1 x8_1 x10_1 x32_6 1 6 7 8 = some true) ∧ Aside0 (kq ≤ k1) ∧ Aside0 (Kd.R k23 23 wc w.heap.size (fun _ => True) u7 x7_1) ∧ Aside0 (wc.heap[gb155]? = some (.cells #[.int .i64 1, .int .i64 6, .int .i64 7, .int .i64 8] 26 (0, 0))) ∧ Aside0 (Below w.heap.size w wc))
      case first =>
        have H := HC7.out
        clear HC7
        by_cases c8 : x10_1 < (l0.length : Int)
        · rw [if_pos c8] at H
          have c8b0 : decide (x10_1 < (l0.length : Int)) = true := decide_eq_true c8
          clear c8
          (first | rw [c8b0] | (simp only [i64_w, i32_w]; rw [c8b0]) | skip)
          have H' := Aside0.mk H
          clear H
          go_wp2
          go_meet
          case rel => exact ⟨_, (decide (x10_1 < 8)), (by first | rfl | (simp; done) | (simp [*]; done)), H', ⟨by have := HK1.out; first | omega | exact Nat.le_refl _⟩, ⟨by (with_reducible repeat (first | apply Kd.R_alloc | apply Kd.R_drewN | apply Kd.R_drew)); exact HO_7.out⟩, ⟨by (with_reducible repeat (first | refine blk_drewN ?_ _ | refine blk_drew ?_ | refine blk_alloc ?_ _)); exact BK155.out⟩, ⟨by repeat (first | (with_reducible first | exact HB.out | apply below_alloc | apply pw_below_drewN | apply below_drew1 | refine below_set ?_ GE155.out) | exact HB.out)⟩⟩
        · rw [if_neg c8] at H
          have c8b0 : decide (x10_1 < (l0.length : Int)) = false := decide_eq_false c8
          clear c8
          (first | rw [c8b0] | (simp only [i64_w, i32_w]; rw [c8b0]) | skip)
          have H' := Aside0.mk H
          clear H
          go_wp2
          go_meet
          case rel => exact ⟨_, (false), (by first | rfl | (simp; done) | (simp [*]; done)), H', ⟨by have := HK1.out; first | omega | exact Nat.le_refl _⟩, ⟨by (with_reducible repeat (first | apply Kd.R_alloc | apply Kd.R_drewN | apply Kd.R_drew)); exact HO_7.out⟩, ⟨by (with_reducible repeat (first | refine blk_drewN ?_ _ | refine blk_drew ?_ | refine blk_alloc ?_ _)); exact BK155.out⟩, ⟨by repeat (first | (with_reducible first | exact HB.out | apply below_alloc | apply pw_below_drewN | apply below_drew1 | refine below_set ?_ GE155.out) | exact HB.out)⟩⟩
      case rest =>
        clear HC7
        try clear p2
        try clear c6
        try clear p6
        try clear c8
        try clear c8b0
        try clear hcz6_0
        try clear hcz6_1
        try clear hcz6_2
        try clear hcz6_3
        try clear hfz6_0
        try clear hfz6_1
        try clear hfz6_2
        try clear hfz6_3
        try clear p2
        try clear p6
        obtain ⟨kq, x32_6, rfl, HA, HJ6, HO_7, BK155, HB⟩ := hcut
        cases kq with
        | zero => exact absurd HA.out (by simp [flyleaflaw11_RelocBack.j1])
        | succ kj6 =>
          have H := HA.out
          clear HA
          simp only [flyleaflaw11_RelocBack.j1] at H
          by_cases c9 : x32_6 = true
          · subst c9
            have H1 : (if 0 ≤ x10_1 then (if x10_1 < (l0.length : Int) then (if (wrap64 ((wrap64 (300 + (Go.bits .and .i64 a1 255))) - 7)) = 0 then (none) else (if 0 ≤ (Go.bits .and .i64 ((rd_T23 l0 x10_1).f1) 3) then (if (Go.bits .and .i64 ((rd_T23 l0 x10_1).f1) 3) < 4 then (if (XW.sel [1, 6, 7, 8] (Go.bits .and .i64 ((rd_T23 l0 x10_1).f1) 3)) = 8 then (flyleaflaw11_RelocBack.j2 kj6 l0 t154 (wrap64 (300 + (Go.bits .and .i64 a1 255))) x7_1 x8_1 x10_1 1 6 7 8 (Int.tmod (wrap64 ((wrap64 ((Int.tmod ((rd_T23 l0 x10_1).f0) (wrap64 ((wrap64 (300 + (Go.bits .and .i64 a1 255))) - 7))) + (wrap64 (300 + (Go.bits .and .i64 a1 255))))) - 7)) (wrap64 ((wrap64 (300 + (Go.bits .and .i64 a1 255))) - 7))) (XW.sel [1, 6, 7, 8] (Go.bits .and .i64 ((rd_T23 l0 x10_1).f1) 3)) 0 ((rd_T23 l0 x10_1).f3)) else (flyleaflaw11_RelocBack.j2 kj6 l0 t154 (wrap64 (300 + (Go.bits .and .i64 a1 255))) x7_1 x8_1 x10_1 1 6 7 8 (Int.tmod (wrap64 ((wrap64 ((Int.tmod ((rd_T23 l0 x10_1).f0) (wrap64 ((wrap64 (300 + (Go.bits .and .i64 a1 255))) - 7))) + (wrap64 (300 + (Go.bits .and .i64 a1 255))))) - 7)) (wrap64 ((wrap64 (300 + (Go.bits .and .i64 a1 255))) - 7))) (XW.sel [1, 6, 7, 8] (Go.bits .and .i64 ((rd_T23 l0 x10_1).f1) 3)) (wrap64 (1 + (Go.bits .and .i64 ((rd_T23 l0 x10_1).f2) 1023))) ((rd_T23 l0 x10_1).f3))) else (none)) else (none))) else (none)) else (none)) = some true := by rw [if_pos rfl] at H; exact H
            clear H
            have H := H1
            clear H1
            by_cases c10 : 0 ≤ x10_1
            · rw [if_pos c10] at H
              have c10b0 : decide (0 ≤ x10_1) = true := decide_eq_true c10
              clear c10
              by_cases c11 : x10_1 < (l0.length : Int)
              · rw [if_pos c11] at H
                have c11b0 : decide (x10_1 < (l0.length : Int)) = true := decide_eq_true c11
                clear c11
                by_cases c12 : (wrap64 ((wrap64 (300 + (Go.bits .and .i64 a1 255))) - 7)) = 0
                · rw [if_pos c12] at H
                  exact absurd H (by simp)
                · rw [if_neg c12] at H
                  have c12b0 : ((wrap64 ((wrap64 (300 + (Go.bits .and .i64 a1 255))) - 7)) == 0) = false := beq_eq_false_iff_ne.mpr c12
                  have c12b1 : ((wrap64 ((wrap64 (300 + (Go.bits .and .i64 a1 255))) - 7)) != 0) = true := bne_iff_ne.mpr c12
                  obtain ⟨ji13, hji13⟩ : ∃ j_ : Int, (Go.bits .and .i64 ((rd_T23 l0 x10_1).f1) 3) = j_ := ⟨_, rfl⟩
                  replace H : (if 0 ≤ (ji13) then (if (ji13) < 4 then (if (XW.sel [1, 6, 7, 8] (ji13)) = 8 then (flyleaflaw11_RelocBack.j2 kj6 l0 t154 (wrap64 (300 + (Go.bits .and .i64 a1 255))) x7_1 x8_1 x10_1 1 6 7 8 (Int.tmod (wrap64 ((wrap64 ((Int.tmod ((rd_T23 l0 x10_1).f0) (wrap64 ((wrap64 (300 + (Go.bits .and .i64 a1 255))) - 7))) + (wrap64 (300 + (Go.bits .and .i64 a1 255))))) - 7)) (wrap64 ((wrap64 (300 + (Go.bits .and .i64 a1 255))) - 7))) (XW.sel [1, 6, 7, 8] (ji13)) 0 ((rd_T23 l0 x10_1).f3)) else (flyleaflaw11_RelocBack.j2 kj6 l0 t154 (wrap64 (300 + (Go.bits .and .i64 a1 255))) x7_1 x8_1 x10_1 1 6 7 8 (Int.tmod (wrap64 ((wrap64 ((Int.tmod ((rd_T23 l0 x10_1).f0) (wrap64 ((wrap64 (300 + (Go.bits .and .i64 a1 255))) - 7))) + (wrap64 (300 + (Go.bits .and .i64 a1 255))))) - 7)) (wrap64 ((wrap64 (300 + (Go.bits .and .i64 a1 255))) - 7))) (XW.sel [1, 6, 7, 8] (ji13)) (wrap64 (1 + (Go.bits .and .i64 ((rd_T23 l0 x10_1).f2) 1023))) ((rd_T23 l0 x10_1).f3))) else (none)) else (none)) = some true := by first | (rw [hji13] at H; exact H) | (simp only [hji13] at H ⊢; exact H)
                  by_cases c14 : 0 ≤ (ji13)
                  · rw [if_pos c14] at H
                    have c14b0 := eq_true c14
                    have c14b1 : decide (0 ≤ (ji13)) = true := decide_eq_true c14
                    clear c14
                    by_cases c15 : (ji13) < 4
                    · rw [if_pos c15] at H
                      have c15b0 := eq_true c15
                      have c15b1 : decide ((ji13) < 4) = true := decide_eq_true c15
                      clear c15
                      have HC16 := Aside0.mk H
                      clear H
                      try go_wp2
                      have n0_ := Aside0.mk (Kd.R_drew HO_7.out)
                      have n1_ := Aside0.mk (blk_drew BK155.out)
                      have n2_ := Aside0.mk (below_drew1 HB.out)
                      clear HO_7
                      clear BK155
                      clear HB
                      have HO_7 := n0_
                      have BK155 := n1_
                      have HB := n2_
                      clear n0_ n1_ n2_
                      have p156 : 0 ≤ (x10_1 : Int) := of_decide_eq_true (by first | (with_reducible assumption) | assumption)
                      have q156 : x10_1 < (l0.length : Int) := of_decide_eq_true (by first | (with_reducible assumption) | assumption)
                      obtain ⟨ad156, e156, hx156_0, hx156_1, hx156_2, hx156_3⟩ := at_T23 HR0.out x10_1 p156 q156
                      have hw156_3 := hx156_3
                      have hw156_2 := hx156_2
                      have hw156_1 := hx156_1
                      have hw156_0 := hx156_0
                      cases e156
                      replace hx156_0 := (HB.out.cell (World.block_lt_of_cell? w _ hx156_0)).trans hx156_0
                      replace hx156_1 := (HB.out.cell (World.block_lt_of_cell? w _ hx156_1)).trans hx156_1
                      replace hx156_2 := (HB.out.cell (World.block_lt_of_cell? w _ hx156_2)).trans hx156_2
                      replace hx156_3 := (HB.out.cell (World.block_lt_of_cell? w _ hx156_3)).trans hx156_3
                      replace p156 := eq_true p156
                      replace q156 := eq_true q156
                      have p157 : 0 ≤ (x10_1 : Int) := of_decide_eq_true (by first | (with_reducible assumption) | assumption)
                      have q157 : x10_1 < (l0.length : Int) := of_decide_eq_true (by first | (with_reducible assumption) | assumption)
                      obtain ⟨ad157, e157, hx157_0, hx157_1, hx157_2, hx157_3⟩ := at_T23 HR0.out x10_1 p157 q157
                      have hw157_3 := hx157_3
                      have hw157_2 := hx157_2
                      have hw157_1 := hx157_1
                      have hw157_0 := hx157_0
                      obtain rfl : ad156 = ad157 := (by injection e157)
                      replace hx157_0 := (HB.out.cell (World.block_lt_of_cell? w _ hx157_0)).trans hx157_0
                      replace hx157_1 := (HB.out.cell (World.block_lt_of_cell? w _ hx157_1)).trans hx157_1
                      replace hx157_2 := (HB.out.cell (World.block_lt_of_cell? w _ hx157_2)).trans hx157_2
                      replace hx157_3 := (HB.out.cell (World.block_lt_of_cell? w _ hx157_3)).trans hx157_3
                      replace p157 := eq_true p157
                      replace q157 := eq_true q157
                      have p158 : 0 ≤ (x10_1 : Int) := of_decide_eq_true (by first | (with_reducible assumption) | assumption)
                      have q158 : x10_1 < (l0.length : Int) := of_decide_eq_true (by first | (with_reducible assumption) | assumption)
                      obtain ⟨ad158, e158, hx158_0, hx158_1, hx158_2, hx158_3⟩ := at_T23 HR0.out x10_1 p158 q158
                      have hw158_3 := hx158_3
                      have hw158_2 := hx158_2
                      have hw158_1 := hx158_1
                      have hw158_0 := hx158_0
                      obtain rfl : ad156 = ad158 := (by injection e158)
                      replace hx158_0 := (HB.out.cell (World.block_lt_of_cell? w _ hx158_0)).trans hx158_0
                      replace hx158_1 := (HB.out.cell (World.block_lt_of_cell? w _ hx158_1)).trans hx158_1
                      replace hx158_2 := (HB.out.cell (World.block_lt_of_cell? w _ hx158_2)).trans hx158_2
                      replace hx158_3 := (HB.out.cell (World.block_lt_of_cell? w _ hx158_3)).trans hx158_3
                      replace p158 := eq_true p158
                      replace q158 := eq_true q158
                      have p159 : 0 ≤ (x10_1 : Int) := of_decide_eq_true (by first | (with_reducible assumption) | assumption)
                      have q159 : x10_1 < (l0.length : Int) := of_decide_eq_true (by first | (with_reducible assumption) | assumption)
                      obtain ⟨ad159, e159, hx159_0, hx159_1, hx159_2, hx159_3⟩ := at_T23 HR0.out x10_1 p159 q159
                      have hw159_3 := hx159_3
                      have hw159_2 := hx159_2
                      have hw159_1 := hx159_1
                      have hw159_0 := hx159_0
                      obtain rfl : ad156 = ad159 := (by injection e159)
                      replace hx159_0 := (HB.out.cell (World.block_lt_of_cell? w _ hx159_0)).trans hx159_0
                      replace hx159_1 := (HB.out.cell (World.block_lt_of_cell? w _ hx159_1)).trans hx159_1
                      replace hx159_2 := (HB.out.cell (World.block_lt_of_cell? w _ hx159_2)).trans hx159_2
                      replace hx159_3 := (HB.out.cell (World.block_lt_of_cell? w _ hx159_3)).trans hx159_3
                      replace p159 := eq_true p159
                      replace q159 := eq_true q159
                      refine start_ (n := 37) (S := fun w' => w'.cell? ⟨gb155, 0, none⟩ = some (.int .i64 1) ∧ w'.cell? ⟨gb155, 1, none⟩ = some (.int .i64 6) ∧ w'.cell? ⟨gb155, 2, none⟩ = some (.int .i64 7) ∧ w'.cell? ⟨gb155, 3, none⟩ = some (.int .i64 8) ∧ w'.cell? ⟨gb155, ((ji13) : Int).toNat, none⟩ = some (.int .i64 (XW.sel [1, 6, 7, 8] (ji13))) ∧ w'.cell? (ad156.add ((x10_1).toNat * 4)) = some (.int .i64 ((rd_T23 l0 x10_1).f0)) ∧ w'.cell? ⟨(ad156.add ((x10_1).toNat * 4)).block, (ad156.add ((x10_1).toNat * 4)).off + 1, none⟩ = some (.int .i64 ((rd_T23 l0 x10_1).f1)) ∧ w'.cell? ⟨(ad156.add ((x10_1).toNat * 4)).block, (ad156.add ((x10_1).toNat * 4)).off + 2, none⟩ = some (.int .i64 ((rd_T23 l0 x10_1).f2)) ∧ w'.cell? ⟨(ad156.add ((x10_1).toNat * 4)).block, (ad156.add ((x10_1).toNat * 4)).off + 3, none⟩ = some (.int .i64 ((rd_T23 l0 x10_1).f3)) ∧ w'.cell? (ad156.add ((x10_1).toNat * 4)) = some (.int .i64 ((rd_T23 l0 x10_1).f0)) ∧ w'.cell? ⟨(ad156.add ((x10_1).toNat * 4)).block, (ad156.add ((x10_1).toNat * 4)).off + 1, none⟩ = some (.int .i64 ((rd_T23 l0 x10_1).f1)) ∧ w'.cell? ⟨(ad156.add ((x10_1).toNat * 4)).block, (ad156.add ((x10_1).toNat * 4)).off + 2, none⟩ = some (.int .i64 ((rd_T23 l0 x10_1).f2)) ∧ w'.cell? ⟨(ad156.add ((x10_1).toNat * 4)).block, (ad156.add ((x10_1).toNat * 4)).off + 3, none⟩ = some (.int .i64 ((rd_T23 l0 x10_1).f3)) ∧ w'.cell? (ad156.add ((x10_1).toNat * 4)) = some (.int .i64 ((rd_T23 l0 x10_1).f0)) ∧ w'.cell? ⟨(ad156.add ((x10_1).toNat * 4)).block, (ad156.add ((x10_1).toNat * 4)).off + 1, none⟩ = some (.int .i64 ((rd_T23 l0 x10_1).f1)) ∧ w'.cell? ⟨(ad156.add ((x10_1).toNat * 4)).block, (ad156.add ((x10_1).toNat * 4)).off + 2, none⟩ = some (.int .i64 ((rd_T23 l0 x10_1).f2)) ∧ w'.cell? ⟨(ad156.add ((x10_1).toNat * 4)).block, (ad156.add ((x10_1).toNat * 4)).off + 3, none⟩ = some (.int .i64 ((rd_T23 l0 x10_1).f3)) ∧ w'.cell? (ad156.add ((x10_1).toNat * 4)) = some (.int .i64 ((rd_T23 l0 x10_1).f0)) ∧ w'.cell? ⟨(ad156.add ((x10_1).toNat * 4)).block, (ad156.add ((x10_1).toNat * 4)).off + 1, none⟩ = some (.int .i64 ((rd_T23 l0 x10_1).f1)) ∧ w'.cell? ⟨(ad156.add ((x10_1).toNat * 4)).block, (ad156.add ((x10_1).toNat * 4)).off + 2, none⟩ = some (.int .i64 ((rd_T23 l0 x10_1).f2)) ∧ w'.cell? ⟨(ad156.add ((x10_1).toNat * 4)).block, (ad156.add ((x10_1).toNat * 4)).off + 3, none⟩ = some (.int .i64 ((rd_T23 l0 x10_1).f3))) (ds := []) #[false, false, false, false, false, false, false, false, false, false, false, false, false, false, false, false, false, false, false, false, false, false, false, false, false, false, false, false, false, false, false, false, false, false, false, false, false] (by kernel_rfl) rfl rfl ⟨(blk_cell BK155.out 0).trans rfl, (blk_cell BK155.out 1).trans rfl, (blk_cell BK155.out 2).trans rfl, (blk_cell BK155.out 3).trans rfl, XW.sel_row (l := [1, 6, 7, 8]) BK155.out (by first | omega | exact of_eq_true (by assumption)) (by first | omega | exact of_eq_true (by assumption)), ((HB.out.cell (World.block_lt_of_cell? w _ hw156_0)).trans hw156_0), ((HB.out.cell (World.block_lt_of_cell? w _ hw156_1)).trans hw156_1), ((HB.out.cell (World.block_lt_of_cell? w _ hw156_2)).trans hw156_2), ((HB.out.cell (World.block_lt_of_cell? w _ hw156_3)).trans hw156_3), ((HB.out.cell (World.block_lt_of_cell? w _ hw157_0)).trans hw157_0), ((HB.out.cell (World.block_lt_of_cell? w _ hw157_1)).trans hw157_1), ((HB.out.cell (World.block_lt_of_cell? w _ hw157_2)).trans hw157_2), ((HB.out.cell (World.block_lt_of_cell? w _ hw157_3)).trans hw157_3), ((HB.out.cell (World.block_lt_of_cell? w _ hw158_0)).trans hw158_0), ((HB.out.cell (World.block_lt_of_cell? w _ hw158_1)).trans hw158_1), ((HB.out.cell (World.block_lt_of_cell? w _ hw158_2)).trans hw158_2), ((HB.out.cell (World.block_lt_of_cell? w _ hw158_3)).trans hw158_3), ((HB.out.cell (World.block_lt_of_cell? w _ hw159_0)).trans hw159_0), ((HB.out.cell (World.block_lt_of_cell? w _ hw159_1)).trans hw159_1), ((HB.out.cell (World.block_lt_of_cell? w _ hw159_2)).trans hw159_2), ((HB.out.cell (World.block_lt_of_cell? w _ hw159_3)).trans hw159_3)⟩ (fun hHeld => ?_); refine with_tabW flyleaflaw11_RelocBack.tab9 flyleaflaw11_RelocBack.bits9 (fun HT_ HW_ => ?_)
                      generalize wc.drew = w17 at HO_7 BK155 HB hx156_0 hx156_1 hx156_2 hx156_3 hx157_0 hx157_1 hx157_2 hx157_3 hx158_0 hx158_1 hx158_2 hx158_3 hx159_0 hx159_1 hx159_2 hx159_3 hHeld ⊢
                      refine pure_ (i := 0) (N := some 35) (v := ?_) (a' := ?_) #[true, false, false, false, false, false, false, false, false, false, false, false, false, false, false, false, false, false, false, false, false, false, false, false, false, false, false, false, false, false, false, false, false, false, false, false, false] rfl rfl (any_of HT_.out (by kernel_rfl)) (fun _ _ _ h => h) (Or.inl ⟨by rfl, ?_⟩) ?_ ?_
                      rotate_left
                      · intro w'
                        go_simp
                        with_reducible rfl
                      rotate_left
                      · simp only [Act.put, List.setIfInBounds_toArray, List.set_cons_zero, List.set_cons_succ, i64_w, i32_w]
                        rfl
                      refine pure_ (i := 1) (N := some 36) (v := ?_) (a' := ?_) #[true, true, false, false, false, false, false, false, false, false, false, false, false, false, false, false, false, false, false, false, false, false, false, false, false, false, false, false, false, false, false, false, false, false, false, false, false] rfl rfl (any_of HT_.out (by kernel_rfl)) (fun _ _ _ h => h) (Or.inl ⟨by rfl, ?_⟩) ?_ ?_
                      rotate_left
                      · intro w'
                        go_simp
                        with_reducible rfl
                      rotate_left
                      · simp only [Act.put, List.setIfInBounds_toArray, List.set_cons_zero, List.set_cons_succ, i64_w, i32_w]
                        rfl
                      refine pure_ (i := 2) (N := some 37) (v := ?_) (a' := ?_) #[true, true, true, false, false, false, false, false, false, false, false, false, false, false, false, false, false, false, false, false, false, false, false, false, false, false, false, false, false, false, false, false, false, false, false, false, false] rfl rfl (any_of HT_.out (by kernel_rfl)) (fun _ _ _ h => h) (Or.inl ⟨by rfl, ?_⟩) ?_ ?_
                      rotate_left
                      · intro w'
                        go_simp
                        with_reducible rfl
                      rotate_left
                      · simp only [Act.put, List.setIfInBounds_toArray, List.set_cons_zero, List.set_cons_succ, i64_w, i32_w]
                        rfl
                      refine pure_ (i := 3) (N := some 38) (v := ?_) (a' := ?_) #[true, true, true, true, false, false, false, false, false, false, false, false, false, false, false, false, false, false, false, false, false, false, false, false, false, false, false, false, false, false, false, false, false, false, false, false, false] rfl rfl (any_of HT_.out (by kernel_rfl)) (fun _ _ _ h => h) (Or.inl ⟨by rfl, ?_⟩) ?_ ?_
                      rotate_left
                      · intro w'
                        go_simp
                        with_reducible rfl
                      rotate_left
                      · simp only [Act.put, List.setIfInBounds_toArray, List.set_cons_zero, List.set_cons_succ, i64_w, i32_w]
                        rfl
                      refine pure_ (i := 5) (N := some 40) (v := ?_) (a' := ?_) #[true, true, true, true, false, true, false, false, false, false, false, false, false, false, false, false, false, false, false, false, false, false, false, false, false, false, false, false, false, false, false, false, false, false, false, false, false] rfl rfl (any_of HT_.out (by kernel_rfl)) (fun _ _ _ h => h) (Or.inl ⟨by rfl, ?_⟩) ?_ ?_
                      rotate_left
                      · intro w'
                        go_simp
                        with_reducible rfl
                      rotate_left
                      · simp only [Act.put, List.setIfInBounds_toArray, List.set_cons_zero, List.set_cons_succ, i64_w, i32_w]
                        rfl
                      refine pure_ (i := 6) (N := some 41) (v := ?_) (a' := ?_) #[true, true, true, true, false, true, true, false, false, false, false, false, false, false, false, false, false, false, false, false, false, false, false, false, false, false, false, false, false, false, false, false, false, false, false, false, false] rfl rfl (any_of HT_.out (by kernel_rfl)) (fun _ _ _ h => h) (Or.inl ⟨by rfl, ?_⟩) ?_ ?_
                      rotate_left
                      · intro w'
                        go_simp
                        with_reducible rfl
                      rotate_left
                      · simp only [Act.put, List.setIfInBounds_toArray, List.set_cons_zero, List.set_cons_succ, i64_w, i32_w]
                        rfl
                      refine pure_ (i := 8) (N := some 43) (v := ?_) (a' := ?_) #[true, true, true, true, false, true, true, false, true, false, false, false, false, false, false, false, false, false, false, false, false, false, false, false, false, false, false, false, false, false, false, false, false, false, false, false, false] rfl rfl (any_of HT_.out (by kernel_rfl)) (fun _ _ _ h => h) (Or.inl ⟨by rfl, ?_⟩) ?_ ?_
                      rotate_left
                      · intro w'
                        go_simp
                        with_reducible rfl
                      rotate_left
                      · simp only [Act.put, List.setIfInBounds_toArray, List.set_cons_zero, List.set_cons_succ, i64_w, i32_w]
                        rfl
                      refine pure_ (i := 11) (N := some 46) (v := ?_) (a' := ?_) #[true, true, true, true, false, true, true, false, true, false, false, true, false, false, false, false, false, false, false, false, false, false, false, false, false, false, false, false, false, false, false, false, false, false, false, false, false] rfl rfl (any_of HT_.out (by kernel_rfl)) (fun _ _ _ h => h) (Or.inl ⟨by rfl, ?_⟩) ?_ ?_
                      rotate_left
                      · intro w'
                        go_simp
                        with_reducible rfl
                      rotate_left
                      · simp only [Act.put, List.setIfInBounds_toArray, List.set_cons_zero, List.set_cons_succ, i64_w, i32_w]
                        rfl
                      refine pure_ (i := 12) (N := some 47) (v := ?_) (a' := ?_) #[true, true, true, true, false, true, true, false, true, false, false, true, true, false, false, false, false, false, false, false, false, false, false, false, false, false, false, false, false, false, false, false, false, false, false, false, false] rfl rfl (any_of HT_.out (by kernel_rfl)) (fun _ _ _ h => h) (Or.inl ⟨by rfl, ?_⟩) ?_ ?_
                      rotate_left
                      · intro w'
                        go_simp
                        with_reducible rfl
                      rotate_left
                      · simp only [Act.put, List.setIfInBounds_toArray, List.set_cons_zero, List.set_cons_succ, i64_w, i32_w]
                        rfl
                      refine pure_ (i := 14) (N := some 49) (v := ?_) (a' := ?_) #[true, true, true, true, false, true, true, false, true, false, false, true, true, false, true, false, false, false, false, false, false, false, false, false, false, false, false, false, false, false, false, false, false, false, false, false, false] rfl rfl (any_of HT_.out (by kernel_rfl)) (fun _ _ _ h => h) (Or.inl ⟨by rfl, ?_⟩) ?_ ?_
                      rotate_left
                      · intro w'
                        go_simp
                        with_reducible rfl
                      rotate_left
                      · simp only [Act.put, List.setIfInBounds_toArray, List.set_cons_zero, List.set_cons_succ, i64_w, i32_w]
                        rfl
                      refine pure_ (i := 15) (N := some 50) (v := ?_) (a' := ?_) #[true, true, true, true, false, true, true, false, true, false, false, true, true, false, true, true, false, false, false, false, false, false, false, false, false, false, false, false, false, false, false, false, false, false, false, false, false] rfl rfl (any_of HT_.out (by kernel_rfl)) (fun _ _ _ h => h) (Or.inl ⟨by rfl, ?_⟩) ?_ ?_
                      rotate_left
                      · intro w'
                        go_simp
                        with_reducible rfl
                      rotate_left
                      · simp only [Act.put, List.setIfInBounds_toArray, List.set_cons_zero, List.set_cons_succ, i64_w, i32_w]
                        rfl
                      refine pure_ (i := 16) (N := some 51) (v := ?_) (a' := ?_) #[true, true, true, true, false, true, true, false, true, false, false, true, true, false, true, true, true, false, false, false, false, false, false, false, false, false, false, false, false, false, false, false, false, false, false, false, false] rfl rfl (any_of HT_.out (by kernel_rfl)) (fun _ _ _ h => h) (Or.inl ⟨by rfl, ?_⟩) ?_ ?_
                      rotate_left
                      · intro w'
                        go_simp
                        with_reducible rfl
                      rotate_left
                      · simp only [Act.put, List.setIfInBounds_toArray, List.set_cons_zero, List.set_cons_succ, i64_w, i32_w]
                        rfl
                      refine pure_ (i := 17) (N := some 52) (v := ?_) (a' := ?_) #[true, true, true, true, false, true, true, false, true, false, false, true, true, false, true, true, true, true, false, false, false, false, false, false, false, false, false, false, false, false, false, false, false, false, false, false, false] rfl rfl (any_of HT_.out (by kernel_rfl)) (fun _ _ _ h => h) (Or.inl ⟨by rfl, ?_⟩) ?_ ?_
                      rotate_left
                      · intro w'
                        go_simp
                        with_reducible rfl
                      rotate_left
                      · simp only [Act.put, List.setIfInBounds_toArray, List.set_cons_zero, List.set_cons_succ, i64_w, i32_w]
                        rfl
                      refine pure_ (i := 22) (N := some 57) (v := ?_) (a' := ?_) #[true, true, true, true, false, true, true, false, true, false, false, true, true, false, true, true, true, true, false, false, false, false, true, false, false, false, false, false, false, false, false, false, false, false, false, false, false] rfl rfl (any_of HT_.out (by kernel_rfl)) (fun _ _ _ h => h) (Or.inl ⟨by rfl, ?_⟩) ?_ ?_
                      rotate_left
                      · intro w'
                        go_simp
                        with_reducible rfl
                      rotate_left
                      · simp only [Act.put, List.setIfInBounds_toArray, List.set_cons_zero, List.set_cons_succ, i64_w, i32_w]
                        rfl
                      refine pure_ (i := 23) (N := some 58) (v := ?_) (a' := ?_) #[true, true, true, true, false, true, true, false, true, false, false, true, true, false, true, true, true, true, false, false, false, false, true, true, false, false, false, false, false, false, false, false, false, false, false, false, false] rfl rfl (any_of HT_.out (by kernel_rfl)) (fun _ _ _ h => h) (Or.inl ⟨by rfl, ?_⟩) ?_ ?_
                      rotate_left
                      · intro w'
                        go_simp
                        with_reducible rfl
                      rotate_left
                      · simp only [Act.put, List.setIfInBounds_toArray, List.set_cons_zero, List.set_cons_succ, i64_w, i32_w]
                        rfl
                      refine pure_ (i := 24) (N := some 59) (v := ?_) (a' := ?_) #[true, true, true, true, false, true, true, false, true, false, false, true, true, false, true, true, true, true, false, false, false, false, true, true, true, false, false, false, false, false, false, false, false, false, false, false, false] rfl rfl (any_of HT_.out (by kernel_rfl)) (fun _ _ _ h => h) (Or.inl ⟨by rfl, ?_⟩) ?_ ?_
                      rotate_left
                      · intro w'
                        go_simp
                        with_reducible rfl
                      rotate_left
                      · simp only [Act.put, List.setIfInBounds_toArray, List.set_cons_zero, List.set_cons_succ, i64_w, i32_w]
                        rfl
                      refine pure_ (i := 25) (N := some 60) (v := ?_) (a' := ?_) #[true, true, true, true, false, true, true, false, true, false, false, true, true, false, true, true, true, true, false, false, false, false, true, true, true, true, false, false, false, false, false, false, false, false, false, false, false] rfl rfl (any_of HT_.out (by kernel_rfl)) (fun _ _ _ h => h) (Or.inl ⟨by rfl, ?_⟩) ?_ ?_
                      rotate_left
                      · intro w'
                        go_simp
                        with_reducible rfl
                      rotate_left
                      · simp only [Act.put, List.setIfInBounds_toArray, List.set_cons_zero, List.set_cons_succ, i64_w, i32_w]
                        rfl
                      refine pure_ (i := 29) (N := some 64) (v := ?_) (a' := ?_) #[true, true, true, true, false, true, true, false, true, false, false, true, true, false, true, true, true, true, false, false, false, false, true, true, true, true, false, false, false, true, false, false, false, false, false, false, false] rfl rfl (any_of HT_.out (by kernel_rfl)) (fun _ _ _ h => h) (Or.inl ⟨by rfl, ?_⟩) ?_ ?_
                      rotate_left
                      · intro w'
                        go_simp
                        with_reducible rfl
                      rotate_left
                      · simp only [Act.put, List.setIfInBounds_toArray, List.set_cons_zero, List.set_cons_succ, i64_w, i32_w]
                        rfl
                      refine pure_ (i := 30) (N := some 65) (v := ?_) (a' := ?_) #[true, true, true, true, false, true, true, false, true, false, false, true, true, false, true, true, true, true, false, false, false, false, true, true, true, true, false, false, false, true, true, false, false, false, false, false, false] rfl rfl (any_of HT_.out (by kernel_rfl)) (fun _ _ _ h => h) (Or.inl ⟨by rfl, ?_⟩) ?_ ?_
                      rotate_left
                      · intro w'
                        go_simp
                        with_reducible rfl
                      rotate_left
                      · simp only [Act.put, List.setIfInBounds_toArray, List.set_cons_zero, List.set_cons_succ, i64_w, i32_w]
                        rfl
                      refine pure_ (i := 31) (N := some 66) (v := ?_) (a' := ?_) #[true, true, true, true, false, true, true, false, true, false, false, true, true, false, true, true, true, true, false, false, false, false, true, true, true, true, false, false, false, true, true, true, false, false, false, false, false] rfl rfl (any_of HT_.out (by kernel_rfl)) (fun _ _ _ h => h) (Or.inl ⟨by rfl, ?_⟩) ?_ ?_
                      rotate_left
                      · intro w'
                        go_simp
                        with_reducible rfl
                      rotate_left
                      · simp only [Act.put, List.setIfInBounds_toArray, List.set_cons_zero, List.set_cons_succ, i64_w, i32_w]
                        rfl
                      refine pure_ (i := 32) (N := some 67) (v := ?_) (a' := ?_) #[true, true, true, true, false, true, true, false, true, false, false, true, true, false, true, true, true, true, false, false, false, false, true, true, true, true, false, false, false, true, true, true, true, false, false, false, false] rfl rfl (any_of HT_.out (by kernel_rfl)) (fun _ _ _ h => h) (Or.inl ⟨by rfl, ?_⟩) ?_ ?_
                      rotate_left
                      · intro w'
                        go_simp
                        with_reducible rfl
                      rotate_left
                      · simp only [Act.put, List.setIfInBounds_toArray, List.set_cons_zero, List.set_cons_succ, i64_w, i32_w]
                        rfl
                      refine take_ (i := 4) (N := some 39) (v := ?_) (a' := ?_) #[true, true, true, true, true, true, true, false, true, false, false, true, true, false, true, true, true, true, false, false, false, false, true, true, true, true, false, false, false, true, true, true, true, false, false, false, false] rfl rfl (take_ofW HT_.out HW_.out (by kernel_rfl)) (fun _ _ _ h => h) (Or.inl ⟨by rfl, ?_⟩) hHeld ?_ ?_
                      rotate_left
                      · rintro w' ⟨s0, s1, s2, s3, s4, s5, s6, s7, s8, s9, s10, s11, s12, s13, s14, s15, s16, s17, s18, s19, s20⟩
                        go_simp
                        with_reducible rfl
                      rotate_left
                      · simp only [Act.put, List.setIfInBounds_toArray, List.set_cons_zero, List.set_cons_succ, i64_w, i32_w]
                        rfl
                      refine pure_ (i := 7) (N := some 42) (v := ?_) (a' := ?_) #[true, true, true, true, true, true, true, true, true, false, false, true, true, false, true, true, true, true, false, false, false, false, true, true, true, true, false, false, false, true, true, true, true, false, false, false, false] rfl rfl (any_of HT_.out (by kernel_rfl)) (fun _ _ _ h => h) (Or.inl ⟨by rfl, ?_⟩) ?_ ?_
                      rotate_left
                      · intro w'
                        go_simp
                        with_reducible rfl
                      rotate_left
                      · simp only [Act.put, List.setIfInBounds_toArray, List.set_cons_zero, List.set_cons_succ, i64_w, i32_w]
                        rfl
                      refine pure_ (i := 9) (N := some 44) (v := ?_) (a' := ?_) #[true, true, true, true, true, true, true, true, true, true, false, true, true, false, true, true, true, true, false, false, false, false, true, true, true, true, false, false, false, true, true, true, true, false, false, false, false] rfl rfl (any_of HT_.out (by kernel_rfl)) (fun _ _ _ h => h) (Or.inl ⟨by rfl, ?_⟩) ?_ ?_
                      rotate_left
                      · intro w'
                        go_simp
                        with_reducible rfl
                      rotate_left
                      · simp only [Act.put, List.setIfInBounds_toArray, List.set_cons_zero, List.set_cons_succ, i64_w, i32_w]
                        rfl
                      refine pure_ (i := 10) (N := some 45) (v := ?_) (a' := ?_) #[true, true, true, true, true, true, true, true, true, true, true, true, true, false, true, true, true, true, false, false, false, false, true, true, true, true, false, false, false, true, true, true, true, false, false, false, false] rfl rfl (any_of HT_.out (by kernel_rfl)) (fun _ _ _ h => h) (Or.inl ⟨by rfl, ?_⟩) ?_ ?_
                      rotate_left
                      · intro w'
                        go_simp
                        with_reducible rfl
                      rotate_left
                      · simp only [Act.put, List.setIfInBounds_toArray, List.set_cons_zero, List.set_cons_succ, i64_w, i32_w]
                        rfl
                      refine pure_ (i := 13) (N := some 48) (v := ?_) (a' := ?_) #[true, true, true, true, true, true, true, true, true, true, true, true, true, true, true, true, true, true, false, false, false, false, true, true, true, true, false, false, false, true, true, true, true, false, false, false, false] rfl rfl (any_of HT_.out (by kernel_rfl)) (fun _ _ _ h => h) (Or.inl ⟨by rfl, ?_⟩) ?_ ?_
                      rotate_left
                      · intro w'
                        go_simp
                        with_reducible rfl
                      rotate_left
                      · simp only [Act.put, List.setIfInBounds_toArray, List.set_cons_zero, List.set_cons_succ, i64_w, i32_w]
                        rfl
                      refine take_ (i := 18) (N := some 53) (v := ?_) (a' := ?_) #[true, true, true, true, true, true, true, true, true, true, true, true, true, true, true, true, true, true, true, false, false, false, true, true, true, true, false, false, false, true, true, true, true, false, false, false, false] rfl rfl (take_ofW HT_.out HW_.out (by kernel_rfl)) (fun _ _ _ h => h) (Or.inl ⟨by rfl, ?_⟩) hHeld ?_ ?_
                      rotate_left
                      · rintro w' ⟨s0, s1, s2, s3, s4, s5, s6, s7, s8, s9, s10, s11, s12, s13, s14, s15, s16, s17, s18, s19, s20⟩
                        go_simp
                        with_reducible rfl
                      rotate_left
                      · simp only [Act.put, List.setIfInBounds_toArray, List.set_cons_zero, List.set_cons_succ, i64_w, i32_w]
                        rfl
                      refine pure_ (i := 19) (N := some 54) (v := ?_) (a' := ?_) #[true, true, true, true, true, true, true, true, true, true, true, true, true, true, true, true, true, true, true, true, false, false, true, true, true, true, false, false, false, true, true, true, true, false, false, false, false] rfl rfl (any_of HT_.out (by kernel_rfl)) (fun _ _ _ h => h) (Or.inl ⟨by rfl, ?_⟩) ?_ ?_
                      rotate_left
                      · intro w'
                        go_simp
                        with_reducible rfl
                      rotate_left
                      · simp only [Act.put, List.setIfInBounds_toArray, List.set_cons_zero, List.set_cons_succ, i64_w, i32_w]
                        rfl
                      refine pure_ (i := 20) (N := some 55) (v := ?_) (a' := ?_) #[true, true, true, true, true, true, true, true, true, true, true, true, true, true, true, true, true, true, true, true, true, false, true, true, true, true, false, false, false, true, true, true, true, false, false, false, false] rfl rfl (any_of HT_.out (by kernel_rfl)) (fun _ _ _ h => h) (Or.inl ⟨by rfl, ?_⟩) ?_ ?_
                      rotate_left
                      · intro w'
                        go_simp
                        with_reducible rfl
                      rotate_left
                      · simp only [Act.put, List.setIfInBounds_toArray, List.set_cons_zero, List.set_cons_succ, i64_w, i32_w]
                        rfl
                      refine take_ (i := 21) (N := some 56) (v := ?_) (a' := ?_) #[true, true, true, true, true, true, true, true, true, true, true, true, true, true, true, true, true, true, true, true, true, true, true, true, true, true, false, false, false, true, true, true, true, false, false, false, false] rfl rfl (take_ofW HT_.out HW_.out (by kernel_rfl)) (fun _ _ _ h => h) (Or.inl ⟨by rfl, ?_⟩) hHeld ?_ ?_
                      rotate_left
                      · rintro w' ⟨s0, s1, s2, s3, s4, s5, s6, s7, s8, s9, s10, s11, s12, s13, s14, s15, s16, s17, s18, s19, s20⟩
                        go_simp
                        with_reducible rfl
                      rotate_left
                      · simp only [Act.put, List.setIfInBounds_toArray, List.set_cons_zero, List.set_cons_succ, i64_w, i32_w]
                        rfl
                      refine take_ (i := 26) (N := some 61) (v := ?_) (a' := ?_) #[true, true, true, true, true, true, true, true, true, true, true, true, true, true, true, true, true, true, true, true, true, true, true, true, true, true, true, false, false, true, true, true, true, false, false, false, false] rfl rfl (take_ofW HT_.out HW_.out (by kernel_rfl)) (fun _ _ _ h => h) (Or.inl ⟨by rfl, ?_⟩) hHeld ?_ ?_
                      rotate_left
                      · rintro w' ⟨s0, s1, s2, s3, s4, s5, s6, s7, s8, s9, s10, s11, s12, s13, s14, s15, s16, s17, s18, s19, s20⟩
                        go_simp
                        with_reducible rfl
                      rotate_left
                      · simp only [Act.put, List.setIfInBounds_toArray, List.set_cons_zero, List.set_cons_succ, i64_w, i32_w]
                        rfl
                      refine pure_ (i := 27) (N := some 62) (v := ?_) (a' := ?_) #[true, true, true, true, true, true, true, true, true, true, true, true, true, true, true, true, true, true, true, true, true, true, true, true, true, true, true, true, false, true, true, true, true, false, false, false, false] rfl rfl (any_of HT_.out (by kernel_rfl)) (fun _ _ _ h => h) (Or.inl ⟨by rfl, ?_⟩) ?_ ?_
                      rotate_left
                      · intro w'
                        go_simp
                        with_reducible rfl
                      rotate_left
                      · simp only [Act.put, List.setIfInBounds_toArray, List.set_cons_zero, List.set_cons_succ, i64_w, i32_w]
                        rfl
                      refine pure_ (i := 28) (N := some 63) (v := ?_) (a' := ?_) #[true, true, true, true, true, true, true, true, true, true, true, true, true, true, true, true, true, true, true, true, true, true, true, true, true, true, true, true, true, true, true, true, true, false, false, false, false] rfl rfl (any_of HT_.out (by kernel_rfl)) (fun _ _ _ h => h) (Or.inl ⟨by rfl, ?_⟩) ?_ ?_
                      rotate_left
                      · intro w'
                        go_simp
                        with_reducible rfl
                      rotate_left
                      · simp only [Act.put, List.setIfInBounds_toArray, List.set_cons_zero, List.set_cons_succ, i64_w, i32_w]
                        rfl
                      refine take_ (i := 33) (N := some 68) (v := ?_) (a' := ?_) #[true, true, true, true, true, true, true, true, true, true, true, true, true, true, true, true, true, true, true, true, true, true, true, true, true, true, true, true, true, true, true, true, true, true, false, false, false] rfl rfl (take_ofW HT_.out HW_.out (by kernel_rfl)) (fun _ _ _ h => h) (Or.inl ⟨by rfl, ?_⟩) hHeld ?_ ?_
                      rotate_left
                      · rintro w' ⟨s0, s1, s2, s3, s4, s5, s6, s7, s8, s9, s10, s11, s12, s13, s14, s15, s16, s17, s18, s19, s20⟩
                        go_simp
                        with_reducible rfl
                      rotate_left
                      · simp only [Act.put, List.setIfInBounds_toArray, List.set_cons_zero, List.set_cons_succ, i64_w, i32_w]
                        rfl
                      refine pure_ (i := 34) (N := some 69) (v := ?_) (a' := ?_) #[true, true, true, true, true, true, true, true, true, true, true, true, true, true, true, true, true, true, true, true, true, true, true, true, true, true, true, true, true, true, true, true, true, true, true, false, false] rfl rfl (any_of HT_.out (by kernel_rfl)) (fun _ _ _ h => h) (Or.inl ⟨by rfl, ?_⟩) ?_ ?_
                      rotate_left
                      · intro w'
                        go_simp
                        with_reducible rfl
                      rotate_left
                      · simp only [Act.put, List.setIfInBounds_toArray, List.set_cons_zero, List.set_cons_succ, i64_w, i32_w]
                        rfl
                      refine one_ (i := 35) (N := some 11) #[true, true, true, true, true, true, true, true, true, true, true, true, true, true, true, true, true, true, true, true, true, true, true, true, true, true, true, true, true, true, true, true, true, true, true, true, false] rfl rfl (one_of HT_.out (by kernel_rfl)) (by decide) (fun K hK => ?_)
                      refine box_step ?hg (N := 11) ?hd (cs := #[.int .i64 0, .int .i64 0, .int .i64 0, .int .i64 0]) (t := 23) ?hr ?_; (case hd => rfl); (case hg => rfl); (case hr => first | (go_simp; done) | (go_simp; rfl))
                      intro gb160 hg w18 hbox hb
                      have n0_ := Aside0.mk (Kd.R_below (Kd.R_elderB (by (with_reducible repeat (first | apply Kd.R_alloc | apply Kd.R_drewN | apply Kd.R_drew)); exact HO_7.out) gb160 (Nat.le_of_eq hg.symm)) hb)
                      have n1_ := Aside0.mk (blk_below (g := gb155) (o := .cells #[.int .i64 1, .int .i64 6, .int .i64 7, .int .i64 8] 26 (0, 0)) (by (with_reducible repeat (first | refine blk_drewN ?_ _ | refine blk_drew ?_ | refine blk_alloc ?_ _)); exact BK155.out) hb)
                      have n2_ := Aside0.mk (below_step (by repeat (first | (with_reducible first | exact HB.out | apply below_alloc | apply pw_below_drewN | apply below_drew1 | refine below_set ?_ GE155.out) | exact HB.out)) hb)
                      have n3_ := Aside0.mk (hbox)
                      have n4_ := Aside0.mk ((by rw [hg]; exact (below_size (by repeat (first | (with_reducible first | exact HB.out | apply below_alloc | apply pw_below_drewN | apply below_drew1 | refine below_set ?_ GE155.out) | exact HB.out))) : w.heap.size ≤ gb160))
                      have n5_ := Aside0.mk ((by rw [hg]; exact (below_size (by repeat (first | (with_reducible first | exact HB.out | apply below_alloc | apply pw_below_drewN | apply below_drew1 | refine below_set ?_ GE155.out) | exact HB.out))) : w.heap.size ≤ gb160))
                      have n6_ := Aside0.mk ((by rw [hg]; exact Nat.ne_of_lt (blk_lt (g := gb155) (o := .cells #[.int .i64 1, .int .i64 6, .int .i64 7, .int .i64 8] 26 (0, 0)) (by (with_reducible repeat (first | refine blk_drewN ?_ _ | refine blk_drew ?_ | refine blk_alloc ?_ _)); exact BK155.out)) : gb155 ≠ gb160))
                      have n7_ := Aside0.mk ((by rw [hg]; exact Nat.ne_of_gt (blk_lt (g := gb155) (o := .cells #[.int .i64 1, .int .i64 6, .int .i64 7, .int .i64 8] 26 (0, 0)) (by (with_reducible repeat (first | refine blk_drewN ?_ _ | refine blk_drew ?_ | refine blk_alloc ?_ _)); exact BK155.out)) : gb160 ≠ gb155))
                      clear HO_7
                      clear BK155
                      clear HB
                      have HO_7 := n0_
                      have BK155 := n1_
                      have HB := n2_
                      have BK160 := n3_
                      have GW160 := n4_
                      have GE160 := n5_
                      have NB155_160 := n6_
                      have NB160_155 := n7_
                      clear n0_ n1_ n2_ n3_ n4_ n5_ n6_ n7_
                      clear hb hbox hg
                      refine hK.out _ _ ⟨(blk_cell BK155.out 0).trans rfl, (blk_cell BK155.out 1).trans rfl, (blk_cell BK155.out 2).trans rfl, (blk_cell BK155.out 3).trans rfl, XW.sel_row (l := [1, 6, 7, 8]) BK155.out (by first | omega | exact of_eq_true (by assumption)) (by first | omega | exact of_eq_true (by assumption)), ((HB.out.cell (World.block_lt_of_cell? w _ hw156_0)).trans hw156_0), ((HB.out.cell (World.block_lt_of_cell? w _ hw156_1)).trans hw156_1), ((HB.out.cell (World.block_lt_of_cell? w _ hw156_2)).trans hw156_2), ((HB.out.cell (World.block_lt_of_cell? w _ hw156_3)).trans hw156_3), ((HB.out.cell (World.block_lt_of_cell? w _ hw157_0)).trans hw157_0), ((HB.out.cell (World.block_lt_of_cell? w _ hw157_1)).trans hw157_1), ((HB.out.cell (World.block_lt_of_cell? w _ hw157_2)).trans hw157_2), ((HB.out.cell (World.block_lt_of_cell? w _ hw157_3)).trans hw157_3), ((HB.out.cell (World.block_lt_of_cell? w _ hw158_0)).trans hw158_0), ((HB.out.cell (World.block_lt_of_cell? w _ hw158_1)).trans hw158_1), ((HB.out.cell (World.block_lt_of_cell? w _ hw158_2)).trans hw158_2), ((HB.out.cell (World.block_lt_of_cell? w _ hw158_3)).trans hw158_3), ((HB.out.cell (World.block_lt_of_cell? w _ hw159_0)).trans hw159_0), ((HB.out.cell (World.block_lt_of_cell? w _ hw159_1)).trans hw159_1), ((HB.out.cell (World.block_lt_of_cell? w _ hw159_2)).trans hw159_2), ((HB.out.cell (World.block_lt_of_cell? w _ hw159_3)).trans hw159_3)⟩ (fun hHeld => ?_)
                      clear hK K
                      refine norm_ (a' := ?_) ?_ ?_
                      rotate_left
                      · show Act.put _ (some 11) _ = _
                        simp only [Act.put, List.setIfInBounds_toArray, List.set_cons_zero, List.set_cons_succ, i64_w, i32_w]
                        rfl
                      refine one_ (i := 36) (N := none) #[true, true, true, true, true, true, true, true, true, true, true, true, true, true, true, true, true, true, true, true, true, true, true, true, true, true, true, true, true, true, true, true, true, true, true, true, true] rfl rfl (one_of HT_.out (by kernel_rfl)) (by decide) (fun K hK => ?_)
                      have hs19 : w18.cell? ⟨gb160, 0, none⟩ = some (.int .i64 0) := (blk_cell BK160.out 0).trans rfl
                      have hfs19 := blk_frozen BK160.out 0
                      have hns19_0 := NB155_160.out
                      have hms19_0 := NB160_155.out
                      have hs20 : w18.cell? ⟨gb160, 1, none⟩ = some (.int .i64 0) := (blk_cell BK160.out 1).trans rfl
                      have hfs20 := blk_frozen BK160.out 1
                      have hns20_0 := NB155_160.out
                      have hms20_0 := NB160_155.out
                      have hs21 : w18.cell? ⟨gb160, 2, none⟩ = some (.int .i64 0) := (blk_cell BK160.out 2).trans rfl
                      have hfs21 := blk_frozen BK160.out 2
                      have hns21_0 := NB155_160.out
                      have hms21_0 := NB160_155.out
                      have hs22 : w18.cell? ⟨gb160, 3, none⟩ = some (.int .i64 0) := (blk_cell BK160.out 3).trans rfl
                      have hfs22 := blk_frozen BK160.out 3
                      have hns22_0 := NB155_160.out
                      have hms22_0 := NB160_155.out
                      refine skip_ (w1 := ?_) (by rfl) rfl ?_ ?_
                      rotate_left
                      · go_simp
                        rfl
                      refine hK.out _ _ ⟨((cell_far (p := ⟨gb160, _, none⟩) NB155_160.out _).trans (((cell_far (p := ⟨gb160, _, none⟩) NB155_160.out _).trans (((cell_far (p := ⟨gb160, _, none⟩) NB155_160.out _).trans (((cell_far (p := ⟨gb160, _, none⟩) NB155_160.out _).trans (hHeld.1)))))))), ((cell_far (p := ⟨gb160, _, none⟩) NB155_160.out _).trans (((cell_far (p := ⟨gb160, _, none⟩) NB155_160.out _).trans (((cell_far (p := ⟨gb160, _, none⟩) NB155_160.out _).trans (((cell_far (p := ⟨gb160, _, none⟩) NB155_160.out _).trans (hHeld.2.1)))))))), ((cell_far (p := ⟨gb160, _, none⟩) NB155_160.out _).trans (((cell_far (p := ⟨gb160, _, none⟩) NB155_160.out _).trans (((cell_far (p := ⟨gb160, _, none⟩) NB155_160.out _).trans (((cell_far (p := ⟨gb160, _, none⟩) NB155_160.out _).trans (hHeld.2.2.1)))))))), ((cell_far (p := ⟨gb160, _, none⟩) NB155_160.out _).trans (((cell_far (p := ⟨gb160, _, none⟩) NB155_160.out _).trans (((cell_far (p := ⟨gb160, _, none⟩) NB155_160.out _).trans (((cell_far (p := ⟨gb160, _, none⟩) NB155_160.out _).trans (hHeld.2.2.2.1)))))))), ((cell_far (p := ⟨gb160, _, none⟩) NB155_160.out _).trans (((cell_far (p := ⟨gb160, _, none⟩) NB155_160.out _).trans (((cell_far (p := ⟨gb160, _, none⟩) NB155_160.out _).trans (((cell_far (p := ⟨gb160, _, none⟩) NB155_160.out _).trans (hHeld.2.2.2.2.1)))))))), ((cell_far (p := ⟨gb160, _, none⟩) (by first | exact Nat.ne_of_lt (Nat.lt_of_lt_of_le (by have := World.block_lt_of_cell? _ _ hw156_0; first | rwa [add_block] at this | exact this) GW160.out) | (rw [add_block]; exact Nat.ne_of_lt (Nat.lt_of_lt_of_le (by have := World.block_lt_of_cell? _ _ hw156_0; first | rwa [add_block] at this | exact this) GW160.out)) | (show (Addr.add _ _).block ≠ _; rw [add_block]; exact Nat.ne_of_lt (Nat.lt_of_lt_of_le (by have := World.block_lt_of_cell? _ _ hw156_0; first | rwa [add_block] at this | exact this) GW160.out)) | (dsimp only; exact Nat.ne_of_lt (Nat.lt_of_lt_of_le (by have := World.block_lt_of_cell? _ _ hw156_0; first | rwa [add_block] at this | exact this) GW160.out))) _).trans (((cell_far (p := ⟨gb160, _, none⟩) (by first | exact Nat.ne_of_lt (Nat.lt_of_lt_of_le (by have := World.block_lt_of_cell? _ _ hw156_0; first | rwa [add_block] at this | exact this) GW160.out) | (rw [add_block]; exact Nat.ne_of_lt (Nat.lt_of_lt_of_le (by have := World.block_lt_of_cell? _ _ hw156_0; first | rwa [add_block] at this | exact this) GW160.out)) | (show (Addr.add _ _).block ≠ _; rw [add_block]; exact Nat.ne_of_lt (Nat.lt_of_lt_of_le (by have := World.block_lt_of_cell? _ _ hw156_0; first | rwa [add_block] at this | exact this) GW160.out)) | (dsimp only; exact Nat.ne_of_lt (Nat.lt_of_lt_of_le (by have := World.block_lt_of_cell? _ _ hw156_0; first | rwa [add_block] at this | exact this) GW160.out))) _).trans (((cell_far (p := ⟨gb160, _, none⟩) (by first | exact Nat.ne_of_lt (Nat.lt_of_lt_of_le (by have := World.block_lt_of_cell? _ _ hw156_0; first | rwa [add_block] at this | exact this) GW160.out) | (rw [add_block]; exact Nat.ne_of_lt (Nat.lt_of_lt_of_le (by have := World.block_lt_of_cell? _ _ hw156_0; first | rwa [add_block] at this | exact this) GW160.out)) | (show (Addr.add _ _).block ≠ _; rw [add_block]; exact Nat.ne_of_lt (Nat.lt_of_lt_of_le (by have := World.block_lt_of_cell? _ _ hw156_0; first | rwa [add_block] at this | exact this) GW160.out)) | (dsimp only; exact Nat.ne_of_lt (Nat.lt_of_lt_of_le (by have := World.block_lt_of_cell? _ _ hw156_0; first | rwa [add_block] at this | exact this) GW160.out))) _).trans (((cell_far (p := ⟨gb160, _, none⟩) (by first | exact Nat.ne_of_lt (Nat.lt_of_lt_of_le (by have := World.block_lt_of_cell? _ _ hw156_0; first | rwa [add_block] at this | exact this) GW160.out) | (rw [add_block]; exact Nat.ne_of_lt (Nat.lt_of_lt_of_le (by have := World.block_lt_of_cell? _ _ hw156_0; first | rwa [add_block] at this | exact this) GW160.out)) | (show (Addr.add _ _).block ≠ _; rw [add_block]; exact Nat.ne_of_lt (Nat.lt_of_lt_of_le (by have := World.block_lt_of_cell? _ _ hw156_0; first | rwa [add_block] at this | exact this) GW160.out)) | (dsimp only; exact Nat.ne_of_lt (Nat.lt_of_lt_of_le (by have := World.block_lt_of_cell? _ _ hw156_0; first | rwa [add_block] at this | exact this) GW160.out))) _).trans (hHeld.2.2.2.2.2.1)))))))), ((cell_far (p := ⟨gb160, _, none⟩) (by first | exact Nat.ne_of_lt (Nat.lt_of_lt_of_le (by have := World.block_lt_of_cell? _ _ hw156_1; first | rwa [add_block] at this | exact this) GW160.out) | (rw [add_block]; exact Nat.ne_of_lt (Nat.lt_of_lt_of_le (by have := World.block_lt_of_cell? _ _ hw156_1; first | rwa [add_block] at this | exact this) GW160.out)) | (show (Addr.add _ _).block ≠ _; rw [add_block]; exact Nat.ne_of_lt (Nat.lt_of_lt_of_le (by have := World.block_lt_of_cell? _ _ hw156_1; first | rwa [add_block] at this | exact this) GW160.out)) | (dsimp only; exact Nat.ne_of_lt (Nat.lt_of_lt_of_le (by have := World.block_lt_of_cell? _ _ hw156_1; first | rwa [add_block] at this | exact this) GW160.out))) _).trans (((cell_far (p := ⟨gb160, _, none⟩) (by first | exact Nat.ne_of_lt (Nat.lt_of_lt_of_le (by have := World.block_lt_of_cell? _ _ hw156_1; first | rwa [add_block] at this | exact this) GW160.out) | (rw [add_block]; exact Nat.ne_of_lt (Nat.lt_of_lt_of_le (by have := World.block_lt_of_cell? _ _ hw156_1; first | rwa [add_block] at this | exact this) GW160.out)) | (show (Addr.add _ _).block ≠ _; rw [add_block]; exact Nat.ne_of_lt (Nat.lt_of_lt_of_le (by have := World.block_lt_of_cell? _ _ hw156_1; first | rwa [add_block] at this | exact this) GW160.out)) | (dsimp only; exact Nat.ne_of_lt (Nat.lt_of_lt_of_le (by have := World.block_lt_of_cell? _ _ hw156_1; first | rwa [add_block] at this | exact this) GW160.out))) _).trans (((cell_far (p := ⟨gb160, _, none⟩) (by first | exact Nat.ne_of_lt (Nat.lt_of_lt_of_le (by have := World.block_lt_of_cell? _ _ hw156_1; first | rwa [add_block] at this | exact this) GW160.out) | (rw [add_block]; exact Nat.ne_of_lt (Nat.lt_of_lt_of_le (by have := World.block_lt_of_cell? _ _ hw156_1; first | rwa [add_block] at this | exact this) GW160.out)) | (show (Addr.add _ _).block ≠ _; rw [add_block]; exact Nat.ne_of_lt (Nat.lt_of_lt_of_le (by have := World.block_lt_of_cell? _ _ hw156_1; first | rwa [add_block] at this | exact this) GW160.out)) | (dsimp only; exact Nat.ne_of_lt (Nat.lt_of_lt_of_le (by have := World.block_lt_of_cell? _ _ hw156_1; first | rwa [add_block] at this | exact this) GW160.out))) _).trans (((cell_far (p := ⟨gb160, _, none⟩) (by first | exact Nat.ne_of_lt (Nat.lt_of_lt_of_le (by have := World.block_lt_of_cell? _ _ hw156_1; first | rwa [add_block] at this | exact this) GW160.out) | (rw [add_block]; exact Nat.ne_of_lt (Nat.lt_of_lt_of_le (by have := World.block_lt_of_cell? _ _ hw156_1; first | rwa [add_block] at this | exact this) GW160.out)) | (show (Addr.add _ _).block ≠ _; rw [add_block]; exact Nat.ne_of_lt (Nat.lt_of_lt_of_le (by have := World.block_lt_of_cell? _ _ hw156_1; first | rwa [add_block] at this | exact this) GW160.out)) | (dsimp only; exact Nat.ne_of_lt (Nat.lt_of_lt_of_le (by have := World.block_lt_of_cell? _ _ hw156_1; first | rwa [add_block] at this | exact this) GW160.out))) _).trans (hHeld.2.2.2.2.2.2.1)))))))), ((cell_far (p := ⟨gb160, _, none⟩) (by first | exact Nat.ne_of_lt (Nat.lt_of_lt_of_le (by have := World.block_lt_of_cell? _ _ hw156_2; first | rwa [add_block] at this | exact this) GW160.out) | (rw [add_block]; exact Nat.ne_of_lt (Nat.lt_of_lt_of_le (by have := World.block_lt_of_cell? _ _ hw156_2; first | rwa [add_block] at this | exact this) GW160.out)) | (show (Addr.add _ _).block ≠ _; rw [add_block]; exact Nat.ne_of_lt (Nat.lt_of_lt_of_le (by have := World.block_lt_of_cell? _ _ hw156_2; first | rwa [add_block] at this | exact this) GW160.out)) | (dsimp only; exact Nat.ne_of_lt (Nat.lt_of_lt_of_le (by have := World.block_lt_of_cell? _ _ hw156_2; first | rwa [add_block] at this | exact this) GW160.out))) _).trans (((cell_far (p := ⟨gb160, _, none⟩) (by first | exact Nat.ne_of_lt (Nat.lt_of_lt_of_le (by have := World.block_lt_of_cell? _ _ hw156_2; first | rwa [add_block] at this | exact this) GW160.out) | (rw [add_block]; exact Nat.ne_of_lt (Nat.lt_of_lt_of_le (by have := World.block_lt_of_cell? _ _ hw156_2; first | rwa [add_block] at this | exact this) GW160.out)) | (show (Addr.add _ _).block ≠ _; rw [add_block]; exact Nat.ne_of_lt (Nat.lt_of_lt_of_le (by have := World.block_lt_of_cell? _ _ hw156_2; first | rwa [add_block] at this | exact this) GW160.out)) | (dsimp only; exact Nat.ne_of_lt (Nat.lt_of_lt_of_le (by have := World.block_lt_of_cell? _ _ hw156_2; first | rwa [add_block] at this | exact this) GW160.out))) _).trans (((cell_far (p := ⟨gb160, _, none⟩) (by first | exact Nat.ne_of_lt (Nat.lt_of_lt_of_le (by have := World.block_lt_of_cell? _ _ hw156_2; first | rwa [add_block] at this | exact this) GW160.out) | (rw [add_block]; exact Nat.ne_of_lt (Nat.lt_of_lt_of_le (by have := World.block_lt_of_cell? _ _ hw156_2; first | rwa [add_block] at this | exact this) GW160.out)) | (show (Addr.add _ _).block ≠ _; rw [add_block]; exact Nat.ne_of_lt (Nat.lt_of_lt_of_le (by have := World.block_lt_of_cell? _ _ hw156_2; first | rwa [add_block] at this | exact this) GW160.out)) | (dsimp only; exact Nat.ne_of_lt (Nat.lt_of_lt_of_le (by have := World.block_lt_of_cell? _ _ hw156_2; first | rwa [add_block] at this | exact this) GW160.out))) _).trans (((cell_far (p := ⟨gb160, _, none⟩) (by first | exact Nat.ne_of_lt (Nat.lt_of_lt_of_le (by have := World.block_lt_of_cell? _ _ hw156_2; first | rwa [add_block] at this | exact this) GW160.out) | (rw [add_block]; exact Nat.ne_of_lt (Nat.lt_of_lt_of_le (by have := World.block_lt_of_cell? _ _ hw156_2; first | rwa [add_block] at this | exact this) GW160.out)) | (show (Addr.add _ _).block ≠ _; rw [add_block]; exact Nat.ne_of_lt (Nat.lt_of_lt_of_le (by have := World.block_lt_of_cell? _ _ hw156_2; first | rwa [add_block] at this | exact this) GW160.out)) | (dsimp only; exact Nat.ne_of_lt (Nat.lt_of_lt_of_le (by have := World.block_lt_of_cell? _ _ hw156_2; first | rwa [add_block] at this | exact this) GW160.out))) _).trans (hHeld.2.2.2.2.2.2.2.1)))))))), ((cell_far (p := ⟨gb160, _, none⟩) (by first | exact Nat.ne_of_lt (Nat.lt_of_lt_of_le (by have := World.block_lt_of_cell? _ _ hw156_3; first | rwa [add_block] at this | exact this) GW160.out) | (rw [add_block]; exact Nat.ne_of_lt (Nat.lt_of_lt_of_le (by have := World.block_lt_of_cell? _ _ hw156_3; first | rwa [add_block] at this | exact this) GW160.out)) | (show (Addr.add _ _).block ≠ _; rw [add_block]; exact Nat.ne_of_lt (Nat.lt_of_lt_of_le (by have := World.block_lt_of_cell? _ _ hw156_3; first | rwa [add_block] at this | exact this) GW160.out)) | (dsimp only; exact Nat.ne_of_lt (Nat.lt_of_lt_of_le (by have := World.block_lt_of_cell? _ _ hw156_3; first | rwa [add_block] at this | exact this) GW160.out))) _).trans (((cell_far (p := ⟨gb160, _, none⟩) (by first | exact Nat.ne_of_lt (Nat.lt_of_lt_of_le (by have := World.block_lt_of_cell? _ _ hw156_3; first | rwa [add_block] at this | exact this) GW160.out) | (rw [add_block]; exact Nat.ne_of_lt (Nat.lt_of_lt_of_le (by have := World.block_lt_of_cell? _ _ hw156_3; first | rwa [add_block] at this | exact this) GW160.out)) | (show (Addr.add _ _).block ≠ _; rw [add_block]; exact Nat.ne_of_lt (Nat.lt_of_lt_of_le (by have := World.block_lt_of_cell? _ _ hw156_3; first | rwa [add_block] at this | exact this) GW160.out)) | (dsimp only; exact Nat.ne_of_lt (Nat.lt_of_lt_of_le (by have := World.block_lt_of_cell? _ _ hw156_3; first | rwa [add_block] at this | exact this) GW160.out))) _).trans (((cell_far (p := ⟨gb160, _, none⟩) (by first | exact Nat.ne_of_lt (Nat.lt_of_lt_of_le (by have := World.block_lt_of_cell? _ _ hw156_3; first | rwa [add_block] at this | exact this) GW160.out) | (rw [add_block]; exact Nat.ne_of_lt (Nat.lt_of_lt_of_le (by have := World.block_lt_of_cell? _ _ hw156_3; first | rwa [add_block] at this | exact this) GW160.out)) | (show (Addr.add _ _).block ≠ _; rw [add_block]; exact Nat.ne_of_lt (Nat.lt_of_lt_of_le (by have := World.block_lt_of_cell? _ _ hw156_3; first | rwa [add_block] at this | exact this) GW160.out)) | (dsimp only; exact Nat.ne_of_lt (Nat.lt_of_lt_of_le (by have := World.block_lt_of_cell? _ _ hw156_3; first | rwa [add_block] at this | exact this) GW160.out))) _).trans (((cell_far (p := ⟨gb160, _, none⟩) (by first | exact Nat.ne_of_lt (Nat.lt_of_lt_of_le (by have := World.block_lt_of_cell? _ _ hw156_3; first | rwa [add_block] at this | exact this) GW160.out) | (rw [add_block]; exact Nat.ne_of_lt (Nat.lt_of_lt_of_le (by have := World.block_lt_of_cell? _ _ hw156_3; first | rwa [add_block] at this | exact this) GW160.out)) | (show (Addr.add _ _).block ≠ _; rw [add_block]; exact Nat.ne_of_lt (Nat.lt_of_lt_of_le (by have := World.block_lt_of_cell? _ _ hw156_3; first | rwa [add_block] at this | exact this) GW160.out)) | (dsimp only; exact Nat.ne_of_lt (Nat.lt_of_lt_of_le (by have := World.block_lt_of_cell? _ _ hw156_3; first | rwa [add_block] at this | exact this) GW160.out))) _).trans (hHeld.2.2.2.2.2.2.2.2.1)))))))), ((cell_far (p := ⟨gb160, _, none⟩) (by first | exact Nat.ne_of_lt (Nat.lt_of_lt_of_le (by have := World.block_lt_of_cell? _ _ hw157_0; first | rwa [add_block] at this | exact this) GW160.out) | (rw [add_block]; exact Nat.ne_of_lt (Nat.lt_of_lt_of_le (by have := World.block_lt_of_cell? _ _ hw157_0; first | rwa [add_block] at this | exact this) GW160.out)) | (show (Addr.add _ _).block ≠ _; rw [add_block]; exact Nat.ne_of_lt (Nat.lt_of_lt_of_le (by have := World.block_lt_of_cell? _ _ hw157_0; first | rwa [add_block] at this | exact this) GW160.out)) | (dsimp only; exact Nat.ne_of_lt (Nat.lt_of_lt_of_le (by have := World.block_lt_of_cell? _ _ hw157_0; first | rwa [add_block] at this | exact this) GW160.out))) _).trans (((cell_far (p := ⟨gb160, _, none⟩) (by first | exact Nat.ne_of_lt (Nat.lt_of_lt_of_le (by have := World.block_lt_of_cell? _ _ hw157_0; first | rwa [add_block] at this | exact this) GW160.out) | (rw [add_block]; exact Nat.ne_of_lt (Nat.lt_of_lt_of_le (by have := World.block_lt_of_cell? _ _ hw157_0; first | rwa [add_block] at this | exact this) GW160.out)) | (show (Addr.add _ _).block ≠ _; rw [add_block]; exact Nat.ne_of_lt (Nat.lt_of_lt_of_le (by have := World.block_lt_of_cell? _ _ hw157_0; first | rwa [add_block] at this | exact this) GW160.out)) | (dsimp only; exact Nat.ne_of_lt (Nat.lt_of_lt_of_le (by have := World.block_lt_of_cell? _ _ hw157_0; first | rwa [add_block] at this | exact this) GW160.out))) _).trans (((cell_far (p := ⟨gb160, _, none⟩) (by first | exact Nat.ne_of_lt (Nat.lt_of_lt_of_le (by have := World.block_lt_of_cell? _ _ hw157_0; first | rwa [add_block] at this | exact this) GW160.out) | (rw [add_block]; exact Nat.ne_of_lt (Nat.lt_of_lt_of_le (by have := World.block_lt_of_cell? _ _ hw157_0; first | rwa [add_block] at this | exact this) GW160.out)) | (show (Addr.add _ _).block ≠ _; rw [add_block]; exact Nat.ne_of_lt (Nat.lt_of_lt_of_le (by have := World.block_lt_of_cell? _ _ hw157_0; first | rwa [add_block] at this | exact this) GW160.out)) | (dsimp only; exact Nat.ne_of_lt (Nat.lt_of_lt_of_le (by have := World.block_lt_of_cell? _ _ hw157_0; first | rwa [add_block] at this | exact this) GW160.out))) _).trans (((cell_far (p := ⟨gb160, _, none⟩) (by first | exact Nat.ne_of_lt (Nat.lt_of_lt_of_le (by have := World.block_lt_of_cell? _ _ hw157_0; first | rwa [add_block] at this | exact this) GW160.out) | (rw [add_block]; exact Nat.ne_of_lt (Nat.lt_of_lt_of_le (by have := World.block_lt_of_cell? _ _ hw157_0; first | rwa [add_block] at this | exact this) GW160.out)) | (show (Addr.add _ _).block ≠ _; rw [add_block]; exact Nat.ne_of_lt (Nat.lt_of_lt_of_le (by have := World.block_lt_of_cell? _ _ hw157_0; first | rwa [add_block] at this | exact this) GW160.out)) | (dsimp only; exact Nat.ne_of_lt (Nat.lt_of_lt_of_le (by have := World.block_lt_of_cell? _ _ hw157_0; first | rwa [add_block] at this | exact this) GW160.out))) _).trans (hHeld.2.2.2.2.2.2.2.2.2.1)))))))), ((cell_far (p := ⟨gb160, _, none⟩) (by first | exact Nat.ne_of_lt (Nat.lt_of_lt_of_le (by have := World.block_lt_of_cell? _ _ hw157_1; first | rwa [add_block] at this | exact this) GW160.out) | (rw [add_block]; exact Nat.ne_of_lt (Nat.lt_of_lt_of_le (by have := World.block_lt_of_cell? _ _ hw157_1; first | rwa [add_block] at this | exact this) GW160.out)) | (show (Addr.add _ _).block ≠ _; rw [add_block]; exact Nat.ne_of_lt (Nat.lt_of_lt_of_le (by have := World.block_lt_of_cell? _ _ hw157_1; first | rwa [add_block] at this | exact this) GW160.out)) | (dsimp only; exact Nat.ne_of_lt (Nat.lt_of_lt_of_le (by have := World.block_lt_of_cell? _ _ hw157_1; first | rwa [add_block] at this | exact this) GW160.out))) _).trans (((cell_far (p := ⟨gb160, _, none⟩) (by first | exact Nat.ne_of_lt (Nat.lt_of_lt_of_le (by have := World.block_lt_of_cell? _ _ hw157_1; first | rwa [add_block] at this | exact this) GW160.out) | (rw [add_block]; exact Nat.ne_of_lt (Nat.lt_of_lt_of_le (by have := World.block_lt_of_cell? _ _ hw157_1; first | rwa [add_block] at this | exact this) GW160.out)) | (show (Addr.add _ _).block ≠ _; rw [add_block]; exact Nat.ne_of_lt (Nat.lt_of_lt_of_le (by have := World.block_lt_of_cell? _ _ hw157_1; first | rwa [add_block] at this | exact this) GW160.out)) | (dsimp only; exact Nat.ne_of_lt (Nat.lt_of_lt_of_le (by have := World.block_lt_of_cell? _ _ hw157_1; first | rwa [add_block] at this | exact this) GW160.out))) _).trans (((cell_far (p := ⟨gb160, _, none⟩) (by first | exact Nat.ne_of_lt (Nat.lt_of_lt_of_le (by have := World.block_lt_of_cell? _ _ hw157_1; first | rwa [add_block] at this | exact this) GW160.out) | (rw [add_block]; exact Nat.ne_of_lt (Nat.lt_of_lt_of_le (by have := World.block_lt_of_cell? _ _ hw157_1; first | rwa [add_block] at this | exact this) GW160.out)) | (show (Addr.add _ _).block ≠ _; rw [add_block]; exact Nat.ne_of_lt (Nat.lt_of_lt_of_le (by have := World.block_lt_of_cell? _ _ hw157_1; first | rwa [add_block] at this | exact this) GW160.out)) | (dsimp only; exact Nat.ne_of_lt (Nat.lt_of_lt_of_le (by have := World.block_lt_of_cell? _ _ hw157_1; first | rwa [add_block] at this | exact this) GW160.out))) _).trans (((cell_far (p := ⟨gb160, _, none⟩) (by first | exact Nat.ne_of_lt (Nat.lt_of_lt_of_le (by have := World.block_lt_of_cell? _ _ hw157_1; first | rwa [add_block] at this | exact this) GW160.out) | (rw [add_block]; exact Nat.ne_of_lt (Nat.lt_of_lt_of_le (by have := World.block_lt_of_cell? _ _ hw157_1; first | rwa [add_block] at this | exact this) GW160.out)) | (show (Addr.add _ _).block ≠ _; rw [add_block]; exact Nat.ne_of_lt (Nat.lt_of_lt_of_le (by have := World.block_lt_of_cell? _ _ hw157_1; first | rwa [add_block] at this | exact this) GW160.out)) | (dsimp only; exact Nat.ne_of_lt (Nat.lt_of_lt_of_le (by have := World.block_lt_of_cell? _ _ hw157_1; first | rwa [add_block] at this | exact this) GW160.out))) _).trans (hHeld.2.2.2.2.2.2.2.2.2.2.1)))))))), ((cell_far (p := ⟨gb160, _, none⟩) (by first | exact Nat.ne_of_lt (Nat.lt_of_lt_of_le (by have := World.block_lt_of_cell? _ _ hw157_2; first | rwa [add_block] at this | exact this) GW160.out) | (rw [add_block]; exact Nat.ne_of_lt (Nat.lt_of_lt_of_le (by have := World.block_lt_of_cell? _ _ hw157_2; first | rwa [add_block] at this | exact this) GW160.out)) | (show (Addr.add _ _).block ≠ _; rw [add_block]; exact Nat.ne_of_lt (Nat.lt_of_lt_of_le (by have := World.block_lt_of_cell? _ _ hw157_2; first | rwa [add_block] at this | exact this) GW160.out)) | (dsimp only; exact Nat.ne_of_lt (Nat.lt_of_lt_of_le (by have := World.block_lt_of_cell? _ _ hw157_2; first | rwa [add_block] at this | exact this) GW160.out))) _).trans (((cell_far (p := ⟨gb160, _, none⟩) (by first | exact Nat.ne_of_lt (Nat.lt_of_lt_of_le (by have := World.block_lt_of_cell? _ _ hw157_2; first | rwa [add_block] at this | exact this) GW160.out) | (rw [add_block]; exact Nat.ne_of_lt (Nat.lt_of_lt_of_le (by have := World.block_lt_of_cell? _ _ hw157_2; first | rwa [add_block] at this | exact this) GW160.out)) | (show (Addr.add _ _).block ≠ _; rw [add_block]; exact Nat.ne_of_lt (Nat.lt_of_lt_of_le (by have := World.block_lt_of_cell? _ _ hw157_2; first | rwa [add_block] at this | exact this) GW160.out)) | (dsimp only; exact Nat.ne_of_lt (Nat.lt_of_lt_of_le (by have := World.block_lt_of_cell? _ _ hw157_2; first | rwa [add_block] at this | exact this) GW160.out))) _).trans (((cell_far (p := ⟨gb160, _, none⟩) (by first | exact Nat.ne_of_lt (Nat.lt_of_lt_of_le (by have := World.block_lt_of_cell? _ _ hw157_2; first | rwa [add_block] at this | exact this) GW160.out) | (rw [add_block]; exact Nat.ne_of_lt (Nat.lt_of_lt_of_le (by have := World.block_lt_of_cell? _ _ hw157_2; first | rwa [add_block] at this | exact this) GW160.out)) | (show (Addr.add _ _).block ≠ _; rw [add_block]; exact Nat.ne_of_lt (Nat.lt_of_lt_of_le (by have := World.block_lt_of_cell? _ _ hw157_2; first | rwa [add_block] at this | exact this) GW160.out)) | (dsimp only; exact Nat.ne_of_lt (Nat.lt_of_lt_of_le (by have := World.block_lt_of_cell? _ _ hw157_2; first | rwa [add_block] at this | exact this) GW160.out))) _).trans (((cell_far (p := ⟨gb160, _, none⟩) (by first | exact Nat.ne_of_lt (Nat.lt_of_lt_of_le (by have := World.block_lt_of_cell? _ _ hw157_2; first | rwa [add_block] at this | exact this) GW160.out) | (rw [add_block]; exact Nat.ne_of_lt (Nat.lt_of_lt_of_le (by have := World.block_lt_of_cell? _ _ hw157_2; first | rwa [add_block] at this | exact this) GW160.out)) | (show (Addr.add _ _).block ≠ _; rw [add_block]; exact Nat.ne_of_lt (Nat.lt_of_lt_of_le (by have := World.block_lt_of_cell? _ _ hw157_2; first | rwa [add_block] at this | exact this) GW160.out)) | (dsimp only; exact Nat.ne_of_lt (Nat.lt_of_lt_of_le (by have := World.block_lt_of_cell? _ _ hw157_2; first | rwa [add_block] at this | exact this) GW160.out))) _).trans (hHeld.2.2.2.2.2.2.2.2.2.2.2.1)))))))), ((cell_far (p := ⟨gb160, _, none⟩) (by first | exact Nat.ne_of_lt (Nat.lt_of_lt_of_le (by have := World.block_lt_of_cell? _ _ hw157_3; first | rwa [add_block] at this | exact this) GW160.out) | (rw [add_block]; exact Nat.ne_of_lt (Nat.lt_of_lt_of_le (by have := World.block_lt_of_cell? _ _ hw157_3; first | rwa [add_block] at this | exact this) GW160.out)) | (show (Addr.add _ _).block ≠ _; rw [add_block]; exact Nat.ne_of_lt (Nat.lt_of_lt_of_le (by have := World.block_lt_of_cell? _ _ hw157_3; first | rwa [add_block] at this | exact this) GW160.out)) | (dsimp only; exact Nat.ne_of_lt (Nat.lt_of_lt_of_le (by have := World.block_lt_of_cell? _ _ hw157_3; first | rwa [add_block] at this | exact this) GW160.out))) _).trans (((cell_far (p := ⟨gb160, _, none⟩) (by first | exact Nat.ne_of_lt (Nat.lt_of_lt_of_le (by have := World.block_lt_of_cell? _ _ hw157_3; first | rwa [add_block] at this | exact this) GW160.out) | (rw [add_block]; exact Nat.ne_of_lt (Nat.lt_of_lt_of_le (by have := World.block_lt_of_cell? _ _ hw157_3; first | rwa [add_block] at this | exact this) GW160.out)) | (show (Addr.add _ _).block ≠ _; rw [add_block]; exact Nat.ne_of_lt (Nat.lt_of_lt_of_le (by have := World.block_lt_of_cell? _ _ hw157_3; first | rwa [add_block] at this | exact this) GW160.out)) | (dsimp only; exact Nat.ne_of_lt (Nat.lt_of_lt_of_le (by have := World.block_lt_of_cell? _ _ hw157_3; first | rwa [add_block] at this | exact this) GW160.out))) _).trans (((cell_far (p := ⟨gb160, _, none⟩) (by first | exact Nat.ne_of_lt (Nat.lt_of_lt_of_le (by have := World.block_lt_of_cell? _ _ hw157_3; first | rwa [add_block] at this | exact this) GW160.out) | (rw [add_block]; exact Nat.ne_of_lt (Nat.lt_of_lt_of_le (by have := World.block_lt_of_cell? _ _ hw157_3; first | rwa [add_block] at this | exact this) GW160.out)) | (show (Addr.add _ _).block ≠ _; rw [add_block]; exact Nat.ne_of_lt (Nat.lt_of_lt_of_le (by have := World.block_lt_of_cell? _ _ hw157_3; first | rwa [add_block] at this | exact this) GW160.out)) | (dsimp only; exact Nat.ne_of_lt (Nat.lt_of_lt_of_le (by have := World.block_lt_of_cell? _ _ hw157_3; first | rwa [add_block] at this | exact this) GW160.out))) _).trans (((cell_far (p := ⟨gb160, _, none⟩) (by first | exact Nat.ne_of_lt (Nat.lt_of_lt_of_le (by have := World.block_lt_of_cell? _ _ hw157_3; first | rwa [add_block] at this | exact this) GW160.out) | (rw [add_block]; exact Nat.ne_of_lt (Nat.lt_of_lt_of_le (by have := World.block_lt_of_cell? _ _ hw157_3; first | rwa [add_block] at this | exact this) GW160.out)) | (show (Addr.add _ _).block ≠ _; rw [add_block]; exact Nat.ne_of_lt (Nat.lt_of_lt_of_le (by have := World.block_lt_of_cell? _ _ hw157_3; first | rwa [add_block] at this | exact this) GW160.out)) | (dsimp only; exact Nat.ne_of_lt (Nat.lt_of_lt_of_le (by have := World.block_lt_of_cell? _ _ hw157_3; first | rwa [add_block] at this | exact this) GW160.out))) _).trans (hHeld.2.2.2.2.2.2.2.2.2.2.2.2.1)))))))), ((cell_far (p := ⟨gb160, _, none⟩) (by first | exact Nat.ne_of_lt (Nat.lt_of_lt_of_le (by have := World.block_lt_of_cell? _ _ hw158_0; first | rwa [add_block] at this | exact this) GW160.out) | (rw [add_block]; exact Nat.ne_of_lt (Nat.lt_of_lt_of_le (by have := World.block_lt_of_cell? _ _ hw158_0; first | rwa [add_block] at this | exact this) GW160.out)) | (show (Addr.add _ _).block ≠ _; rw [add_block]; exact Nat.ne_of_lt (Nat.lt_of_lt_of_le (by have := World.block_lt_of_cell? _ _ hw158_0; first | rwa [add_block] at this | exact this) GW160.out)) | (dsimp only; exact Nat.ne_of_lt (Nat.lt_of_lt_of_le (by have := World.block_lt_of_cell? _ _ hw158_0; first | rwa [add_block] at this | exact this) GW160.out))) _).trans (((cell_far (p := ⟨gb160, _, none⟩) (by first | exact Nat.ne_of_lt (Nat.lt_of_lt_of_le (by have := World.block_lt_of_cell? _ _ hw158_0; first | rwa [add_block] at this | exact this) GW160.out) | (rw [add_block]; exact Nat.ne_of_lt (Nat.lt_of_lt_of_le (by have := World.block_lt_of_cell? _ _ hw158_0; first | rwa [add_block] at this | exact this) GW160.out)) | (show (Addr.add _ _).block ≠ _; rw [add_block]; exact Nat.ne_of_lt (Nat.lt_of_lt_of_le (by have := World.block_lt_of_cell? _ _ hw158_0; first | rwa [add_block] at this | exact this) GW160.out)) | (dsimp only; exact Nat.ne_of_lt (Nat.lt_of_lt_of_le (by have := World.block_lt_of_cell? _ _ hw158_0; first | rwa [add_block] at this | exact this) GW160.out))) _).trans (((cell_far (p := ⟨gb160, _, none⟩) (by first | exact Nat.ne_of_lt (Nat.lt_of_lt_of_le (by have := World.block_lt_of_cell? _ _ hw158_0; first | rwa [add_block] at this | exact this) GW160.out) | (rw [add_block]; exact Nat.ne_of_lt (Nat.lt_of_lt_of_le (by have := World.block_lt_of_cell? _ _ hw158_0; first | rwa [add_block] at this | exact this) GW160.out)) | (show (Addr.add _ _).block ≠ _; rw [add_block]; exact Nat.ne_of_lt (Nat.lt_of_lt_of_le (by have := World.block_lt_of_cell? _ _ hw158_0; first | rwa [add_block] at this | exact this) GW160.out)) | (dsimp only; exact Nat.ne_of_lt (Nat.lt_of_lt_of_le (by have := World.block_lt_of_cell? _ _ hw158_0; first | rwa [add_block] at this | exact this) GW160.out))) _).trans (((cell_far (p := ⟨gb160, _, none⟩) (by first | exact Nat.ne_of_lt (Nat.lt_of_lt_of_le (by have := World.block_lt_of_cell? _ _ hw158_0; first | rwa [add_block] at this | exact this) GW160.out) | (rw [add_block]; exact Nat.ne_of_lt (Nat.lt_of_lt_of_le (by have := World.block_lt_of_cell? _ _ hw158_0; first | rwa [add_block] at this | exact this) GW160.out)) | (show (Addr.add _ _).block ≠ _; rw [add_block]; exact Nat.ne_of_lt (Nat.lt_of_lt_of_le (by have := World.block_lt_of_cell? _ _ hw158_0; first | rwa [add_block] at this | exact this) GW160.out)) | (dsimp only; exact Nat.ne_of_lt (Nat.lt_of_lt_of_le (by have := World.block_lt_of_cell? _ _ hw158_0; first | rwa [add_block] at this | exact this) GW160.out))) _).trans (hHeld.2.2.2.2.2.2.2.2.2.2.2.2.2.1)))))))), ((cell_far (p := ⟨gb160, _, none⟩) (by first | exact Nat.ne_of_lt (Nat.lt_of_lt_of_le (by have := World.block_lt_of_cell? _ _ hw158_1; first | rwa [add_block] at this | exact this) GW160.out) | (rw [add_block]; exact Nat.ne_of_lt (Nat.lt_of_lt_of_le (by have := World.block_lt_of_cell? _ _ hw158_1; first | rwa [add_block] at this | exact this) GW160.out)) | (show (Addr.add _ _).block ≠ _; rw [add_block]; exact Nat.ne_of_lt (Nat.lt_of_lt_of_le (by have := World.block_lt_of_cell? _ _ hw158_1; first | rwa [add_block] at this | exact this) GW160.out)) | (dsimp only; exact Nat.ne_of_lt (Nat.lt_of_lt_of_le (by have := World.block_lt_of_cell? _ _ hw158_1; first | rwa [add_block] at this | exact this) GW160.out))) _).trans (((cell_far (p := ⟨gb160, _, none⟩) (by first | exact Nat.ne_of_lt (Nat.lt_of_lt_of_le (by have := World.block_lt_of_cell? _ _ hw158_1; first | rwa [add_block] at this | exact this) GW160.out) | (rw [add_block]; exact Nat.ne_of_lt (Nat.lt_of_lt_of_le (by have := World.block_lt_of_cell? _ _ hw158_1; first | rwa [add_block] at this | exact this) GW160.out)) | (show (Addr.add _ _).block ≠ _; rw [add_block]; exact Nat.ne_of_lt (Nat.lt_of_lt_of_le (by have := World.block_lt_of_cell? _ _ hw158_1; first | rwa [add_block] at this | exact this) GW160.out)) | (dsimp only; exact Nat.ne_of_lt (Nat.lt_of_lt_of_le (by have := World.block_lt_of_cell? _ _ hw158_1; first | rwa [add_block] at this | exact this) GW160.out))) _).trans (((cell_far (p := ⟨gb160, _, none⟩) (by first | exact Nat.ne_of_lt (Nat.lt_of_lt_of_le (by have := World.block_lt_of_cell? _ _ hw158_1; first | rwa [add_block] at this | exact this) GW160.out) | (rw [add_block]; exact Nat.ne_of_lt (Nat.lt_of_lt_of_le (by have := World.block_lt_of_cell? _ _ hw158_1; first | rwa [add_block] at this | exact this) GW160.out)) | (show (Addr.add _ _).block ≠ _; rw [add_block]; exact Nat.ne_of_lt (Nat.lt_of_lt_of_le (by have := World.block_lt_of_cell? _ _ hw158_1; first | rwa [add_block] at this | exact this) GW160.out)) | (dsimp only; exact Nat.ne_of_lt (Nat.lt_of_lt_of_le (by have := World.block_lt_of_cell? _ _ hw158_1; first | rwa [add_block] at this | exact this) GW160.out))) _).trans (((cell_far (p := ⟨gb160, _, none⟩) (by first | exact Nat.ne_of_lt (Nat.lt_of_lt_of_le (by have := World.block_lt_of_cell? _ _ hw158_1; first | rwa [add_block] at this | exact this) GW160.out) | (rw [add_block]; exact Nat.ne_of_lt (Nat.lt_of_lt_of_le (by have := World.block_lt_of_cell? _ _ hw158_1; first | rwa [add_block] at this | exact this) GW160.out)) | (show (Addr.add _ _).block ≠ _; rw [add_block]; exact Nat.ne_of_lt (Nat.lt_of_lt_of_le (by have := World.block_lt_of_cell? _ _ hw158_1; first | rwa [add_block] at this | exact this) GW160.out)) | (dsimp only; exact Nat.ne_of_lt (Nat.lt_of_lt_of_le (by have := World.block_lt_of_cell? _ _ hw158_1; first | rwa [add_block] at this | exact this) GW160.out))) _).trans (hHeld.2.2.2.2.2.2.2.2.2.2.2.2.2.2.1)))))))), ((cell_far (p := ⟨gb160, _, none⟩) (by first | exact Nat.ne_of_lt (Nat.lt_of_lt_of_le (by have := World.block_lt_of_cell? _ _ hw158_2; first | rwa [add_block] at this | exact this) GW160.out) | (rw [add_block]; exact Nat.ne_of_lt (Nat.lt_of_lt_of_le (by have := World.block_lt_of_cell? _ _ hw158_2; first | rwa [add_block] at this | exact this) GW160.out)) | (show (Addr.add _ _).block ≠ _; rw [add_block]; exact Nat.ne_of_lt (Nat.lt_of_lt_of_le (by have := World.block_lt_of_cell? _ _ hw158_2; first | rwa [add_block] at this | exact this) GW160.out)) | (dsimp only; exact Nat.ne_of_lt (Nat.lt_of_lt_of_le (by have := World.block_lt_of_cell? _ _ hw158_2; first | rwa [add_block] at this | exact this) GW160.out))) _).trans (((cell_far (p := ⟨gb160, _, none⟩) (by first | exact Nat.ne_of_lt (Nat.lt_of_lt_of_le (by have := World.block_lt_of_cell? _ _ hw158_2; first | rwa [add_block] at this | exact this) GW160.out) | (rw [add_block]; exact Nat.ne_of_lt (Nat.lt_of_lt_of_le (by have := World.block_lt_of_cell? _ _ hw158_2; first | rwa [add_block] at this | exact this) GW160.out)) | (show (Addr.add _ _).block ≠ _; rw [add_block]; exact Nat.ne_of_lt (Nat.lt_of_lt_of_le (by have := World.block_lt_of_cell? _ _ hw158_2; first | rwa [add_block] at this | exact this) GW160.out)) | (dsimp only; exact Nat.ne_of_lt (Nat.lt_of_lt_of_le (by have := World.block_lt_of_cell? _ _ hw158_2; first | rwa [add_block] at this | exact this) GW160.out))) _).trans (((cell_far (p := ⟨gb160, _, none⟩) (by first | exact Nat.ne_of_lt (Nat.lt_of_lt_of_le (by have := World.block_lt_of_cell? _ _ hw158_2; first | rwa [add_block] at this | exact this) GW160.out) | (rw [add_block]; exact Nat.ne_of_lt (Nat.lt_of_lt_of_le (by have := World.block_lt_of_cell? _ _ hw158_2; first | rwa [add_block] at this | exact this) GW160.out)) | (show (Addr.add _ _).block ≠ _; rw [add_block]; exact Nat.ne_of_lt (Nat.lt_of_lt_of_le (by have := World.block_lt_of_cell? _ _ hw158_2; first | rwa [add_block] at this | exact this) GW160.out)) | (dsimp only; exact Nat.ne_of_lt (Nat.lt_of_lt_of_le (by have := World.block_lt_of_cell? _ _ hw158_2; first | rwa [add_block] at this | exact this) GW160.out))) _).trans (((cell_far (p := ⟨gb160, _, none⟩) (by first | exact Nat.ne_of_lt (Nat.lt_of_lt_of_le (by have := World.block_lt_of_cell? _ _ hw158_2; first | rwa [add_block] at this | exact this) GW160.out) | (rw [add_block]; exact Nat.ne_of_lt (Nat.lt_of_lt_of_le (by have := World.block_lt_of_cell? _ _ hw158_2; first | rwa [add_block] at this | exact this) GW160.out)) | (show (Addr.add _ _).block ≠ _; rw [add_block]; exact Nat.ne_of_lt (Nat.lt_of_lt_of_le (by have := World.block_lt_of_cell? _ _ hw158_2; first | rwa [add_block] at this | exact this) GW160.out)) | (dsimp only; exact Nat.ne_of_lt (Nat.lt_of_lt_of_le (by have := World.block_lt_of_cell? _ _ hw158_2; first | rwa [add_block] at this | exact this) GW160.out))) _).trans (hHeld.2.2.2.2.2.2.2.2.2.2.2.2.2.2.2.1)))))))), ((cell_far (p := ⟨gb160, _, none⟩) (by first | exact Nat.ne_of_lt (Nat.lt_of_lt_of_le (by have := World.block_lt_of_cell? _ _ hw158_3; first | rwa [add_block] at this | exact this) GW160.out) | (rw [add_block]; exact Nat.ne_of_lt (Nat.lt_of_lt_of_le (by have := World.block_lt_of_cell? _ _ hw158_3; first | rwa [add_block] at this | exact this) GW160.out)) | (show (Addr.add _ _).block ≠ _; rw [add_block]; exact Nat.ne_of_lt (Nat.lt_of_lt_of_le (by have := World.block_lt_of_cell? _ _ hw158_3; first | rwa [add_block] at this | exact this) GW160.out)) | (dsimp only; exact Nat.ne_of_lt (Nat.lt_of_lt_of_le (by have := World.block_lt_of_cell? _ _ hw158_3; first | rwa [add_block] at this | exact this) GW160.out))) _).trans (((cell_far (p := ⟨gb160, _, none⟩) (by first | exact Nat.ne_of_lt (Nat.lt_of_lt_of_le (by have := World.block_lt_of_cell? _ _ hw158_3; first | rwa [add_block] at this | exact this) GW160.out) | (rw [add_block]; exact Nat.ne_of_lt (Nat.lt_of_lt_of_le (by have := World.block_lt_of_cell? _ _ hw158_3; first | rwa [add_block] at this | exact this) GW160.out)) | (show (Addr.add _ _).block ≠ _; rw [add_block]; exact Nat.ne_of_lt (Nat.lt_of_lt_of_le (by have := World.block_lt_of_cell? _ _ hw158_3; first | rwa [add_block] at this | exact this) GW160.out)) | (dsimp only; exact Nat.ne_of_lt (Nat.lt_of_lt_of_le (by have := World.block_lt_of_cell? _ _ hw158_3; first | rwa [add_block] at this | exact this) GW160.out))) _).trans (((cell_far (p := ⟨gb160, _, none⟩) (by first | exact Nat.ne_of_lt (Nat.lt_of_lt_of_le (by have := World.block_lt_of_cell? _ _ hw158_3; first | rwa [add_block] at this | exact this) GW160.out) | (rw [add_block]; exact Nat.ne_of_lt (Nat.lt_of_lt_of_le (by have := World.block_lt_of_cell? _ _ hw158_3; first | rwa [add_block] at this | exact this) GW160.out)) | (show (Addr.add _ _).block ≠ _; rw [add_block]; exact Nat.ne_of_lt (Nat.lt_of_lt_of_le (by have := World.block_lt_of_cell? _ _ hw158_3; first | rwa [add_block] at this | exact this) GW160.out)) | (dsimp only; exact Nat.ne_of_lt (Nat.lt_of_lt_of_le (by have := World.block_lt_of_cell? _ _ hw158_3; first | rwa [add_block] at this | exact this) GW160.out))) _).trans (((cell_far (p := ⟨gb160, _, none⟩) (by first | exact Nat.ne_of_lt (Nat.lt_of_lt_of_le (by have := World.block_lt_of_cell? _ _ hw158_3; first | rwa [add_block] at this | exact this) GW160.out) | (rw [add_block]; exact Nat.ne_of_lt (Nat.lt_of_lt_of_le (by have := World.block_lt_of_cell? _ _ hw158_3; first | rwa [add_block] at this | exact this) GW160.out)) | (show (Addr.add _ _).block ≠ _; rw [add_block]; exact Nat.ne_of_lt (Nat.lt_of_lt_of_le (by have := World.block_lt_of_cell? _ _ hw158_3; first | rwa [add_block] at this | exact this) GW160.out)) | (dsimp only; exact Nat.ne_of_lt (Nat.lt_of_lt_of_le (by have := World.block_lt_of_cell? _ _ hw158_3; first | rwa [add_block] at this | exact this) GW160.out))) _).trans (hHeld.2.2.2.2.2.2.2.2.2.2.2.2.2.2.2.2.1)))))))), ((cell_far (p := ⟨gb160, _, none⟩) (by first | exact Nat.ne_of_lt (Nat.lt_of_lt_of_le (by have := World.block_lt_of_cell? _ _ hw159_0; first | rwa [add_block] at this | exact this) GW160.out) | (rw [add_block]; exact Nat.ne_of_lt (Nat.lt_of_lt_of_le (by have := World.block_lt_of_cell? _ _ hw159_0; first | rwa [add_block] at this | exact this) GW160.out)) | (show (Addr.add _ _).block ≠ _; rw [add_block]; exact Nat.ne_of_lt (Nat.lt_of_lt_of_le (by have := World.block_lt_of_cell? _ _ hw159_0; first | rwa [add_block] at this | exact this) GW160.out)) | (dsimp only; exact Nat.ne_of_lt (Nat.lt_of_lt_of_le (by have := World.block_lt_of_cell? _ _ hw159_0; first | rwa [add_block] at this | exact this) GW160.out))) _).trans (((cell_far (p := ⟨gb160, _, none⟩) (by first | exact Nat.ne_of_lt (Nat.lt_of_lt_of_le (by have := World.block_lt_of_cell? _ _ hw159_0; first | rwa [add_block] at this | exact this) GW160.out) | (rw [add_block]; exact Nat.ne_of_lt (Nat.lt_of_lt_of_le (by have := World.block_lt_of_cell? _ _ hw159_0; first | rwa [add_block] at this | exact this) GW160.out)) | (show (Addr.add _ _).block ≠ _; rw [add_block]; exact Nat.ne_of_lt (Nat.lt_of_lt_of_le (by have := World.block_lt_of_cell? _ _ hw159_0; first | rwa [add_block] at this | exact this) GW160.out)) | (dsimp only; exact Nat.ne_of_lt (Nat.lt_of_lt_of_le (by have := World.block_lt_of_cell? _ _ hw159_0; first | rwa [add_block] at this | exact this) GW160.out))) _).trans (((cell_far (p := ⟨gb160, _, none⟩) (by first | exact Nat.ne_of_lt (Nat.lt_of_lt_of_le (by have := World.block_lt_of_cell? _ _ hw159_0; first | rwa [add_block] at this | exact this) GW160.out) | (rw [add_block]; exact Nat.ne_of_lt (Nat.lt_of_lt_of_le (by have := World.block_lt_of_cell? _ _ hw159_0; first | rwa [add_block] at this | exact this) GW160.out)) | (show (Addr.add _ _).block ≠ _; rw [add_block]; exact Nat.ne_of_lt (Nat.lt_of_lt_of_le (by have := World.block_lt_of_cell? _ _ hw159_0; first | rwa [add_block] at this | exact this) GW160.out)) | (dsimp only; exact Nat.ne_of_lt (Nat.lt_of_lt_of_le (by have := World.block_lt_of_cell? _ _ hw159_0; first | rwa [add_block] at this | exact this) GW160.out))) _).trans (((cell_far (p := ⟨gb160, _, none⟩) (by first | exact Nat.ne_of_lt (Nat.lt_of_lt_of_le (by have := World.block_lt_of_cell? _ _ hw159_0; first | rwa [add_block] at this | exact this) GW160.out) | (rw [add_block]; exact Nat.ne_of_lt (Nat.lt_of_lt_of_le (by have := World.block_lt_of_cell? _ _ hw159_0; first | rwa [add_block] at this | exact this) GW160.out)) | (show (Addr.add _ _).block ≠ _; rw [add_block]; exact Nat.ne_of_lt (Nat.lt_of_lt_of_le (by have := World.block_lt_of_cell? _ _ hw159_0; first | rwa [add_block] at this | exact this) GW160.out)) | (dsimp only; exact Nat.ne_of_lt (Nat.lt_of_lt_of_le (by have := World.block_lt_of_cell? _ _ hw159_0; first | rwa [add_block] at this | exact this) GW160.out))) _).trans (hHeld.2.2.2.2.2.2.2.2.2.2.2.2.2.2.2.2.2.1)))))))), ((cell_far (p := ⟨gb160, _, none⟩) (by first | exact Nat.ne_of_lt (Nat.lt_of_lt_of_le (by have := World.block_lt_of_cell? _ _ hw159_1; first | rwa [add_block] at this | exact this) GW160.out) | (rw [add_block]; exact Nat.ne_of_lt (Nat.lt_of_lt_of_le (by have := World.block_lt_of_cell? _ _ hw159_1; first | rwa [add_block] at this | exact this) GW160.out)) | (show (Addr.add _ _).block ≠ _; rw [add_block]; exact Nat.ne_of_lt (Nat.lt_of_lt_of_le (by have := World.block_lt_of_cell? _ _ hw159_1; first | rwa [add_block] at this | exact this) GW160.out)) | (dsimp only; exact Nat.ne_of_lt (Nat.lt_of_lt_of_le (by have := World.block_lt_of_cell? _ _ hw159_1; first | rwa [add_block] at this | exact this) GW160.out))) _).trans (((cell_far (p := ⟨gb160, _, none⟩) (by first | exact Nat.ne_of_lt (Nat.lt_of_lt_of_le (by have := World.block_lt_of_cell? _ _ hw159_1; first | rwa [add_block] at this | exact this) GW160.out) | (rw [add_block]; exact Nat.ne_of_lt (Nat.lt_of_lt_of_le (by have := World.block_lt_of_cell? _ _ hw159_1; first | rwa [add_block] at this | exact this) GW160.out)) | (show (Addr.add _ _).block ≠ _; rw [add_block]; exact Nat.ne_of_lt (Nat.lt_of_lt_of_le (by have := World.block_lt_of_cell? _ _ hw159_1; first | rwa [add_block] at this | exact this) GW160.out)) | (dsimp only; exact Nat.ne_of_lt (Nat.lt_of_lt_of_le (by have := World.block_lt_of_cell? _ _ hw159_1; first | rwa [add_block] at this | exact this) GW160.out))) _).trans (((cell_far (p := ⟨gb160, _, none⟩) (by first | exact Nat.ne_of_lt (Nat.lt_of_lt_of_le (by have := World.block_lt_of_cell? _ _ hw159_1; first | rwa [add_block] at this | exact this) GW160.out) | (rw [add_block]; exact Nat.ne_of_lt (Nat.lt_of_lt_of_le (by have := World.block_lt_of_cell? _ _ hw159_1; first | rwa [add_block] at this | exact this) GW160.out)) | (show (Addr.add _ _).block ≠ _; rw [add_block]; exact Nat.ne_of_lt (Nat.lt_of_lt_of_le (by have := World.block_lt_of_cell? _ _ hw159_1; first | rwa [add_block] at this | exact this) GW160.out)) | (dsimp only; exact Nat.ne_of_lt (Nat.lt_of_lt_of_le (by have := World.block_lt_of_cell? _ _ hw159_1; first | rwa [add_block] at this | exact this) GW160.out))) _).trans (((cell_far (p := ⟨gb160, _, none⟩) (by first | exact Nat.ne_of_lt (Nat.lt_of_lt_of_le (by have := World.block_lt_of_cell? _ _ hw159_1; first | rwa [add_block] at this | exact this) GW160.out) | (rw [add_block]; exact Nat.ne_of_lt (Nat.lt_of_lt_of_le (by have := World.block_lt_of_cell? _ _ hw159_1; first | rwa [add_block] at this | exact this) GW160.out)) | (show (Addr.add _ _).block ≠ _; rw [add_block]; exact Nat.ne_of_lt (Nat.lt_of_lt_of_le (by have := World.block_lt_of_cell? _ _ hw159_1; first | rwa [add_block] at this | exact this) GW160.out)) | (dsimp only; exact Nat.ne_of_lt (Nat.lt_of_lt_of_le (by have := World.block_lt_of_cell? _ _ hw159_1; first | rwa [add_block] at this | exact this) GW160.out))) _).trans (hHeld.2.2.2.2.2.2.2.2.2.2.2.2.2.2.2.2.2.2.1)))))))), ((cell_far (p := ⟨gb160, _, none⟩) (by first | exact Nat.ne_of_lt (Nat.lt_of_lt_of_le (by have := World.block_lt_of_cell? _ _ hw159_2; first | rwa [add_block] at this | exact this) GW160.out) | (rw [add_block]; exact Nat.ne_of_lt (Nat.lt_of_lt_of_le (by have := World.block_lt_of_cell? _ _ hw159_2; first | rwa [add_block] at this | exact this) GW160.out)) | (show (Addr.add _ _).block ≠ _; rw [add_block]; exact Nat.ne_of_lt (Nat.lt_of_lt_of_le (by have := World.block_lt_of_cell? _ _ hw159_2; first | rwa [add_block] at this | exact this) GW160.out)) | (dsimp only; exact Nat.ne_of_lt (Nat.lt_of_lt_of_le (by have := World.block_lt_of_cell? _ _ hw159_2; first | rwa [add_block] at this | exact this) GW160.out))) _).trans (((cell_far (p := ⟨gb160, _, none⟩) (by first | exact Nat.ne_of_lt (Nat.lt_of_lt_of_le (by have := World.block_lt_of_cell? _ _ hw159_2; first | rwa [add_block] at this | exact this) GW160.out) | (rw [add_block]; exact Nat.ne_of_lt (Nat.lt_of_lt_of_le (by have := World.block_lt_of_cell? _ _ hw159_2; first | rwa [add_block] at this | exact this) GW160.out)) | (show (Addr.add _ _).block ≠ _; rw [add_block]; exact Nat.ne_of_lt (Nat.lt_of_lt_of_le (by have := World.block_lt_of_cell? _ _ hw159_2; first | rwa [add_block] at this | exact this) GW160.out)) | (dsimp only; exact Nat.ne_of_lt (Nat.lt_of_lt_of_le (by have := World.block_lt_of_cell? _ _ hw159_2; first | rwa [add_block] at this | exact this) GW160.out))) _).trans (((cell_far (p := ⟨gb160, _, none⟩) (by first | exact Nat.ne_of_lt (Nat.lt_of_lt_of_le (by have := World.block_lt_of_cell? _ _ hw159_2; first | rwa [add_block] at this | exact this) GW160.out) | (rw [add_block]; exact Nat.ne_of_lt (Nat.lt_of_lt_of_le (by have := World.block_lt_of_cell? _ _ hw159_2; first | rwa [add_block] at this | exact this) GW160.out)) | (show (Addr.add _ _).block ≠ _; rw [add_block]; exact Nat.ne_of_lt (Nat.lt_of_lt_of_le (by have := World.block_lt_of_cell? _ _ hw159_2; first | rwa [add_block] at this | exact this) GW160.out)) | (dsimp only; exact Nat.ne_of_lt (Nat.lt_of_lt_of_le (by have := World.block_lt_of_cell? _ _ hw159_2; first | rwa [add_block] at this | exact this) GW160.out))) _).trans (((cell_far (p := ⟨gb160, _, none⟩) (by first | exact Nat.ne_of_lt (Nat.lt_of_lt_of_le (by have := World.block_lt_of_cell? _ _ hw159_2; first | rwa [add_block] at this | exact this) GW160.out) | (rw [add_block]; exact Nat.ne_of_lt (Nat.lt_of_lt_of_le (by have := World.block_lt_of_cell? _ _ hw159_2; first | rwa [add_block] at this | exact this) GW160.out)) | (show (Addr.add _ _).block ≠ _; rw [add_block]; exact Nat.ne_of_lt (Nat.lt_of_lt_of_le (by have := World.block_lt_of_cell? _ _ hw159_2; first | rwa [add_block] at this | exact this) GW160.out)) | (dsimp only; exact Nat.ne_of_lt (Nat.lt_of_lt_of_le (by have := World.block_lt_of_cell? _ _ hw159_2; first | rwa [add_block] at this | exact this) GW160.out))) _).trans (hHeld.2.2.2.2.2.2.2.2.2.2.2.2.2.2.2.2.2.2.2.1)))))))), ((cell_far (p := ⟨gb160, _, none⟩) (by first | exact Nat.ne_of_lt (Nat.lt_of_lt_of_le (by have := World.block_lt_of_cell? _ _ hw159_3; first | rwa [add_block] at this | exact this) GW160.out) | (rw [add_block]; exact Nat.ne_of_lt (Nat.lt_of_lt_of_le (by have := World.block_lt_of_cell? _ _ hw159_3; first | rwa [add_block] at this | exact this) GW160.out)) | (show (Addr.add _ _).block ≠ _; rw [add_block]; exact Nat.ne_of_lt (Nat.lt_of_lt_of_le (by have := World.block_lt_of_cell? _ _ hw159_3; first | rwa [add_block] at this | exact this) GW160.out)) | (dsimp only; exact Nat.ne_of_lt (Nat.lt_of_lt_of_le (by have := World.block_lt_of_cell? _ _ hw159_3; first | rwa [add_block] at this | exact this) GW160.out))) _).trans (((cell_far (p := ⟨gb160, _, none⟩) (by first | exact Nat.ne_of_lt (Nat.lt_of_lt_of_le (by have := World.block_lt_of_cell? _ _ hw159_3; first | rwa [add_block] at this | exact this) GW160.out) | (rw [add_block]; exact Nat.ne_of_lt (Nat.lt_of_lt_of_le (by have := World.block_lt_of_cell? _ _ hw159_3; first | rwa [add_block] at this | exact this) GW160.out)) | (show (Addr.add _ _).block ≠ _; rw [add_block]; exact Nat.ne_of_lt (Nat.lt_of_lt_of_le (by have := World.block_lt_of_cell? _ _ hw159_3; first | rwa [add_block] at this | exact this) GW160.out)) | (dsimp only; exact Nat.ne_of_lt (Nat.lt_of_lt_of_le (by have := World.block_lt_of_cell? _ _ hw159_3; first | rwa [add_block] at this | exact this) GW160.out))) _).trans (((cell_far (p := ⟨gb160, _, none⟩) (by first | exact Nat.ne_of_lt (Nat.lt_of_lt_of_le (by have := World.block_lt_of_cell? _ _ hw159_3; first | rwa [add_block] at this | exact this) GW160.out) | (rw [add_block]; exact Nat.ne_of_lt (Nat.lt_of_lt_of_le (by have := World.block_lt_of_cell? _ _ hw159_3; first | rwa [add_block] at this | exact this) GW160.out)) | (show (Addr.add _ _).block ≠ _; rw [add_block]; exact Nat.ne_of_lt (Nat.lt_of_lt_of_le (by have := World.block_lt_of_cell? _ _ hw159_3; first | rwa [add_block] at this | exact this) GW160.out)) | (dsimp only; exact Nat.ne_of_lt (Nat.lt_of_lt_of_le (by have := World.block_lt_of_cell? _ _ hw159_3; first | rwa [add_block] at this | exact this) GW160.out))) _).trans (((cell_far (p := ⟨gb160, _, none⟩) (by first | exact Nat.ne_of_lt (Nat.lt_of_lt_of_le (by have := World.block_lt_of_cell? _ _ hw159_3; first | rwa [add_block] at this | exact this) GW160.out) | (rw [add_block]; exact Nat.ne_of_lt (Nat.lt_of_lt_of_le (by have := World.block_lt_of_cell? _ _ hw159_3; first | rwa [add_block] at this | exact this) GW160.out)) | (show (Addr.add _ _).block ≠ _; rw [add_block]; exact Nat.ne_of_lt (Nat.lt_of_lt_of_le (by have := World.block_lt_of_cell? _ _ hw159_3; first | rwa [add_block] at this | exact this) GW160.out)) | (dsimp only; exact Nat.ne_of_lt (Nat.lt_of_lt_of_le (by have := World.block_lt_of_cell? _ _ hw159_3; first | rwa [add_block] at this | exact this) GW160.out))) _).trans (hHeld.2.2.2.2.2.2.2.2.2.2.2.2.2.2.2.2.2.2.2.2))))))))⟩ (fun hHeld => ?_)
                      clear hK K
                      refine done_ (done_of HT_.out (by kernel_rfl)) ?_
                      have hnb23 := NB160_155.out
                      have hnc23 := NB155_160.out
                      have hcz24_0 : w18.cell? ⟨gb160, 0, none⟩ = some (.int .i64 0) := (blk_cell BK160.out 0).trans rfl
                      have hcz24_1 : w18.cell? ⟨gb160, 1, none⟩ = some (.int .i64 0) := (blk_cell BK160.out 1).trans rfl
                      have hcz24_2 : w18.cell? ⟨gb160, 2, none⟩ = some (.int .i64 0) := (blk_cell BK160.out 2).trans rfl
                      have hcz24_3 : w18.cell? ⟨gb160, 3, none⟩ = some (.int .i64 0) := (blk_cell BK160.out 3).trans rfl
                      have hfz24_0 := blk_frozen BK160.out 0
                      have hfz24_1 := blk_frozen BK160.out 1
                      have hfz24_2 := blk_frozen BK160.out 2
                      have hfz24_3 := blk_frozen BK160.out 3
                      go_upto_if 72 with (fail)
                      go_cut [] (fun wc => ∃ (kq : Nat) (x161002_15 : Int), Aside0 (flyleaflaw11_RelocBack.j2 kq l0 t154 (wrap64 (300 + (Go.bits .and .i64 a1 255))) x7_1 x8_1 x10_1 1 6 7 8 (Int.tmod (wrap64 ((wrap64 ((Int.tmod ((rd_T23 l0 x10_1).f0) (wrap64 ((wrap64 (300 + (Go.bits .and .i64 a1 255))) - 7))) + (wrap64 (300 + (Go.bits .and .i64 a1 255))))) - 7)) (wrap64 ((wrap64 (300 + (Go.bits .and .i64 a1 255))) - 7))) (XW.sel [1, 6, 7, 8] (ji13)) x161002_15 ((rd_T23 l0 x10_1).f3) = some true) ∧ Aside0 (kq ≤ kj6) ∧ Aside0 (Kd.R k23 23 wc w.heap.size (fun k_ => k_ ≠ gb160) u7 x7_1) ∧ Aside0 (wc.heap[gb155]? = some (.cells #[.int .i64 1, .int .i64 6, .int .i64 7, .int .i64 8] 26 (0, 0))) ∧ Aside0 (wc.heap[gb160]? = some (.cells #[.int .i64 (Int.tmod (wrap64 ((wrap64 ((Int.tmod ((rd_T23 l0 x10_1).f0) (wrap64 ((wrap64 (300 + (Go.bits .and .i64 a1 255))) - 7))) + (wrap64 (300 + (Go.bits .and .i64 a1 255))))) - 7)) (wrap64 ((wrap64 (300 + (Go.bits .and .i64 a1 255))) - 7))), .int .i64 (XW.sel [1, 6, 7, 8] (ji13)), .int .i64 x161002_15, .int .i64 ((rd_T23 l0 x10_1).f3)] 23 (0, 0))) ∧ Aside0 (Below w.heap.size w wc))
                      case first =>
                        have H := HC16.out
                        clear HC16
                        by_cases c25 : (XW.sel [1, 6, 7, 8] (ji13)) = 8
                        · rw [if_pos c25] at H
                          have c25b0 : ((XW.sel [1, 6, 7, 8] (ji13)) == 8) = true := beq_iff_eq.mpr c25
                          have c25b1 : ((XW.sel [1, 6, 7, 8] (ji13)) != 8) = false := bne_eq_false_iff_eq.mpr c25
                          clear c25
                          (first | rw [c25b0] | (simp only [i64_w, i32_w]; rw [c25b0]) | skip)
                          have H' := Aside0.mk H
                          clear H
                          have hnb26 := NB160_155.out
                          have hnc26 := NB155_160.out
                          have hcz27_0 : w18.cell? ⟨gb160, 0, none⟩ = some (.int .i64 0) := (blk_cell BK160.out 0).trans rfl
                          have hcz27_1 : w18.cell? ⟨gb160, 1, none⟩ = some (.int .i64 0) := (blk_cell BK160.out 1).trans rfl
                          have hcz27_2 : w18.cell? ⟨gb160, 2, none⟩ = some (.int .i64 0) := (blk_cell BK160.out 2).trans rfl
                          have hcz27_3 : w18.cell? ⟨gb160, 3, none⟩ = some (.int .i64 0) := (blk_cell BK160.out 3).trans rfl
                          have hfz27_0 := blk_frozen BK160.out 0
                          have hfz27_1 := blk_frozen BK160.out 1
                          have hfz27_2 := blk_frozen BK160.out 2
                          have hfz27_3 := blk_frozen BK160.out 3
                          go_wp2
                          go_meet
                          case rel => exact ⟨_, (0), H', ⟨by have := HK1.out; have := HJ6.out; first | omega | exact Nat.le_refl _⟩, ⟨by (with_reducible repeat (first | apply Kd.R_alloc | apply Kd.R_drewN | apply Kd.R_drew)); exact Kd.R_mono (Kd.R_far (p := ⟨gb160, 2, none⟩) (Kd.R_far (p := ⟨gb160, 3, none⟩) (Kd.R_far (p := ⟨gb160, 2, none⟩) (Kd.R_far (p := ⟨gb160, 1, none⟩) (Kd.R_far (p := ⟨gb160, 0, none⟩) (Kd.R_mono HO_7.out (fun k_ hk => (⟨hk, hk.2⟩ : _ ∧ k_ ≠ gb160))) (fun _ hk => hk.2) (.int .i64 (Int.tmod (wrap64 ((wrap64 ((Int.tmod ((rd_T23 l0 x10_1).f0) (wrap64 ((wrap64 (300 + (Go.bits .and .i64 a1 255))) - 7))) + (wrap64 (300 + (Go.bits .and .i64 a1 255))))) - 7)) (wrap64 ((wrap64 (300 + (Go.bits .and .i64 a1 255))) - 7))))) (fun _ hk => hk.2) (.int .i64 (XW.sel [1, 6, 7, 8] (ji13)))) (fun _ hk => hk.2) (.int .i64 (wrap64 (1 + (Go.bits .and .i64 ((rd_T23 l0 x10_1).f2) 1023))))) (fun _ hk => hk.2) (.int .i64 ((rd_T23 l0 x10_1).f3))) (fun _ hk => hk.2) (.int .i64 0)) (fun _ hk => hk.1.2)⟩, ⟨by (with_reducible repeat (first | refine blk_drewN ?_ _ | refine blk_drew ?_ | refine blk_alloc ?_ _)); refine blk_far ?_ NB155_160.out _; (with_reducible repeat (first | refine blk_drewN ?_ _ | refine blk_drew ?_ | refine blk_alloc ?_ _)); refine blk_far ?_ NB155_160.out _; (with_reducible repeat (first | refine blk_drewN ?_ _ | refine blk_drew ?_ | refine blk_alloc ?_ _)); refine blk_far ?_ NB155_160.out _; (with_reducible repeat (first | refine blk_drewN ?_ _ | refine blk_drew ?_ | refine blk_alloc ?_ _)); refine blk_far ?_ NB155_160.out _; (with_reducible repeat (first | refine blk_drewN ?_ _ | refine blk_drew ?_ | refine blk_alloc ?_ _)); refine blk_far ?_ NB155_160.out _; (with_reducible repeat (first | refine blk_drewN ?_ _ | refine blk_drew ?_ | refine blk_alloc ?_ _)); exact BK155.out⟩, ⟨by (with_reducible repeat (first | refine blk_drewN ?_ _ | refine blk_drew ?_ | refine blk_alloc ?_ _)); refine blk_put (cs := #[.int .i64 (Int.tmod (wrap64 ((wrap64 ((Int.tmod ((rd_T23 l0 x10_1).f0) (wrap64 ((wrap64 (300 + (Go.bits .and .i64 a1 255))) - 7))) + (wrap64 (300 + (Go.bits .and .i64 a1 255))))) - 7)) (wrap64 ((wrap64 (300 + (Go.bits .and .i64 a1 255))) - 7))), .int .i64 (XW.sel [1, 6, 7, 8] (ji13)), .int .i64 (wrap64 (1 + (Go.bits .and .i64 ((rd_T23 l0 x10_1).f2) 1023))), .int .i64 ((rd_T23 l0 x10_1).f3)]) ?_ 2 _ rfl; (with_reducible repeat (first | refine blk_drewN ?_ _ | refine blk_drew ?_ | refine blk_alloc ?_ _)); refine blk_put (cs := #[.int .i64 (Int.tmod (wrap64 ((wrap64 ((Int.tmod ((rd_T23 l0 x10_1).f0) (wrap64 ((wrap64 (300 + (Go.bits .and .i64 a1 255))) - 7))) + (wrap64 (300 + (Go.bits .and .i64 a1 255))))) - 7)) (wrap64 ((wrap64 (300 + (Go.bits .and .i64 a1 255))) - 7))), .int .i64 (XW.sel [1, 6, 7, 8] (ji13)), .int .i64 (wrap64 (1 + (Go.bits .and .i64 ((rd_T23 l0 x10_1).f2) 1023))), .int .i64 0]) ?_ 3 _ rfl; (with_reducible repeat (first | refine blk_drewN ?_ _ | refine blk_drew ?_ | refine blk_alloc ?_ _)); refine blk_put (cs := #[.int .i64 (Int.tmod (wrap64 ((wrap64 ((Int.tmod ((rd_T23 l0 x10_1).f0) (wrap64 ((wrap64 (300 + (Go.bits .and .i64 a1 255))) - 7))) + (wrap64 (300 + (Go.bits .and .i64 a1 255))))) - 7)) (wrap64 ((wrap64 (300 + (Go.bits .and .i64 a1 255))) - 7))), .int .i64 (XW.sel [1, 6, 7, 8] (ji13)), .int .i64 0, .int .i64 0]) ?_ 2 _ rfl; (with_reducible repeat (first | refine blk_drewN ?_ _ | refine blk_drew ?_ | refine blk_alloc ?_ _)); refine blk_put (cs := #[.int .i64 (Int.tmod (wrap64 ((wrap64 ((Int.tmod ((rd_T23 l0 x10_1).f0) (wrap64 ((wrap64 (300 + (Go.bits .and .i64 a1 255))) - 7))) + (wrap64 (300 + (Go.bits .and .i64 a1 255))))) - 7)) (wrap64 ((wrap64 (300 + (Go.bits .and .i64 a1 255))) - 7))), .int .i64 0, .int .i64 0, .int .i64 0]) ?_ 1 _ rfl; (with_reducible repeat (first | refine blk_drewN ?_ _ | refine blk_drew ?_ | refine blk_alloc ?_ _)); refine blk_put (cs := #[.int .i64 0, .int .i64 0, .int .i64 0, .int .i64 0]) ?_ 0 _ rfl; (with_reducible repeat (first | refine blk_drewN ?_ _ | refine blk_drew ?_ | refine blk_alloc ?_ _)); exact BK160.out⟩, ⟨by repeat (first | (with_reducible first | exact HB.out | apply below_alloc | apply pw_below_drewN | apply below_drew1 | refine below_set ?_ GE155.out | refine below_set ?_ GE160.out) | exact HB.out)⟩⟩
                        · rw [if_neg c25] at H
                          have c25b0 : ((XW.sel [1, 6, 7, 8] (ji13)) == 8) = false := beq_eq_false_iff_ne.mpr c25
                          have c25b1 : ((XW.sel [1, 6, 7, 8] (ji13)) != 8) = true := bne_iff_ne.mpr c25
                          (first | rw [c25b0] | (simp only [i64_w, i32_w]; rw [c25b0]) | skip)
                          have H' := Aside0.mk H
                          clear H
                          go_wp2
                          go_meet
                          case rel => exact ⟨_, (wrap64 (1 + (Go.bits .and .i64 ((rd_T23 l0 x10_1).f2) 1023))), H', ⟨by have := HK1.out; have := HJ6.out; first | omega | exact Nat.le_refl _⟩, ⟨by (with_reducible repeat (first | apply Kd.R_alloc | apply Kd.R_drewN | apply Kd.R_drew)); exact Kd.R_mono (Kd.R_far (p := ⟨gb160, 3, none⟩) (Kd.R_far (p := ⟨gb160, 2, none⟩) (Kd.R_far (p := ⟨gb160, 1, none⟩) (Kd.R_far (p := ⟨gb160, 0, none⟩) (Kd.R_mono HO_7.out (fun k_ hk => (⟨hk, hk.2⟩ : _ ∧ k_ ≠ gb160))) (fun _ hk => hk.2) (.int .i64 (Int.tmod (wrap64 ((wrap64 ((Int.tmod ((rd_T23 l0 x10_1).f0) (wrap64 ((wrap64 (300 + (Go.bits .and .i64 a1 255))) - 7))) + (wrap64 (300 + (Go.bits .and .i64 a1 255))))) - 7)) (wrap64 ((wrap64 (300 + (Go.bits .and .i64 a1 255))) - 7))))) (fun _ hk => hk.2) (.int .i64 (XW.sel [1, 6, 7, 8] (ji13)))) (fun _ hk => hk.2) (.int .i64 (wrap64 (1 + (Go.bits .and .i64 ((rd_T23 l0 x10_1).f2) 1023))))) (fun _ hk => hk.2) (.int .i64 ((rd_T23 l0 x10_1).f3))) (fun _ hk => hk.1.2)⟩, ⟨by (with_reducible repeat (first | refine blk_drewN ?_ _ | refine blk_drew ?_ | refine blk_alloc ?_ _)); refine blk_far ?_ NB155_160.out _; (with_reducible repeat (first | refine blk_drewN ?_ _ | refine blk_drew ?_ | refine blk_alloc ?_ _)); refine blk_far ?_ NB155_160.out _; (with_reducible repeat (first | refine blk_drewN ?_ _ | refine blk_drew ?_ | refine blk_alloc ?_ _)); refine blk_far ?_ NB155_160.out _; (with_reducible repeat (first | refine blk_drewN ?_ _ | refine blk_drew ?_ | refine blk_alloc ?_ _)); refine blk_far ?_ NB155_160.out _; (with_reducible repeat (first | refine blk_drewN ?_ _ | refine blk_drew ?_ | refine blk_alloc ?_ _)); exact BK155.out⟩, ⟨by (with_reducible repeat (first | refine blk_drewN ?_ _ | refine blk_drew ?_ | refine blk_alloc ?_ _)); refine blk_put (cs := #[.int .i64 (Int.tmod (wrap64 ((wrap64 ((Int.tmod ((rd_T23 l0 x10_1).f0) (wrap64 ((wrap64 (300 + (Go.bits .and .i64 a1 255))) - 7))) + (wrap64 (300 + (Go.bits .and .i64 a1 255))))) - 7)) (wrap64 ((wrap64 (300 + (Go.bits .and .i64 a1 255))) - 7))), .int .i64 (XW.sel [1, 6, 7, 8] (ji13)), .int .i64 (wrap64 (1 + (Go.bits .and .i64 ((rd_T23 l0 x10_1).f2) 1023))), .int .i64 0]) ?_ 3 _ rfl; (with_reducible repeat (first | refine blk_drewN ?_ _ | refine blk_drew ?_ | refine blk_alloc ?_ _)); refine blk_put (cs := #[.int .i64 (Int.tmod (wrap64 ((wrap64 ((Int.tmod ((rd_T23 l0 x10_1).f0) (wrap64 ((wrap64 (300 + (Go.bits .and .i64 a1 255))) - 7))) + (wrap64 (300 + (Go.bits .and .i64 a1 255))))) - 7)) (wrap64 ((wrap64 (300 + (Go.bits .and .i64 a1 255))) - 7))), .int .i64 (XW.sel [1, 6, 7, 8] (ji13)), .int .i64 0, .int .i64 0]) ?_ 2 _ rfl; (with_reducible repeat (first | refine blk_drewN ?_ _ | refine blk_drew ?_ | refine blk_alloc ?_ _)); refine blk_put (cs := #[.int .i64 (Int.tmod (wrap64 ((wrap64 ((Int.tmod ((rd_T23 l0 x10_1).f0) (wrap64 ((wrap64 (300 + (Go.bits .and .i64 a1 255))) - 7))) + (wrap64 (300 + (Go.bits .and .i64 a1 255))))) - 7)) (wrap64 ((wrap64 (300 + (Go.bits .and .i64 a1 255))) - 7))), .int .i64 0, .int .i64 0, .int .i64 0]) ?_ 1 _ rfl; (with_reducible repeat (first | refine blk_drewN ?_ _ | refine blk_drew ?_ | refine blk_alloc ?_ _)); refine blk_put (cs := #[.int .i64 0, .int .i64 0, .int .i64 0, .int .i64 0]) ?_ 0 _ rfl; (with_reducible repeat (first | refine blk_drewN ?_ _ | refine blk_drew ?_ | refine blk_alloc ?_ _)); exact BK160.out⟩, ⟨by repeat (first | (with_reducible first | exact HB.out | apply below_alloc | apply pw_below_drewN | apply below_drew1 | refine below_set ?_ GE155.out | refine below_set ?_ GE160.out) | exact HB.out)⟩⟩
                      case rest =>
                        clear HC16
                        try clear c1
                        try clear p1
                        try clear q1
                        try clear hx1
                        try clear c2
                        try clear p2
                        try clear c6
                        try clear p6
                        try clear c8
                        try clear c8b0
                        try clear c9
                        try clear c10
                        try clear c10b0
                        try clear c11
                        try clear c11b0
                        try clear c12
                        try clear c12b0
                        try clear c12b1
                        try clear c14
                        try clear c14b0
                        try clear c14b1
                        try clear c15
                        try clear c15b0
                        try clear c15b1
                        try clear p15
                        try clear q15
                        try clear hx15
                        try clear c23
                        try clear c25
                        try clear c25b0
                        try clear c25b1
                        try clear c26
                        try clear hcz24_0
                        try clear hcz24_1
                        try clear hcz24_2
                        try clear hcz24_3
                        try clear hcz27_0
                        try clear hcz27_1
                        try clear hcz27_2
                        try clear hcz27_3
                        try clear hcz6_0
                        try clear hcz6_1
                        try clear hcz6_2
                        try clear hcz6_3
                        try clear hfz24_0
                        try clear hfz24_1
                        try clear hfz24_2
                        try clear hfz24_3
                        try clear hfz27_0
                        try clear hfz27_1
                        try clear hfz27_2
                        try clear hfz27_3
                        try clear hfz6_0
                        try clear hfz6_1
                        try clear hfz6_2
                        try clear hfz6_3
                        try clear hx156_0
                        try clear hx156_1
                        try clear hx156_2
                        try clear hx156_3
                        try clear hx157_0
                        try clear hx157_1
                        try clear hx157_2
                        try clear hx157_3
                        try clear hx158_0
                        try clear hx158_1
                        try clear hx158_2
                        try clear hx158_3
                        try clear hx159_0
                        try clear hx159_1
                        try clear hx159_2
                        try clear hx159_3
                        try clear p156
                        try clear p157
                        try clear p158
                        try clear p159
                        try clear p2
                        try clear p6
                        try clear q156
                        try clear q157
                        try clear q158
                        try clear q159
                        obtain ⟨kq, x161002_15, HA, HJ15, HO_7, BK155, BK160, HB⟩ := hcut
                        cases kq with
                        | zero => exact absurd HA.out (by simp [flyleaflaw11_RelocBack.j2])
                        | succ kj15 =>
                          have H := HA.out
                          clear HA
                          simp only [flyleaflaw11_RelocBack.j2] at H
                          by_cases c28 : x7_1.length < 4398046511104
                          · rw [if_pos c28] at H
                            have LMc28 := Aside0.mk c28
                            clear c28
                            obtain ⟨y161, hy161⟩ : ∃ y_ : List (S23), y_ = (x7_1 ++ [(⟨(Int.tmod (wrap64 ((wrap64 ((Int.tmod ((rd_T23 l0 x10_1).f0) (wrap64 ((wrap64 (300 + (Go.bits .and .i64 a1 255))) - 7))) + (wrap64 (300 + (Go.bits .and .i64 a1 255))))) - 7)) (wrap64 ((wrap64 (300 + (Go.bits .and .i64 a1 255))) - 7))), (XW.sel [1, 6, 7, 8] (ji13)), x161002_15, ((rd_T23 l0 x10_1).f3)⟩ : S23)]) := ⟨_, rfl⟩
                            replace H : ((reloc_Bytes.f kj15 (Int.tmod (wrap64 ((wrap64 ((Int.tmod ((rd_T23 l0 x10_1).f0) (wrap64 ((wrap64 (300 + (Go.bits .and .i64 a1 255))) - 7))) + (wrap64 (300 + (Go.bits .and .i64 a1 255))))) - 7)) (wrap64 ((wrap64 (300 + (Go.bits .and .i64 a1 255))) - 7))) (XW.sel [1, 6, 7, 8] (ji13)) x161002_15 ((rd_T23 l0 x10_1).f3)).bind fun t164 => (if x8_1.size + t164.size ≤ 9223372036854775807 then (flyleaflaw11_RelocBack.l0 kj15 l0 t154 (wrap64 (300 + (Go.bits .and .i64 a1 255))) y161 (x8_1 ++ t164) (wrap64 (x10_1 + 1)) 1 6 7 8) else (none))) = some true := by first | (rw [hy161]; with_reducible exact H) | (have H2_ := (Option.bind_some _ _).symm.trans H; rw [hy161]; with_reducible exact H2_) | (have H2_ := (Option.bind_some _ _).symm.trans H; with_reducible exact H2_) | with_reducible exact H | (rw [hy161]; exact H) | exact H
                            have Ny161 := Aside0.mk hy161
                            clear hy161
                            replace H := Option.bind_eq_some_iff.mp H
                            obtain ⟨t164, A290, H⟩ := H
                            replace H : (if x8_1.size + t164.size ≤ 9223372036854775807 then (flyleaflaw11_RelocBack.l0 kj15 l0 t154 (wrap64 (300 + (Go.bits .and .i64 a1 255))) y161 (x8_1 ++ t164) (wrap64 (x10_1 + 1)) 1 6 7 8) else (none)) = some true := H
                            have A29 := Aside0.mk A290
                            clear A290
                            by_cases c30 : x8_1.size + t164.size ≤ 9223372036854775807
                            · rw [if_pos c30] at H
                              have c30b0 := eq_true c30
                              have c30b1 : decide (x8_1.size + t164.size ≤ 9223372036854775807) = true := decide_eq_true c30
                              try have c30b2 : (9223372036854775807 < x8_1.size + t164.size) = False := eq_false (Nat.not_lt.2 c30)
                              clear c30
                              have H' := Aside0.mk H
                              clear H
                              have hnb31 := NB160_155.out
                              have hnc31 := NB155_160.out
                              have hcz32_0 : wc.cell? ⟨gb160, 0, none⟩ = some (.int .i64 (Int.tmod (wrap64 ((wrap64 ((Int.tmod ((rd_T23 l0 x10_1).f0) (wrap64 ((wrap64 (300 + (Go.bits .and .i64 a1 255))) - 7))) + (wrap64 (300 + (Go.bits .and .i64 a1 255))))) - 7)) (wrap64 ((wrap64 (300 + (Go.bits .and .i64 a1 255))) - 7)))) := (blk_cell BK160.out 0).trans rfl
                              have hcz32_1 : wc.cell? ⟨gb160, 1, none⟩ = some (.int .i64 (XW.sel [1, 6, 7, 8] (ji13))) := (blk_cell BK160.out 1).trans rfl
                              have hcz32_2 : wc.cell? ⟨gb160, 2, none⟩ = some (.int .i64 x161002_15) := (blk_cell BK160.out 2).trans rfl
                              have hcz32_3 : wc.cell? ⟨gb160, 3, none⟩ = some (.int .i64 ((rd_T23 l0 x10_1).f3)) := (blk_cell BK160.out 3).trans rfl
                              have hfz32_0 := blk_frozen BK160.out 0
                              have hfz32_1 := blk_frozen BK160.out 1
                              have hfz32_2 := blk_frozen BK160.out 2
                              have hfz32_3 := blk_frozen BK160.out 3
                              go_wp2_with (first | ((with_reducible refine gate_builtin (b := .append) (xs := #[.tmp 74, .tmp 76]) rfl ?_); at_builtin; refine Kd.R_append k23 (w0 := w) w.heap.size rfl (.tmp 74) (.tmp 76) 35 23 (.agg #[(.int .i64 0), (.int .i64 0), (.int .i64 0), (.int .i64 0)]) 32 rfl Try.underlying35 info23 rfl (by decide) (by omega) u7 x7_1 (⟨(Int.tmod (wrap64 ((wrap64 ((Int.tmod ((rd_T23 l0 x10_1).f0) (wrap64 ((wrap64 (300 + (Go.bits .and .i64 a1 255))) - 7))) + (wrap64 (300 + (Go.bits .and .i64 a1 255))))) - 7)) (wrap64 ((wrap64 (300 + (Go.bits .and .i64 a1 255))) - 7))), (XW.sel [1, 6, 7, 8] (ji13)), x161002_15, ((rd_T23 l0 x10_1).f3)⟩ : S23) [.int .i64 (Int.tmod (wrap64 ((wrap64 ((Int.tmod ((rd_T23 l0 x10_1).f0) (wrap64 ((wrap64 (300 + (Go.bits .and .i64 a1 255))) - 7))) + (wrap64 (300 + (Go.bits .and .i64 a1 255))))) - 7)) (wrap64 ((wrap64 (300 + (Go.bits .and .i64 a1 255))) - 7))), .int .i64 (XW.sel [1, 6, 7, 8] (ji13)), .int .i64 x161002_15, .int .i64 ((rd_T23 l0 x10_1).f3)] (fun k_ => k_ ≠ gb160) (fun _ => False) rfl rfl ?aP (fun _ hk => hk.elim) ?aF ?aO ?aB ?aS ?aL ?_; (case aP => exact k23_mkM _ _ _ (⟨(Int.tmod (wrap64 ((wrap64 ((Int.tmod ((rd_T23 l0 x10_1).f0) (wrap64 ((wrap64 (300 + (Go.bits .and .i64 a1 255))) - 7))) + (wrap64 (300 + (Go.bits .and .i64 a1 255))))) - 7)) (wrap64 ((wrap64 (300 + (Go.bits .and .i64 a1 255))) - 7))), (XW.sel [1, 6, 7, 8] (ji13)), x161002_15, ((rd_T23 l0 x10_1).f3)⟩ : S23)); (case aB => exact (by repeat (first | (with_reducible first | exact HB.out | apply below_alloc | apply pw_below_drewN | apply below_drew1 | refine below_set ?_ GE155.out | refine below_set ?_ GE160.out) | exact HB.out))); (case aF => exact (fun k_ hk => Kd.freshB (g := gb160) (o := .cells #[.int .i64 (Int.tmod (wrap64 ((wrap64 ((Int.tmod ((rd_T23 l0 x10_1).f0) (wrap64 ((wrap64 (300 + (Go.bits .and .i64 a1 255))) - 7))) + (wrap64 (300 + (Go.bits .and .i64 a1 255))))) - 7)) (wrap64 ((wrap64 (300 + (Go.bits .and .i64 a1 255))) - 7))), .int .i64 (XW.sel [1, 6, 7, 8] (ji13)), .int .i64 x161002_15, .int .i64 ((rd_T23 l0 x10_1).f3)] 23 (0, 0)) (by (with_reducible repeat (first | refine blk_drewN ?_ _ | refine blk_drew ?_ | refine blk_alloc ?_ _)); exact BK160.out) k_ hk)); (case aO => exact (by (with_reducible repeat (first | apply Kd.R_alloc | apply Kd.R_drewN | apply Kd.R_drew)); exact HO_7.out)); (case aS => exact (below_size (by repeat (first | (with_reducible first | exact HB.out | apply below_alloc | apply pw_below_drewN | apply below_drew1 | refine below_set ?_ GE155.out | refine below_set ?_ GE160.out) | exact HB.out)))); (case aL => have := LMc28.out; omega); intro v162 w33 ho hb hg hat; rw [← Ny161.out] at ho; have n0_ := Aside0.mk (blk_grown (g := gb155) (o := .cells #[.int .i64 1, .int .i64 6, .int .i64 7, .int .i64 8] 26 (0, 0)) (by (with_reducible repeat (first | refine blk_drewN ?_ _ | refine blk_drew ?_ | refine blk_alloc ?_ _)); exact BK155.out) hg (Kd.R_ne HO_7.out BK155.out (by decide))); have n1_ := Aside0.mk (blk_grown (g := gb160) (o := .cells #[.int .i64 (Int.tmod (wrap64 ((wrap64 ((Int.tmod ((rd_T23 l0 x10_1).f0) (wrap64 ((wrap64 (300 + (Go.bits .and .i64 a1 255))) - 7))) + (wrap64 (300 + (Go.bits .and .i64 a1 255))))) - 7)) (wrap64 ((wrap64 (300 + (Go.bits .and .i64 a1 255))) - 7))), .int .i64 (XW.sel [1, 6, 7, 8] (ji13)), .int .i64 x161002_15, .int .i64 ((rd_T23 l0 x10_1).f3)] 23 (0, 0)) (by (with_reducible repeat (first | refine blk_drewN ?_ _ | refine blk_drew ?_ | refine blk_alloc ?_ _)); exact BK160.out) hg (Kd.R_away HO_7.out (fun _ hk => hk))); have n2_ := Aside0.mk (hb); have n3_ := Aside0.mk (ho); clear BK155; clear BK160; clear HB; clear HO_7; have BK155 := n0_; have BK160 := n1_; have HB := n2_; have HO163 := n3_; clear n0_ n1_ n2_ n3_; clear ho hb hg hat; have hcz34_0 : w33.cell? ⟨gb160, 0, none⟩ = some (.int .i64 (Int.tmod (wrap64 ((wrap64 ((Int.tmod ((rd_T23 l0 x10_1).f0) (wrap64 ((wrap64 (300 + (Go.bits .and .i64 a1 255))) - 7))) + (wrap64 (300 + (Go.bits .and .i64 a1 255))))) - 7)) (wrap64 ((wrap64 (300 + (Go.bits .and .i64 a1 255))) - 7)))) := (blk_cell BK160.out 0).trans rfl; have hcz34_1 : w33.cell? ⟨gb160, 1, none⟩ = some (.int .i64 (XW.sel [1, 6, 7, 8] (ji13))) := (blk_cell BK160.out 1).trans rfl; have hcz34_2 : w33.cell? ⟨gb160, 2, none⟩ = some (.int .i64 x161002_15) := (blk_cell BK160.out 2).trans rfl; have hcz34_3 : w33.cell? ⟨gb160, 3, none⟩ = some (.int .i64 ((rd_T23 l0 x10_1).f3)) := (blk_cell BK160.out 3).trans rfl; have hfz34_0 := blk_frozen BK160.out 0; have hfz34_1 := blk_frozen BK160.out 1; have hfz34_2 := blk_frozen BK160.out 2; have hfz34_3 := blk_frozen BK160.out 3) | ((with_reducible refine gate_callee (f := 14) rfl ?_); refine goesL_ (some 80) rfl rfl Try.func14 (by kernel_rfl) rfl #[.agg #[.int .i64 (Int.tmod (wrap64 ((wrap64 ((Int.tmod ((rd_T23 l0 x10_1).f0) (wrap64 ((wrap64 (300 + (Go.bits .and .i64 a1 255))) - 7))) + (wrap64 (300 + (Go.bits .and .i64 a1 255))))) - 7)) (wrap64 ((wrap64 (300 + (Go.bits .and .i64 a1 255))) - 7))), .int .i64 (XW.sel [1, 6, 7, 8] (ji13)), .int .i64 x161002_15, .int .i64 ((rd_T23 l0 x10_1).f3)]] rfl (by (try simp only [List.map_toArray, List.map_cons, List.map_nil]); first | done | (simp only [hji13]; rfl) | rfl | (simp only [List.length_drop, List.length_take]; rfl)) ?_; (with_reducible refine (reloc_Bytes.calls kj15 (Int.tmod (wrap64 ((wrap64 ((Int.tmod ((rd_T23 l0 x10_1).f0) (wrap64 ((wrap64 (300 + (Go.bits .and .i64 a1 255))) - 7))) + (wrap64 (300 + (Go.bits .and .i64 a1 255))))) - 7)) (wrap64 ((wrap64 (300 + (Go.bits .and .i64 a1 255))) - 7))) (XW.sel [1, 6, 7, 8] (ji13)) x161002_15 ((rd_T23 l0 x10_1).f3) t164 _ A29.out).mono ?_); rintro e w35 ⟨rfl, hb⟩; refine ⟨_, rfl, ?_⟩; have n0_ := Aside0.mk (Kd.R_below (by (with_reducible repeat (first | apply Kd.R_alloc | apply Kd.R_drewN | apply Kd.R_drew)); exact HO163.out) hb); have n1_ := Aside0.mk (blk_below (g := gb155) (o := .cells #[.int .i64 1, .int .i64 6, .int .i64 7, .int .i64 8] 26 (0, 0)) (by (with_reducible repeat (first | refine blk_drewN ?_ _ | refine blk_drew ?_ | refine blk_alloc ?_ _)); exact BK155.out) hb); have n2_ := Aside0.mk (blk_below (g := gb160) (o := .cells #[.int .i64 (Int.tmod (wrap64 ((wrap64 ((Int.tmod ((rd_T23 l0 x10_1).f0) (wrap64 ((wrap64 (300 + (Go.bits .and .i64 a1 255))) - 7))) + (wrap64 (300 + (Go.bits .and .i64 a1 255))))) - 7)) (wrap64 ((wrap64 (300 + (Go.bits .and .i64 a1 255))) - 7))), .int .i64 (XW.sel [1, 6, 7, 8] (ji13)), .int .i64 x161002_15, .int .i64 ((rd_T23 l0 x10_1).f3)] 23 (0, 0)) (by (with_reducible repeat (first | refine blk_drewN ?_ _ | refine blk_drew ?_ | refine blk_alloc ?_ _)); exact BK160.out) hb); have n3_ := Aside0.mk (below_step (by repeat (first | (with_reducible first | exact HB.out | apply below_alloc | apply pw_below_drewN | apply below_drew1 | refine below_set ?_ GE155.out | refine below_set ?_ GE160.out) | exact HB.out)) hb); clear HO163; clear BK155; clear BK160; clear HB; have HO163 := n0_; have BK155 := n1_; have BK160 := n2_; have HB := n3_; clear n0_ n1_ n2_ n3_; (try clear hb); (try clear hb2); (try clear hk); (try clear hi)))
                              go_roundg kj15
                              case measure => have := HK1.out; have := HJ6.out; have := HJ15.out; omega
                              case rel => exact ⟨(y161), (x8_1 ++ t164), (wrap64 (x10_1 + 1)), (by first | rfl | (simp; done) | (simp [*]; done)), (by first | rfl | (simp; done) | (simp [*]; done)), H', ⟨by have := HK1.out; have := HJ6.out; have := HJ15.out; omega⟩, ⟨by (with_reducible repeat (first | apply Kd.R_alloc | apply Kd.R_drewN | apply Kd.R_drew)); exact Kd.R_mono HO163.out (fun _ hk => trivial)⟩, ⟨by (with_reducible repeat (first | refine blk_drewN ?_ _ | refine blk_drew ?_ | refine blk_alloc ?_ _)); exact BK155.out⟩, ⟨by repeat (first | (with_reducible first | exact HB.out | apply below_alloc | apply pw_below_drewN | apply below_drew1 | refine below_set ?_ GE155.out | refine below_set ?_ GE160.out) | exact HB.out)⟩⟩
                            · rw [if_neg c30] at H
                              exact absurd H (by simp)
                          · rw [if_neg c28] at H
                            exact absurd H (by simp)
                    · rw [if_neg c15] at H
                      exact absurd H (by simp)
                  · rw [if_neg c14] at H
                    exact absurd H (by simp)
              · rw [if_neg c11] at H
                exact absurd H (by simp)
            · rw [if_neg c10] at H
              exact absurd H (by simp)
          · replace c9 := Bool.eq_false_iff.mpr c9
            subst c9
            have H1 : ((flyleafref01_Fill.f x8_1 (wrap64 (300 + (Go.bits .and .i64 a1 255)))).bind fun t166 => ((reloc_Read.f kj6 t166 ([] : List Int) 0 0 0 0 0 (x8_1.size : Int) 0 0).bind fun bt167 => ((flyleafref11_Same.f kj6 bt167.1 x7_1).bind fun t171 => (if (x7_1.length : Int) = 0 then (if t154 = true then (if t171 = true then (some (bt167.2 == 0)) else (some false)) else (some false)) else ((flyleafref01_Fill.f x8_1 (wrap64 (300 + (Go.bits .and .i64 a1 255)))).bind fun t172 => ((reloc_Read.f kj6 t172 ([] : List Int) 0 0 0 0 0 (wrap64 ((x8_1.size : Int) - 1)) 0 0).bind fun bt173 => (if 0 < (x7_1.length : Int) then ((some (x7_1.set (0 : Int).toNat (⟨wrap64 ((wrap64 (300 + (Go.bits .and .i64 a1 255))) - 7), (rd_T23 x7_1 0).f1, (rd_T23 x7_1 0).f2, (rd_T23 x7_1 0).f3⟩ : S23) : List (S23))).bind fun y177 => ((reloc_Bytes.f kj6 ((rd_T23 y177 0).f0) ((rd_T23 y177 0).f1) ((rd_T23 y177 0).f2) ((rd_T23 y177 0).f3)).bind fun t179 => ((flyleafref01_Fill.f t179 (wrap64 (300 + (Go.bits .and .i64 a1 255)))).bind fun t180 => ((reloc_Read.f kj6 t180 ([] : List Int) 0 0 0 0 0 24 0 0).bind fun bt181 => (if t154 = true then (if t171 = true then (if bt167.2 = 0 then (if bt173.2 = 17 then (some (bt181.2 == 17)) else (some false)) else (some false)) else (some false)) else (some false)))))) else (none)))))))) = some true := by rw [if_neg (show ¬ (false = true) by decide)] at H; exact H
            clear H
            have H := H1
            clear H1
            replace H := Option.bind_eq_some_iff.mp H
            obtain ⟨t166, A360, H⟩ := H
            replace H : ((reloc_Read.f kj6 t166 ([] : List Int) 0 0 0 0 0 (x8_1.size : Int) 0 0).bind fun bt167 => ((flyleafref11_Same.f kj6 bt167.1 x7_1).bind fun t171 => (if (x7_1.length : Int) = 0 then (if t154 = true then (if t171 = true then (some (bt167.2 == 0)) else (some false)) else (some false)) else ((flyleafref01_Fill.f x8_1 (wrap64 (300 + (Go.bits .and .i64 a1 255)))).bind fun t172 => ((reloc_Read.f kj6 t172 ([] : List Int) 0 0 0 0 0 (wrap64 ((x8_1.size : Int) - 1)) 0 0).bind fun bt173 => (if 0 < (x7_1.length : Int) then ((some (x7_1.set (0 : Int).toNat (⟨wrap64 ((wrap64 (300 + (Go.bits .and .i64 a1 255))) - 7), (rd_T23 x7_1 0).f1, (rd_T23 x7_1 0).f2, (rd_T23 x7_1 0).f3⟩ : S23) : List (S23))).bind fun y177 => ((reloc_Bytes.f kj6 ((rd_T23 y177 0).f0) ((rd_T23 y177 0).f1) ((rd_T23 y177 0).f2) ((rd_T23 y177 0).f3)).bind fun t179 => ((flyleafref01_Fill.f t179 (wrap64 (300 + (Go.bits .and .i64 a1 255)))).bind fun t180 => ((reloc_Read.f kj6 t180 ([] : List Int) 0 0 0 0 0 24 0 0).bind fun bt181 => (if t154 = true then (if t171 = true then (if bt167.2 = 0 then (if bt173.2 = 17 then (some (bt181.2 == 17)) else (some false)) else (some false)) else (some false)) else (some false)))))) else (none))))))) = some true := H
            have A36 := Aside0.mk A360
            clear A360
            replace H := Option.bind_eq_some_iff.mp H
            obtain ⟨⟨t167, t170⟩, A370, H⟩ := H
            replace H : ((flyleafref11_Same.f kj6 t167 x7_1).bind fun t171 => (if (x7_1.length : Int) = 0 then (if t154 = true then (if t171 = true then (some (t170 == 0)) else (some false)) else (some false)) else ((flyleafref01_Fill.f x8_1 (wrap64 (300 + (Go.bits .and .i64 a1 255)))).bind fun t172 => ((reloc_Read.f kj6 t172 ([] : List Int) 0 0 0 0 0 (wrap64 ((x8_1.size : Int) - 1)) 0 0).bind fun bt173 => (if 0 < (x7_1.length : Int) then ((some (x7_1.set (0 : Int).toNat (⟨wrap64 ((wrap64 (300 + (Go.bits .and .i64 a1 255))) - 7), (rd_T23 x7_1 0).f1, (rd_T23 x7_1 0).f2, (rd_T23 x7_1 0).f3⟩ : S23) : List (S23))).bind fun y177 => ((reloc_Bytes.f kj6 ((rd_T23 y177 0).f0) ((rd_T23 y177 0).f1) ((rd_T23 y177 0).f2) ((rd_T23 y177 0).f3)).bind fun t179 => ((flyleafref01_Fill.f t179 (wrap64 (300 + (Go.bits .and .i64 a1 255)))).bind fun t180 => ((reloc_Read.f kj6 t180 ([] : List Int) 0 0 0 0 0 24 0 0).bind fun bt181 => (if t154 = true then (if t171 = true then (if t170 = 0 then (if bt173.2 = 17 then (some (bt181.2 == 17)) else (some false)) else (some false)) else (some false)) else (some false)))))) else (none)))))) = some true := H
            have A37 := Aside0.mk A370
            clear A370
            replace H := Option.bind_eq_some_iff.mp H
            obtain ⟨t171, A380, H⟩ := H
            replace H : (if (x7_1.length : Int) = 0 then (if t154 = true then (if t171 = true then (some (t170 == 0)) else (some false)) else (some false)) else ((flyleafref01_Fill.f x8_1 (wrap64 (300 + (Go.bits .and .i64 a1 255)))).bind fun t172 => ((reloc_Read.f kj6 t172 ([] : List Int) 0 0 0 0 0 (wrap64 ((x8_1.size : Int) - 1)) 0 0).bind fun bt173 => (if 0 < (x7_1.length : Int) then ((some (x7_1.set (0 : Int).toNat (⟨wrap64 ((wrap64 (300 + (Go.bits .and .i64 a1 255))) - 7), (rd_T23 x7_1 0).f1, (rd_T23 x7_1 0).f2, (rd_T23 x7_1 0).f3⟩ : S23) : List (S23))).bind fun y177 => ((reloc_Bytes.f kj6 ((rd_T23 y177 0).f0) ((rd_T23 y177 0).f1) ((rd_T23 y177 0).f2) ((rd_T23 y177 0).f3)).bind fun t179 => ((flyleafref01_Fill.f t179 (wrap64 (300 + (Go.bits .and .i64 a1 255)))).bind fun t180 => ((reloc_Read.f kj6 t180 ([] : List Int) 0 0 0 0 0 24 0 0).bind fun bt181 => (if t154 = true then (if t171 = true then (if t170 = 0 then (if bt173.2 = 17 then (some (bt181.2 == 17)) else (some false)) else (some false)) else (some false)) else (some false)))))) else (none))))) = some true := H
            have A38 := Aside0.mk A380
            clear A380
            by_cases c39 : (x7_1.length : Int) = 0
            · rw [if_pos c39] at H
              have c39b0 : ((x7_1.length : Int) == 0) = true := beq_iff_eq.mpr c39
              have c39b1 : ((x7_1.length : Int) != 0) = false := bne_eq_false_iff_eq.mpr c39
              clear c39
              by_cases c40 : t154 = true
              · subst c40
                have H1 : (if t171 = true then (some (t170 == 0)) else (some false)) = some true := by rw [if_pos rfl] at H; exact H
                clear H
                have H := H1
                clear H1
                by_cases c41 : t171 = true
                · subst c41
                  have H1 : (some (t170 == 0)) = some true := by rw [if_pos rfl] at H; exact H
                  clear H
                  have H := H1
                  clear H1
                  have HR_ := Aside0.mk (Option.some.inj H)
                  clear H
                  try go_wp2_with (first | ((with_reducible refine gate_dst (N := 12) rfl ?_); refine box_event ?hg (N := 12) ?hd (cs := #[.slice none 0 0, .int .i64 0, .int .i64 0, .int .i64 0, .int .i64 0, .int .i64 0, .int .i64 0, .int .i64 0, .int .i64 0]) (t := 40) ?hr ?_; (case hd => rfl); (case hg => rfl); (case hr => first | (go_simp; done) | (go_simp; rfl)); intro gb165 hg w42 hbox hb; have n0_ := Aside0.mk (Kd.R_below (by (with_reducible repeat (first | apply Kd.R_alloc | apply Kd.R_drewN | apply Kd.R_drew)); exact HO_7.out) hb); have n1_ := Aside0.mk (blk_below (g := gb155) (o := .cells #[.int .i64 1, .int .i64 6, .int .i64 7, .int .i64 8] 26 (0, 0)) (by (with_reducible repeat (first | refine blk_drewN ?_ _ | refine blk_drew ?_ | refine blk_alloc ?_ _)); exact BK155.out) hb); have n2_ := Aside0.mk (below_step (by repeat (first | (with_reducible first | exact HB.out | apply below_alloc | apply pw_below_drewN | apply below_drew1 | refine below_set ?_ GE155.out) | exact HB.out)) hb); have n3_ := Aside0.mk (hbox); have n4_ := Aside0.mk ((by rw [hg]; exact (below_size (by repeat (first | (with_reducible first | exact HB.out | apply below_alloc | apply pw_below_drewN | apply below_drew1 | refine below_set ?_ GE155.out) | exact HB.out))) : w.heap.size ≤ gb165)); have n5_ := Aside0.mk ((by rw [hg]; exact (below_size (by repeat (first | (with_reducible first | exact HB.out | apply below_alloc | apply pw_below_drewN | apply below_drew1 | refine below_set ?_ GE155.out) | exact HB.out))) : w.heap.size ≤ gb165)); have n6_ := Aside0.mk ((by rw [hg]; exact Nat.ne_of_lt (blk_lt (g := gb155) (o := .cells #[.int .i64 1, .int .i64 6, .int .i64 7, .int .i64 8] 26 (0, 0)) (by (with_reducible repeat (first | refine blk_drewN ?_ _ | refine blk_drew ?_ | refine blk_alloc ?_ _)); exact BK155.out)) : gb155 ≠ gb165)); have n7_ := Aside0.mk ((by rw [hg]; exact Nat.ne_of_gt (blk_lt (g := gb155) (o := .cells #[.int .i64 1, .int .i64 6, .int .i64 7, .int .i64 8] 26 (0, 0)) (by (with_reducible repeat (first | refine blk_drewN ?_ _ | refine blk_drew ?_ | refine blk_alloc ?_ _)); exact BK155.out)) : gb165 ≠ gb155)); clear HO_7; clear BK155; clear HB; have HO_7 := n0_; have BK155 := n1_; have HB := n2_; have BK165 := n3_; have GW165 := n4_; have GE165 := n5_; have NB155_165 := n6_; have NB165_155 := n7_; clear n0_ n1_ n2_ n3_ n4_ n5_ n6_ n7_; clear hb hbox hg; have hnb43 := NB165_155.out; have hnc43 := NB155_165.out; have hcz44_0 : w42.cell? ⟨gb165, 0, none⟩ = some (.slice none 0 0) := (blk_cell BK165.out 0).trans rfl; have hcz44_1 : w42.cell? ⟨gb165, 1, none⟩ = some (.int .i64 0) := (blk_cell BK165.out 1).trans rfl; have hcz44_2 : w42.cell? ⟨gb165, 2, none⟩ = some (.int .i64 0) := (blk_cell BK165.out 2).trans rfl; have hcz44_3 : w42.cell? ⟨gb165, 3, none⟩ = some (.int .i64 0) := (blk_cell BK165.out 3).trans rfl; have hcz44_4 : w42.cell? ⟨gb165, 4, none⟩ = some (.int .i64 0) := (blk_cell BK165.out 4).trans rfl; have hcz44_5 : w42.cell? ⟨gb165, 5, none⟩ = some (.int .i64 0) := (blk_cell BK165.out 5).trans rfl; have hcz44_6 : w42.cell? ⟨gb165, 6, none⟩ = some (.int .i64 0) := (blk_cell BK165.out 6).trans rfl; have hcz44_7 : w42.cell? ⟨gb165, 7, none⟩ = some (.int .i64 0) := (blk_cell BK165.out 7).trans rfl; have hcz44_8 : w42.cell? ⟨gb165, 8, none⟩ = some (.int .i64 0) := (blk_cell BK165.out 8).trans rfl; have hfz44_0 := blk_frozen BK165.out 0; have hfz44_1 := blk_frozen BK165.out 1; have hfz44_2 := blk_frozen BK165.out 2; have hfz44_3 := blk_frozen BK165.out 3; have hfz44_4 := blk_frozen BK165.out 4; have hfz44_5 := blk_frozen BK165.out 5; have hfz44_6 := blk_frozen BK165.out 6; have hfz44_7 := blk_frozen BK165.out 7; have hfz44_8 := blk_frozen BK165.out 8))
                  have n0_ : Aside0 (Kd.R k23 23 (((((((((w42.setCell ⟨gb165, 0, none⟩ (.slice none 0 0)).setCell ⟨gb165, 1, none⟩ (.int .i64 0)).setCell ⟨gb165, 2, none⟩ (.int .i64 0)).setCell ⟨gb165, 3, none⟩ (.int .i64 0)).setCell ⟨gb165, 4, none⟩ (.int .i64 0)).setCell ⟨gb165, 5, none⟩ (.int .i64 0)).setCell ⟨gb165, 6, none⟩ (.int .i64 (x8_1.size : Int))).setCell ⟨gb165, 7, none⟩ (.int .i64 0)).setCell ⟨gb165, 8, none⟩ (.int .i64 0)) w.heap.size (fun _ => True) u7 x7_1) := ⟨by (with_reducible repeat (first | apply Kd.R_alloc | apply Kd.R_drewN | apply Kd.R_drew)); exact Kd.R_mono (Kd.R_far (p := ⟨gb165, 8, none⟩) (Kd.R_far (p := ⟨gb165, 7, none⟩) (Kd.R_far (p := ⟨gb165, 6, none⟩) (Kd.R_far (p := ⟨gb165, 5, none⟩) (Kd.R_far (p := ⟨gb165, 4, none⟩) (Kd.R_far (p := ⟨gb165, 3, none⟩) (Kd.R_far (p := ⟨gb165, 2, none⟩) (Kd.R_far (p := ⟨gb165, 1, none⟩) (Kd.R_far (p := ⟨gb165, 0, none⟩) (Kd.R_types HO_7.out BK165.out (by decide)) (fun _ hk => hk.2) (.slice none 0 0)) (fun _ hk => hk.2) (.int .i64 0)) (fun _ hk => hk.2) (.int .i64 0)) (fun _ hk => hk.2) (.int .i64 0)) (fun _ hk => hk.2) (.int .i64 0)) (fun _ hk => hk.2) (.int .i64 0)) (fun _ hk => hk.2) (.int .i64 (x8_1.size : Int))) (fun _ hk => hk.2) (.int .i64 0)) (fun _ hk => hk.2) (.int .i64 0)) (fun _ hk => trivial)⟩
                  have n1_ : Aside0 ((((((((((w42.setCell ⟨gb165, 0, none⟩ (.slice none 0 0)).setCell ⟨gb165, 1, none⟩ (.int .i64 0)).setCell ⟨gb165, 2, none⟩ (.int .i64 0)).setCell ⟨gb165, 3, none⟩ (.int .i64 0)).setCell ⟨gb165, 4, none⟩ (.int .i64 0)).setCell ⟨gb165, 5, none⟩ (.int .i64 0)).setCell ⟨gb165, 6, none⟩ (.int .i64 (x8_1.size : Int))).setCell ⟨gb165, 7, none⟩ (.int .i64 0)).setCell ⟨gb165, 8, none⟩ (.int .i64 0)).heap[gb155]? = some (.cells #[.int .i64 1, .int .i64 6, .int .i64 7, .int .i64 8] 26 (0, 0))) := ⟨by (with_reducible repeat (first | refine blk_drewN ?_ _ | refine blk_drew ?_ | refine blk_alloc ?_ _)); refine blk_far ?_ NB155_165.out _; (with_reducible repeat (first | refine blk_drewN ?_ _ | refine blk_drew ?_ | refine blk_alloc ?_ _)); refine blk_far ?_ NB155_165.out _; (with_reducible repeat (first | refine blk_drewN ?_ _ | refine blk_drew ?_ | refine blk_alloc ?_ _)); refine blk_far ?_ NB155_165.out _; (with_reducible repeat (first | refine blk_drewN ?_ _ | refine blk_drew ?_ | refine blk_alloc ?_ _)); refine blk_far ?_ NB155_165.out _; (with_reducible repeat (first | refine blk_drewN ?_ _ | refine blk_drew ?_ | refine blk_alloc ?_ _)); refine blk_far ?_ NB155_165.out _; (with_reducible repeat (first | refine blk_drewN ?_ _ | refine blk_drew ?_ | refine blk_alloc ?_ _)); refine blk_far ?_ NB155_165.out _; (with_reducible repeat (first | refine blk_drewN ?_ _ | refine blk_drew ?_ | refine blk_alloc ?_ _)); refine blk_far ?_ NB155_165.out _; (with_reducible repeat (first | refine blk_drewN ?_ _ | refine blk_drew ?_ | refine blk_alloc ?_ _)); refine blk_far ?_ NB155_165.out _; (with_reducible repeat (first | refine blk_drewN ?_ _ | refine blk_drew ?_ | refine blk_alloc ?_ _)); refine blk_far ?_ NB155_165.out _; (with_reducible repeat (first | refine blk_drewN ?_ _ | refine blk_drew ?_ | refine blk_alloc ?_ _)); exact BK155.out⟩
                  have n2_ : Aside0 ((((((((((w42.setCell ⟨gb165, 0, none⟩ (.slice none 0 0)).setCell ⟨gb165, 1, none⟩ (.int .i64 0)).setCell ⟨gb165, 2, none⟩ (.int .i64 0)).setCell ⟨gb165, 3, none⟩ (.int .i64 0)).setCell ⟨gb165, 4, none⟩ (.int .i64 0)).setCell ⟨gb165, 5, none⟩ (.int .i64 0)).setCell ⟨gb165, 6, none⟩ (.int .i64 (x8_1.size : Int))).setCell ⟨gb165, 7, none⟩ (.int .i64 0)).setCell ⟨gb165, 8, none⟩ (.int .i64 0)).heap[gb165]? = some (.cells #[.slice none 0 0, .int .i64 0, .int .i64 0, .int .i64 0, .int .i64 0, .int .i64 0, .int .i64 (x8_1.size : Int), .int .i64 0, .int .i64 0] 40 (0, 0))) := ⟨by (with_reducible repeat (first | refine blk_drewN ?_ _ | refine blk_drew ?_ | refine blk_alloc ?_ _)); refine blk_put (cs := #[.slice none 0 0, .int .i64 0, .int .i64 0, .int .i64 0, .int .i64 0, .int .i64 0, .int .i64 (x8_1.size : Int), .int .i64 0, .int .i64 0]) ?_ 8 _ rfl; (with_reducible repeat (first | refine blk_drewN ?_ _ | refine blk_drew ?_ | refine blk_alloc ?_ _)); refine blk_put (cs := #[.slice none 0 0, .int .i64 0, .int .i64 0, .int .i64 0, .int .i64 0, .int .i64 0, .int .i64 (x8_1.size : Int), .int .i64 0, .int .i64 0]) ?_ 7 _ rfl; (with_reducible repeat (first | refine blk_drewN ?_ _ | refine blk_drew ?_ | refine blk_alloc ?_ _)); refine blk_put (cs := #[.slice none 0 0, .int .i64 0, .int .i64 0, .int .i64 0, .int .i64 0, .int .i64 0, .int .i64 0, .int .i64 0, .int .i64 0]) ?_ 6 _ rfl; (with_reducible repeat (first | refine blk_drewN ?_ _ | refine blk_drew ?_ | refine blk_alloc ?_ _)); refine blk_put (cs := #[.slice none 0 0, .int .i64 0, .int .i64 0, .int .i64 0, .int .i64 0, .int .i64 0, .int .i64 0, .int .i64 0, .int .i64 0]) ?_ 5 _ rfl; (with_reducible repeat (first | refine blk_drewN ?_ _ | refine blk_drew ?_ | refine blk_alloc ?_ _)); refine blk_put (cs := #[.slice none 0 0, .int .i64 0, .int .i64 0, .int .i64 0, .int .i64 0, .int .i64 0, .int .i64 0, .int .i64 0, .int .i64 0]) ?_ 4 _ rfl; (with_reducible repeat (first | refine blk_drewN ?_ _ | refine blk_drew ?_ | refine blk_alloc ?_ _)); refine blk_put (cs := #[.slice none 0 0, .int .i64 0, .int .i64 0, .int .i64 0, .int .i64 0, .int .i64 0, .int .i64 0, .int .i64 0, .int .i64 0]) ?_ 3 _ rfl; (with_reducible repeat (first | refine blk_drewN ?_ _ | refine blk_drew ?_ | refine blk_alloc ?_ _)); refine blk_put (cs := #[.slice none 0 0, .int .i64 0, .int .i64 0, .int .i64 0, .int .i64 0, .int .i64 0, .int .i64 0, .int .i64 0, .int .i64 0]) ?_ 2 _ rfl; (with_reducible repeat (first | refine blk_drewN ?_ _ | refine blk_drew ?_ | refine blk_alloc ?_ _)); refine blk_put (cs := #[.slice none 0 0, .int .i64 0, .int .i64 0, .int .i64 0, .int .i64 0, .int .i64 0, .int .i64 0, .int .i64 0, .int .i64 0]) ?_ 1 _ rfl; (with_reducible repeat (first | refine blk_drewN ?_ _ | refine blk_drew ?_ | refine blk_alloc ?_ _)); refine blk_put (cs := #[.slice none 0 0, .int .i64 0, .int .i64 0, .int .i64 0, .int .i64 0, .int .i64 0, .int .i64 0, .int .i64 0, .int .i64 0]) ?_ 0 _ rfl; (with_reducible repeat (first | refine blk_drewN ?_ _ | refine blk_drew ?_ | refine blk_alloc ?_ _)); exact BK165.out⟩
                  have n3_ : Aside0 (Below w.heap.size w (((((((((w42.setCell ⟨gb165, 0, none⟩ (.slice none 0 0)).setCell ⟨gb165, 1, none⟩ (.int .i64 0)).setCell ⟨gb165, 2, none⟩ (.int .i64 0)).setCell ⟨gb165, 3, none⟩ (.int .i64 0)).setCell ⟨gb165, 4, none⟩ (.int .i64 0)).setCell ⟨gb165, 5, none⟩ (.int .i64 0)).setCell ⟨gb165, 6, none⟩ (.int .i64 (x8_1.size : Int))).setCell ⟨gb165, 7, none⟩ (.int .i64 0)).setCell ⟨gb165, 8, none⟩ (.int .i64 0))) := ⟨by repeat (first | (with_reducible first | exact HB.out | apply below_alloc | apply pw_below_drewN | apply below_drew1 | refine below_set ?_ GE155.out | refine below_set ?_ GE165.out) | exact HB.out)⟩
                  (try clear HO_7)
                  (try clear BK155)
                  (try clear BK165)
                  (try clear HB)
                  generalize (((((((((w42.setCell ⟨gb165, 0, none⟩ (.slice none 0 0)).setCell ⟨gb165, 1, none⟩ (.int .i64 0)).setCell ⟨gb165, 2, none⟩ (.int .i64 0)).setCell ⟨gb165, 3, none⟩ (.int .i64 0)).setCell ⟨gb165, 4, none⟩ (.int .i64 0)).setCell ⟨gb165, 5, none⟩ (.int .i64 0)).setCell ⟨gb165, 6, none⟩ (.int .i64 (x8_1.size : Int))).setCell ⟨gb165, 7, none⟩ (.int .i64 0)).setCell ⟨gb165, 8, none⟩ (.int .i64 0)) = w45 at n0_ n1_ n2_ n3_ ⊢
                  have HO_7 := n0_
                  have BK155 := n1_
                  have BK165 := n2_
                  have HB := n3_
                  clear n0_ n1_ n2_ n3_
                  have n0_ := Aside0.mk (Kd.R_drew HO_7.out)
                  have n1_ := Aside0.mk (blk_drew BK155.out)
                  have n2_ := Aside0.mk (blk_drew BK165.out)
                  have n3_ := Aside0.mk (below_drew1 HB.out)
                  clear HO_7
                  clear BK155
                  clear BK165
                  clear HB
                  have HO_7 := n0_
                  have BK155 := n1_
                  have BK165 := n2_
                  have HB := n3_
                  clear n0_ n1_ n2_ n3_
                  refine start_ (n := 10) (S := fun w' => w'.cell? ⟨gb165, 0, none⟩ = some (.slice none 0 0) ∧ w'.cell? ⟨gb165, 1, none⟩ = some (.int .i64 0) ∧ w'.cell? ⟨gb165, 2, none⟩ = some (.int .i64 0) ∧ w'.cell? ⟨gb165, 3, none⟩ = some (.int .i64 0) ∧ w'.cell? ⟨gb165, 4, none⟩ = some (.int .i64 0) ∧ w'.cell? ⟨gb165, 5, none⟩ = some (.int .i64 0) ∧ w'.cell? ⟨gb165, 6, none⟩ = some (.int .i64 (x8_1.size : Int)) ∧ w'.cell? ⟨gb165, 7, none⟩ = some (.int .i64 0) ∧ w'.cell? ⟨gb165, 8, none⟩ = some (.int .i64 0)) (ds := []) #[false, false, false, false, false, false, false, false, false, false] (by kernel_rfl) rfl rfl ⟨(blk_cell BK165.out 0).trans rfl, (blk_cell BK165.out 1).trans rfl, (blk_cell BK165.out 2).trans rfl, (blk_cell BK165.out 3).trans rfl, (blk_cell BK165.out 4).trans rfl, (blk_cell BK165.out 5).trans rfl, (blk_cell BK165.out 6).trans rfl, (blk_cell BK165.out 7).trans rfl, (blk_cell BK165.out 8).trans rfl⟩ (fun hHeld => ?_); refine with_tabW flyleaflaw11_RelocBack.tab15 flyleaflaw11_RelocBack.bits15 (fun HT_ HW_ => ?_)
                  generalize w45.drew = w46 at HO_7 BK155 BK165 HB hHeld ⊢
                  refine pure_ (i := 0) (N := some 86) (v := ?_) (a' := ?_) #[true, false, false, false, false, false, false, false, false, false] rfl rfl (any_of HT_.out (by kernel_rfl)) (fun _ _ _ h => h) (Or.inl ⟨by rfl, ?_⟩) ?_ ?_
                  rotate_left
                  · intro w'
                    go_simp
                    with_reducible rfl
                  rotate_left
                  · simp only [Act.put, List.setIfInBounds_toArray, List.set_cons_zero, List.set_cons_succ, i64_w, i32_w]
                    rfl
                  refine pure_ (i := 1) (N := some 87) (v := ?_) (a' := ?_) #[true, true, false, false, false, false, false, false, false, false] rfl rfl (any_of HT_.out (by kernel_rfl)) (fun _ _ _ h => h) (Or.inl ⟨by rfl, ?_⟩) ?_ ?_
                  rotate_left
                  · intro w'
                    go_simp
                    with_reducible rfl
                  rotate_left
                  · simp only [Act.put, List.setIfInBounds_toArray, List.set_cons_zero, List.set_cons_succ, i64_w, i32_w]
                    rfl
                  refine take_ (i := 3) (N := some 89) (v := ?_) (a' := ?_) #[true, true, false, true, false, false, false, false, false, false] rfl rfl (take_ofW HT_.out HW_.out (by kernel_rfl)) (fun _ _ _ h => h) (Or.inl ⟨by rfl, ?_⟩) hHeld ?_ ?_
                  rotate_left
                  · rintro w' ⟨s0, s1, s2, s3, s4, s5, s6, s7, s8⟩
                    go_simp
                    with_reducible rfl
                  rotate_left
                  · simp only [Act.put, List.setIfInBounds_toArray, List.set_cons_zero, List.set_cons_succ, i64_w, i32_w]
                    rfl
                  refine one_ (i := 2) (N := some 88) #[true, true, true, true, false, false, false, false, false, false] rfl rfl (one_of HT_.out (by kernel_rfl)) (by decide) (fun K hK => ?_)
                  refine goes_ Try.func17 (by kernel_rfl) rfl #[.string x8_1, .int .i64 (wrap64 (300 + (Go.bits .and .i64 a1 255)))] (by rfl) rfl rfl (by (try simp only [List.map_toArray, List.map_cons, List.map_nil]); first | done | rfl | (simp only [List.length_drop, List.length_take]; rfl) | (simp only [ByteArray.size_append, Int.natCast_add]; rfl)) ?_
                  with_reducible refine (flyleafref01_Fill.calls x8_1 (wrap64 (300 + (Go.bits .and .i64 a1 255))) t166 _ A36.out).mono ?_
                  rintro e w47 ⟨rfl, hb⟩
                  refine ⟨_, rfl, ?_⟩
                  have n0_ := Aside0.mk (Kd.R_below (by (with_reducible repeat (first | apply Kd.R_alloc | apply Kd.R_drewN | apply Kd.R_drew)); exact HO_7.out) hb)
                  have n1_ := Aside0.mk (blk_below (g := gb155) (o := .cells #[.int .i64 1, .int .i64 6, .int .i64 7, .int .i64 8] 26 (0, 0)) (by (with_reducible repeat (first | refine blk_drewN ?_ _ | refine blk_drew ?_ | refine blk_alloc ?_ _)); exact BK155.out) hb)
                  have n2_ := Aside0.mk (blk_below (g := gb165) (o := .cells #[.slice none 0 0, .int .i64 0, .int .i64 0, .int .i64 0, .int .i64 0, .int .i64 0, .int .i64 (x8_1.size : Int), .int .i64 0, .int .i64 0] 40 (0, 0)) (by (with_reducible repeat (first | refine blk_drewN ?_ _ | refine blk_drew ?_ | refine blk_alloc ?_ _)); exact BK165.out) hb)
                  have n3_ := Aside0.mk (below_step (by repeat (first | (with_reducible first | exact HB.out | apply below_alloc | apply pw_below_drewN | apply below_drew1 | refine below_set ?_ GE155.out | refine below_set ?_ GE165.out) | exact HB.out)) hb)
                  clear HO_7
                  clear BK155
                  clear BK165
                  clear HB
                  have HO_7 := n0_
                  have BK155 := n1_
                  have BK165 := n2_
                  have HB := n3_
                  clear n0_ n1_ n2_ n3_
                  (try clear hb)
                  (try clear hb2)
                  (try clear hk)
                  (try clear hi)
                  refine hK.out _ _ ⟨(blk_cell BK165.out 0).trans rfl, (blk_cell BK165.out 1).trans rfl, (blk_cell BK165.out 2).trans rfl, (blk_cell BK165.out 3).trans rfl, (blk_cell BK165.out 4).trans rfl, (blk_cell BK165.out 5).trans rfl, (blk_cell BK165.out 6).trans rfl, (blk_cell BK165.out 7).trans rfl, (blk_cell BK165.out 8).trans rfl⟩ (fun hHeld => ?_)
                  clear hK K
                  refine norm_ (a' := ?_) ?_ ?_
                  rotate_left
                  · show Act.put _ (some 88) _ = _
                    simp only [Act.put, List.setIfInBounds_toArray, List.set_cons_zero, List.set_cons_succ, i64_w, i32_w]
                    rfl
                  refine one_ (i := 4) (N := some 90) #[true, true, true, true, true, false, false, false, false, false] rfl rfl (one_of HT_.out (by kernel_rfl)) (by decide) (fun K hK => ?_)
                  refine goes_ Try.func18 (by kernel_rfl) rfl #[.string t166, .agg #[.slice none 0 0, .int .i64 0, .int .i64 0, .int .i64 0, .int .i64 0, .int .i64 0, .int .i64 (x8_1.size : Int), .int .i64 0, .int .i64 0]] (by rfl) rfl rfl (by (try simp only [List.map_toArray, List.map_cons, List.map_nil]); first | done | rfl | (simp only [List.length_drop, List.length_take]; rfl) | (simp only [ByteArray.size_append, Int.natCast_add]; rfl)) ?_
                  refine (reloc_Read.calls kj6 t166 _ _ ([] : List Int) 0 0 0 0 0 (x8_1.size : Int) 0 0 t167 t170 _ ?side1 ?side2 A37.out).mono ?_
                  (case side1 => exact Kd.C_nil _ _)
                  (case side2 => exact Nat.le_refl _)
                  rintro e w48 ⟨v168, rfl, ho0, hb⟩
                  refine ⟨_, rfl, ?_⟩
                  have n0_ := Aside0.mk (Kd.R_elder' (by (with_reducible repeat (first | apply Kd.R_alloc | apply Kd.R_drewN | apply Kd.R_drew)); exact HO_7.out) (Kd.R_base ho0) hb)
                  have n1_ := Aside0.mk (Kd.R_lower (Kd.R_new' ho0 (Kd.R_lt (by (with_reducible repeat (first | apply Kd.R_alloc | apply Kd.R_drewN | apply Kd.R_drew)); exact HO_7.out))) (below_size (by repeat (first | (with_reducible first | exact HB.out | apply below_alloc | apply pw_below_drewN | apply below_drew1 | refine below_set ?_ GE155.out | refine below_set ?_ GE165.out) | exact HB.out))))
                  have n2_ := Aside0.mk (blk_below (g := gb155) (o := .cells #[.int .i64 1, .int .i64 6, .int .i64 7, .int .i64 8] 26 (0, 0)) (by (with_reducible repeat (first | refine blk_drewN ?_ _ | refine blk_drew ?_ | refine blk_alloc ?_ _)); exact BK155.out) hb)
                  have n3_ := Aside0.mk (blk_below (g := gb165) (o := .cells #[.slice none 0 0, .int .i64 0, .int .i64 0, .int .i64 0, .int .i64 0, .int .i64 0, .int .i64 (x8_1.size : Int), .int .i64 0, .int .i64 0] 40 (0, 0)) (by (with_reducible repeat (first | refine blk_drewN ?_ _ | refine blk_drew ?_ | refine blk_alloc ?_ _)); exact BK165.out) hb)
                  have n4_ := Aside0.mk (below_step (by repeat (first | (with_reducible first | exact HB.out | apply below_alloc | apply pw_below_drewN | apply below_drew1 | refine below_set ?_ GE155.out | refine below_set ?_ GE165.out) | exact HB.out)) hb)
                  clear HO_7
                  clear BK155
                  clear BK165
                  clear HB
                  have HO_7 := n0_
                  have HO169 := n1_
                  have BK155 := n2_
                  have BK165 := n3_
                  have HB := n4_
                  clear n0_ n1_ n2_ n3_ n4_
                  (try clear hb)
                  (try clear hb2)
                  (try clear hk)
                  (try clear hi)
                  (try clear ho0)
                  refine hK.out _ _ ⟨(blk_cell BK165.out 0).trans rfl, (blk_cell BK165.out 1).trans rfl, (blk_cell BK165.out 2).trans rfl, (blk_cell BK165.out 3).trans rfl, (blk_cell BK165.out 4).trans rfl, (blk_cell BK165.out 5).trans rfl, (blk_cell BK165.out 6).trans rfl, (blk_cell BK165.out 7).trans rfl, (blk_cell BK165.out 8).trans rfl⟩ (fun hHeld => ?_)
                  clear hK K
                  refine norm_ (a' := ?_) ?_ ?_
                  rotate_left
                  · show Act.put _ (some 90) _ = _
                    simp only [Act.put, List.setIfInBounds_toArray, List.set_cons_zero, List.set_cons_succ, i64_w, i32_w]
                    rfl
                  refine pure_ (i := 5) (N := some 85) (v := ?_) (a' := ?_) #[true, true, true, true, true, true, false, false, false, false] rfl rfl (any_of HT_.out (by kernel_rfl)) (fun _ _ _ h => h) (Or.inl ⟨by rfl, ?_⟩) ?_ ?_
                  rotate_left
                  · intro w'
                    go_simp
                    with_reducible rfl
                  rotate_left
                  · simp only [Act.put, List.setIfInBounds_toArray, List.set_cons_zero, List.set_cons_succ, i64_w, i32_w]
                    rfl
                  refine pure_ (i := 6) (N := some 91) (v := ?_) (a' := ?_) #[true, true, true, true, true, true, true, false, false, false] rfl rfl (any_of HT_.out (by kernel_rfl)) (fun _ _ _ h => h) (Or.inl ⟨by rfl, ?_⟩) ?_ ?_
                  rotate_left
                  · intro w'
                    go_simp
                    with_reducible rfl
                  rotate_left
                  · simp only [Act.put, List.setIfInBounds_toArray, List.set_cons_zero, List.set_cons_succ, i64_w, i32_w]
                    rfl
                  refine pure_ (i := 7) (N := some 92) (v := ?_) (a' := ?_) #[true, true, true, true, true, true, true, true, false, false] rfl rfl (any_of HT_.out (by kernel_rfl)) (fun _ _ _ h => h) (Or.inl ⟨by rfl, ?_⟩) ?_ ?_
                  rotate_left
                  · intro w'
                    go_simp
                    with_reducible rfl
                  rotate_left
                  · simp only [Act.put, List.setIfInBounds_toArray, List.set_cons_zero, List.set_cons_succ, i64_w, i32_w]
                    rfl
                  refine pure_ (i := 8) (N := some 13) (v := ?_) (a' := ?_) #[true, true, true, true, true, true, true, true, true, false] rfl rfl (any_of HT_.out (by kernel_rfl)) (fun _ _ _ h => h) (Or.inl ⟨by rfl, ?_⟩) ?_ ?_
                  rotate_left
                  · intro w'
                    go_simp
                    with_reducible rfl
                  rotate_left
                  · simp only [Act.put, List.setIfInBounds_toArray, List.set_cons_zero, List.set_cons_succ, i64_w, i32_w]
                    rfl
                  refine pure_ (i := 9) (N := some 14) (v := ?_) (a' := ?_) #[true, true, true, true, true, true, true, true, true, true] rfl rfl (any_of HT_.out (by kernel_rfl)) (fun _ _ _ h => h) (Or.inl ⟨by rfl, ?_⟩) ?_ ?_
                  rotate_left
                  · intro w'
                    go_simp
                    with_reducible rfl
                  rotate_left
                  · simp only [Act.put, List.setIfInBounds_toArray, List.set_cons_zero, List.set_cons_succ, i64_w, i32_w]
                    rfl
                  refine done_ (done_of HT_.out (by kernel_rfl)) ?_
                  obtain ⟨Ao49, co49, eo49⟩ := Kd.R_slice HO169.out
                  subst eo49
                  obtain ⟨Ao50, co50, eo50⟩ := Kd.R_slice HO_7.out
                  subst eo50
                  try go_wp2_with (first | ((with_reducible refine gate_callee (f := 20) rfl ?_); refine goesL_ (some 95) rfl rfl Try.func20 (by kernel_rfl) rfl #[.slice Ao49 t167.length co49, .slice Ao50 x7_1.length co50] rfl (by (try simp only [List.map_toArray, List.map_cons, List.map_nil]); first | done | rfl | (simp only [List.length_drop, List.length_take]; rfl) | (simp only [ByteArray.size_append, Int.natCast_add]; rfl)) ?_; (with_reducible refine (flyleafref11_Same.calls kj6 _ _ t167 _ _ x7_1 true _ ?side1 ?side2 ?side3 ?side4 A38.out).mono ?_); (case side1 => repeat (first | exact (Kd.R_reads' HO169.out).2.2 | (with_reducible refine Kd.C_alloc ?_ _) | (with_reducible refine Kd.C_drewN ?_ _) | (with_reducible refine Kd.C_drew ?_))); (case side2 => exact (Kd.R_reads' HO169.out).2.1); (case side3 => repeat (first | exact (Kd.R_reads' HO_7.out).2.2 | (with_reducible refine Kd.C_alloc ?_ _) | (with_reducible refine Kd.C_drewN ?_ _) | (with_reducible refine Kd.C_drew ?_))); (case side4 => exact (Kd.R_reads' HO_7.out).2.1); rintro e w' ⟨rfl, ⟨nd, rfl⟩⟩; refine ⟨_, rfl, ?_⟩))
                  go_ret
                  exact ⟨by first | rfl | (simp [errW_none, errW_some] <;> rfl) | (rw [HR_.out]; done) | (rw [← HR_.out]; done) | (have hR_ := HR_.out; simp only [hR_]; done) | (have hR_ := HR_.out; simp only [ByteArray.size_append] at hR_; exact congrArg (fun b_ => Ending.returned (.bool b_)) hR_) | (have hR_ := HR_.out; simp_all; done) | (have hR_ := beq_iff_eq.mp HR_.out; simp; exact hR_) | (simp [*, errW_none, errW_some] <;> rfl), by repeat (first | (with_reducible first | exact HB.out | apply below_alloc | apply pw_below_drewN | apply below_drew1 | refine below_set ?_ GE155.out | refine below_set ?_ GE165.out) | exact HB.out)⟩
                · replace c41 := Bool.eq_false_iff.mpr c41
                  subst c41
                  have H1 : (some false) = some true := by rw [if_neg (show ¬ (false = true) by decide)] at H; exact H
                  clear H
                  have H := H1
                  clear H1
                  exact absurd H (by simp)
              · replace c40 := Bool.eq_false_iff.mpr c40
                subst c40
                have H1 : (some false) = some true := by rw [if_neg (show ¬ (false = true) by decide)] at H; exact H
                clear H
                have H := H1
                clear H1
                exact absurd H (by simp)
            · rw [if_neg c39] at H
              have c39b0 : ((x7_1.length : Int) == 0) = false := beq_eq_false_iff_ne.mpr c39
              have c39b1 : ((x7_1.length : Int) != 0) = true := bne_iff_ne.mpr c39
              have c39b2 : ¬ (x7_1 = []) := fun h_ => c39 (by rw [h_]; rfl)
              replace H := Option.bind_eq_some_iff.mp H
              obtain ⟨t172, A510, H⟩ := H
              replace H : ((reloc_Read.f kj6 t172 ([] : List Int) 0 0 0 0 0 (wrap64 ((x8_1.size : Int) - 1)) 0 0).bind fun bt173 => (if 0 < (x7_1.length : Int) then ((some (x7_1.set (0 : Int).toNat (⟨wrap64 ((wrap64 (300 + (Go.bits .and .i64 a1 255))) - 7), (rd_T23 x7_1 0).f1, (rd_T23 x7_1 0).f2, (rd_T23 x7_1 0).f3⟩ : S23) : List (S23))).bind fun y177 => ((reloc_Bytes.f kj6 ((rd_T23 y177 0).f0) ((rd_T23 y177 0).f1) ((rd_T23 y177 0).f2) ((rd_T23 y177 0).f3)).bind fun t179 => ((flyleafref01_Fill.f t179 (wrap64 (300 + (Go.bits .and .i64 a1 255)))).bind fun t180 => ((reloc_Read.f kj6 t180 ([] : List Int) 0 0 0 0 0 24 0 0).bind fun bt181 => (if t154 = true then (if t171 = true then (if t170 = 0 then (if bt173.2 = 17 then (some (bt181.2 == 17)) else (some false)) else (some false)) else (some false)) else (some false)))))) else (none))) = some true := H
              have A51 := Aside0.mk A510
              clear A510
              replace H := Option.bind_eq_some_iff.mp H
              obtain ⟨⟨t173, t176⟩, A520, H⟩ := H
              replace H : (if 0 < (x7_1.length : Int) then ((some (x7_1.set (0 : Int).toNat (⟨wrap64 ((wrap64 (300 + (Go.bits .and .i64 a1 255))) - 7), (rd_T23 x7_1 0).f1, (rd_T23 x7_1 0).f2, (rd_T23 x7_1 0).f3⟩ : S23) : List (S23))).bind fun y177 => ((reloc_Bytes.f kj6 ((rd_T23 y177 0).f0) ((rd_T23 y177 0).f1) ((rd_T23 y177 0).f2) ((rd_T23 y177 0).f3)).bind fun t179 => ((flyleafref01_Fill.f t179 (wrap64 (300 + (Go.bits .and .i64 a1 255)))).bind fun t180 => ((reloc_Read.f kj6 t180 ([] : List Int) 0 0 0 0 0 24 0 0).bind fun bt181 => (if t154 = true then (if t171 = true then (if t170 = 0 then (if t176 = 17 then (some (bt181.2 == 17)) else (some false)) else (some false)) else (some false)) else (some false)))))) else (none)) = some true := H
              have A52 := Aside0.mk A520
              clear A520
              by_cases c53 : 0 < (x7_1.length : Int)
              · rw [if_pos c53] at H
                have c53b0 : decide (0 < (x7_1.length : Int)) = true := decide_eq_true c53
                have c53b1 : decide (0 < x7_1.length) = true := decide_eq_true (by omega)
                clear c53
                obtain ⟨y177, hy177⟩ : ∃ y_ : List (S23), y_ = (x7_1.set (0 : Int).toNat (⟨wrap64 ((wrap64 (300 + (Go.bits .and .i64 a1 255))) - 7), (rd_T23 x7_1 0).f1, (rd_T23 x7_1 0).f2, (rd_T23 x7_1 0).f3⟩ : S23)) := ⟨_, rfl⟩
                replace H : ((reloc_Bytes.f kj6 ((rd_T23 y177 0).f0) ((rd_T23 y177 0).f1) ((rd_T23 y177 0).f2) ((rd_T23 y177 0).f3)).bind fun t179 => ((flyleafref01_Fill.f t179 (wrap64 (300 + (Go.bits .and .i64 a1 255)))).bind fun t180 => ((reloc_Read.f kj6 t180 ([] : List Int) 0 0 0 0 0 24 0 0).bind fun bt181 => (if t154 = true then (if t171 = true then (if t170 = 0 then (if t176 = 17 then (some (bt181.2 == 17)) else (some false)) else (some false)) else (some false)) else (some false))))) = some true := by first | (rw [hy177]; with_reducible exact H) | (have H2_ := (Option.bind_some _ _).symm.trans H; rw [hy177]; with_reducible exact H2_) | (have H2_ := (Option.bind_some _ _).symm.trans H; with_reducible exact H2_) | with_reducible exact H | (rw [hy177]; exact H) | exact H
                have Ny177 := Aside0.mk hy177
                clear hy177
                replace H := Option.bind_eq_some_iff.mp H
                obtain ⟨t179, A550, H⟩ := H
                replace H : ((flyleafref01_Fill.f t179 (wrap64 (300 + (Go.bits .and .i64 a1 255)))).bind fun t180 => ((reloc_Read.f kj6 t180 ([] : List Int) 0 0 0 0 0 24 0 0).bind fun bt181 => (if t154 = true then (if t171 = true then (if t170 = 0 then (if t176 = 17 then (some (bt181.2 == 17)) else (some false)) else (some false)) else (some false)) else (some false)))) = some true := H
                have A55 := Aside0.mk A550
                clear A550
                replace H := Option.bind_eq_some_iff.mp H
                obtain ⟨t180, A560, H⟩ := H
                replace H : ((reloc_Read.f kj6 t180 ([] : List Int) 0 0 0 0 0 24 0 0).bind fun bt181 => (if t154 = true then (if t171 = true then (if t170 = 0 then (if t176 = 17 then (some (bt181.2 == 17)) else (some false)) else (some false)) else (some false)) else (some false))) = some true := H
                have A56 := Aside0.mk A560
                clear A560
                replace H := Option.bind_eq_some_iff.mp H
                obtain ⟨⟨t181, t184⟩, A570, H⟩ := H
                replace H : (if t154 = true then (if t171 = true then (if t170 = 0 then (if t176 = 17 then (some (t184 == 17)) else (some false)) else (some false)) else (some false)) else (some false)) = some true := H
                have A57 := Aside0.mk A570
                clear A570
                by_cases c58 : t154 = true
                · subst c58
                  have H1 : (if t171 = true then (if t170 = 0 then (if t176 = 17 then (some (t184 == 17)) else (some false)) else (some false)) else (some false)) = some true := by rw [if_pos rfl] at H; exact H
                  clear H
                  have H := H1
                  clear H1
                  by_cases c59 : t171 = true
                  · subst c59
                    have H1 : (if t170 = 0 then (if t176 = 17 then (some (t184 == 17)) else (some false)) else (some false)) = some true := by rw [if_pos rfl] at H; exact H
                    clear H
                    have H := H1
                    clear H1
                    by_cases c60 : t170 = 0
                    · rw [if_pos c60] at H
                      have c60b0 : (t170 == 0) = true := beq_iff_eq.mpr c60
                      have c60b1 : (t170 != 0) = false := bne_eq_false_iff_eq.mpr c60
                      clear c60
                      by_cases c61 : t176 = 17
                      · rw [if_pos c61] at H
                        have c61b0 : (t176 == 17) = true := beq_iff_eq.mpr c61
                        have c61b1 : (t176 != 17) = false := bne_eq_false_iff_eq.mpr c61
                        clear c61
                        have HR_ := Aside0.mk (Option.some.inj H)
                        clear H
                        try go_wp2_with (first | ((with_reducible refine gate_dst (N := 12) rfl ?_); refine box_event ?hg (N := 12) ?hd (cs := #[.slice none 0 0, .int .i64 0, .int .i64 0, .int .i64 0, .int .i64 0, .int .i64 0, .int .i64 0, .int .i64 0, .int .i64 0]) (t := 40) ?hr ?_; (case hd => rfl); (case hg => rfl); (case hr => first | (go_simp; done) | (go_simp; rfl)); intro gb165 hg w62 hbox hb; have n0_ := Aside0.mk (Kd.R_below (by (with_reducible repeat (first | apply Kd.R_alloc | apply Kd.R_drewN | apply Kd.R_drew)); exact HO_7.out) hb); have n1_ := Aside0.mk (blk_below (g := gb155) (o := .cells #[.int .i64 1, .int .i64 6, .int .i64 7, .int .i64 8] 26 (0, 0)) (by (with_reducible repeat (first | refine blk_drewN ?_ _ | refine blk_drew ?_ | refine blk_alloc ?_ _)); exact BK155.out) hb); have n2_ := Aside0.mk (below_step (by repeat (first | (with_reducible first | exact HB.out | apply below_alloc | apply pw_below_drewN | apply below_drew1 | refine below_set ?_ GE155.out) | exact HB.out)) hb); have n3_ := Aside0.mk (hbox); have n4_ := Aside0.mk ((by rw [hg]; exact (below_size (by repeat (first | (with_reducible first | exact HB.out | apply below_alloc | apply pw_below_drewN | apply below_drew1 | refine below_set ?_ GE155.out) | exact HB.out))) : w.heap.size ≤ gb165)); have n5_ := Aside0.mk ((by rw [hg]; exact (below_size (by repeat (first | (with_reducible first | exact HB.out | apply below_alloc | apply pw_below_drewN | apply below_drew1 | refine below_set ?_ GE155.out) | exact HB.out))) : w.heap.size ≤ gb165)); have n6_ := Aside0.mk ((by rw [hg]; exact Nat.ne_of_lt (blk_lt (g := gb155) (o := .cells #[.int .i64 1, .int .i64 6, .int .i64 7, .int .i64 8] 26 (0, 0)) (by (with_reducible repeat (first | refine blk_drewN ?_ _ | refine blk_drew ?_ | refine blk_alloc ?_ _)); exact BK155.out)) : gb155 ≠ gb165)); have n7_ := Aside0.mk ((by rw [hg]; exact Nat.ne_of_gt (blk_lt (g := gb155) (o := .cells #[.int .i64 1, .int .i64 6, .int .i64 7, .int .i64 8] 26 (0, 0)) (by (with_reducible repeat (first | refine blk_drewN ?_ _ | refine blk_drew ?_ | refine blk_alloc ?_ _)); exact BK155.out)) : gb165 ≠ gb155)); clear HO_7; clear BK155; clear HB; have HO_7 := n0_; have BK155 := n1_; have HB := n2_; have BK165 := n3_; have GW165 := n4_; have GE165 := n5_; have NB155_165 := n6_; have NB165_155 := n7_; clear n0_ n1_ n2_ n3_ n4_ n5_ n6_ n7_; clear hb hbox hg; have hnb63 := NB165_155.out; have hnc63 := NB155_165.out; have hcz64_0 : w62.cell? ⟨gb165, 0, none⟩ = some (.slice none 0 0) := (blk_cell BK165.out 0).trans rfl; have hcz64_1 : w62.cell? ⟨gb165, 1, none⟩ = some (.int .i64 0) := (blk_cell BK165.out 1).trans rfl; have hcz64_2 : w62.cell? ⟨gb165, 2, none⟩ = some (.int .i64 0) := (blk_cell BK165.out 2).trans rfl; have hcz64_3 : w62.cell? ⟨gb165, 3, none⟩ = some (.int .i64 0) := (blk_cell BK165.out 3).trans rfl; have hcz64_4 : w62.cell? ⟨gb165, 4, none⟩ = some (.int .i64 0) := (blk_cell BK165.out 4).trans rfl; have hcz64_5 : w62.cell? ⟨gb165, 5, none⟩ = some (.int .i64 0) := (blk_cell BK165.out 5).trans rfl; have hcz64_6 : w62.cell? ⟨gb165, 6, none⟩ = some (.int .i64 0) := (blk_cell BK165.out 6).trans rfl; have hcz64_7 : w62.cell? ⟨gb165, 7, none⟩ = some (.int .i64 0) := (blk_cell BK165.out 7).trans rfl; have hcz64_8 : w62.cell? ⟨gb165, 8, none⟩ = some (.int .i64 0) := (blk_cell BK165.out 8).trans rfl; have hfz64_0 := blk_frozen BK165.out 0; have hfz64_1 := blk_frozen BK165.out 1; have hfz64_2 := blk_frozen BK165.out 2; have hfz64_3 := blk_frozen BK165.out 3; have hfz64_4 := blk_frozen BK165.out 4; have hfz64_5 := blk_frozen BK165.out 5; have hfz64_6 := blk_frozen BK165.out 6; have hfz64_7 := blk_frozen BK165.out 7; have hfz64_8 := blk_frozen BK165.out 8))
                        have n0_ : Aside0 (Kd.R k23 23 (((((((((w62.setCell ⟨gb165, 0, none⟩ (.slice none 0 0)).setCell ⟨gb165, 1, none⟩ (.int .i64 0)).setCell ⟨gb165, 2, none⟩ (.int .i64 0)).setCell ⟨gb165, 3, none⟩ (.int .i64 0)).setCell ⟨gb165, 4, none⟩ (.int .i64 0)).setCell ⟨gb165, 5, none⟩ (.int .i64 0)).setCell ⟨gb165, 6, none⟩ (.int .i64 (x8_1.size : Int))).setCell ⟨gb165, 7, none⟩ (.int .i64 0)).setCell ⟨gb165, 8, none⟩ (.int .i64 0)) w.heap.size (fun _ => True) u7 x7_1) := ⟨by (with_reducible repeat (first | apply Kd.R_alloc | apply Kd.R_drewN | apply Kd.R_drew)); exact Kd.R_mono (Kd.R_far (p := ⟨gb165, 8, none⟩) (Kd.R_far (p := ⟨gb165, 7, none⟩) (Kd.R_far (p := ⟨gb165, 6, none⟩) (Kd.R_far (p := ⟨gb165, 5, none⟩) (Kd.R_far (p := ⟨gb165, 4, none⟩) (Kd.R_far (p := ⟨gb165, 3, none⟩) (Kd.R_far (p := ⟨gb165, 2, none⟩) (Kd.R_far (p := ⟨gb165, 1, none⟩) (Kd.R_far (p := ⟨gb165, 0, none⟩) (Kd.R_types HO_7.out BK165.out (by decide)) (fun _ hk => hk.2) (.slice none 0 0)) (fun _ hk => hk.2) (.int .i64 0)) (fun _ hk => hk.2) (.int .i64 0)) (fun _ hk => hk.2) (.int .i64 0)) (fun _ hk => hk.2) (.int .i64 0)) (fun _ hk => hk.2) (.int .i64 0)) (fun _ hk => hk.2) (.int .i64 (x8_1.size : Int))) (fun _ hk => hk.2) (.int .i64 0)) (fun _ hk => hk.2) (.int .i64 0)) (fun _ hk => trivial)⟩
                        have n1_ : Aside0 ((((((((((w62.setCell ⟨gb165, 0, none⟩ (.slice none 0 0)).setCell ⟨gb165, 1, none⟩ (.int .i64 0)).setCell ⟨gb165, 2, none⟩ (.int .i64 0)).setCell ⟨gb165, 3, none⟩ (.int .i64 0)).setCell ⟨gb165, 4, none⟩ (.int .i64 0)).setCell ⟨gb165, 5, none⟩ (.int .i64 0)).setCell ⟨gb165, 6, none⟩ (.int .i64 (x8_1.size : Int))).setCell ⟨gb165, 7, none⟩ (.int .i64 0)).setCell ⟨gb165, 8, none⟩ (.int .i64 0)).heap[gb155]? = some (.cells #[.int .i64 1, .int .i64 6, .int .i64 7, .int .i64 8] 26 (0, 0))) := ⟨by (with_reducible repeat (first | refine blk_drewN ?_ _ | refine blk_drew ?_ | refine blk_alloc ?_ _)); refine blk_far ?_ NB155_165.out _; (with_reducible repeat (first | refine blk_drewN ?_ _ | refine blk_drew ?_ | refine blk_alloc ?_ _)); refine blk_far ?_ NB155_165.out _; (with_reducible repeat (first | refine blk_drewN ?_ _ | refine blk_drew ?_ | refine blk_alloc ?_ _)); refine blk_far ?_ NB155_165.out _; (with_reducible repeat (first | refine blk_drewN ?_ _ | refine blk_drew ?_ | refine blk_alloc ?_ _)); refine blk_far ?_ NB155_165.out _; (with_reducible repeat (first | refine blk_drewN ?_ _ | refine blk_drew ?_ | refine blk_alloc ?_ _)); refine blk_far ?_ NB155_165.out _; (with_reducible repeat (first | refine blk_drewN ?_ _ | refine blk_drew ?_ | refine blk_alloc ?_ _)); refine blk_far ?_ NB155_165.out _; (with_reducible repeat (first | refine blk_drewN ?_ _ | refine blk_drew ?_ | refine blk_alloc ?_ _)); refine blk_far ?_ NB155_165.out _; (with_reducible repeat (first | refine blk_drewN ?_ _ | refine blk_drew ?_ | refine blk_alloc ?_ _)); refine blk_far ?_ NB155_165.out _; (with_reducible repeat (first | refine blk_drewN ?_ _ | refine blk_drew ?_ | refine blk_alloc ?_ _)); refine blk_far ?_ NB155_165.out _; (with_reducible repeat (first | refine blk_drewN ?_ _ | refine blk_drew ?_ | refine blk_alloc ?_ _)); exact BK155.out⟩
                        have n2_ : Aside0 ((((((((((w62.setCell ⟨gb165, 0, none⟩ (.slice none 0 0)).setCell ⟨gb165, 1, none⟩ (.int .i64 0)).setCell ⟨gb165, 2, none⟩ (.int .i64 0)).setCell ⟨gb165, 3, none⟩ (.int .i64 0)).setCell ⟨gb165, 4, none⟩ (.int .i64 0)).setCell ⟨gb165, 5, none⟩ (.int .i64 0)).setCell ⟨gb165, 6, none⟩ (.int .i64 (x8_1.size : Int))).setCell ⟨gb165, 7, none⟩ (.int .i64 0)).setCell ⟨gb165, 8, none⟩ (.int .i64 0)).heap[gb165]? = some (.cells #[.slice none 0 0, .int .i64 0, .int .i64 0, .int .i64 0, .int .i64 0, .int .i64 0, .int .i64 (x8_1.size : Int), .int .i64 0, .int .i64 0] 40 (0, 0))) := ⟨by (with_reducible repeat (first | refine blk_drewN ?_ _ | refine blk_drew ?_ | refine blk_alloc ?_ _)); refine blk_put (cs := #[.slice none 0 0, .int .i64 0, .int .i64 0, .int .i64 0, .int .i64 0, .int .i64 0, .int .i64 (x8_1.size : Int), .int .i64 0, .int .i64 0]) ?_ 8 _ rfl; (with_reducible repeat (first | refine blk_drewN ?_ _ | refine blk_drew ?_ | refine blk_alloc ?_ _)); refine blk_put (cs := #[.slice none 0 0, .int .i64 0, .int .i64 0, .int .i64 0, .int .i64 0, .int .i64 0, .int .i64 (x8_1.size : Int), .int .i64 0, .int .i64 0]) ?_ 7 _ rfl; (with_reducible repeat (first | refine blk_drewN ?_ _ | refine blk_drew ?_ | refine blk_alloc ?_ _)); refine blk_put (cs := #[.slice none 0 0, .int .i64 0, .int .i64 0, .int .i64 0, .int .i64 0, .int .i64 0, .int .i64 0, .int .i64 0, .int .i64 0]) ?_ 6 _ rfl; (with_reducible repeat (first | refine blk_drewN ?_ _ | refine blk_drew ?_ | refine blk_alloc ?_ _)); refine blk_put (cs := #[.slice none 0 0, .int .i64 0, .int .i64 0, .int .i64 0, .int .i64 0, .int .i64 0, .int .i64 0, .int .i64 0, .int .i64 0]) ?_ 5 _ rfl; (with_reducible repeat (first | refine blk_drewN ?_ _ | refine blk_drew ?_ | refine blk_alloc ?_ _)); refine blk_put (cs := #[.slice none 0 0, .int .i64 0, .int .i64 0, .int .i64 0, .int .i64 0, .int .i64 0, .int .i64 0, .int .i64 0, .int .i64 0]) ?_ 4 _ rfl; (with_reducible repeat (first | refine blk_drewN ?_ _ | refine blk_drew ?_ | refine blk_alloc ?_ _)); refine blk_put (cs := #[.slice none 0 0, .int .i64 0, .int .i64 0, .int .i64 0, .int .i64 0, .int .i64 0, .int .i64 0, .int .i64 0, .int .i64 0]) ?_ 3 _ rfl; (with_reducible repeat (first | refine blk_drewN ?_ _ | refine blk_drew ?_ | refine blk_alloc ?_ _)); refine blk_put (cs := #[.slice none 0 0, .int .i64 0, .int .i64 0, .int .i64 0, .int .i64 0, .int .i64 0, .int .i64 0, .int .i64 0, .int .i64 0]) ?_ 2 _ rfl; (with_reducible repeat (first | refine blk_drewN ?_ _ | refine blk_drew ?_ | refine blk_alloc ?_ _)); refine blk_put (cs := #[.slice none 0 0, .int .i64 0, .int .i64 0, .int .i64 0, .int .i64 0, .int .i64 0, .int .i64 0, .int .i64 0, .int .i64 0]) ?_ 1 _ rfl; (with_reducible repeat (first | refine blk_drewN ?_ _ | refine blk_drew ?_ | refine blk_alloc ?_ _)); refine blk_put (cs := #[.slice none 0 0, .int .i64 0, .int .i64 0, .int .i64 0, .int .i64 0, .int .i64 0, .int .i64 0, .int .i64 0, .int .i64 0]) ?_ 0 _ rfl; (with_reducible repeat (first | refine blk_drewN ?_ _ | refine blk_drew ?_ | refine blk_alloc ?_ _)); exact BK165.out⟩
                        have n3_ : Aside0 (Below w.heap.size w (((((((((w62.setCell ⟨gb165, 0, none⟩ (.slice none 0 0)).setCell ⟨gb165, 1, none⟩ (.int .i64 0)).setCell ⟨gb165, 2, none⟩ (.int .i64 0)).setCell ⟨gb165, 3, none⟩ (.int .i64 0)).setCell ⟨gb165, 4, none⟩ (.int .i64 0)).setCell ⟨gb165, 5, none⟩ (.int .i64 0)).setCell ⟨gb165, 6, none⟩ (.int .i64 (x8_1.size : Int))).setCell ⟨gb165, 7, none⟩ (.int .i64 0)).setCell ⟨gb165, 8, none⟩ (.int .i64 0))) := ⟨by repeat (first | (with_reducible first | exact HB.out | apply below_alloc | apply pw_below_drewN | apply below_drew1 | refine below_set ?_ GE155.out | refine below_set ?_ GE165.out) | exact HB.out)⟩
                        (try clear HO_7)
                        (try clear BK155)
                        (try clear BK165)
                        (try clear HB)
                        generalize (((((((((w62.setCell ⟨gb165, 0, none⟩ (.slice none 0 0)).setCell ⟨gb165, 1, none⟩ (.int .i64 0)).setCell ⟨gb165, 2, none⟩ (.int .i64 0)).setCell ⟨gb165, 3, none⟩ (.int .i64 0)).setCell ⟨gb165, 4, none⟩ (.int .i64 0)).setCell ⟨gb165, 5, none⟩ (.int .i64 0)).setCell ⟨gb165, 6, none⟩ (.int .i64 (x8_1.size : Int))).setCell ⟨gb165, 7, none⟩ (.int .i64 0)).setCell ⟨gb165, 8, none⟩ (.int .i64 0)) = w65 at n0_ n1_ n2_ n3_ ⊢
                        have HO_7 := n0_
                        have BK155 := n1_
                        have BK165 := n2_
                        have HB := n3_
                        clear n0_ n1_ n2_ n3_
                        have n0_ := Aside0.mk (Kd.R_drew HO_7.out)
                        have n1_ := Aside0.mk (blk_drew BK155.out)
                        have n2_ := Aside0.mk (blk_drew BK165.out)
                        have n3_ := Aside0.mk (below_drew1 HB.out)
                        clear HO_7
                        clear BK155
                        clear BK165
                        clear HB
                        have HO_7 := n0_
                        have BK155 := n1_
                        have BK165 := n2_
                        have HB := n3_
                        clear n0_ n1_ n2_ n3_
                        refine start_ (n := 10) (S := fun w' => w'.cell? ⟨gb165, 0, none⟩ = some (.slice none 0 0) ∧ w'.cell? ⟨gb165, 1, none⟩ = some (.int .i64 0) ∧ w'.cell? ⟨gb165, 2, none⟩ = some (.int .i64 0) ∧ w'.cell? ⟨gb165, 3, none⟩ = some (.int .i64 0) ∧ w'.cell? ⟨gb165, 4, none⟩ = some (.int .i64 0) ∧ w'.cell? ⟨gb165, 5, none⟩ = some (.int .i64 0) ∧ w'.cell? ⟨gb165, 6, none⟩ = some (.int .i64 (x8_1.size : Int)) ∧ w'.cell? ⟨gb165, 7, none⟩ = some (.int .i64 0) ∧ w'.cell? ⟨gb165, 8, none⟩ = some (.int .i64 0)) (ds := []) #[false, false, false, false, false, false, false, false, false, false] (by kernel_rfl) rfl rfl ⟨(blk_cell BK165.out 0).trans rfl, (blk_cell BK165.out 1).trans rfl, (blk_cell BK165.out 2).trans rfl, (blk_cell BK165.out 3).trans rfl, (blk_cell BK165.out 4).trans rfl, (blk_cell BK165.out 5).trans rfl, (blk_cell BK165.out 6).trans rfl, (blk_cell BK165.out 7).trans rfl, (blk_cell BK165.out 8).trans rfl⟩ (fun hHeld => ?_); refine with_tabW flyleaflaw11_RelocBack.tab15 flyleaflaw11_RelocBack.bits15 (fun HT_ HW_ => ?_)
                        generalize w65.drew = w66 at HO_7 BK155 BK165 HB hHeld ⊢
                        refine pure_ (i := 0) (N := some 86) (v := ?_) (a' := ?_) #[true, false, false, false, false, false, false, false, false, false] rfl rfl (any_of HT_.out (by kernel_rfl)) (fun _ _ _ h => h) (Or.inl ⟨by rfl, ?_⟩) ?_ ?_
                        rotate_left
                        · intro w'
                          go_simp
                          with_reducible rfl
                        rotate_left
                        · simp only [Act.put, List.setIfInBounds_toArray, List.set_cons_zero, List.set_cons_succ, i64_w, i32_w]
                          rfl
                        refine pure_ (i := 1) (N := some 87) (v := ?_) (a' := ?_) #[true, true, false, false, false, false, false, false, false, false] rfl rfl (any_of HT_.out (by kernel_rfl)) (fun _ _ _ h => h) (Or.inl ⟨by rfl, ?_⟩) ?_ ?_
                        rotate_left
                        · intro w'
                          go_simp
                          with_reducible rfl
                        rotate_left
                        · simp only [Act.put, List.setIfInBounds_toArray, List.set_cons_zero, List.set_cons_succ, i64_w, i32_w]
                          rfl
                        refine take_ (i := 3) (N := some 89) (v := ?_) (a' := ?_) #[true, true, false, true, false, false, false, false, false, false] rfl rfl (take_ofW HT_.out HW_.out (by kernel_rfl)) (fun _ _ _ h => h) (Or.inl ⟨by rfl, ?_⟩) hHeld ?_ ?_
                        rotate_left
                        · rintro w' ⟨s0, s1, s2, s3, s4, s5, s6, s7, s8⟩
                          go_simp
                          with_reducible rfl
                        rotate_left
                        · simp only [Act.put, List.setIfInBounds_toArray, List.set_cons_zero, List.set_cons_succ, i64_w, i32_w]
                          rfl
                        refine one_ (i := 2) (N := some 88) #[true, true, true, true, false, false, false, false, false, false] rfl rfl (one_of HT_.out (by kernel_rfl)) (by decide) (fun K hK => ?_)
                        refine goes_ Try.func17 (by kernel_rfl) rfl #[.string x8_1, .int .i64 (wrap64 (300 + (Go.bits .and .i64 a1 255)))] (by rfl) rfl rfl (by (try simp only [List.map_toArray, List.map_cons, List.map_nil]); first | done | rfl | (simp only [List.length_drop, List.length_take]; rfl) | (simp only [ByteArray.size_append, Int.natCast_add]; rfl)) ?_
                        with_reducible refine (flyleafref01_Fill.calls x8_1 (wrap64 (300 + (Go.bits .and .i64 a1 255))) t166 _ A36.out).mono ?_
                        rintro e w67 ⟨rfl, hb⟩
                        refine ⟨_, rfl, ?_⟩
                        have n0_ := Aside0.mk (Kd.R_below (by (with_reducible repeat (first | apply Kd.R_alloc | apply Kd.R_drewN | apply Kd.R_drew)); exact HO_7.out) hb)
                        have n1_ := Aside0.mk (blk_below (g := gb155) (o := .cells #[.int .i64 1, .int .i64 6, .int .i64 7, .int .i64 8] 26 (0, 0)) (by (with_reducible repeat (first | refine blk_drewN ?_ _ | refine blk_drew ?_ | refine blk_alloc ?_ _)); exact BK155.out) hb)
                        have n2_ := Aside0.mk (blk_below (g := gb165) (o := .cells #[.slice none 0 0, .int .i64 0, .int .i64 0, .int .i64 0, .int .i64 0, .int .i64 0, .int .i64 (x8_1.size : Int), .int .i64 0, .int .i64 0] 40 (0, 0)) (by (with_reducible repeat (first | refine blk_drewN ?_ _ | refine blk_drew ?_ | refine blk_alloc ?_ _)); exact BK165.out) hb)
                        have n3_ := Aside0.mk (below_step (by repeat (first | (with_reducible first | exact HB.out | apply below_alloc | apply pw_below_drewN | apply below_drew1 | refine below_set ?_ GE155.out | refine below_set ?_ GE165.out) | exact HB.out)) hb)
                        clear HO_7
                        clear BK155
                        clear BK165
                        clear HB
                        have HO_7 := n0_
                        have BK155 := n1_
                        have BK165 := n2_
                        have HB := n3_
                        clear n0_ n1_ n2_ n3_
                        (try clear hb)
                        (try clear hb2)
                        (try clear hk)
                        (try clear hi)
                        refine hK.out _ _ ⟨(blk_cell BK165.out 0).trans rfl, (blk_cell BK165.out 1).trans rfl, (blk_cell BK165.out 2).trans rfl, (blk_cell BK165.out 3).trans rfl, (blk_cell BK165.out 4).trans rfl, (blk_cell BK165.out 5).trans rfl, (blk_cell BK165.out 6).trans rfl, (blk_cell BK165.out 7).trans rfl, (blk_cell BK165.out 8).trans rfl⟩ (fun hHeld => ?_)
                        clear hK K
                        refine norm_ (a' := ?_) ?_ ?_
                        rotate_left
                        · show Act.put _ (some 88) _ = _
                          simp only [Act.put, List.setIfInBounds_toArray, List.set_cons_zero, List.set_cons_succ, i64_w, i32_w]
                          rfl
                        refine one_ (i := 4) (N := some 90) #[true, true, true, true, true, false, false, false, false, false] rfl rfl (one_of HT_.out (by kernel_rfl)) (by decide) (fun K hK => ?_)
                        refine goes_ Try.func18 (by kernel_rfl) rfl #[.string t166, .agg #[.slice none 0 0, .int .i64 0, .int .i64 0, .int .i64 0, .int .i64 0, .int .i64 0, .int .i64 (x8_1.size : Int), .int .i64 0, .int .i64 0]] (by rfl) rfl rfl (by (try simp only [List.map_toArray, List.map_cons, List.map_nil]); first | done | rfl | (simp only [List.length_drop, List.length_take]; rfl) | (simp only [ByteArray.size_append, Int.natCast_add]; rfl)) ?_
                        refine (reloc_Read.calls kj6 t166 _ _ ([] : List Int) 0 0 0 0 0 (x8_1.size : Int) 0 0 t167 t170 _ ?side1 ?side2 A37.out).mono ?_
                        (case side1 => exact Kd.C_nil _ _)
                        (case side2 => exact Nat.le_refl _)
                        rintro e w68 ⟨v168, rfl, ho0, hb⟩
                        refine ⟨_, rfl, ?_⟩
                        have n0_ := Aside0.mk (Kd.R_elder' (by (with_reducible repeat (first | apply Kd.R_alloc | apply Kd.R_drewN | apply Kd.R_drew)); exact HO_7.out) (Kd.R_base ho0) hb)
                        have n1_ := Aside0.mk (Kd.R_lower (Kd.R_new' ho0 (Kd.R_lt (by (with_reducible repeat (first | apply Kd.R_alloc | apply Kd.R_drewN | apply Kd.R_drew)); exact HO_7.out))) (below_size (by repeat (first | (with_reducible first | exact HB.out | apply below_alloc | apply pw_below_drewN | apply below_drew1 | refine below_set ?_ GE155.out | refine below_set ?_ GE165.out) | exact HB.out))))
                        have n2_ := Aside0.mk (blk_below (g := gb155) (o := .cells #[.int .i64 1, .int .i64 6, .int .i64 7, .int .i64 8] 26 (0, 0)) (by (with_reducible repeat (first | refine blk_drewN ?_ _ | refine blk_drew ?_ | refine blk_alloc ?_ _)); exact BK155.out) hb)
                        have n3_ := Aside0.mk (blk_below (g := gb165) (o := .cells #[.slice none 0 0, .int .i64 0, .int .i64 0, .int .i64 0, .int .i64 0, .int .i64 0, .int .i64 (x8_1.size : Int), .int .i64 0, .int .i64 0] 40 (0, 0)) (by (with_reducible repeat (first | refine blk_drewN ?_ _ | refine blk_drew ?_ | refine blk_alloc ?_ _)); exact BK165.out) hb)
                        have n4_ := Aside0.mk (below_step (by repeat (first | (with_reducible first | exact HB.out | apply below_alloc | apply pw_below_drewN | apply below_drew1 | refine below_set ?_ GE155.out | refine below_set ?_ GE165.out) | exact HB.out)) hb)
                        clear HO_7
                        clear BK155
                        clear BK165
                        clear HB
                        have HO_7 := n0_
                        have HO169 := n1_
                        have BK155 := n2_
                        have BK165 := n3_
                        have HB := n4_
                        clear n0_ n1_ n2_ n3_ n4_
                        (try clear hb)
                        (try clear hb2)
                        (try clear hk)
                        (try clear hi)
                        (try clear ho0)
                        refine hK.out _ _ ⟨(blk_cell BK165.out 0).trans rfl, (blk_cell BK165.out 1).trans rfl, (blk_cell BK165.out 2).trans rfl, (blk_cell BK165.out 3).trans rfl, (blk_cell BK165.out 4).trans rfl, (blk_cell BK165.out 5).trans rfl, (blk_cell BK165.out 6).trans rfl, (blk_cell BK165.out 7).trans rfl, (blk_cell BK165.out 8).trans rfl⟩ (fun hHeld => ?_)
                        clear hK K
                        refine norm_ (a' := ?_) ?_ ?_
                        rotate_left
                        · show Act.put _ (some 90) _ = _
                          simp only [Act.put, List.setIfInBounds_toArray, List.set_cons_zero, List.set_cons_succ, i64_w, i32_w]
                          rfl
                        refine pure_ (i := 5) (N := some 85) (v := ?_) (a' := ?_) #[true, true, true, true, true, true, false, false, false, false] rfl rfl (any_of HT_.out (by kernel_rfl)) (fun _ _ _ h => h) (Or.inl ⟨by rfl, ?_⟩) ?_ ?_
                        rotate_left
                        · intro w'
                          go_simp
                          with_reducible rfl
                        rotate_left
                        · simp only [Act.put, List.setIfInBounds_toArray, List.set_cons_zero, List.set_cons_succ, i64_w, i32_w]
                          rfl
                        refine pure_ (i := 6) (N := some 91) (v := ?_) (a' := ?_) #[true, true, true, true, true, true, true, false, false, false] rfl rfl (any_of HT_.out (by kernel_rfl)) (fun _ _ _ h => h) (Or.inl ⟨by rfl, ?_⟩) ?_ ?_
                        rotate_left
                        · intro w'
                          go_simp
                          with_reducible rfl
                        rotate_left
                        · simp only [Act.put, List.setIfInBounds_toArray, List.set_cons_zero, List.set_cons_succ, i64_w, i32_w]
                          rfl
                        refine pure_ (i := 7) (N := some 92) (v := ?_) (a' := ?_) #[true, true, true, true, true, true, true, true, false, false] rfl rfl (any_of HT_.out (by kernel_rfl)) (fun _ _ _ h => h) (Or.inl ⟨by rfl, ?_⟩) ?_ ?_
                        rotate_left
                        · intro w'
                          go_simp
                          with_reducible rfl
                        rotate_left
                        · simp only [Act.put, List.setIfInBounds_toArray, List.set_cons_zero, List.set_cons_succ, i64_w, i32_w]
                          rfl
                        refine pure_ (i := 8) (N := some 13) (v := ?_) (a' := ?_) #[true, true, true, true, true, true, true, true, true, false] rfl rfl (any_of HT_.out (by kernel_rfl)) (fun _ _ _ h => h) (Or.inl ⟨by rfl, ?_⟩) ?_ ?_
                        rotate_left
                        · intro w'
                          go_simp
                          with_reducible rfl
                        rotate_left
                        · simp only [Act.put, List.setIfInBounds_toArray, List.set_cons_zero, List.set_cons_succ, i64_w, i32_w]
                          rfl
                        refine pure_ (i := 9) (N := some 14) (v := ?_) (a' := ?_) #[true, true, true, true, true, true, true, true, true, true] rfl rfl (any_of HT_.out (by kernel_rfl)) (fun _ _ _ h => h) (Or.inl ⟨by rfl, ?_⟩) ?_ ?_
                        rotate_left
                        · intro w'
                          go_simp
                          with_reducible rfl
                        rotate_left
                        · simp only [Act.put, List.setIfInBounds_toArray, List.set_cons_zero, List.set_cons_succ, i64_w, i32_w]
                          rfl
                        refine done_ (done_of HT_.out (by kernel_rfl)) ?_
                        obtain ⟨Ao69, co69, eo69⟩ := Kd.R_slice HO169.out
                        subst eo69
                        obtain ⟨Ao70, co70, eo70⟩ := Kd.R_slice HO_7.out
                        subst eo70
                        try go_wp2_with (first | ((with_reducible refine gate_callee (f := 20) rfl ?_); refine goesL_ (some 95) rfl rfl Try.func20 (by kernel_rfl) rfl #[.slice Ao69 t167.length co69, .slice Ao70 x7_1.length co70] rfl (by (try simp only [List.map_toArray, List.map_cons, List.map_nil]); first | done | rfl | (simp only [List.length_drop, List.length_take]; rfl) | (simp only [ByteArray.size_append, Int.natCast_add]; rfl)) ?_; (with_reducible refine (flyleafref11_Same.calls kj6 _ _ t167 _ _ x7_1 true _ ?side1 ?side2 ?side3 ?side4 A38.out).mono ?_); (case side1 => repeat (first | exact (Kd.R_reads' HO169.out).2.2 | (with_reducible refine Kd.C_alloc ?_ _) | (with_reducible refine Kd.C_drewN ?_ _) | (with_reducible refine Kd.C_drew ?_))); (case side2 => exact (Kd.R_reads' HO169.out).2.1); (case side3 => repeat (first | exact (Kd.R_reads' HO_7.out).2.2 | (with_reducible refine Kd.C_alloc ?_ _) | (with_reducible refine Kd.C_drewN ?_ _) | (with_reducible refine Kd.C_drew ?_))); (case side4 => exact (Kd.R_reads' HO_7.out).2.1); rintro e w' ⟨rfl, ⟨nd, rfl⟩⟩; refine ⟨_, rfl, ?_⟩; (try (rw [drewN_self w68]; generalize hq_ : World.drewN w68 _ = w68; have n0_ : Aside0 (Kd.R k23 23 w68 w.heap.size (fun k_ => some k_ ≠ (.slice Ao70 x7_1.length co70 : Value).ownBlock) (.slice Ao69 t167.length co69) t167) := ⟨by rw [← hq_]; exact (by (with_reducible repeat (first | apply Kd.R_alloc | apply Kd.R_drewN | apply Kd.R_drew)); exact Kd.R_mono HO169.out (fun _ hk => hk.2))⟩; have n1_ : Aside0 (Kd.R k23 23 w68 w.heap.size (fun k_ => some k_ ≠ (.slice Ao69 t167.length co69 : Value).ownBlock) (.slice Ao70 x7_1.length co70) x7_1) := ⟨by rw [← hq_]; exact (by (with_reducible repeat (first | apply Kd.R_alloc | apply Kd.R_drewN | apply Kd.R_drew)); exact Kd.R_mono HO_7.out (fun _ hk => hk.2))⟩; have n2_ : Aside0 (w68.heap[gb155]? = some (.cells #[.int .i64 1, .int .i64 6, .int .i64 7, .int .i64 8] 26 (0, 0))) := ⟨by rw [← hq_]; exact (by (with_reducible repeat (first | refine blk_drewN ?_ _ | refine blk_drew ?_ | refine blk_alloc ?_ _)); exact BK155.out)⟩; have n3_ : Aside0 (w68.heap[gb165]? = some (.cells #[.slice none 0 0, .int .i64 0, .int .i64 0, .int .i64 0, .int .i64 0, .int .i64 0, .int .i64 (x8_1.size : Int), .int .i64 0, .int .i64 0] 40 (0, 0))) := ⟨by rw [← hq_]; exact (by (with_reducible repeat (first | refine blk_drewN ?_ _ | refine blk_drew ?_ | refine blk_alloc ?_ _)); exact BK165.out)⟩; have n4_ : Aside0 (Below w.heap.size w w68) := ⟨by rw [← hq_]; exact (by repeat (first | (with_reducible first | exact HB.out | apply below_alloc | apply pw_below_drewN | apply below_drew1 | refine below_set ?_ GE155.out | refine below_set ?_ GE165.out) | exact HB.out))⟩; clear HO169 HO_7 BK155 BK165 HB hq_; have HO169 := n0_; have HO_7 := n1_; have BK155 := n2_; have BK165 := n3_; have HB := n4_; clear n0_ n1_ n2_ n3_ n4_)); have hcz71_0 : w68.cell? ⟨gb165, 0, none⟩ = some (.slice none 0 0) := (blk_cell BK165.out 0).trans rfl; have hcz71_1 : w68.cell? ⟨gb165, 1, none⟩ = some (.int .i64 0) := (blk_cell BK165.out 1).trans rfl; have hcz71_2 : w68.cell? ⟨gb165, 2, none⟩ = some (.int .i64 0) := (blk_cell BK165.out 2).trans rfl; have hcz71_3 : w68.cell? ⟨gb165, 3, none⟩ = some (.int .i64 0) := (blk_cell BK165.out 3).trans rfl; have hcz71_4 : w68.cell? ⟨gb165, 4, none⟩ = some (.int .i64 0) := (blk_cell BK165.out 4).trans rfl; have hcz71_5 : w68.cell? ⟨gb165, 5, none⟩ = some (.int .i64 0) := (blk_cell BK165.out 5).trans rfl; have hcz71_6 : w68.cell? ⟨gb165, 6, none⟩ = some (.int .i64 (x8_1.size : Int)) := (blk_cell BK165.out 6).trans rfl; have hcz71_7 : w68.cell? ⟨gb165, 7, none⟩ = some (.int .i64 0) := (blk_cell BK165.out 7).trans rfl; have hcz71_8 : w68.cell? ⟨gb165, 8, none⟩ = some (.int .i64 0) := (blk_cell BK165.out 8).trans rfl; have hfz71_0 := blk_frozen BK165.out 0; have hfz71_1 := blk_frozen BK165.out 1; have hfz71_2 := blk_frozen BK165.out 2; have hfz71_3 := blk_frozen BK165.out 3; have hfz71_4 := blk_frozen BK165.out 4; have hfz71_5 := blk_frozen BK165.out 5; have hfz71_6 := blk_frozen BK165.out 6; have hfz71_7 := blk_frozen BK165.out 7; have hfz71_8 := blk_frozen BK165.out 8))
                        have n0_ : Aside0 (Kd.R k23 23 (w68.setCell ⟨gb165, 6, none⟩ (.int .i64 (wrap64 ((x8_1.size : Int) - 1)))) w.heap.size (fun k_ => some k_ ≠ (.slice Ao69 t167.length co69 : Value).ownBlock) (.slice Ao70 x7_1.length co70) x7_1) := ⟨by (with_reducible repeat (first | apply Kd.R_alloc | apply Kd.R_drewN | apply Kd.R_drew)); exact Kd.R_mono (Kd.R_far (p := ⟨gb165, 6, none⟩) (Kd.R_types HO_7.out BK165.out (by decide)) (fun _ hk => hk.2) (.int .i64 (wrap64 ((x8_1.size : Int) - 1)))) (fun _ hk => by first | exact hk.1.2 | exact hk.1)⟩
                        have n1_ : Aside0 (Kd.R k23 23 (w68.setCell ⟨gb165, 6, none⟩ (.int .i64 (wrap64 ((x8_1.size : Int) - 1)))) w.heap.size (fun k_ => some k_ ≠ (.slice Ao70 x7_1.length co70 : Value).ownBlock) (.slice Ao69 t167.length co69) t167) := ⟨by (with_reducible repeat (first | apply Kd.R_alloc | apply Kd.R_drewN | apply Kd.R_drew)); exact Kd.R_mono (Kd.R_far (p := ⟨gb165, 6, none⟩) (Kd.R_types HO169.out BK165.out (by decide)) (fun _ hk => hk.2) (.int .i64 (wrap64 ((x8_1.size : Int) - 1)))) (fun _ hk => by first | exact hk.1.2 | exact hk.1)⟩
                        have n2_ : Aside0 ((w68.setCell ⟨gb165, 6, none⟩ (.int .i64 (wrap64 ((x8_1.size : Int) - 1)))).heap[gb155]? = some (.cells #[.int .i64 1, .int .i64 6, .int .i64 7, .int .i64 8] 26 (0, 0))) := ⟨by (with_reducible repeat (first | refine blk_drewN ?_ _ | refine blk_drew ?_ | refine blk_alloc ?_ _)); refine blk_far ?_ NB155_165.out _; (with_reducible repeat (first | refine blk_drewN ?_ _ | refine blk_drew ?_ | refine blk_alloc ?_ _)); exact BK155.out⟩
                        have n3_ : Aside0 ((w68.setCell ⟨gb165, 6, none⟩ (.int .i64 (wrap64 ((x8_1.size : Int) - 1)))).heap[gb165]? = some (.cells #[.slice none 0 0, .int .i64 0, .int .i64 0, .int .i64 0, .int .i64 0, .int .i64 0, .int .i64 (wrap64 ((x8_1.size : Int) - 1)), .int .i64 0, .int .i64 0] 40 (0, 0))) := ⟨by (with_reducible repeat (first | refine blk_drewN ?_ _ | refine blk_drew ?_ | refine blk_alloc ?_ _)); refine blk_put (cs := #[.slice none 0 0, .int .i64 0, .int .i64 0, .int .i64 0, .int .i64 0, .int .i64 0, .int .i64 (x8_1.size : Int), .int .i64 0, .int .i64 0]) ?_ 6 _ rfl; (with_reducible repeat (first | refine blk_drewN ?_ _ | refine blk_drew ?_ | refine blk_alloc ?_ _)); exact BK165.out⟩
                        have n4_ : Aside0 (Below w.heap.size w (w68.setCell ⟨gb165, 6, none⟩ (.int .i64 (wrap64 ((x8_1.size : Int) - 1))))) := ⟨by repeat (first | (with_reducible first | exact HB.out | apply below_alloc | apply pw_below_drewN | apply below_drew1 | refine below_set ?_ GE155.out | refine below_set ?_ GE165.out) | exact HB.out)⟩
                        (try clear HO_7)
                        (try clear HO169)
                        (try clear BK155)
                        (try clear BK165)
                        (try clear HB)
                        generalize (w68.setCell ⟨gb165, 6, none⟩ (.int .i64 (wrap64 ((x8_1.size : Int) - 1)))) = w72 at n0_ n1_ n2_ n3_ n4_ ⊢
                        have HO_7 := n0_
                        have HO169 := n1_
                        have BK155 := n2_
                        have BK165 := n3_
                        have HB := n4_
                        clear n0_ n1_ n2_ n3_ n4_
                        have n0_ := Aside0.mk (Kd.R_drew HO_7.out)
                        have n1_ := Aside0.mk (Kd.R_drew HO169.out)
                        have n2_ := Aside0.mk (blk_drew BK155.out)
                        have n3_ := Aside0.mk (blk_drew BK165.out)
                        have n4_ := Aside0.mk (below_drew1 HB.out)
                        clear HO_7
                        clear HO169
                        clear BK155
                        clear BK165
                        clear HB
                        have HO_7 := n0_
                        have HO169 := n1_
                        have BK155 := n2_
                        have BK165 := n3_
                        have HB := n4_
                        clear n0_ n1_ n2_ n3_ n4_
                        refine start_ (n := 10) (S := fun w' => w'.cell? ⟨gb165, 0, none⟩ = some (.slice none 0 0) ∧ w'.cell? ⟨gb165, 1, none⟩ = some (.int .i64 0) ∧ w'.cell? ⟨gb165, 2, none⟩ = some (.int .i64 0) ∧ w'.cell? ⟨gb165, 3, none⟩ = some (.int .i64 0) ∧ w'.cell? ⟨gb165, 4, none⟩ = some (.int .i64 0) ∧ w'.cell? ⟨gb165, 5, none⟩ = some (.int .i64 0) ∧ w'.cell? ⟨gb165, 6, none⟩ = some (.int .i64 (wrap64 ((x8_1.size : Int) - 1))) ∧ w'.cell? ⟨gb165, 7, none⟩ = some (.int .i64 0) ∧ w'.cell? ⟨gb165, 8, none⟩ = some (.int .i64 0)) (ds := []) #[false, false, false, false, false, false, false, false, false, false] (by kernel_rfl) rfl rfl ⟨(blk_cell BK165.out 0).trans rfl, (blk_cell BK165.out 1).trans rfl, (blk_cell BK165.out 2).trans rfl, (blk_cell BK165.out 3).trans rfl, (blk_cell BK165.out 4).trans rfl, (blk_cell BK165.out 5).trans rfl, (blk_cell BK165.out 6).trans rfl, (blk_cell BK165.out 7).trans rfl, (blk_cell BK165.out 8).trans rfl⟩ (fun hHeld => ?_); refine with_tabW flyleaflaw11_RelocBack.tab20 flyleaflaw11_RelocBack.bits20 (fun HT_ HW_ => ?_)
                        generalize w72.drew = w73 at HO_7 HO169 BK155 BK165 HB hHeld ⊢
                        refine pure_ (i := 0) (N := some 112) (v := ?_) (a' := ?_) #[true, false, false, false, false, false, false, false, false, false] rfl rfl (any_of HT_.out (by kernel_rfl)) (fun _ _ _ h => h) (Or.inl ⟨by rfl, ?_⟩) ?_ ?_
                        rotate_left
                        · intro w'
                          go_simp
                          with_reducible rfl
                        rotate_left
                        · simp only [Act.put, List.setIfInBounds_toArray, List.set_cons_zero, List.set_cons_succ, i64_w, i32_w]
                          rfl
                        refine pure_ (i := 1) (N := some 113) (v := ?_) (a' := ?_) #[true, true, false, false, false, false, false, false, false, false] rfl rfl (any_of HT_.out (by kernel_rfl)) (fun _ _ _ h => h) (Or.inl ⟨by rfl, ?_⟩) ?_ ?_
                        rotate_left
                        · intro w'
                          go_simp
                          with_reducible rfl
                        rotate_left
                        · simp only [Act.put, List.setIfInBounds_toArray, List.set_cons_zero, List.set_cons_succ, i64_w, i32_w]
                          rfl
                        refine take_ (i := 3) (N := some 115) (v := ?_) (a' := ?_) #[true, true, false, true, false, false, false, false, false, false] rfl rfl (take_ofW HT_.out HW_.out (by kernel_rfl)) (fun _ _ _ h => h) (Or.inl ⟨by rfl, ?_⟩) hHeld ?_ ?_
                        rotate_left
                        · rintro w' ⟨s0, s1, s2, s3, s4, s5, s6, s7, s8⟩
                          go_simp
                          with_reducible rfl
                        rotate_left
                        · simp only [Act.put, List.setIfInBounds_toArray, List.set_cons_zero, List.set_cons_succ, i64_w, i32_w]
                          rfl
                        refine one_ (i := 2) (N := some 114) #[true, true, true, true, false, false, false, false, false, false] rfl rfl (one_of HT_.out (by kernel_rfl)) (by decide) (fun K hK => ?_)
                        refine goes_ Try.func17 (by kernel_rfl) rfl #[.string x8_1, .int .i64 (wrap64 (300 + (Go.bits .and .i64 a1 255)))] (by rfl) rfl rfl (by (try simp only [List.map_toArray, List.map_cons, List.map_nil]); first | done | rfl | (simp only [List.length_drop, List.length_take]; rfl) | (simp only [ByteArray.size_append, Int.natCast_add]; rfl)) ?_
                        with_reducible refine (flyleafref01_Fill.calls x8_1 (wrap64 (300 + (Go.bits .and .i64 a1 255))) t172 _ A51.out).mono ?_
                        rintro e w74 ⟨rfl, hb⟩
                        refine ⟨_, rfl, ?_⟩
                        have n0_ := Aside0.mk (Kd.R_below (by (with_reducible repeat (first | apply Kd.R_alloc | apply Kd.R_drewN | apply Kd.R_drew)); exact HO_7.out) hb)
                        have n1_ := Aside0.mk (Kd.R_below (by (with_reducible repeat (first | apply Kd.R_alloc | apply Kd.R_drewN | apply Kd.R_drew)); exact HO169.out) hb)
                        have n2_ := Aside0.mk (blk_below (g := gb155) (o := .cells #[.int .i64 1, .int .i64 6, .int .i64 7, .int .i64 8] 26 (0, 0)) (by (with_reducible repeat (first | refine blk_drewN ?_ _ | refine blk_drew ?_ | refine blk_alloc ?_ _)); exact BK155.out) hb)
                        have n3_ := Aside0.mk (blk_below (g := gb165) (o := .cells #[.slice none 0 0, .int .i64 0, .int .i64 0, .int .i64 0, .int .i64 0, .int .i64 0, .int .i64 (wrap64 ((x8_1.size : Int) - 1)), .int .i64 0, .int .i64 0] 40 (0, 0)) (by (with_reducible repeat (first | refine blk_drewN ?_ _ | refine blk_drew ?_ | refine blk_alloc ?_ _)); exact BK165.out) hb)
                        have n4_ := Aside0.mk (below_step (by repeat (first | (with_reducible first | exact HB.out | apply below_alloc | apply pw_below_drewN | apply below_drew1 | refine below_set ?_ GE155.out | refine below_set ?_ GE165.out) | exact HB.out)) hb)
                        clear HO_7
                        clear HO169
                        clear BK155
                        clear BK165
                        clear HB
                        have HO_7 := n0_
                        have HO169 := n1_
                        have BK155 := n2_
                        have BK165 := n3_
                        have HB := n4_
                        clear n0_ n1_ n2_ n3_ n4_
                        (try clear hb)
                        (try clear hb2)
                        (try clear hk)
                        (try clear hi)
                        refine hK.out _ _ ⟨(blk_cell BK165.out 0).trans rfl, (blk_cell BK165.out 1).trans rfl, (blk_cell BK165.out 2).trans rfl, (blk_cell BK165.out 3).trans rfl, (blk_cell BK165.out 4).trans rfl, (blk_cell BK165.out 5).trans rfl, (blk_cell BK165.out 6).trans rfl, (blk_cell BK165.out 7).trans rfl, (blk_cell BK165.out 8).trans rfl⟩ (fun hHeld => ?_)
                        clear hK K
                        refine norm_ (a' := ?_) ?_ ?_
                        rotate_left
                        · show Act.put _ (some 114) _ = _
                          simp only [Act.put, List.setIfInBounds_toArray, List.set_cons_zero, List.set_cons_succ, i64_w, i32_w]
                          rfl
                        refine one_ (i := 4) (N := some 116) #[true, true, true, true, true, false, false, false, false, false] rfl rfl (one_of HT_.out (by kernel_rfl)) (by decide) (fun K hK => ?_)
                        refine goes_ Try.func18 (by kernel_rfl) rfl #[.string t172, .agg #[.slice none 0 0, .int .i64 0, .int .i64 0, .int .i64 0, .int .i64 0, .int .i64 0, .int .i64 (wrap64 ((x8_1.size : Int) - 1)), .int .i64 0, .int .i64 0]] (by rfl) rfl rfl (by (try simp only [List.map_toArray, List.map_cons, List.map_nil]); first | done | rfl | (simp only [List.length_drop, List.length_take]; rfl) | (simp only [ByteArray.size_append, Int.natCast_add]; rfl)) ?_
                        refine (reloc_Read.calls kj6 t172 _ _ ([] : List Int) 0 0 0 0 0 (wrap64 ((x8_1.size : Int) - 1)) 0 0 t173 t176 _ ?side1 ?side2 A52.out).mono ?_
                        (case side1 => exact Kd.C_nil _ _)
                        (case side2 => exact Nat.le_refl _)
                        rintro e w75 ⟨v174, rfl, ho0, hb⟩
                        refine ⟨_, rfl, ?_⟩
                        have n0_ := Aside0.mk (Kd.R_elder' (by (with_reducible repeat (first | apply Kd.R_alloc | apply Kd.R_drewN | apply Kd.R_drew)); exact HO_7.out) (Kd.R_base ho0) hb)
                        have n1_ := Aside0.mk (Kd.R_elder' (by (with_reducible repeat (first | apply Kd.R_alloc | apply Kd.R_drewN | apply Kd.R_drew)); exact HO169.out) (Kd.R_base ho0) hb)
                        have n2_ := Aside0.mk (Kd.R_lower (Kd.R_new' (Kd.R_new' ho0 (Kd.R_lt (by (with_reducible repeat (first | apply Kd.R_alloc | apply Kd.R_drewN | apply Kd.R_drew)); exact HO_7.out))) (Kd.R_lt (by (with_reducible repeat (first | apply Kd.R_alloc | apply Kd.R_drewN | apply Kd.R_drew)); exact HO169.out))) (below_size (by repeat (first | (with_reducible first | exact HB.out | apply below_alloc | apply pw_below_drewN | apply below_drew1 | refine below_set ?_ GE155.out | refine below_set ?_ GE165.out) | exact HB.out))))
                        have n3_ := Aside0.mk (blk_below (g := gb155) (o := .cells #[.int .i64 1, .int .i64 6, .int .i64 7, .int .i64 8] 26 (0, 0)) (by (with_reducible repeat (first | refine blk_drewN ?_ _ | refine blk_drew ?_ | refine blk_alloc ?_ _)); exact BK155.out) hb)
                        have n4_ := Aside0.mk (blk_below (g := gb165) (o := .cells #[.slice none 0 0, .int .i64 0, .int .i64 0, .int .i64 0, .int .i64 0, .int .i64 0, .int .i64 (wrap64 ((x8_1.size : Int) - 1)), .int .i64 0, .int .i64 0] 40 (0, 0)) (by (with_reducible repeat (first | refine blk_drewN ?_ _ | refine blk_drew ?_ | refine blk_alloc ?_ _)); exact BK165.out) hb)
                        have n5_ := Aside0.mk (below_step (by repeat (first | (with_reducible first | exact HB.out | apply below_alloc | apply pw_below_drewN | apply below_drew1 | refine below_set ?_ GE155.out | refine below_set ?_ GE165.out) | exact HB.out)) hb)
                        clear HO_7
                        clear HO169
                        clear BK155
                        clear BK165
                        clear HB
                        have HO_7 := n0_
                        have HO169 := n1_
                        have HO175 := n2_
                        have BK155 := n3_
                        have BK165 := n4_
                        have HB := n5_
                        clear n0_ n1_ n2_ n3_ n4_ n5_
                        (try clear hb)
                        (try clear hb2)
                        (try clear hk)
                        (try clear hi)
                        (try clear ho0)
                        refine hK.out _ _ ⟨(blk_cell BK165.out 0).trans rfl, (blk_cell BK165.out 1).trans rfl, (blk_cell BK165.out 2).trans rfl, (blk_cell BK165.out 3).trans rfl, (blk_cell BK165.out 4).trans rfl, (blk_cell BK165.out 5).trans rfl, (blk_cell BK165.out 6).trans rfl, (blk_cell BK165.out 7).trans rfl, (blk_cell BK165.out 8).trans rfl⟩ (fun hHeld => ?_)
                        clear hK K
                        refine norm_ (a' := ?_) ?_ ?_
                        rotate_left
                        · show Act.put _ (some 116) _ = _
                          simp only [Act.put, List.setIfInBounds_toArray, List.set_cons_zero, List.set_cons_succ, i64_w, i32_w]
                          rfl
                        refine pure_ (i := 5) (N := some 111) (v := ?_) (a' := ?_) #[true, true, true, true, true, true, false, false, false, false] rfl rfl (any_of HT_.out (by kernel_rfl)) (fun _ _ _ h => h) (Or.inl ⟨by rfl, ?_⟩) ?_ ?_
                        rotate_left
                        · intro w'
                          go_simp
                          with_reducible rfl
                        rotate_left
                        · simp only [Act.put, List.setIfInBounds_toArray, List.set_cons_zero, List.set_cons_succ, i64_w, i32_w]
                          rfl
                        refine pure_ (i := 6) (N := some 117) (v := ?_) (a' := ?_) #[true, true, true, true, true, true, true, false, false, false] rfl rfl (any_of HT_.out (by kernel_rfl)) (fun _ _ _ h => h) (Or.inl ⟨by rfl, ?_⟩) ?_ ?_
                        rotate_left
                        · intro w'
                          go_simp
                          with_reducible rfl
                        rotate_left
                        · simp only [Act.put, List.setIfInBounds_toArray, List.set_cons_zero, List.set_cons_succ, i64_w, i32_w]
                          rfl
                        refine pure_ (i := 7) (N := some 118) (v := ?_) (a' := ?_) #[true, true, true, true, true, true, true, true, false, false] rfl rfl (any_of HT_.out (by kernel_rfl)) (fun _ _ _ h => h) (Or.inl ⟨by rfl, ?_⟩) ?_ ?_
                        rotate_left
                        · intro w'
                          go_simp
                          with_reducible rfl
                        rotate_left
                        · simp only [Act.put, List.setIfInBounds_toArray, List.set_cons_zero, List.set_cons_succ, i64_w, i32_w]
                          rfl
                        refine pure_ (i := 8) (N := some 16) (v := ?_) (a' := ?_) #[true, true, true, true, true, true, true, true, true, false] rfl rfl (any_of HT_.out (by kernel_rfl)) (fun _ _ _ h => h) (Or.inl ⟨by rfl, ?_⟩) ?_ ?_
                        rotate_left
                        · intro w'
                          go_simp
                          with_reducible rfl
                        rotate_left
                        · simp only [Act.put, List.setIfInBounds_toArray, List.set_cons_zero, List.set_cons_succ, i64_w, i32_w]
                          rfl
                        refine pure_ (i := 9) (N := some 17) (v := ?_) (a' := ?_) #[true, true, true, true, true, true, true, true, true, true] rfl rfl (any_of HT_.out (by kernel_rfl)) (fun _ _ _ h => h) (Or.inl ⟨by rfl, ?_⟩) ?_ ?_
                        rotate_left
                        · intro w'
                          go_simp
                          with_reducible rfl
                        rotate_left
                        · simp only [Act.put, List.setIfInBounds_toArray, List.set_cons_zero, List.set_cons_succ, i64_w, i32_w]
                          rfl
                        refine done_ (done_of HT_.out (by kernel_rfl)) ?_
                        have p54 : 0 ≤ (0 : Int) := (by omega)
                        have q54 : (0 : Int) < ((x7_1.length : Int) : Int) := of_decide_eq_true (by first | (with_reducible assumption) | assumption)
                        have qi54 : (0 < x7_1.length) = True := eq_true (by omega)
                        obtain ⟨go54, co54, eo54, gb54, gl54, cl54, HG54⟩ := Kd.R_form HO_7.out (by omega)
                        (first | cases eo54 | (injection eo54 with ea_ en_ ec_; (first | subst ea_ | (injection ea_ with ea_; subst ea_)); subst ec_; clear en_))
                        have GB54 := Aside0.mk gb54
                        have GG54 := Aside0.mk HG54
                        clear gb54 gl54 HG54
                        obtain ⟨ce54, hcl54, hM54, hcc54, hfr54⟩ := Kd.R_elem HO_7.out z23 (0 : Int) p54 q54
                        obtain rfl := k23_openM hM54
                        have hx54_0 : w75.cell? ⟨go54, (0 : Int).toNat * 4, none⟩ = some (.int .i64 ((rd_T23 x7_1 0).f0)) := hcc54 0 _ rfl
                        have hx54_1 : w75.cell? ⟨go54, (0 : Int).toNat * 4 + 1, none⟩ = some (.int .i64 ((rd_T23 x7_1 0).f1)) := hcc54 1 _ rfl
                        have hx54_2 : w75.cell? ⟨go54, (0 : Int).toNat * 4 + 2, none⟩ = some (.int .i64 ((rd_T23 x7_1 0).f2)) := hcc54 2 _ rfl
                        have hx54_3 : w75.cell? ⟨go54, (0 : Int).toNat * 4 + 3, none⟩ = some (.int .i64 ((rd_T23 x7_1 0).f3)) := hcc54 3 _ rfl
                        have hf54_0 : w75.frozen? ⟨go54, (0 : Int).toNat * 4, none⟩ = false := hfr54 0
                        have hf54_1 : w75.frozen? ⟨go54, (0 : Int).toNat * 4 + 1, none⟩ = false := hfr54 1
                        have hf54_2 : w75.frozen? ⟨go54, (0 : Int).toNat * 4 + 2, none⟩ = false := hfr54 2
                        have hf54_3 : w75.frozen? ⟨go54, (0 : Int).toNat * 4 + 3, none⟩ = false := hfr54 3
                        clear hcl54 hcc54 hfr54 hM54
                        (try rw [show ((0 : Int)).toNat = 0 from rfl] at hx54_0)
                        (try simp only [Nat.reduceMul, Nat.zero_mul, Nat.zero_add, Nat.reduceAdd] at hx54_0)
                        (try rw [show ((0 : Int)).toNat = 0 from rfl] at hf54_0)
                        (try simp only [Nat.reduceMul, Nat.zero_mul, Nat.zero_add, Nat.reduceAdd] at hf54_0)
                        (try rw [show ((0 : Int)).toNat = 0 from rfl] at hx54_1)
                        (try simp only [Nat.reduceMul, Nat.zero_mul, Nat.zero_add, Nat.reduceAdd] at hx54_1)
                        (try rw [show ((0 : Int)).toNat = 0 from rfl] at hf54_1)
                        (try simp only [Nat.reduceMul, Nat.zero_mul, Nat.zero_add, Nat.reduceAdd] at hf54_1)
                        (try rw [show ((0 : Int)).toNat = 0 from rfl] at hx54_2)
                        (try simp only [Nat.reduceMul, Nat.zero_mul, Nat.zero_add, Nat.reduceAdd] at hx54_2)
                        (try rw [show ((0 : Int)).toNat = 0 from rfl] at hf54_2)
                        (try simp only [Nat.reduceMul, Nat.zero_mul, Nat.zero_add, Nat.reduceAdd] at hf54_2)
                        (try rw [show ((0 : Int)).toNat = 0 from rfl] at hx54_3)
                        (try simp only [Nat.reduceMul, Nat.zero_mul, Nat.zero_add, Nat.reduceAdd] at hx54_3)
                        (try rw [show ((0 : Int)).toNat = 0 from rfl] at hf54_3)
                        (try simp only [Nat.reduceMul, Nat.zero_mul, Nat.zero_add, Nat.reduceAdd] at hf54_3)
                        replace p54 := eq_true p54
                        replace q54 := eq_true q54
                        have HX76 := Aside0.mk (show Kd.R k23 23 w75 w.heap.size (fun k_ => some k_ ≠ (.slice Ao69 t167.length co69 : Value).ownBlock ∧ some k_ ≠ (v174 : Value).ownBlock) (.slice (some ⟨go54, 0, none⟩) x7_1.length co70) x7_1 from (by (with_reducible repeat (first | apply Kd.R_alloc | apply Kd.R_drewN | apply Kd.R_drew)); exact HO_7.out))
                        obtain ⟨ce76, hcl76, hM76, hcc76, hfr76⟩ := Kd.R_elem HX76.out z23 (0 : Int) (by omega) (by have h_ : (0 : Int) < ((x7_1.length : Int) : Int) := of_decide_eq_true (by first | (with_reducible assumption) | assumption); first | exact h_ | (have e_ := (Kd.R_reads' HO_7.out).1; omega) | simpa using h_)
                        obtain rfl := k23_openM hM76
                        have HP76 := Kd.R_seg HX76.out (0 : Int) (by omega) (by have h_ : (0 : Int) < ((x7_1.length : Int) : Int) := of_decide_eq_true (by first | (with_reducible assumption) | assumption); first | exact h_ | (have e_ := (Kd.R_reads' HO_7.out).1; omega) | simpa using h_) (seg := [.int .i64 (wrap64 ((wrap64 (300 + (Go.bits .and .i64 a1 255))) - 7))]) (j := 0) hcl76 hcc76 (show 1 ≤ 4 from by decide) (x' := (⟨wrap64 ((wrap64 (300 + (Go.bits .and .i64 a1 255))) - 7), (rd_T23 x7_1 0).f1, (rd_T23 x7_1 0).f2, (rd_T23 x7_1 0).f3⟩ : S23)) (k23_mkM _ _ _ (⟨wrap64 ((wrap64 (300 + (Go.bits .and .i64 a1 255))) - 7), (rd_T23 x7_1 0).f1, (rd_T23 x7_1 0).f2, (rd_T23 x7_1 0).f3⟩ : S23) ) (fun _ hk => hk)
                        have hx76_0 := hcc76 0 _ rfl
                        (try simp only [show (k23).sz = 4 from rfl, Nat.mul_one, Nat.add_zero] at hx76_0)
                        (try rw [show ((0 : Int)).toNat = 0 from rfl] at hx76_0)
                        (try simp only [Nat.reduceMul, Nat.zero_mul, Nat.zero_add, Nat.reduceAdd] at hx76_0)
                        have hf76_0 := hfr76 0
                        (try simp only [show (k23).sz = 4 from rfl, Nat.mul_one, Nat.add_zero] at hf76_0)
                        (try rw [show ((0 : Int)).toNat = 0 from rfl] at hf76_0)
                        (try simp only [Nat.reduceMul, Nat.zero_mul, Nat.zero_add, Nat.reduceAdd] at hf76_0)
                        clear hcl76 hcc76 hfr76 hM76
                        try go_wp2_with (first | ((with_reducible refine gate_store (t := 3) (p := 123) rfl ?_); refine store_event (t := 3) (p := 123) (v := ?vo_w77) (w1 := (w75.setCell ⟨go54, 0, none⟩ (.int .i64 (wrap64 ((wrap64 (300 + (Go.bits .and .i64 a1 255))) - 7))))) ?hg ?ho ?hn ?hr ?_; (case ho => rfl); (case hg => rfl); (case hn => rfl); (case hr => first | (go_simp; done) | (go_simp; rfl)); intro w77 hw; have hg : w75.grownBy w77 (some go54) := (by rw [hw]; exact HP76.2); have hp_ : Kd.R k23 23 w77 w.heap.size (fun k_ => some k_ ≠ (.slice Ao69 t167.length co69 : Value).ownBlock ∧ some k_ ≠ (v174 : Value).ownBlock) (.slice (some ⟨go54, 0, none⟩) x7_1.length co70) y177 := (by rw [hw, Ny177.out]; exact HP76.1); clear HP76; have n0_ := Aside0.mk (hp_); have n1_ := Aside0.mk (blk_grown (g := gb155) (o := .cells #[.int .i64 1, .int .i64 6, .int .i64 7, .int .i64 8] 26 (0, 0)) (by (with_reducible repeat (first | refine blk_drewN ?_ _ | refine blk_drew ?_ | refine blk_alloc ?_ _)); exact BK155.out) hg (Kd.R_ne HO_7.out BK155.out (by decide))); have n2_ := Aside0.mk (blk_grown (g := gb165) (o := .cells #[.slice none 0 0, .int .i64 0, .int .i64 0, .int .i64 0, .int .i64 0, .int .i64 0, .int .i64 (wrap64 ((x8_1.size : Int) - 1)), .int .i64 0, .int .i64 0] 40 (0, 0)) (by (with_reducible repeat (first | refine blk_drewN ?_ _ | refine blk_drew ?_ | refine blk_alloc ?_ _)); exact BK165.out) hg (Kd.R_ne HO_7.out BK165.out (by decide))); have n3_ := Aside0.mk (Kd.R_after (v := (.slice (some ⟨go54, 0, none⟩) x7_1.length co70)) (v1 := (.slice (some ⟨go54, 0, none⟩) x7_1.length co70)) (ok := (fun k_ => some k_ ≠ (v174 : Value).ownBlock)) (by (with_reducible repeat (first | apply Kd.R_alloc | apply Kd.R_drewN | apply Kd.R_drew)); exact Kd.R_mono HO169.out (fun _ hk => ⟨hk.2, hk.1⟩)) hg (.inl rfl)); have n4_ := Aside0.mk (Kd.R_after (v := (.slice (some ⟨go54, 0, none⟩) x7_1.length co70)) (v1 := (.slice (some ⟨go54, 0, none⟩) x7_1.length co70)) (ok := (fun k_ => some k_ ≠ (.slice Ao69 t167.length co69 : Value).ownBlock)) (by (with_reducible repeat (first | apply Kd.R_alloc | apply Kd.R_drewN | apply Kd.R_drew)); exact Kd.R_mono HO175.out (fun _ hk => ⟨hk.2, hk.1.2⟩)) hg (.inl rfl)); have n5_ := Aside0.mk ((by rw [hw]; exact below_set (HB.out) GB54.out : Below w.heap.size w w77)); clear HO_7; clear BK155; clear BK165; clear HO169; clear HO175; clear HB; have HO_7 := n0_; have BK155 := n1_; have BK165 := n2_; have HO169 := n3_; have HO175 := n4_; have HB := n5_; clear n0_ n1_ n2_ n3_ n4_ n5_; clear hg hw hp_; have hcz78_0 : w77.cell? ⟨gb165, 0, none⟩ = some (.slice none 0 0) := (blk_cell BK165.out 0).trans rfl; have hcz78_1 : w77.cell? ⟨gb165, 1, none⟩ = some (.int .i64 0) := (blk_cell BK165.out 1).trans rfl; have hcz78_2 : w77.cell? ⟨gb165, 2, none⟩ = some (.int .i64 0) := (blk_cell BK165.out 2).trans rfl; have hcz78_3 : w77.cell? ⟨gb165, 3, none⟩ = some (.int .i64 0) := (blk_cell BK165.out 3).trans rfl; have hcz78_4 : w77.cell? ⟨gb165, 4, none⟩ = some (.int .i64 0) := (blk_cell BK165.out 4).trans rfl; have hcz78_5 : w77.cell? ⟨gb165, 5, none⟩ = some (.int .i64 0) := (blk_cell BK165.out 5).trans rfl; have hcz78_6 : w77.cell? ⟨gb165, 6, none⟩ = some (.int .i64 (wrap64 ((x8_1.size : Int) - 1))) := (blk_cell BK165.out 6).trans rfl; have hcz78_7 : w77.cell? ⟨gb165, 7, none⟩ = some (.int .i64 0) := (blk_cell BK165.out 7).trans rfl; have hcz78_8 : w77.cell? ⟨gb165, 8, none⟩ = some (.int .i64 0) := (blk_cell BK165.out 8).trans rfl; have hfz78_0 := blk_frozen BK165.out 0; have hfz78_1 := blk_frozen BK165.out 1; have hfz78_2 := blk_frozen BK165.out 2; have hfz78_3 := blk_frozen BK165.out 3; have hfz78_4 := blk_frozen BK165.out 4; have hfz78_5 := blk_frozen BK165.out 5; have hfz78_6 := blk_frozen BK165.out 6; have hfz78_7 := blk_frozen BK165.out 7; have hfz78_8 := blk_frozen BK165.out 8))
                        have n0_ : Aside0 (Kd.R k23 23 (w77.setCell ⟨gb165, 6, none⟩ (.int .i64 24)) w.heap.size (fun k_ => some k_ ≠ (.slice Ao69 t167.length co69 : Value).ownBlock ∧ some k_ ≠ (v174 : Value).ownBlock) (.slice (some ⟨go54, 0, none⟩) x7_1.length co70) y177) := ⟨by (with_reducible repeat (first | apply Kd.R_alloc | apply Kd.R_drewN | apply Kd.R_drew)); exact Kd.R_mono (Kd.R_far (p := ⟨gb165, 6, none⟩) (Kd.R_types HO_7.out BK165.out (by decide)) (fun _ hk => hk.2) (.int .i64 24)) (fun _ hk => ⟨hk.1.1, hk.1.2⟩)⟩
                        have n1_ : Aside0 (Kd.R k23 23 (w77.setCell ⟨gb165, 6, none⟩ (.int .i64 24)) w.heap.size (fun k_ => some k_ ≠ (.slice (some ⟨go54, 0, none⟩) x7_1.length co70 : Value).ownBlock ∧ some k_ ≠ (v174 : Value).ownBlock) (.slice Ao69 t167.length co69) t167) := ⟨by (with_reducible repeat (first | apply Kd.R_alloc | apply Kd.R_drewN | apply Kd.R_drew)); exact Kd.R_mono (Kd.R_far (p := ⟨gb165, 6, none⟩) (Kd.R_types HO169.out BK165.out (by decide)) (fun _ hk => hk.2) (.int .i64 24)) (fun _ hk => ⟨hk.1.2, hk.1.1⟩)⟩
                        have n2_ : Aside0 (Kd.R k23 23 (w77.setCell ⟨gb165, 6, none⟩ (.int .i64 24)) w.heap.size (fun k_ => some k_ ≠ (.slice (some ⟨go54, 0, none⟩) x7_1.length co70 : Value).ownBlock ∧ some k_ ≠ (.slice Ao69 t167.length co69 : Value).ownBlock) v174 t173) := ⟨by (with_reducible repeat (first | apply Kd.R_alloc | apply Kd.R_drewN | apply Kd.R_drew)); exact Kd.R_mono (Kd.R_far (p := ⟨gb165, 6, none⟩) (Kd.R_types HO175.out BK165.out (by decide)) (fun _ hk => hk.2) (.int .i64 24)) (fun _ hk => ⟨hk.1.2, hk.1.1⟩)⟩
                        have n3_ : Aside0 ((w77.setCell ⟨gb165, 6, none⟩ (.int .i64 24)).heap[gb155]? = some (.cells #[.int .i64 1, .int .i64 6, .int .i64 7, .int .i64 8] 26 (0, 0))) := ⟨by (with_reducible repeat (first | refine blk_drewN ?_ _ | refine blk_drew ?_ | refine blk_alloc ?_ _)); refine blk_far ?_ NB155_165.out _; (with_reducible repeat (first | refine blk_drewN ?_ _ | refine blk_drew ?_ | refine blk_alloc ?_ _)); exact BK155.out⟩
                        have n4_ : Aside0 ((w77.setCell ⟨gb165, 6, none⟩ (.int .i64 24)).heap[gb165]? = some (.cells #[.slice none 0 0, .int .i64 0, .int .i64 0, .int .i64 0, .int .i64 0, .int .i64 0, .int .i64 24, .int .i64 0, .int .i64 0] 40 (0, 0))) := ⟨by (with_reducible repeat (first | refine blk_drewN ?_ _ | refine blk_drew ?_ | refine blk_alloc ?_ _)); refine blk_put (cs := #[.slice none 0 0, .int .i64 0, .int .i64 0, .int .i64 0, .int .i64 0, .int .i64 0, .int .i64 (wrap64 ((x8_1.size : Int) - 1)), .int .i64 0, .int .i64 0]) ?_ 6 _ rfl; (with_reducible repeat (first | refine blk_drewN ?_ _ | refine blk_drew ?_ | refine blk_alloc ?_ _)); exact BK165.out⟩
                        have n5_ : Aside0 (Below w.heap.size w (w77.setCell ⟨gb165, 6, none⟩ (.int .i64 24))) := ⟨by repeat (first | (with_reducible first | exact HB.out | apply below_alloc | apply pw_below_drewN | apply below_drew1 | refine below_set ?_ GE155.out | refine below_set ?_ GE165.out) | exact HB.out)⟩
                        (try clear HO_7)
                        (try clear HO169)
                        (try clear HO175)
                        (try clear BK155)
                        (try clear BK165)
                        (try clear HB)
                        generalize (w77.setCell ⟨gb165, 6, none⟩ (.int .i64 24)) = w79 at n0_ n1_ n2_ n3_ n4_ n5_ ⊢
                        have HO_7 := n0_
                        have HO169 := n1_
                        have HO175 := n2_
                        have BK155 := n3_
                        have BK165 := n4_
                        have HB := n5_
                        clear n0_ n1_ n2_ n3_ n4_ n5_
                        have n0_ := Aside0.mk (Kd.R_drew HO_7.out)
                        have n1_ := Aside0.mk (Kd.R_drew HO169.out)
                        have n2_ := Aside0.mk (Kd.R_drew HO175.out)
                        have n3_ := Aside0.mk (blk_drew BK155.out)
                        have n4_ := Aside0.mk (blk_drew BK165.out)
                        have n5_ := Aside0.mk (below_drew1 HB.out)
                        clear HO_7
                        clear HO169
                        clear HO175
                        clear BK155
                        clear BK165
                        clear HB
                        have HO_7 := n0_
                        have HO169 := n1_
                        have HO175 := n2_
                        have BK155 := n3_
                        have BK165 := n4_
                        have HB := n5_
                        clear n0_ n1_ n2_ n3_ n4_ n5_
                        have p178 : 0 ≤ (0 : Int) := (by omega)
                        have q178 : 0 < (y177.length : Int) := (by have h_ : (0 : Int) < ((x7_1.length : Int) : Int) := of_decide_eq_true (by first | (with_reducible assumption) | assumption); first | (have e_ := (Kd.R_reads' HO_7.out).1; omega) | simpa only [Ny177.out, List.length_set] using h_)
                        have ql178 : ((0 : Int) < ((x7_1.length : Int) : Int)) = True := eq_true (of_decide_eq_true (by first | (with_reducible assumption) | assumption))
                        (try have qn178 : (0 < x7_1.length) = True := eq_true (by have h_ : (0 : Int) < ((x7_1.length : Int) : Int) := of_decide_eq_true (by first | (with_reducible assumption) | assumption); omega))
                        obtain ⟨ad178, e178, hx178_0, hx178_1, hx178_2, hx178_3⟩ := at_T23 (Kd.R_reads' HO_7.out).2.2 0 p178 q178
                        obtain rfl : (⟨go54, 0, none⟩ : Addr) = ad178 := (by injection e178)
                        (first | simp only [add_plain] at hx178_0 | simp only [add_at] at hx178_0 | simp only [Addr.add, Nat.zero_add] at hx178_0 | skip)
                        (first | simp only [add_plain] at hx178_1 | simp only [add_at] at hx178_1 | simp only [Addr.add, Nat.zero_add] at hx178_1 | skip)
                        (first | simp only [add_plain] at hx178_2 | simp only [add_at] at hx178_2 | simp only [Addr.add, Nat.zero_add] at hx178_2 | skip)
                        (first | simp only [add_plain] at hx178_3 | simp only [add_at] at hx178_3 | simp only [Addr.add, Nat.zero_add] at hx178_3 | skip)
                        have qi178 : (0 < y177.length) = True := eq_true (by omega)
                        (try rw [show ((0 : Int)).toNat = 0 from rfl] at hx178_0)
                        (try rw [show 0 * 4 = 0 from rfl] at hx178_0)
                        (try rw [Addr.add_zero'] at hx178_0)
                        (try rw [show ((0 : Int)).toNat = 0 from rfl] at hx178_1)
                        (try rw [show 0 * 4 = 0 from rfl] at hx178_1)
                        (try rw [Addr.add_zero'] at hx178_1)
                        (try rw [show ((0 : Int)).toNat = 0 from rfl] at hx178_2)
                        (try rw [show 0 * 4 = 0 from rfl] at hx178_2)
                        (try rw [Addr.add_zero'] at hx178_2)
                        (try rw [show ((0 : Int)).toNat = 0 from rfl] at hx178_3)
                        (try rw [show 0 * 4 = 0 from rfl] at hx178_3)
                        (try rw [Addr.add_zero'] at hx178_3)
                        replace p178 := eq_true p178
                        replace q178 := eq_true q178
                        refine start_ (n := 13) (S := fun w' => w'.cell? ⟨gb165, 0, none⟩ = some (.slice none 0 0) ∧ w'.cell? ⟨gb165, 1, none⟩ = some (.int .i64 0) ∧ w'.cell? ⟨gb165, 2, none⟩ = some (.int .i64 0) ∧ w'.cell? ⟨gb165, 3, none⟩ = some (.int .i64 0) ∧ w'.cell? ⟨gb165, 4, none⟩ = some (.int .i64 0) ∧ w'.cell? ⟨gb165, 5, none⟩ = some (.int .i64 0) ∧ w'.cell? ⟨gb165, 6, none⟩ = some (.int .i64 24) ∧ w'.cell? ⟨gb165, 7, none⟩ = some (.int .i64 0) ∧ w'.cell? ⟨gb165, 8, none⟩ = some (.int .i64 0) ∧ w'.cell? ⟨go54, 0, none⟩ = some (.int .i64 ((rd_T23 y177 0).f0)) ∧ w'.cell? ⟨go54, 1, none⟩ = some (.int .i64 ((rd_T23 y177 0).f1)) ∧ w'.cell? ⟨go54, 2, none⟩ = some (.int .i64 ((rd_T23 y177 0).f2)) ∧ w'.cell? ⟨go54, 3, none⟩ = some (.int .i64 ((rd_T23 y177 0).f3))) (ds := []) #[false, false, false, false, false, false, false, false, false, false, false, false, false] (by kernel_rfl) rfl rfl ⟨(blk_cell BK165.out 0).trans rfl, (blk_cell BK165.out 1).trans rfl, (blk_cell BK165.out 2).trans rfl, (blk_cell BK165.out 3).trans rfl, (blk_cell BK165.out 4).trans rfl, (blk_cell BK165.out 5).trans rfl, (blk_cell BK165.out 6).trans rfl, (blk_cell BK165.out 7).trans rfl, (blk_cell BK165.out 8).trans rfl, hx178_0, hx178_1, hx178_2, hx178_3⟩ (fun hHeld => ?_); refine with_tabW flyleaflaw11_RelocBack.tab23 flyleaflaw11_RelocBack.bits23 (fun HT_ HW_ => ?_)
                        generalize w79.drew = w80 at HO_7 HO169 HO175 BK155 BK165 HB hx178_0 hx178_1 hx178_2 hx178_3 hHeld ⊢
                        refine pure_ (i := 0) (N := some 126) (v := ?_) (a' := ?_) #[true, false, false, false, false, false, false, false, false, false, false, false, false] rfl rfl (any_of HT_.out (by kernel_rfl)) (fun _ _ _ h => h) (Or.inl ⟨by rfl, ?_⟩) ?_ ?_
                        rotate_left
                        · intro w'
                          go_simp
                          with_reducible rfl
                        rotate_left
                        · simp only [Act.put, List.setIfInBounds_toArray, List.set_cons_zero, List.set_cons_succ, i64_w, i32_w]
                          rfl
                        refine pure_ (i := 1) (N := some 127) (v := ?_) (a' := ?_) #[true, true, false, false, false, false, false, false, false, false, false, false, false] rfl rfl (any_of HT_.out (by kernel_rfl)) (fun _ _ _ h => h) (Or.inl ⟨by rfl, ?_⟩) ?_ ?_
                        rotate_left
                        · intro w'
                          go_simp
                          with_reducible rfl
                        rotate_left
                        · simp only [Act.put, List.setIfInBounds_toArray, List.set_cons_zero, List.set_cons_succ, i64_w, i32_w]
                          rfl
                        refine pure_ (i := 4) (N := some 130) (v := ?_) (a' := ?_) #[true, true, false, false, true, false, false, false, false, false, false, false, false] rfl rfl (any_of HT_.out (by kernel_rfl)) (fun _ _ _ h => h) (Or.inl ⟨by rfl, ?_⟩) ?_ ?_
                        rotate_left
                        · intro w'
                          go_simp
                          with_reducible rfl
                        rotate_left
                        · simp only [Act.put, List.setIfInBounds_toArray, List.set_cons_zero, List.set_cons_succ, i64_w, i32_w]
                          rfl
                        refine take_ (i := 2) (N := some 128) (v := ?_) (a' := ?_) #[true, true, true, false, true, false, false, false, false, false, false, false, false] rfl rfl (take_ofW HT_.out HW_.out (by kernel_rfl)) (fun _ _ _ h => h) (Or.inl ⟨by rfl, ?_⟩) hHeld ?_ ?_
                        rotate_left
                        · rintro w' ⟨s0, s1, s2, s3, s4, s5, s6, s7, s8, s9, s10, s11, s12⟩
                          go_simp
                          with_reducible rfl
                        rotate_left
                        · simp only [Act.put, List.setIfInBounds_toArray, List.set_cons_zero, List.set_cons_succ, i64_w, i32_w]
                          rfl
                        refine take_ (i := 6) (N := some 132) (v := ?_) (a' := ?_) #[true, true, true, false, true, false, true, false, false, false, false, false, false] rfl rfl (take_ofW HT_.out HW_.out (by kernel_rfl)) (fun _ _ _ h => h) (Or.inl ⟨by rfl, ?_⟩) hHeld ?_ ?_
                        rotate_left
                        · rintro w' ⟨s0, s1, s2, s3, s4, s5, s6, s7, s8, s9, s10, s11, s12⟩
                          go_simp
                          with_reducible rfl
                        rotate_left
                        · simp only [Act.put, List.setIfInBounds_toArray, List.set_cons_zero, List.set_cons_succ, i64_w, i32_w]
                          rfl
                        refine one_ (i := 3) (N := some 129) #[true, true, true, true, true, false, true, false, false, false, false, false, false] rfl rfl (one_of HT_.out (by kernel_rfl)) (by decide) (fun K hK => ?_)
                        refine goes_ Try.func14 (by kernel_rfl) rfl #[.agg #[.int .i64 ((rd_T23 y177 0).f0), .int .i64 ((rd_T23 y177 0).f1), .int .i64 ((rd_T23 y177 0).f2), .int .i64 ((rd_T23 y177 0).f3)]] (by rfl) rfl rfl (by (try simp only [List.map_toArray, List.map_cons, List.map_nil]); first | done | rfl | (simp only [List.length_drop, List.length_take]; rfl) | (simp only [ByteArray.size_append, Int.natCast_add]; rfl)) ?_
                        with_reducible refine (reloc_Bytes.calls kj6 ((rd_T23 y177 0).f0) ((rd_T23 y177 0).f1) ((rd_T23 y177 0).f2) ((rd_T23 y177 0).f3) t179 _ A55.out).mono ?_
                        rintro e w81 ⟨rfl, hb⟩
                        have HS9_ := (hb.cell (World.block_lt_of_cell? _ _ (hHeld.2.2.2.2.2.2.2.2.2.1))).trans (hHeld.2.2.2.2.2.2.2.2.2.1)
                        have HS10_ := (hb.cell (World.block_lt_of_cell? _ _ (hHeld.2.2.2.2.2.2.2.2.2.2.1))).trans (hHeld.2.2.2.2.2.2.2.2.2.2.1)
                        have HS11_ := (hb.cell (World.block_lt_of_cell? _ _ (hHeld.2.2.2.2.2.2.2.2.2.2.2.1))).trans (hHeld.2.2.2.2.2.2.2.2.2.2.2.1)
                        have HS12_ := (hb.cell (World.block_lt_of_cell? _ _ (hHeld.2.2.2.2.2.2.2.2.2.2.2.2))).trans (hHeld.2.2.2.2.2.2.2.2.2.2.2.2)
                        refine ⟨_, rfl, ?_⟩
                        have n0_ := Aside0.mk (Kd.R_below (by (with_reducible repeat (first | apply Kd.R_alloc | apply Kd.R_drewN | apply Kd.R_drew)); exact HO_7.out) hb)
                        have n1_ := Aside0.mk (Kd.R_below (by (with_reducible repeat (first | apply Kd.R_alloc | apply Kd.R_drewN | apply Kd.R_drew)); exact HO169.out) hb)
                        have n2_ := Aside0.mk (Kd.R_below (by (with_reducible repeat (first | apply Kd.R_alloc | apply Kd.R_drewN | apply Kd.R_drew)); exact HO175.out) hb)
                        have n3_ := Aside0.mk (blk_below (g := gb155) (o := .cells #[.int .i64 1, .int .i64 6, .int .i64 7, .int .i64 8] 26 (0, 0)) (by (with_reducible repeat (first | refine blk_drewN ?_ _ | refine blk_drew ?_ | refine blk_alloc ?_ _)); exact BK155.out) hb)
                        have n4_ := Aside0.mk (blk_below (g := gb165) (o := .cells #[.slice none 0 0, .int .i64 0, .int .i64 0, .int .i64 0, .int .i64 0, .int .i64 0, .int .i64 24, .int .i64 0, .int .i64 0] 40 (0, 0)) (by (with_reducible repeat (first | refine blk_drewN ?_ _ | refine blk_drew ?_ | refine blk_alloc ?_ _)); exact BK165.out) hb)
                        have n5_ := Aside0.mk (below_step (by repeat (first | (with_reducible first | exact HB.out | apply below_alloc | apply pw_below_drewN | apply below_drew1 | refine below_set ?_ GE155.out | refine below_set ?_ GE165.out) | exact HB.out)) hb)
                        clear HO_7
                        clear HO169
                        clear HO175
                        clear BK155
                        clear BK165
                        clear HB
                        have HO_7 := n0_
                        have HO169 := n1_
                        have HO175 := n2_
                        have BK155 := n3_
                        have BK165 := n4_
                        have HB := n5_
                        clear n0_ n1_ n2_ n3_ n4_ n5_
                        (try clear hb)
                        (try clear hb2)
                        (try clear hk)
                        (try clear hi)
                        refine hK.out _ _ ⟨(blk_cell BK165.out 0).trans rfl, (blk_cell BK165.out 1).trans rfl, (blk_cell BK165.out 2).trans rfl, (blk_cell BK165.out 3).trans rfl, (blk_cell BK165.out 4).trans rfl, (blk_cell BK165.out 5).trans rfl, (blk_cell BK165.out 6).trans rfl, (blk_cell BK165.out 7).trans rfl, (blk_cell BK165.out 8).trans rfl, HS9_, HS10_, HS11_, HS12_⟩ (fun hHeld => ?_)
                        clear hK K
                        refine norm_ (a' := ?_) ?_ ?_
                        rotate_left
                        · show Act.put _ (some 129) _ = _
                          simp only [Act.put, List.setIfInBounds_toArray, List.set_cons_zero, List.set_cons_succ, i64_w, i32_w]
                          rfl
                        refine one_ (i := 5) (N := some 131) #[true, true, true, true, true, true, true, false, false, false, false, false, false] rfl rfl (one_of HT_.out (by kernel_rfl)) (by decide) (fun K hK => ?_)
                        refine goes_ Try.func17 (by kernel_rfl) rfl #[.string t179, .int .i64 (wrap64 (300 + (Go.bits .and .i64 a1 255)))] (by rfl) rfl rfl (by (try simp only [List.map_toArray, List.map_cons, List.map_nil]); first | done | rfl | (simp only [List.length_drop, List.length_take]; rfl) | (simp only [ByteArray.size_append, Int.natCast_add]; rfl)) ?_
                        with_reducible refine (flyleafref01_Fill.calls t179 (wrap64 (300 + (Go.bits .and .i64 a1 255))) t180 _ A56.out).mono ?_
                        rintro e w82 ⟨rfl, hb⟩
                        have HS9_ := (hb.cell (World.block_lt_of_cell? _ _ (hHeld.2.2.2.2.2.2.2.2.2.1))).trans (hHeld.2.2.2.2.2.2.2.2.2.1)
                        have HS10_ := (hb.cell (World.block_lt_of_cell? _ _ (hHeld.2.2.2.2.2.2.2.2.2.2.1))).trans (hHeld.2.2.2.2.2.2.2.2.2.2.1)
                        have HS11_ := (hb.cell (World.block_lt_of_cell? _ _ (hHeld.2.2.2.2.2.2.2.2.2.2.2.1))).trans (hHeld.2.2.2.2.2.2.2.2.2.2.2.1)
                        have HS12_ := (hb.cell (World.block_lt_of_cell? _ _ (hHeld.2.2.2.2.2.2.2.2.2.2.2.2))).trans (hHeld.2.2.2.2.2.2.2.2.2.2.2.2)
                        refine ⟨_, rfl, ?_⟩
                        have n0_ := Aside0.mk (Kd.R_below (by (with_reducible repeat (first | apply Kd.R_alloc | apply Kd.R_drewN | apply Kd.R_drew)); exact HO_7.out) hb)
                        have n1_ := Aside0.mk (Kd.R_below (by (with_reducible repeat (first | apply Kd.R_alloc | apply Kd.R_drewN | apply Kd.R_drew)); exact HO169.out) hb)
                        have n2_ := Aside0.mk (Kd.R_below (by (with_reducible repeat (first | apply Kd.R_alloc | apply Kd.R_drewN | apply Kd.R_drew)); exact HO175.out) hb)
                        have n3_ := Aside0.mk (blk_below (g := gb155) (o := .cells #[.int .i64 1, .int .i64 6, .int .i64 7, .int .i64 8] 26 (0, 0)) (by (with_reducible repeat (first | refine blk_drewN ?_ _ | refine blk_drew ?_ | refine blk_alloc ?_ _)); exact BK155.out) hb)
                        have n4_ := Aside0.mk (blk_below (g := gb165) (o := .cells #[.slice none 0 0, .int .i64 0, .int .i64 0, .int .i64 0, .int .i64 0, .int .i64 0, .int .i64 24, .int .i64 0, .int .i64 0] 40 (0, 0)) (by (with_reducible repeat (first | refine blk_drewN ?_ _ | refine blk_drew ?_ | refine blk_alloc ?_ _)); exact BK165.out) hb)
                        have n5_ := Aside0.mk (below_step (by repeat (first | (with_reducible first | exact HB.out | apply below_alloc | apply pw_below_drewN | apply below_drew1 | refine below_set ?_ GE155.out | refine below_set ?_ GE165.out) | exact HB.out)) hb)
                        clear HO_7
                        clear HO169
                        clear HO175
                        clear BK155
                        clear BK165
                        clear HB
                        have HO_7 := n0_
                        have HO169 := n1_
                        have HO175 := n2_
                        have BK155 := n3_
                        have BK165 := n4_
                        have HB := n5_
                        clear n0_ n1_ n2_ n3_ n4_ n5_
                        (try clear hb)
                        (try clear hb2)
                        (try clear hk)
                        (try clear hi)
                        refine hK.out _ _ ⟨(blk_cell BK165.out 0).trans rfl, (blk_cell BK165.out 1).trans rfl, (blk_cell BK165.out 2).trans rfl, (blk_cell BK165.out 3).trans rfl, (blk_cell BK165.out 4).trans rfl, (blk_cell BK165.out 5).trans rfl, (blk_cell BK165.out 6).trans rfl, (blk_cell BK165.out 7).trans rfl, (blk_cell BK165.out 8).trans rfl, HS9_, HS10_, HS11_, HS12_⟩ (fun hHeld => ?_)
                        clear hK K
                        refine norm_ (a' := ?_) ?_ ?_
                        rotate_left
                        · show Act.put _ (some 131) _ = _
                          simp only [Act.put, List.setIfInBounds_toArray, List.set_cons_zero, List.set_cons_succ, i64_w, i32_w]
                          rfl
                        refine one_ (i := 7) (N := some 133) #[true, true, true, true, true, true, true, true, false, false, false, false, false] rfl rfl (one_of HT_.out (by kernel_rfl)) (by decide) (fun K hK => ?_)
                        refine goes_ Try.func18 (by kernel_rfl) rfl #[.string t180, .agg #[.slice none 0 0, .int .i64 0, .int .i64 0, .int .i64 0, .int .i64 0, .int .i64 0, .int .i64 24, .int .i64 0, .int .i64 0]] (by rfl) rfl rfl (by (try simp only [List.map_toArray, List.map_cons, List.map_nil]); first | done | rfl | (simp only [List.length_drop, List.length_take]; rfl) | (simp only [ByteArray.size_append, Int.natCast_add]; rfl)) ?_
                        refine (reloc_Read.calls kj6 t180 _ _ ([] : List Int) 0 0 0 0 0 24 0 0 t181 t184 _ ?side1 ?side2 A57.out).mono ?_
                        (case side1 => exact Kd.C_nil _ _)
                        (case side2 => exact Nat.le_refl _)
                        rintro e w83 ⟨v182, rfl, ho0, hb⟩
                        have HS9_ := (hb.cell (World.block_lt_of_cell? _ _ (hHeld.2.2.2.2.2.2.2.2.2.1))).trans (hHeld.2.2.2.2.2.2.2.2.2.1)
                        have HS10_ := (hb.cell (World.block_lt_of_cell? _ _ (hHeld.2.2.2.2.2.2.2.2.2.2.1))).trans (hHeld.2.2.2.2.2.2.2.2.2.2.1)
                        have HS11_ := (hb.cell (World.block_lt_of_cell? _ _ (hHeld.2.2.2.2.2.2.2.2.2.2.2.1))).trans (hHeld.2.2.2.2.2.2.2.2.2.2.2.1)
                        have HS12_ := (hb.cell (World.block_lt_of_cell? _ _ (hHeld.2.2.2.2.2.2.2.2.2.2.2.2))).trans (hHeld.2.2.2.2.2.2.2.2.2.2.2.2)
                        refine ⟨_, rfl, ?_⟩
                        have n0_ := Aside0.mk (Kd.R_elder' (by (with_reducible repeat (first | apply Kd.R_alloc | apply Kd.R_drewN | apply Kd.R_drew)); exact HO_7.out) (Kd.R_base ho0) hb)
                        have n1_ := Aside0.mk (Kd.R_elder' (by (with_reducible repeat (first | apply Kd.R_alloc | apply Kd.R_drewN | apply Kd.R_drew)); exact HO169.out) (Kd.R_base ho0) hb)
                        have n2_ := Aside0.mk (Kd.R_elder' (by (with_reducible repeat (first | apply Kd.R_alloc | apply Kd.R_drewN | apply Kd.R_drew)); exact HO175.out) (Kd.R_base ho0) hb)
                        have n3_ := Aside0.mk (Kd.R_lower (Kd.R_new' (Kd.R_new' (Kd.R_new' ho0 (Kd.R_lt (by (with_reducible repeat (first | apply Kd.R_alloc | apply Kd.R_drewN | apply Kd.R_drew)); exact HO_7.out))) (Kd.R_lt (by (with_reducible repeat (first | apply Kd.R_alloc | apply Kd.R_drewN | apply Kd.R_drew)); exact HO169.out))) (Kd.R_lt (by (with_reducible repeat (first | apply Kd.R_alloc | apply Kd.R_drewN | apply Kd.R_drew)); exact HO175.out))) (below_size (by repeat (first | (with_reducible first | exact HB.out | apply below_alloc | apply pw_below_drewN | apply below_drew1 | refine below_set ?_ GE155.out | refine below_set ?_ GE165.out) | exact HB.out))))
                        have n4_ := Aside0.mk (blk_below (g := gb155) (o := .cells #[.int .i64 1, .int .i64 6, .int .i64 7, .int .i64 8] 26 (0, 0)) (by (with_reducible repeat (first | refine blk_drewN ?_ _ | refine blk_drew ?_ | refine blk_alloc ?_ _)); exact BK155.out) hb)
                        have n5_ := Aside0.mk (blk_below (g := gb165) (o := .cells #[.slice none 0 0, .int .i64 0, .int .i64 0, .int .i64 0, .int .i64 0, .int .i64 0, .int .i64 24, .int .i64 0, .int .i64 0] 40 (0, 0)) (by (with_reducible repeat (first | refine blk_drewN ?_ _ | refine blk_drew ?_ | refine blk_alloc ?_ _)); exact BK165.out) hb)
                        have n6_ := Aside0.mk (below_step (by repeat (first | (with_reducible first | exact HB.out | apply below_alloc | apply pw_below_drewN | apply below_drew1 | refine below_set ?_ GE155.out | refine below_set ?_ GE165.out) | exact HB.out)) hb)
                        clear HO_7
                        clear HO169
                        clear HO175
                        clear BK155
                        clear BK165
                        clear HB
                        have HO_7 := n0_
                        have HO169 := n1_
                        have HO175 := n2_
                        have HO183 := n3_
                        have BK155 := n4_
                        have BK165 := n5_
                        have HB := n6_
                        clear n0_ n1_ n2_ n3_ n4_ n5_ n6_
                        (try clear hb)
                        (try clear hb2)
                        (try clear hk)
                        (try clear hi)
                        (try clear ho0)
                        refine hK.out _ _ ⟨(blk_cell BK165.out 0).trans rfl, (blk_cell BK165.out 1).trans rfl, (blk_cell BK165.out 2).trans rfl, (blk_cell BK165.out 3).trans rfl, (blk_cell BK165.out 4).trans rfl, (blk_cell BK165.out 5).trans rfl, (blk_cell BK165.out 6).trans rfl, (blk_cell BK165.out 7).trans rfl, (blk_cell BK165.out 8).trans rfl, HS9_, HS10_, HS11_, HS12_⟩ (fun hHeld => ?_)
                        clear hK K
                        refine norm_ (a' := ?_) ?_ ?_
                        rotate_left
                        · show Act.put _ (some 133) _ = _
                          simp only [Act.put, List.setIfInBounds_toArray, List.set_cons_zero, List.set_cons_succ, i64_w, i32_w]
                          rfl
                        refine pure_ (i := 8) (N := some 125) (v := ?_) (a' := ?_) #[true, true, true, true, true, true, true, true, true, false, false, false, false] rfl rfl (any_of HT_.out (by kernel_rfl)) (fun _ _ _ h => h) (Or.inl ⟨by rfl, ?_⟩) ?_ ?_
                        rotate_left
                        · intro w'
                          go_simp
                          with_reducible rfl
                        rotate_left
                        · simp only [Act.put, List.setIfInBounds_toArray, List.set_cons_zero, List.set_cons_succ, i64_w, i32_w]
                          rfl
                        refine pure_ (i := 9) (N := some 134) (v := ?_) (a' := ?_) #[true, true, true, true, true, true, true, true, true, true, false, false, false] rfl rfl (any_of HT_.out (by kernel_rfl)) (fun _ _ _ h => h) (Or.inl ⟨by rfl, ?_⟩) ?_ ?_
                        rotate_left
                        · intro w'
                          go_simp
                          with_reducible rfl
                        rotate_left
                        · simp only [Act.put, List.setIfInBounds_toArray, List.set_cons_zero, List.set_cons_succ, i64_w, i32_w]
                          rfl
                        refine pure_ (i := 10) (N := some 135) (v := ?_) (a' := ?_) #[true, true, true, true, true, true, true, true, true, true, true, false, false] rfl rfl (any_of HT_.out (by kernel_rfl)) (fun _ _ _ h => h) (Or.inl ⟨by rfl, ?_⟩) ?_ ?_
                        rotate_left
                        · intro w'
                          go_simp
                          with_reducible rfl
                        rotate_left
                        · simp only [Act.put, List.setIfInBounds_toArray, List.set_cons_zero, List.set_cons_succ, i64_w, i32_w]
                          rfl
                        refine pure_ (i := 11) (N := some 18) (v := ?_) (a' := ?_) #[true, true, true, true, true, true, true, true, true, true, true, true, false] rfl rfl (any_of HT_.out (by kernel_rfl)) (fun _ _ _ h => h) (Or.inl ⟨by rfl, ?_⟩) ?_ ?_
                        rotate_left
                        · intro w'
                          go_simp
                          with_reducible rfl
                        rotate_left
                        · simp only [Act.put, List.setIfInBounds_toArray, List.set_cons_zero, List.set_cons_succ, i64_w, i32_w]
                          rfl
                        refine pure_ (i := 12) (N := some 19) (v := ?_) (a' := ?_) #[true, true, true, true, true, true, true, true, true, true, true, true, true] rfl rfl (any_of HT_.out (by kernel_rfl)) (fun _ _ _ h => h) (Or.inl ⟨by rfl, ?_⟩) ?_ ?_
                        rotate_left
                        · intro w'
                          go_simp
                          with_reducible rfl
                        rotate_left
                        · simp only [Act.put, List.setIfInBounds_toArray, List.set_cons_zero, List.set_cons_succ, i64_w, i32_w]
                          rfl
                        refine done_ (done_of HT_.out (by kernel_rfl)) ?_
                        try go_wp2
                        go_ret
                        exact ⟨by first | rfl | (simp [errW_none, errW_some] <;> rfl) | (rw [HR_.out]; done) | (rw [← HR_.out]; done) | (have hR_ := HR_.out; simp only [hR_]; done) | (have hR_ := HR_.out; simp only [ByteArray.size_append] at hR_; exact congrArg (fun b_ => Ending.returned (.bool b_)) hR_) | (have hR_ := HR_.out; simp_all; done) | (have hR_ := beq_iff_eq.mp HR_.out; simp; exact hR_) | (simp [*, errW_none, errW_some] <;> rfl), by repeat (first | (with_reducible first | exact HB.out | apply below_alloc | apply pw_below_drewN | apply below_drew1 | refine below_set ?_ GE155.out | refine below_set ?_ GE165.out) | exact HB.out)⟩
                      · rw [if_neg c61] at H
                        have c61b0 : (t176 == 17) = false := beq_eq_false_iff_ne.mpr c61
                        have c61b1 : (t176 != 17) = true := bne_iff_ne.mpr c61
                        exact absurd H (by simp)
                    · rw [if_neg c60] at H
                      have c60b0 : (t170 == 0) = false := beq_eq_false_iff_ne.mpr c60
                      have c60b1 : (t170 != 0) = true := bne_iff_ne.mpr c60
                      exact absurd H (by simp)
                  · replace c59 := Bool.eq_false_iff.mpr c59
                    subst c59
                    have H1 : (some false) = some true := by rw [if_neg (show ¬ (false = true) by decide)] at H; exact H
                    clear H
                    have H := H1
                    clear H1
                    exact absurd H (by simp)
                · replace c58 := Bool.eq_false_iff.mpr c58
                  subst c58
                  have H1 : (some false) = some true := by rw [if_neg (show ¬ (false = true) by decide)] at H; exact H
                  clear H
                  have H := H1
                  clear H1
                  exact absurd H (by simp)
              · rw [if_neg c53] at H
                exact absurd H (by simp)

end Go.Proofs.Ytkjmecbbdccfoaa.X
