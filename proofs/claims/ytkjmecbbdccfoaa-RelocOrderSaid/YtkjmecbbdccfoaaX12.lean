/- Walks of Go functions of this seat: each calls-theorem says that the Go function, called at values of its kinds, returns what the Lean function of its name tells, where that tells something; what was in memory stays. Written by our own program xprint.py. -/
import Derived.Test.YtkjmecbbdccfoaaX0
import Derived.Test.YtkjmecbbdccfoaaX2
import Derived.Test.YtkjmecbbdccfoaaX4
import Derived.Test.YtkjmecbbdccfoaaX6
import Derived.Test.YtkjmecbbdccfoaaX9
namespace Go.Proofs.Ytkjmecbbdccfoaa.X
open Go.RowKit Go.Proofs.YtkjmecbbdccfoaaW.PrintWords Go.Proofs.YtkjmecbbdccfoaaW.PrintLast Go.Proofs.YtkjmecbbdccfoaaW.PrintMore
attribute [local go_sem] max2_int min2_int max_two min_two max_three min_three max_four min_four   -- for this text's walks alone
set_option linter.unusedVariables false
set_option linter.unusedSimpArgs false

/-! ### flyleaflaw11_RelocKinds: function 8 -/
mutual
def flyleaflaw11_RelocKinds.j0 : Nat → Int → Int → Bool → Int → Bool → Option (Bool)
  | 0, _, _, _, _, _ => none
  | k + 1, x0, x2, x7, x8, x9 => (reloc_Value.f k 0 x0 x8 x2 5 9).bind fun bt319 => ((reloc_Bytes.f k 0 x0 x8 x2).bind fun t321 => ((flyleafref01_Fill.f t321 40).bind fun t322 => ((reloc_Read.f k t322 ([] : List Int) 0 0 0 0 0 24 0 0).bind fun bt323 => (if x9 = true then (if x0 = 8 then (flyleaflaw11_RelocKinds.j1 k x0 x7 x9 bt319.2 bt323.2 (x8 == 0) 0 x0 x8 x2) else (if x8 > 0 then (flyleaflaw11_RelocKinds.j1 k x0 x7 x9 bt319.2 bt323.2 true 0 x0 x8 x2) else (flyleaflaw11_RelocKinds.j1 k x0 x7 x9 bt319.2 bt323.2 false 0 x0 x8 x2))) else (if x0 = 8 then (flyleaflaw11_RelocKinds.j1 k x0 x7 x9 bt319.2 bt323.2 (x8 == 0) 0 x0 x8 x2) else (flyleaflaw11_RelocKinds.j1 k x0 x7 x9 bt319.2 bt323.2 false 0 x0 x8 x2))))))
def flyleaflaw11_RelocKinds.j1 : Nat → Int → Bool → Bool → Bool → Int → Bool → Int → Int → Int → Int → Option (Bool)
  | 0, _, _, _, _, _, _, _, _, _, _ => none
  | k + 1, x0, x7, x9, x12, x14, x15, x319000, x319001, x319002, x319003 => if x0 < 0 then (flyleaflaw11_RelocKinds.j2 k x0 x7 x9 x12 x14 x15 true x319000 x319001 x319002 x319003) else (flyleaflaw11_RelocKinds.j2 k x0 x7 x9 x12 x14 x15 (decide (x0 > 2147483648)) x319000 x319001 x319002 x319003)
def flyleaflaw11_RelocKinds.j2 : Nat → Int → Bool → Bool → Bool → Int → Bool → Bool → Int → Int → Int → Int → Option (Bool)
  | 0, _, _, _, _, _, _, _, _, _, _, _ => none
  | k + 1, x0, x7, x9, x12, x14, x15, x72, x319000, x319001, x319002, x319003 => if x72 = true then (if x7 = true then (some (!x12)) else (some false)) else (if x7 = true then (if (x12 == x9) = true then (if ((x14 == 0) == x15) = true then ((reloc_Asks.f x319000 x319001 x319002 x319003).bind fun t327 => (if x9 = true then (if (t327 == (x0 != 8)) = true then ((reloc_Shift.f k x319000 x319001 x319002 x319003).bind fun t328 => (some ((t328 == 1) == x9))) else (some false)) else (if (t327 == false) = true then ((reloc_Shift.f k x319000 x319001 x319002 x319003).bind fun t329 => (some ((t329 == 1) == x9))) else (some false)))) else (some false)) else (some false)) else (some false))
end
def flyleaflaw11_RelocKinds.f (k : Nat) (a0 : Int) (a1 : Int) (a2 : Int) : Option (Bool) := (flyleaflaw11_awake.f k).bind fun t317 => (if a0 = 1 then (flyleaflaw11_RelocKinds.j0 k a0 a2 t317 (Go.bits .and .i64 a1 3) true) else (if a0 = 6 then (flyleaflaw11_RelocKinds.j0 k a0 a2 t317 (Go.bits .and .i64 a1 3) true) else (if a0 = 7 then (flyleaflaw11_RelocKinds.j0 k a0 a2 t317 (Go.bits .and .i64 a1 3) true) else (flyleaflaw11_RelocKinds.j0 k a0 a2 t317 (Go.bits .and .i64 a1 3) (a0 == 8)))))
theorem flyleaflaw11_RelocKinds.mono_l : ∀ k, (∀ y0 y1 y2 y3 y4, LeO (flyleaflaw11_RelocKinds.j0 k y0 y1 y2 y3 y4) (flyleaflaw11_RelocKinds.j0 (k + 1) y0 y1 y2 y3 y4)) ∧ (∀ y0 y1 y2 y3 y4 y5 y6 y7 y8 y9, LeO (flyleaflaw11_RelocKinds.j1 k y0 y1 y2 y3 y4 y5 y6 y7 y8 y9) (flyleaflaw11_RelocKinds.j1 (k + 1) y0 y1 y2 y3 y4 y5 y6 y7 y8 y9)) ∧ (∀ y0 y1 y2 y3 y4 y5 y6 y7 y8 y9 y10, LeO (flyleaflaw11_RelocKinds.j2 k y0 y1 y2 y3 y4 y5 y6 y7 y8 y9 y10) (flyleaflaw11_RelocKinds.j2 (k + 1) y0 y1 y2 y3 y4 y5 y6 y7 y8 y9 y10))
  | 0 => ⟨fun _ _ _ _ _ r h => by simp [flyleaflaw11_RelocKinds.j0] at h, fun _ _ _ _ _ _ _ _ _ _ r h => by simp [flyleaflaw11_RelocKinds.j1] at h, fun _ _ _ _ _ _ _ _ _ _ _ r h => by simp [flyleaflaw11_RelocKinds.j2] at h⟩
  | k + 1 => by
    obtain ⟨ih0, ih1, ih2⟩ := flyleaflaw11_RelocKinds.mono_l k
    refine ⟨?_, ?_, ?_⟩
    · intro y0 y1 y2 y3 y4
      unfold flyleaflaw11_RelocKinds.j0
      repeat' first
      | (with_reducible exact ih0 _ _ _ _ _)
      | (with_reducible exact ih1 _ _ _ _ _ _ _ _ _ _)
      | (with_reducible exact ih2 _ _ _ _ _ _ _ _ _ _ _)
      | (with_reducible exact flyleaflaw11_awake.mono _)
      | (with_reducible exact reloc_Bytes.mono _ _ _ _ _)
      | (with_reducible exact reloc_Read.mono _ _ _ _ _ _ _ _ _ _ _)
      | (with_reducible exact reloc_Shift.mono _ _ _ _ _)
      | (with_reducible exact reloc_Value.mono _ _ _ _ _ _ _)
      | (with_reducible exact LeO.refl _)
      | (with_reducible exact LeO.none _)
      | (with_reducible refine LeO.ite ?_ ?_)
      | (with_reducible refine LeO.bind ?_ (fun _ => ?_))
      | exact ih0 _ _ _ _ _
      | exact ih1 _ _ _ _ _ _ _ _ _ _
      | exact ih2 _ _ _ _ _ _ _ _ _ _ _
      | exact flyleaflaw11_awake.mono _
      | exact reloc_Bytes.mono _ _ _ _ _
      | exact reloc_Read.mono _ _ _ _ _ _ _ _ _ _ _
      | exact reloc_Shift.mono _ _ _ _ _
      | exact reloc_Value.mono _ _ _ _ _ _ _
      | exact LeO.none _
      | refine LeO.ite ?_ ?_
      | refine LeO.bind ?_ (fun _ => ?_)
    · intro y0 y1 y2 y3 y4 y5 y6 y7 y8 y9
      unfold flyleaflaw11_RelocKinds.j1
      repeat' first
      | (with_reducible exact ih0 _ _ _ _ _)
      | (with_reducible exact ih1 _ _ _ _ _ _ _ _ _ _)
      | (with_reducible exact ih2 _ _ _ _ _ _ _ _ _ _ _)
      | (with_reducible exact flyleaflaw11_awake.mono _)
      | (with_reducible exact reloc_Bytes.mono _ _ _ _ _)
      | (with_reducible exact reloc_Read.mono _ _ _ _ _ _ _ _ _ _ _)
      | (with_reducible exact reloc_Shift.mono _ _ _ _ _)
      | (with_reducible exact reloc_Value.mono _ _ _ _ _ _ _)
      | (with_reducible exact LeO.refl _)
      | (with_reducible exact LeO.none _)
      | (with_reducible refine LeO.ite ?_ ?_)
      | (with_reducible refine LeO.bind ?_ (fun _ => ?_))
      | exact ih0 _ _ _ _ _
      | exact ih1 _ _ _ _ _ _ _ _ _ _
      | exact ih2 _ _ _ _ _ _ _ _ _ _ _
      | exact flyleaflaw11_awake.mono _
      | exact reloc_Bytes.mono _ _ _ _ _
      | exact reloc_Read.mono _ _ _ _ _ _ _ _ _ _ _
      | exact reloc_Shift.mono _ _ _ _ _
      | exact reloc_Value.mono _ _ _ _ _ _ _
      | exact LeO.none _
      | refine LeO.ite ?_ ?_
      | refine LeO.bind ?_ (fun _ => ?_)
    · intro y0 y1 y2 y3 y4 y5 y6 y7 y8 y9 y10
      unfold flyleaflaw11_RelocKinds.j2
      repeat' first
      | (with_reducible exact ih0 _ _ _ _ _)
      | (with_reducible exact ih1 _ _ _ _ _ _ _ _ _ _)
      | (with_reducible exact ih2 _ _ _ _ _ _ _ _ _ _ _)
      | (with_reducible exact flyleaflaw11_awake.mono _)
      | (with_reducible exact reloc_Bytes.mono _ _ _ _ _)
      | (with_reducible exact reloc_Read.mono _ _ _ _ _ _ _ _ _ _ _)
      | (with_reducible exact reloc_Shift.mono _ _ _ _ _)
      | (with_reducible exact reloc_Value.mono _ _ _ _ _ _ _)
      | (with_reducible exact LeO.refl _)
      | (with_reducible exact LeO.none _)
      | (with_reducible refine LeO.ite ?_ ?_)
      | (with_reducible refine LeO.bind ?_ (fun _ => ?_))
      | exact ih0 _ _ _ _ _
      | exact ih1 _ _ _ _ _ _ _ _ _ _
      | exact ih2 _ _ _ _ _ _ _ _ _ _ _
      | exact flyleaflaw11_awake.mono _
      | exact reloc_Bytes.mono _ _ _ _ _
      | exact reloc_Read.mono _ _ _ _ _ _ _ _ _ _ _
      | exact reloc_Shift.mono _ _ _ _ _
      | exact reloc_Value.mono _ _ _ _ _ _ _
      | exact LeO.none _
      | refine LeO.ite ?_ ?_
      | refine LeO.bind ?_ (fun _ => ?_)
theorem flyleaflaw11_RelocKinds.mono : ∀ a0 a1 a2 k, LeO (flyleaflaw11_RelocKinds.f k a0 a1 a2) (flyleaflaw11_RelocKinds.f (k + 1) a0 a1 a2) := by
  intro a0 a1 a2 k
  obtain ⟨ih0, ih1, ih2⟩ := flyleaflaw11_RelocKinds.mono_l k
  unfold flyleaflaw11_RelocKinds.f
  repeat' first
      | (with_reducible exact ih0 _ _ _ _ _)
      | (with_reducible exact ih1 _ _ _ _ _ _ _ _ _ _)
      | (with_reducible exact ih2 _ _ _ _ _ _ _ _ _ _ _)
      | (with_reducible exact flyleaflaw11_awake.mono _)
      | (with_reducible exact reloc_Bytes.mono _ _ _ _ _)
      | (with_reducible exact reloc_Read.mono _ _ _ _ _ _ _ _ _ _ _)
      | (with_reducible exact reloc_Shift.mono _ _ _ _ _)
      | (with_reducible exact reloc_Value.mono _ _ _ _ _ _ _)
      | (with_reducible exact LeO.refl _)
      | (with_reducible exact LeO.none _)
      | (with_reducible refine LeO.ite ?_ ?_)
      | (with_reducible refine LeO.bind ?_ (fun _ => ?_))
      | exact ih0 _ _ _ _ _
      | exact ih1 _ _ _ _ _ _ _ _ _ _
      | exact ih2 _ _ _ _ _ _ _ _ _ _ _
      | exact flyleaflaw11_awake.mono _
      | exact reloc_Bytes.mono _ _ _ _ _
      | exact reloc_Read.mono _ _ _ _ _ _ _ _ _ _ _
      | exact reloc_Shift.mono _ _ _ _ _
      | exact reloc_Value.mono _ _ _ _ _ _ _
      | exact LeO.none _
      | refine LeO.ite ?_ ?_
      | refine LeO.bind ?_ (fun _ => ?_)
set_option maxHeartbeats 8000000 in
set_option maxRecDepth 100000 in
theorem flyleaflaw11_RelocKinds.calls (k : Nat) (a0 : Int) (a1 : Int) (a2 : Int) (w : World) (h : flyleaflaw11_RelocKinds.f k a0 a1 a2 = some true) :
    Calls Try.prog 8 #[.int .i64 a0, .int .i64 a1, .int .i64 a2] w fun e w' => e = .returned (.bool true) ∧ Below w.heap.size w w' := by
  have hu23 := Try.underlying23
  have hu40 := Try.underlying40
  have HB := Aside0.mk (Below.refl w.heap.size w)
  have H : ((flyleaflaw11_awake.f k).bind fun t317 => (if a0 = 1 then (flyleaflaw11_RelocKinds.j0 k a0 a2 t317 (Go.bits .and .i64 a1 3) true) else (if a0 = 6 then (flyleaflaw11_RelocKinds.j0 k a0 a2 t317 (Go.bits .and .i64 a1 3) true) else (if a0 = 7 then (flyleaflaw11_RelocKinds.j0 k a0 a2 t317 (Go.bits .and .i64 a1 3) true) else (flyleaflaw11_RelocKinds.j0 k a0 a2 t317 (Go.bits .and .i64 a1 3) (a0 == 8)))))) = some true := h
  clear h
  replace H := Option.bind_eq_some_iff.mp H
  obtain ⟨t317, A40, H⟩ := H
  replace H : (if a0 = 1 then (flyleaflaw11_RelocKinds.j0 k a0 a2 t317 (Go.bits .and .i64 a1 3) true) else (if a0 = 6 then (flyleaflaw11_RelocKinds.j0 k a0 a2 t317 (Go.bits .and .i64 a1 3) true) else (if a0 = 7 then (flyleaflaw11_RelocKinds.j0 k a0 a2 t317 (Go.bits .and .i64 a1 3) true) else (flyleaflaw11_RelocKinds.j0 k a0 a2 t317 (Go.bits .and .i64 a1 3) (a0 == 8))))) = some true := H
  have A4 := Aside0.mk A40
  clear A40
  have HC5 := Aside0.mk H
  clear H
  go_enter Try.func8, Try.ntmps8
  go_upto_region 3 with (first | ((with_reducible refine gate_callee (f := 9) rfl ?_); refine goesL_ (some 16) rfl rfl Try.func9 (by kernel_rfl) rfl #[] rfl (by (try simp only [List.map_toArray, List.map_cons, List.map_nil]); first | done | rfl | (simp only [List.length_drop, List.length_take]; rfl) | (simp only [ByteArray.size_append, Int.natCast_add]; rfl)) ?_; (with_reducible refine (flyleaflaw11_awake.calls k  t317 _ A4.out).mono ?_); rintro e w6 ⟨rfl, hb⟩; refine ⟨_, rfl, ?_⟩; have n0_ := Aside0.mk (below_step (by repeat (first | (with_reducible first | exact HB.out | apply below_alloc | apply pw_below_drewN | apply below_drew1) | exact HB.out)) hb); clear HB; have HB := n0_; clear n0_; (try clear hb); (try clear hb2); (try clear hk); (try clear hi)))
  (try simp only [Act.put, List.setIfInBounds_toArray, List.set_cons_zero, List.set_cons_succ])
  go_cut [9] (fun v9 wc => ∃ (kq : Nat) (x9_4 : Bool), v9 = .bool x9_4 ∧ Aside0 (flyleaflaw11_RelocKinds.j0 kq a0 a2 t317 (Go.bits .and .i64 a1 3) x9_4 = some true) ∧ Aside0 (kq ≤ k) ∧ Aside0 (Below w.heap.size w wc))
  case first =>
    have H := HC5.out
    clear HC5
    by_cases c7 : a0 = 1
    · rw [if_pos c7] at H
      have c7b0 : (a0 == 1) = true := beq_iff_eq.mpr c7
      have c7b1 : (a0 != 1) = false := bne_eq_false_iff_eq.mpr c7
      clear c7
      (first | rw [c7b0] | (simp only [i64_w, i32_w]; rw [c7b0]) | skip)
      have H' := Aside0.mk H
      clear H
      go_wp2
      go_meet
      case rel => exact ⟨_, (true), (by first | rfl | (simp; done) | (simp [*]; done)), H', ⟨by first | omega | exact Nat.le_refl _⟩, ⟨by repeat (first | (with_reducible first | exact HB.out | apply below_alloc | apply pw_below_drewN | apply below_drew1) | exact HB.out)⟩⟩
    · rw [if_neg c7] at H
      have c7b0 : (a0 == 1) = false := beq_eq_false_iff_ne.mpr c7
      have c7b1 : (a0 != 1) = true := bne_iff_ne.mpr c7
      (first | rw [c7b0] | (simp only [i64_w, i32_w]; rw [c7b0]) | skip)
      by_cases c8 : a0 = 6
      · rw [if_pos c8] at H
        have c8b0 : (a0 == 6) = true := beq_iff_eq.mpr c8
        have c8b1 : (a0 != 6) = false := bne_eq_false_iff_eq.mpr c8
        clear c8
        have H' := Aside0.mk H
        clear H
        go_wp2
        go_meet
        case rel => exact ⟨_, (true), (by first | rfl | (simp; done) | (simp [*]; done)), H', ⟨by first | omega | exact Nat.le_refl _⟩, ⟨by repeat (first | (with_reducible first | exact HB.out | apply below_alloc | apply pw_below_drewN | apply below_drew1) | exact HB.out)⟩⟩
      · rw [if_neg c8] at H
        have c8b0 : (a0 == 6) = false := beq_eq_false_iff_ne.mpr c8
        have c8b1 : (a0 != 6) = true := bne_iff_ne.mpr c8
        by_cases c9 : a0 = 7
        · rw [if_pos c9] at H
          have c9b0 : (a0 == 7) = true := beq_iff_eq.mpr c9
          have c9b1 : (a0 != 7) = false := bne_eq_false_iff_eq.mpr c9
          clear c9
          have H' := Aside0.mk H
          clear H
          go_wp2
          go_meet
          case rel => exact ⟨_, (true), (by first | rfl | (simp; done) | (simp [*]; done)), H', ⟨by first | omega | exact Nat.le_refl _⟩, ⟨by repeat (first | (with_reducible first | exact HB.out | apply below_alloc | apply pw_below_drewN | apply below_drew1) | exact HB.out)⟩⟩
        · rw [if_neg c9] at H
          have c9b0 : (a0 == 7) = false := beq_eq_false_iff_ne.mpr c9
          have c9b1 : (a0 != 7) = true := bne_iff_ne.mpr c9
          have H' := Aside0.mk H
          clear H
          go_wp2
          go_meet
          case rel => exact ⟨_, ((a0 == 8)), (by first | rfl | (simp; done) | (simp [*]; done)), H', ⟨by first | omega | exact Nat.le_refl _⟩, ⟨by repeat (first | (with_reducible first | exact HB.out | apply below_alloc | apply pw_below_drewN | apply below_drew1) | exact HB.out)⟩⟩
  case rest =>
    clear HC5
    try clear p2
    try clear c7
    try clear c7b0
    try clear c7b1
    try clear c8
    try clear c8b0
    try clear c8b1
    try clear c9
    try clear c9b0
    try clear c9b1
    obtain ⟨kq, x9_4, rfl, HA, HJ4, HB⟩ := hcut
    cases kq with
    | zero => exact absurd HA.out (by simp [flyleaflaw11_RelocKinds.j0])
    | succ kj4 =>
      have H := HA.out
      clear HA
      simp only [flyleaflaw11_RelocKinds.j0] at H
      replace H := Option.bind_eq_some_iff.mp H
      obtain ⟨⟨t319, t320⟩, A100, H⟩ := H
      replace H : ((reloc_Bytes.f kj4 0 a0 (Go.bits .and .i64 a1 3) a2).bind fun t321 => ((flyleafref01_Fill.f t321 40).bind fun t322 => ((reloc_Read.f kj4 t322 ([] : List Int) 0 0 0 0 0 24 0 0).bind fun bt323 => (if x9_4 = true then (if a0 = 8 then (flyleaflaw11_RelocKinds.j1 kj4 a0 t317 x9_4 t320 bt323.2 ((Go.bits .and .i64 a1 3) == 0) 0 a0 (Go.bits .and .i64 a1 3) a2) else (if (Go.bits .and .i64 a1 3) > 0 then (flyleaflaw11_RelocKinds.j1 kj4 a0 t317 x9_4 t320 bt323.2 true 0 a0 (Go.bits .and .i64 a1 3) a2) else (flyleaflaw11_RelocKinds.j1 kj4 a0 t317 x9_4 t320 bt323.2 false 0 a0 (Go.bits .and .i64 a1 3) a2))) else (if a0 = 8 then (flyleaflaw11_RelocKinds.j1 kj4 a0 t317 x9_4 t320 bt323.2 ((Go.bits .and .i64 a1 3) == 0) 0 a0 (Go.bits .and .i64 a1 3) a2) else (flyleaflaw11_RelocKinds.j1 kj4 a0 t317 x9_4 t320 bt323.2 false 0 a0 (Go.bits .and .i64 a1 3) a2)))))) = some true := H
      have A10 := Aside0.mk A100
      clear A100
      replace H := Option.bind_eq_some_iff.mp H
      obtain ⟨t321, A110, H⟩ := H
      replace H : ((flyleafref01_Fill.f t321 40).bind fun t322 => ((reloc_Read.f kj4 t322 ([] : List Int) 0 0 0 0 0 24 0 0).bind fun bt323 => (if x9_4 = true then (if a0 = 8 then (flyleaflaw11_RelocKinds.j1 kj4 a0 t317 x9_4 t320 bt323.2 ((Go.bits .and .i64 a1 3) == 0) 0 a0 (Go.bits .and .i64 a1 3) a2) else (if (Go.bits .and .i64 a1 3) > 0 then (flyleaflaw11_RelocKinds.j1 kj4 a0 t317 x9_4 t320 bt323.2 true 0 a0 (Go.bits .and .i64 a1 3) a2) else (flyleaflaw11_RelocKinds.j1 kj4 a0 t317 x9_4 t320 bt323.2 false 0 a0 (Go.bits .and .i64 a1 3) a2))) else (if a0 = 8 then (flyleaflaw11_RelocKinds.j1 kj4 a0 t317 x9_4 t320 bt323.2 ((Go.bits .and .i64 a1 3) == 0) 0 a0 (Go.bits .and .i64 a1 3) a2) else (flyleaflaw11_RelocKinds.j1 kj4 a0 t317 x9_4 t320 bt323.2 false 0 a0 (Go.bits .and .i64 a1 3) a2))))) = some true := H
      have A11 := Aside0.mk A110
      clear A110
      replace H := Option.bind_eq_some_iff.mp H
      obtain ⟨t322, A120, H⟩ := H
      replace H : ((reloc_Read.f kj4 t322 ([] : List Int) 0 0 0 0 0 24 0 0).bind fun bt323 => (if x9_4 = true then (if a0 = 8 then (flyleaflaw11_RelocKinds.j1 kj4 a0 t317 x9_4 t320 bt323.2 ((Go.bits .and .i64 a1 3) == 0) 0 a0 (Go.bits .and .i64 a1 3) a2) else (if (Go.bits .and .i64 a1 3) > 0 then (flyleaflaw11_RelocKinds.j1 kj4 a0 t317 x9_4 t320 bt323.2 true 0 a0 (Go.bits .and .i64 a1 3) a2) else (flyleaflaw11_RelocKinds.j1 kj4 a0 t317 x9_4 t320 bt323.2 false 0 a0 (Go.bits .and .i64 a1 3) a2))) else (if a0 = 8 then (flyleaflaw11_RelocKinds.j1 kj4 a0 t317 x9_4 t320 bt323.2 ((Go.bits .and .i64 a1 3) == 0) 0 a0 (Go.bits .and .i64 a1 3) a2) else (flyleaflaw11_RelocKinds.j1 kj4 a0 t317 x9_4 t320 bt323.2 false 0 a0 (Go.bits .and .i64 a1 3) a2)))) = some true := H
      have A12 := Aside0.mk A120
      clear A120
      replace H := Option.bind_eq_some_iff.mp H
      obtain ⟨⟨t323, t326⟩, A130, H⟩ := H
      replace H : (if x9_4 = true then (if a0 = 8 then (flyleaflaw11_RelocKinds.j1 kj4 a0 t317 x9_4 t320 t326 ((Go.bits .and .i64 a1 3) == 0) 0 a0 (Go.bits .and .i64 a1 3) a2) else (if (Go.bits .and .i64 a1 3) > 0 then (flyleaflaw11_RelocKinds.j1 kj4 a0 t317 x9_4 t320 t326 true 0 a0 (Go.bits .and .i64 a1 3) a2) else (flyleaflaw11_RelocKinds.j1 kj4 a0 t317 x9_4 t320 t326 false 0 a0 (Go.bits .and .i64 a1 3) a2))) else (if a0 = 8 then (flyleaflaw11_RelocKinds.j1 kj4 a0 t317 x9_4 t320 t326 ((Go.bits .and .i64 a1 3) == 0) 0 a0 (Go.bits .and .i64 a1 3) a2) else (flyleaflaw11_RelocKinds.j1 kj4 a0 t317 x9_4 t320 t326 false 0 a0 (Go.bits .and .i64 a1 3) a2))) = some true := H
      have A13 := Aside0.mk A130
      clear A130
      have HC14 := Aside0.mk H
      clear H
      go_upto_region 7 with (first | ((with_reducible refine gate_dst (N := 10) rfl ?_); refine box_event ?hg (N := 10) ?hd (cs := #[.int .i64 0, .int .i64 0, .int .i64 0, .int .i64 0]) (t := 23) ?hr ?_; (case hd => rfl); (case hg => rfl); (case hr => first | (go_simp; done) | (go_simp; rfl)); intro gb318 hg w15 hbox hb; have n0_ := Aside0.mk (below_step (by repeat (first | (with_reducible first | exact HB.out | apply below_alloc | apply pw_below_drewN | apply below_drew1) | exact HB.out)) hb); have n1_ := Aside0.mk (hbox); have n2_ := Aside0.mk ((by rw [hg]; exact (below_size (by repeat (first | (with_reducible first | exact HB.out | apply below_alloc | apply pw_below_drewN | apply below_drew1) | exact HB.out))) : w.heap.size ≤ gb318)); have n3_ := Aside0.mk ((by rw [hg]; exact (below_size (by repeat (first | (with_reducible first | exact HB.out | apply below_alloc | apply pw_below_drewN | apply below_drew1) | exact HB.out))) : w.heap.size ≤ gb318)); clear HB; have HB := n0_; have BK318 := n1_; have GW318 := n2_; have GE318 := n3_; clear n0_ n1_ n2_ n3_; clear hb hbox hg; have hcz16_0 : w15.cell? ⟨gb318, 0, none⟩ = some (.int .i64 0) := (blk_cell BK318.out 0).trans rfl; have hcz16_1 : w15.cell? ⟨gb318, 1, none⟩ = some (.int .i64 0) := (blk_cell BK318.out 1).trans rfl; have hcz16_2 : w15.cell? ⟨gb318, 2, none⟩ = some (.int .i64 0) := (blk_cell BK318.out 2).trans rfl; have hcz16_3 : w15.cell? ⟨gb318, 3, none⟩ = some (.int .i64 0) := (blk_cell BK318.out 3).trans rfl; have hfz16_0 := blk_frozen BK318.out 0; have hfz16_1 := blk_frozen BK318.out 1; have hfz16_2 := blk_frozen BK318.out 2; have hfz16_3 := blk_frozen BK318.out 3) | ((with_reducible refine gate_callee (f := 10) rfl ?_); refine goesL_ (some 39) rfl rfl Try.func10 (by kernel_rfl) rfl #[.agg #[.int .i64 0, .int .i64 a0, .int .i64 (Go.bits .and .i64 a1 3), .int .i64 a2], .int .i64 5, .int .i64 9] rfl (by (try simp only [List.map_toArray, List.map_cons, List.map_nil]); first | done | rfl | (simp only [List.length_drop, List.length_take]; rfl) | (simp only [ByteArray.size_append, Int.natCast_add]; rfl)) ?_; (with_reducible refine (reloc_Value.calls kj4 0 a0 (Go.bits .and .i64 a1 3) a2 5 9 t319 t320 _ A10.out).mono ?_); rintro e w17 ⟨rfl, hb⟩; refine ⟨_, rfl, ?_⟩; have n0_ := Aside0.mk (blk_below (g := gb318) (o := .cells #[.int .i64 0, .int .i64 a0, .int .i64 (Go.bits .and .i64 a1 3), .int .i64 a2] 23 (0, 0)) (by (with_reducible repeat (first | refine blk_drewN ?_ _ | refine blk_drew ?_ | refine blk_alloc ?_ _)); refine blk_put (cs := #[.int .i64 0, .int .i64 a0, .int .i64 (Go.bits .and .i64 a1 3), .int .i64 0]) ?_ 3 _ rfl; (with_reducible repeat (first | refine blk_drewN ?_ _ | refine blk_drew ?_ | refine blk_alloc ?_ _)); refine blk_put (cs := #[.int .i64 0, .int .i64 a0, .int .i64 0, .int .i64 0]) ?_ 2 _ rfl; (with_reducible repeat (first | refine blk_drewN ?_ _ | refine blk_drew ?_ | refine blk_alloc ?_ _)); refine blk_put (cs := #[.int .i64 0, .int .i64 0, .int .i64 0, .int .i64 0]) ?_ 1 _ rfl; (with_reducible repeat (first | refine blk_drewN ?_ _ | refine blk_drew ?_ | refine blk_alloc ?_ _)); refine blk_put (cs := #[.int .i64 0, .int .i64 0, .int .i64 0, .int .i64 0]) ?_ 0 _ rfl; (with_reducible repeat (first | refine blk_drewN ?_ _ | refine blk_drew ?_ | refine blk_alloc ?_ _)); exact BK318.out) hb); have n1_ := Aside0.mk (below_step (by repeat (first | (with_reducible first | exact HB.out | apply below_alloc | apply pw_below_drewN | apply below_drew1 | refine below_set ?_ GE318.out) | exact HB.out)) hb); clear BK318; clear HB; have BK318 := n0_; have HB := n1_; clear n0_ n1_; (try clear hb); (try clear hb2); (try clear hk); (try clear hi); have hcz18_0 : w17.cell? ⟨gb318, 0, none⟩ = some (.int .i64 0) := (blk_cell BK318.out 0).trans rfl; have hcz18_1 : w17.cell? ⟨gb318, 1, none⟩ = some (.int .i64 a0) := (blk_cell BK318.out 1).trans rfl; have hcz18_2 : w17.cell? ⟨gb318, 2, none⟩ = some (.int .i64 (Go.bits .and .i64 a1 3)) := (blk_cell BK318.out 2).trans rfl; have hcz18_3 : w17.cell? ⟨gb318, 3, none⟩ = some (.int .i64 a2) := (blk_cell BK318.out 3).trans rfl; have hfz18_0 := blk_frozen BK318.out 0; have hfz18_1 := blk_frozen BK318.out 1; have hfz18_2 := blk_frozen BK318.out 2; have hfz18_3 := blk_frozen BK318.out 3) | ((with_reducible refine gate_callee (f := 14) rfl ?_); refine goesL_ (some 44) rfl rfl Try.func14 (by kernel_rfl) rfl #[.agg #[.int .i64 0, .int .i64 a0, .int .i64 (Go.bits .and .i64 a1 3), .int .i64 a2]] rfl (by (try simp only [List.map_toArray, List.map_cons, List.map_nil]); first | done | rfl | (simp only [List.length_drop, List.length_take]; rfl) | (simp only [ByteArray.size_append, Int.natCast_add]; rfl)) ?_; (with_reducible refine (reloc_Bytes.calls kj4 0 a0 (Go.bits .and .i64 a1 3) a2 t321 _ A11.out).mono ?_); rintro e w19 ⟨rfl, hb⟩; refine ⟨_, rfl, ?_⟩; have n0_ := Aside0.mk (blk_below (g := gb318) (o := .cells #[.int .i64 0, .int .i64 a0, .int .i64 (Go.bits .and .i64 a1 3), .int .i64 a2] 23 (0, 0)) (by (with_reducible repeat (first | refine blk_drewN ?_ _ | refine blk_drew ?_ | refine blk_alloc ?_ _)); exact BK318.out) hb); have n1_ := Aside0.mk (below_step (by repeat (first | (with_reducible first | exact HB.out | apply below_alloc | apply pw_below_drewN | apply below_drew1 | refine below_set ?_ GE318.out) | exact HB.out)) hb); clear BK318; clear HB; have BK318 := n0_; have HB := n1_; clear n0_ n1_; (try clear hb); (try clear hb2); (try clear hk); (try clear hi)) | ((with_reducible refine gate_callee (f := 17) rfl ?_); refine goesL_ (some 45) rfl rfl Try.func17 (by kernel_rfl) rfl #[.string t321, .int .i64 40] rfl (by (try simp only [List.map_toArray, List.map_cons, List.map_nil]); first | done | rfl | (simp only [List.length_drop, List.length_take]; rfl) | (simp only [ByteArray.size_append, Int.natCast_add]; rfl)) ?_; (with_reducible refine (flyleafref01_Fill.calls t321 40 t322 _ A12.out).mono ?_); rintro e w20 ⟨rfl, hb⟩; refine ⟨_, rfl, ?_⟩; have n0_ := Aside0.mk (blk_below (g := gb318) (o := .cells #[.int .i64 0, .int .i64 a0, .int .i64 (Go.bits .and .i64 a1 3), .int .i64 a2] 23 (0, 0)) (by (with_reducible repeat (first | refine blk_drewN ?_ _ | refine blk_drew ?_ | refine blk_alloc ?_ _)); exact BK318.out) hb); have n1_ := Aside0.mk (below_step (by repeat (first | (with_reducible first | exact HB.out | apply below_alloc | apply pw_below_drewN | apply below_drew1 | refine below_set ?_ GE318.out) | exact HB.out)) hb); clear BK318; clear HB; have BK318 := n0_; have HB := n1_; clear n0_ n1_; (try clear hb); (try clear hb2); (try clear hk); (try clear hi)) | ((with_reducible refine gate_callee (f := 18) rfl ?_); refine goesL_ (some 47) rfl rfl Try.func18 (by kernel_rfl) rfl #[.string t322, .agg #[.slice none 0 0, .int .i64 0, .int .i64 0, .int .i64 0, .int .i64 0, .int .i64 0, .int .i64 24, .int .i64 0, .int .i64 0]] rfl (by (try simp only [List.map_toArray, List.map_cons, List.map_nil]); first | done | rfl | (simp only [List.length_drop, List.length_take]; rfl) | (simp only [ByteArray.size_append, Int.natCast_add]; rfl)) ?_; (refine (reloc_Read.calls kj4 t322 _ _ ([] : List Int) 0 0 0 0 0 24 0 0 t323 t326 _ ?side1 ?side2 A13.out).mono ?_); (case side1 => exact Kd.C_nil _ _); (case side2 => exact Nat.le_refl _); rintro e w21 ⟨v324, rfl, ho0, hb⟩; refine ⟨_, rfl, ?_⟩; have n0_ := Aside0.mk (Kd.R_lower (Kd.R_newB ho0 (g := gb318) (o := .cells #[.int .i64 0, .int .i64 a0, .int .i64 (Go.bits .and .i64 a1 3), .int .i64 a2] 23 (0, 0)) (by (with_reducible repeat (first | refine blk_drewN ?_ _ | refine blk_drew ?_ | refine blk_alloc ?_ _)); exact BK318.out)) (below_size (by repeat (first | (with_reducible first | exact HB.out | apply below_alloc | apply pw_below_drewN | apply below_drew1 | refine below_set ?_ GE318.out) | exact HB.out)))); have n1_ := Aside0.mk (blk_below (g := gb318) (o := .cells #[.int .i64 0, .int .i64 a0, .int .i64 (Go.bits .and .i64 a1 3), .int .i64 a2] 23 (0, 0)) (by (with_reducible repeat (first | refine blk_drewN ?_ _ | refine blk_drew ?_ | refine blk_alloc ?_ _)); exact BK318.out) hb); have n2_ := Aside0.mk (below_step (by repeat (first | (with_reducible first | exact HB.out | apply below_alloc | apply pw_below_drewN | apply below_drew1 | refine below_set ?_ GE318.out) | exact HB.out)) hb); clear BK318; clear HB; have HO325 := n0_; have BK318 := n1_; have HB := n2_; clear n0_ n1_ n2_; (try clear hb); (try clear hb2); (try clear hk); (try clear hi); (try clear ho0)))
      (try simp only [Act.put, List.setIfInBounds_toArray, List.set_cons_zero, List.set_cons_succ])
      go_cut [15] (fun v15 wc => ∃ (kq : Nat) (x15_13 : Bool), v15 = .bool x15_13 ∧ Aside0 (flyleaflaw11_RelocKinds.j1 kq a0 t317 x9_4 t320 t326 x15_13 0 a0 (Go.bits .and .i64 a1 3) a2 = some true) ∧ Aside0 (kq ≤ kj4) ∧ Aside0 (wc.heap[gb318]? = some (.cells #[.int .i64 0, .int .i64 a0, .int .i64 (Go.bits .and .i64 a1 3), .int .i64 a2] 23 (0, 0))) ∧ Aside0 (Below w.heap.size w wc))
      case first =>
        have H := HC14.out
        clear HC14
        by_cases c22 : x9_4 = true
        · subst c22
          have H1 : (if a0 = 8 then (flyleaflaw11_RelocKinds.j1 kj4 a0 t317 true t320 t326 ((Go.bits .and .i64 a1 3) == 0) 0 a0 (Go.bits .and .i64 a1 3) a2) else (if (Go.bits .and .i64 a1 3) > 0 then (flyleaflaw11_RelocKinds.j1 kj4 a0 t317 true t320 t326 true 0 a0 (Go.bits .and .i64 a1 3) a2) else (flyleaflaw11_RelocKinds.j1 kj4 a0 t317 true t320 t326 false 0 a0 (Go.bits .and .i64 a1 3) a2))) = some true := by rw [if_pos rfl] at H; exact H
          clear H
          have H := H1
          clear H1
          by_cases c23 : a0 = 8
          · rw [if_pos c23] at H
            have c23b0 : (a0 == 8) = true := beq_iff_eq.mpr c23
            have c23b1 : (a0 != 8) = false := bne_eq_false_iff_eq.mpr c23
            clear c23
            (first | rw [c23b0] | (simp only [i64_w, i32_w]; rw [c23b0]) | skip)
            have H' := Aside0.mk H
            clear H
            go_wp2
            go_meet
            case rel => exact ⟨_, (((Go.bits .and .i64 a1 3) == 0)), (by first | rfl | (simp; done) | (simp [*]; done)), H', ⟨by have := HJ4.out; first | omega | exact Nat.le_refl _⟩, ⟨by (with_reducible repeat (first | refine blk_drewN ?_ _ | refine blk_drew ?_ | refine blk_alloc ?_ _)); exact BK318.out⟩, ⟨by repeat (first | (with_reducible first | exact HB.out | apply below_alloc | apply pw_below_drewN | apply below_drew1 | refine below_set ?_ GE318.out) | exact HB.out)⟩⟩
          · rw [if_neg c23] at H
            have c23b0 : (a0 == 8) = false := beq_eq_false_iff_ne.mpr c23
            have c23b1 : (a0 != 8) = true := bne_iff_ne.mpr c23
            (first | rw [c23b0] | (simp only [i64_w, i32_w]; rw [c23b0]) | skip)
            by_cases c24 : (Go.bits .and .i64 a1 3) > 0
            · rw [if_pos c24] at H
              have c24b0 : decide (0 < (Go.bits .and .i64 a1 3)) = true := decide_eq_true c24
              clear c24
              have H' := Aside0.mk H
              clear H
              go_wp2
              go_meet
              case rel => exact ⟨_, (true), (by first | rfl | (simp; done) | (simp [*]; done)), H', ⟨by have := HJ4.out; first | omega | exact Nat.le_refl _⟩, ⟨by (with_reducible repeat (first | refine blk_drewN ?_ _ | refine blk_drew ?_ | refine blk_alloc ?_ _)); exact BK318.out⟩, ⟨by repeat (first | (with_reducible first | exact HB.out | apply below_alloc | apply pw_below_drewN | apply below_drew1 | refine below_set ?_ GE318.out) | exact HB.out)⟩⟩
            · rw [if_neg c24] at H
              have c24b0 : decide (0 < (Go.bits .and .i64 a1 3)) = false := decide_eq_false c24
              clear c24
              have H' := Aside0.mk H
              clear H
              go_wp2
              go_meet
              case rel => exact ⟨_, (false), (by first | rfl | (simp; done) | (simp [*]; done)), H', ⟨by have := HJ4.out; first | omega | exact Nat.le_refl _⟩, ⟨by (with_reducible repeat (first | refine blk_drewN ?_ _ | refine blk_drew ?_ | refine blk_alloc ?_ _)); exact BK318.out⟩, ⟨by repeat (first | (with_reducible first | exact HB.out | apply below_alloc | apply pw_below_drewN | apply below_drew1 | refine below_set ?_ GE318.out) | exact HB.out)⟩⟩
        · replace c22 := Bool.eq_false_iff.mpr c22
          subst c22
          have H1 : (if a0 = 8 then (flyleaflaw11_RelocKinds.j1 kj4 a0 t317 false t320 t326 ((Go.bits .and .i64 a1 3) == 0) 0 a0 (Go.bits .and .i64 a1 3) a2) else (flyleaflaw11_RelocKinds.j1 kj4 a0 t317 false t320 t326 false 0 a0 (Go.bits .and .i64 a1 3) a2)) = some true := by rw [if_neg (show ¬ (false = true) by decide)] at H; exact H
          clear H
          have H := H1
          clear H1
          by_cases c25 : a0 = 8
          · rw [if_pos c25] at H
            have c25b0 : (a0 == 8) = true := beq_iff_eq.mpr c25
            have c25b1 : (a0 != 8) = false := bne_eq_false_iff_eq.mpr c25
            clear c25
            have H' := Aside0.mk H
            clear H
            go_wp2
            go_meet
            case rel => exact ⟨_, (((Go.bits .and .i64 a1 3) == 0)), (by first | rfl | (simp; done) | (simp [*]; done)), H', ⟨by have := HJ4.out; first | omega | exact Nat.le_refl _⟩, ⟨by (with_reducible repeat (first | refine blk_drewN ?_ _ | refine blk_drew ?_ | refine blk_alloc ?_ _)); exact BK318.out⟩, ⟨by repeat (first | (with_reducible first | exact HB.out | apply below_alloc | apply pw_below_drewN | apply below_drew1 | refine below_set ?_ GE318.out) | exact HB.out)⟩⟩
          · rw [if_neg c25] at H
            have c25b0 : (a0 == 8) = false := beq_eq_false_iff_ne.mpr c25
            have c25b1 : (a0 != 8) = true := bne_iff_ne.mpr c25
            have H' := Aside0.mk H
            clear H
            go_wp2
            go_meet
            case rel => exact ⟨_, (false), (by first | rfl | (simp; done) | (simp [*]; done)), H', ⟨by have := HJ4.out; first | omega | exact Nat.le_refl _⟩, ⟨by (with_reducible repeat (first | refine blk_drewN ?_ _ | refine blk_drew ?_ | refine blk_alloc ?_ _)); exact BK318.out⟩, ⟨by repeat (first | (with_reducible first | exact HB.out | apply below_alloc | apply pw_below_drewN | apply below_drew1 | refine below_set ?_ GE318.out) | exact HB.out)⟩⟩
      case rest =>
        clear HC14
        try clear c1
        try clear c2
        try clear p2
        try clear c7
        try clear c7b0
        try clear c7b1
        try clear c8
        try clear c8b0
        try clear c8b1
        try clear c9
        try clear c9b0
        try clear c9b1
        try clear c10
        try clear c14
        try clear c17
        try clear c18
        try clear c22
        try clear c23
        try clear c23b0
        try clear c23b1
        try clear c24
        try clear c24b0
        try clear c25
        try clear c25b0
        try clear c25b1
        try clear hcz16_0
        try clear hcz16_1
        try clear hcz16_2
        try clear hcz16_3
        try clear hcz18_0
        try clear hcz18_1
        try clear hcz18_2
        try clear hcz18_3
        try clear hfz16_0
        try clear hfz16_1
        try clear hfz16_2
        try clear hfz16_3
        try clear hfz18_0
        try clear hfz18_1
        try clear hfz18_2
        try clear hfz18_3
        try clear p2
        obtain ⟨kq, x15_13, rfl, HA, HJ13, BK318, HB⟩ := hcut
        cases kq with
        | zero => exact absurd HA.out (by simp [flyleaflaw11_RelocKinds.j1])
        | succ kj13 =>
          have H := HA.out
          clear HA
          simp only [flyleaflaw11_RelocKinds.j1] at H
          have HC26 := Aside0.mk H
          clear H
          go_upto_region 8 with (fail)
          go_cut [72] (fun v72 wc => ∃ (kq : Nat) (x72_25 : Bool), v72 = .bool x72_25 ∧ Aside0 (flyleaflaw11_RelocKinds.j2 kq a0 t317 x9_4 t320 t326 x15_13 x72_25 0 a0 (Go.bits .and .i64 a1 3) a2 = some true) ∧ Aside0 (kq ≤ kj13) ∧ Aside0 (wc.heap[gb318]? = some (.cells #[.int .i64 0, .int .i64 a0, .int .i64 (Go.bits .and .i64 a1 3), .int .i64 a2] 23 (0, 0))) ∧ Aside0 (Below w.heap.size w wc))
          case first =>
            have H := HC26.out
            clear HC26
            by_cases c27 : a0 < 0
            · rw [if_pos c27] at H
              have c27b0 : decide (a0 < 0) = true := decide_eq_true c27
              clear c27
              (first | rw [c27b0] | (simp only [i64_w, i32_w]; rw [c27b0]) | skip)
              have H' := Aside0.mk H
              clear H
              go_wp2
              go_meet
              case rel => exact ⟨_, (true), (by first | rfl | (simp; done) | (simp [*]; done)), H', ⟨by have := HJ4.out; have := HJ13.out; first | omega | exact Nat.le_refl _⟩, ⟨by (with_reducible repeat (first | refine blk_drewN ?_ _ | refine blk_drew ?_ | refine blk_alloc ?_ _)); exact BK318.out⟩, ⟨by repeat (first | (with_reducible first | exact HB.out | apply below_alloc | apply pw_below_drewN | apply below_drew1 | refine below_set ?_ GE318.out) | exact HB.out)⟩⟩
            · rw [if_neg c27] at H
              have c27b0 : decide (a0 < 0) = false := decide_eq_false c27
              clear c27
              (first | rw [c27b0] | (simp only [i64_w, i32_w]; rw [c27b0]) | skip)
              have H' := Aside0.mk H
              clear H
              go_wp2
              go_meet
              case rel => exact ⟨_, (decide (a0 > 2147483648)), (by first | rfl | (simp; done) | (simp [*]; done)), H', ⟨by have := HJ4.out; have := HJ13.out; first | omega | exact Nat.le_refl _⟩, ⟨by (with_reducible repeat (first | refine blk_drewN ?_ _ | refine blk_drew ?_ | refine blk_alloc ?_ _)); exact BK318.out⟩, ⟨by repeat (first | (with_reducible first | exact HB.out | apply below_alloc | apply pw_below_drewN | apply below_drew1 | refine below_set ?_ GE318.out) | exact HB.out)⟩⟩
          case rest =>
            clear HC26
            try clear c1
            try clear c2
            try clear p2
            try clear c7
            try clear c7b0
            try clear c7b1
            try clear c8
            try clear c8b0
            try clear c8b1
            try clear c9
            try clear c9b0
            try clear c9b1
            try clear c10
            try clear c14
            try clear c17
            try clear c18
            try clear c22
            try clear c23
            try clear c23b0
            try clear c23b1
            try clear c24
            try clear c24b0
            try clear c25
            try clear c25b0
            try clear c25b1
            try clear c27
            try clear c27b0
            try clear hcz16_0
            try clear hcz16_1
            try clear hcz16_2
            try clear hcz16_3
            try clear hcz18_0
            try clear hcz18_1
            try clear hcz18_2
            try clear hcz18_3
            try clear hfz16_0
            try clear hfz16_1
            try clear hfz16_2
            try clear hfz16_3
            try clear hfz18_0
            try clear hfz18_1
            try clear hfz18_2
            try clear hfz18_3
            try clear p2
            obtain ⟨kq, x72_25, rfl, HA, HJ25, BK318, HB⟩ := hcut
            cases kq with
            | zero => exact absurd HA.out (by simp [flyleaflaw11_RelocKinds.j2])
            | succ kj25 =>
              have H := HA.out
              clear HA
              simp only [flyleaflaw11_RelocKinds.j2] at H
              by_cases c28 : x72_25 = true
              · subst c28
                have H1 : (if t317 = true then (some (!t320)) else (some false)) = some true := by rw [if_pos rfl] at H; exact H
                clear H
                have H := H1
                clear H1
                by_cases c29 : t317 = true
                · subst c29
                  have H1 : (some (!t320)) = some true := by rw [if_pos rfl] at H; exact H
                  clear H
                  have H := H1
                  clear H1
                  have HR_ := Aside0.mk (Option.some.inj H)
                  clear H
                  go_wp2
                  go_ret
                  exact ⟨by first | rfl | (simp [errW_none, errW_some] <;> rfl) | (rw [HR_.out]; done) | (rw [← HR_.out]; done) | (have hR_ := HR_.out; simp only [hR_]; done) | (have hR_ := HR_.out; simp only [ByteArray.size_append] at hR_; exact congrArg (fun b_ => Ending.returned (.bool b_)) hR_) | (have hR_ := HR_.out; simp_all; done) | (have hR_ := beq_iff_eq.mp HR_.out; simp; exact hR_) | (simp [*, errW_none, errW_some] <;> rfl), by repeat (first | (with_reducible first | exact HB.out | apply below_alloc | apply pw_below_drewN | apply below_drew1 | refine below_set ?_ GE318.out) | exact HB.out)⟩
                · replace c29 := Bool.eq_false_iff.mpr c29
                  subst c29
                  have H1 : (some false) = some true := by rw [if_neg (show ¬ (false = true) by decide)] at H; exact H
                  clear H
                  have H := H1
                  clear H1
                  exact absurd H (by simp)
              · replace c28 := Bool.eq_false_iff.mpr c28
                subst c28
                have H1 : (if t317 = true then (if (t320 == x9_4) = true then (if ((t326 == 0) == x15_13) = true then ((reloc_Asks.f 0 a0 (Go.bits .and .i64 a1 3) a2).bind fun t327 => (if x9_4 = true then (if (t327 == (a0 != 8)) = true then ((reloc_Shift.f kj25 0 a0 (Go.bits .and .i64 a1 3) a2).bind fun t328 => (some ((t328 == 1) == x9_4))) else (some false)) else (if (t327 == false) = true then ((reloc_Shift.f kj25 0 a0 (Go.bits .and .i64 a1 3) a2).bind fun t329 => (some ((t329 == 1) == x9_4))) else (some false)))) else (some false)) else (some false)) else (some false)) = some true := by rw [if_neg (show ¬ (false = true) by decide)] at H; exact H
                clear H
                have H := H1
                clear H1
                by_cases c30 : t317 = true
                · subst c30
                  have H1 : (if (t320 == x9_4) = true then (if ((t326 == 0) == x15_13) = true then ((reloc_Asks.f 0 a0 (Go.bits .and .i64 a1 3) a2).bind fun t327 => (if x9_4 = true then (if (t327 == (a0 != 8)) = true then ((reloc_Shift.f kj25 0 a0 (Go.bits .and .i64 a1 3) a2).bind fun t328 => (some ((t328 == 1) == x9_4))) else (some false)) else (if (t327 == false) = true then ((reloc_Shift.f kj25 0 a0 (Go.bits .and .i64 a1 3) a2).bind fun t329 => (some ((t329 == 1) == x9_4))) else (some false)))) else (some false)) else (some false)) = some true := by rw [if_pos rfl] at H; exact H
                  clear H
                  have H := H1
                  clear H1
                  by_cases c31 : (t320 == x9_4) = true
                  · rw [if_pos c31] at H
                    have c31b0 : (t320 == x9_4) = true := c31
                    (try (have c31b1 : decide (t320 = x9_4) = true := by simpa using c31))
                    (try (have c31b2 : (t320 == x9_4) = true := by simpa using c31))
                    clear c31
                    by_cases c32 : ((t326 == 0) == x15_13) = true
                    · rw [if_pos c32] at H
                      have c32b0 : ((t326 == 0) == x15_13) = true := c32
                      (try (have c32b1 : decide ((t326 == 0) = x15_13) = true := by simpa using c32))
                      (try (have c32b2 : ((t326 == 0) == x15_13) = true := by simpa using c32))
                      clear c32
                      replace H := Option.bind_eq_some_iff.mp H
                      obtain ⟨t327, A330, H⟩ := H
                      replace H : (if x9_4 = true then (if (t327 == (a0 != 8)) = true then ((reloc_Shift.f kj25 0 a0 (Go.bits .and .i64 a1 3) a2).bind fun t328 => (some ((t328 == 1) == x9_4))) else (some false)) else (if (t327 == false) = true then ((reloc_Shift.f kj25 0 a0 (Go.bits .and .i64 a1 3) a2).bind fun t329 => (some ((t329 == 1) == x9_4))) else (some false))) = some true := H
                      have A33 := Aside0.mk A330
                      clear A330
                      by_cases c34 : x9_4 = true
                      · subst c34
                        have H1 : (if (t327 == (a0 != 8)) = true then ((reloc_Shift.f kj25 0 a0 (Go.bits .and .i64 a1 3) a2).bind fun t328 => (some ((t328 == 1) == true))) else (some false)) = some true := by rw [if_pos rfl] at H; exact H
                        clear H
                        have H := H1
                        clear H1
                        by_cases c35 : (t327 == (a0 != 8)) = true
                        · rw [if_pos c35] at H
                          have c35b0 : (t327 == (a0 != 8)) = true := c35
                          (try (have c35b1 : decide (t327 = (a0 != 8)) = true := by simpa using c35))
                          (try (have c35b2 : (t327 == (a0 != 8)) = true := by simpa using c35))
                          clear c35
                          replace H := Option.bind_eq_some_iff.mp H
                          obtain ⟨t328, A360, H⟩ := H
                          replace H : (some ((t328 == 1) == true)) = some true := H
                          have A36 := Aside0.mk A360
                          clear A360
                          have HR_ := Aside0.mk (Option.some.inj H)
                          clear H
                          have hcz37_0 : wc.cell? ⟨gb318, 0, none⟩ = some (.int .i64 0) := (blk_cell BK318.out 0).trans rfl
                          have hcz37_1 : wc.cell? ⟨gb318, 1, none⟩ = some (.int .i64 a0) := (blk_cell BK318.out 1).trans rfl
                          have hcz37_2 : wc.cell? ⟨gb318, 2, none⟩ = some (.int .i64 (Go.bits .and .i64 a1 3)) := (blk_cell BK318.out 2).trans rfl
                          have hcz37_3 : wc.cell? ⟨gb318, 3, none⟩ = some (.int .i64 a2) := (blk_cell BK318.out 3).trans rfl
                          have hfz37_0 := blk_frozen BK318.out 0
                          have hfz37_1 := blk_frozen BK318.out 1
                          have hfz37_2 := blk_frozen BK318.out 2
                          have hfz37_3 := blk_frozen BK318.out 3
                          go_wp2_with (first | (go_at_call 12; (with_reducible refine (reloc_Asks.calls 0 a0 (Go.bits .and .i64 a1 3) a2 t327 _ A33.out).mono ?_); rintro e w38 ⟨rfl, hb⟩; have n0_ := Aside0.mk (blk_below (g := gb318) (o := .cells #[.int .i64 0, .int .i64 a0, .int .i64 (Go.bits .and .i64 a1 3), .int .i64 a2] 23 (0, 0)) (by (with_reducible repeat (first | refine blk_drewN ?_ _ | refine blk_drew ?_ | refine blk_alloc ?_ _)); exact BK318.out) hb); have n1_ := Aside0.mk (below_step (by repeat (first | (with_reducible first | exact HB.out | apply below_alloc | apply pw_below_drewN | apply below_drew1 | refine below_set ?_ GE318.out) | exact HB.out)) hb); clear BK318; clear HB; have BK318 := n0_; have HB := n1_; clear n0_ n1_; (try clear hb); (try clear hb2); (try clear hk); (try clear hi); have hcz39_0 : w38.cell? ⟨gb318, 0, none⟩ = some (.int .i64 0) := (blk_cell BK318.out 0).trans rfl; have hcz39_1 : w38.cell? ⟨gb318, 1, none⟩ = some (.int .i64 a0) := (blk_cell BK318.out 1).trans rfl; have hcz39_2 : w38.cell? ⟨gb318, 2, none⟩ = some (.int .i64 (Go.bits .and .i64 a1 3)) := (blk_cell BK318.out 2).trans rfl; have hcz39_3 : w38.cell? ⟨gb318, 3, none⟩ = some (.int .i64 a2) := (blk_cell BK318.out 3).trans rfl; have hfz39_0 := blk_frozen BK318.out 0; have hfz39_1 := blk_frozen BK318.out 1; have hfz39_2 := blk_frozen BK318.out 2; have hfz39_3 := blk_frozen BK318.out 3) | (go_at_call 11; (with_reducible refine (reloc_Shift.calls kj25 0 a0 (Go.bits .and .i64 a1 3) a2 t328 _ A36.out).mono ?_); rintro e w40 ⟨rfl, hb⟩; have n0_ := Aside0.mk (blk_below (g := gb318) (o := .cells #[.int .i64 0, .int .i64 a0, .int .i64 (Go.bits .and .i64 a1 3), .int .i64 a2] 23 (0, 0)) (by (with_reducible repeat (first | refine blk_drewN ?_ _ | refine blk_drew ?_ | refine blk_alloc ?_ _)); exact BK318.out) hb); have n1_ := Aside0.mk (below_step (by repeat (first | (with_reducible first | exact HB.out | apply below_alloc | apply pw_below_drewN | apply below_drew1 | refine below_set ?_ GE318.out) | exact HB.out)) hb); clear BK318; clear HB; have BK318 := n0_; have HB := n1_; clear n0_ n1_; (try clear hb); (try clear hb2); (try clear hk); (try clear hi)))
                          go_ret
                          exact ⟨by first | rfl | (simp [errW_none, errW_some] <;> rfl) | (rw [HR_.out]; done) | (rw [← HR_.out]; done) | (have hR_ := HR_.out; simp only [hR_]; done) | (have hR_ := HR_.out; simp only [ByteArray.size_append] at hR_; exact congrArg (fun b_ => Ending.returned (.bool b_)) hR_) | (have hR_ := HR_.out; simp_all; done) | (have hR_ := beq_iff_eq.mp HR_.out; simp; exact hR_) | (simp [*, errW_none, errW_some] <;> rfl), by repeat (first | (with_reducible first | exact HB.out | apply below_alloc | apply pw_below_drewN | apply below_drew1 | refine below_set ?_ GE318.out) | exact HB.out)⟩
                        · rw [if_neg c35] at H
                          have c35b0 : (t327 == (a0 != 8)) = false := by simpa using c35
                          (try (have c35b1 : decide (t327 = (a0 != 8)) = false := by simpa using c35))
                          (try (have c35b2 : (t327 == (a0 != 8)) = false := by simpa using c35))
                          (try (have c35b3 : ¬ (t327 = (a0 != 8)) := by simpa using c35))
                          clear c35
                          exact absurd H (by simp)
                      · replace c34 := Bool.eq_false_iff.mpr c34
                        subst c34
                        have H1 : (if (t327 == false) = true then ((reloc_Shift.f kj25 0 a0 (Go.bits .and .i64 a1 3) a2).bind fun t329 => (some ((t329 == 1) == false))) else (some false)) = some true := by rw [if_neg (show ¬ (false = true) by decide)] at H; exact H
                        clear H
                        have H := H1
                        clear H1
                        by_cases c41 : (t327 == false) = true
                        · rw [if_pos c41] at H
                          have c41b0 : (t327 == false) = true := c41
                          (try (have c41b1 : decide (t327 = false) = true := by simpa using c41))
                          (try (have c41b2 : (t327 == false) = true := by simpa using c41))
                          clear c41
                          replace H := Option.bind_eq_some_iff.mp H
                          obtain ⟨t329, A420, H⟩ := H
                          replace H : (some ((t329 == 1) == false)) = some true := H
                          have A42 := Aside0.mk A420
                          clear A420
                          have HR_ := Aside0.mk (Option.some.inj H)
                          clear H
                          have hcz43_0 : wc.cell? ⟨gb318, 0, none⟩ = some (.int .i64 0) := (blk_cell BK318.out 0).trans rfl
                          have hcz43_1 : wc.cell? ⟨gb318, 1, none⟩ = some (.int .i64 a0) := (blk_cell BK318.out 1).trans rfl
                          have hcz43_2 : wc.cell? ⟨gb318, 2, none⟩ = some (.int .i64 (Go.bits .and .i64 a1 3)) := (blk_cell BK318.out 2).trans rfl
                          have hcz43_3 : wc.cell? ⟨gb318, 3, none⟩ = some (.int .i64 a2) := (blk_cell BK318.out 3).trans rfl
                          have hfz43_0 := blk_frozen BK318.out 0
                          have hfz43_1 := blk_frozen BK318.out 1
                          have hfz43_2 := blk_frozen BK318.out 2
                          have hfz43_3 := blk_frozen BK318.out 3
                          go_wp2_with (first | (go_at_call 12; (with_reducible refine (reloc_Asks.calls 0 a0 (Go.bits .and .i64 a1 3) a2 t327 _ A33.out).mono ?_); rintro e w44 ⟨rfl, hb⟩; have n0_ := Aside0.mk (blk_below (g := gb318) (o := .cells #[.int .i64 0, .int .i64 a0, .int .i64 (Go.bits .and .i64 a1 3), .int .i64 a2] 23 (0, 0)) (by (with_reducible repeat (first | refine blk_drewN ?_ _ | refine blk_drew ?_ | refine blk_alloc ?_ _)); exact BK318.out) hb); have n1_ := Aside0.mk (below_step (by repeat (first | (with_reducible first | exact HB.out | apply below_alloc | apply pw_below_drewN | apply below_drew1 | refine below_set ?_ GE318.out) | exact HB.out)) hb); clear BK318; clear HB; have BK318 := n0_; have HB := n1_; clear n0_ n1_; (try clear hb); (try clear hb2); (try clear hk); (try clear hi); have hcz45_0 : w44.cell? ⟨gb318, 0, none⟩ = some (.int .i64 0) := (blk_cell BK318.out 0).trans rfl; have hcz45_1 : w44.cell? ⟨gb318, 1, none⟩ = some (.int .i64 a0) := (blk_cell BK318.out 1).trans rfl; have hcz45_2 : w44.cell? ⟨gb318, 2, none⟩ = some (.int .i64 (Go.bits .and .i64 a1 3)) := (blk_cell BK318.out 2).trans rfl; have hcz45_3 : w44.cell? ⟨gb318, 3, none⟩ = some (.int .i64 a2) := (blk_cell BK318.out 3).trans rfl; have hfz45_0 := blk_frozen BK318.out 0; have hfz45_1 := blk_frozen BK318.out 1; have hfz45_2 := blk_frozen BK318.out 2; have hfz45_3 := blk_frozen BK318.out 3) | (go_at_call 11; (with_reducible refine (reloc_Shift.calls kj25 0 a0 (Go.bits .and .i64 a1 3) a2 t329 _ A42.out).mono ?_); rintro e w46 ⟨rfl, hb⟩; have n0_ := Aside0.mk (blk_below (g := gb318) (o := .cells #[.int .i64 0, .int .i64 a0, .int .i64 (Go.bits .and .i64 a1 3), .int .i64 a2] 23 (0, 0)) (by (with_reducible repeat (first | refine blk_drewN ?_ _ | refine blk_drew ?_ | refine blk_alloc ?_ _)); exact BK318.out) hb); have n1_ := Aside0.mk (below_step (by repeat (first | (with_reducible first | exact HB.out | apply below_alloc | apply pw_below_drewN | apply below_drew1 | refine below_set ?_ GE318.out) | exact HB.out)) hb); clear BK318; clear HB; have BK318 := n0_; have HB := n1_; clear n0_ n1_; (try clear hb); (try clear hb2); (try clear hk); (try clear hi)))
                          go_ret
                          exact ⟨by first | rfl | (simp [errW_none, errW_some] <;> rfl) | (rw [HR_.out]; done) | (rw [← HR_.out]; done) | (have hR_ := HR_.out; simp only [hR_]; done) | (have hR_ := HR_.out; simp only [ByteArray.size_append] at hR_; exact congrArg (fun b_ => Ending.returned (.bool b_)) hR_) | (have hR_ := HR_.out; simp_all; done) | (have hR_ := beq_iff_eq.mp HR_.out; simp; exact hR_) | (simp [*, errW_none, errW_some] <;> rfl), by repeat (first | (with_reducible first | exact HB.out | apply below_alloc | apply pw_below_drewN | apply below_drew1 | refine below_set ?_ GE318.out) | exact HB.out)⟩
                        · rw [if_neg c41] at H
                          have c41b0 : (t327 == false) = false := by simpa using c41
                          (try (have c41b1 : decide (t327 = false) = false := by simpa using c41))
                          (try (have c41b2 : (t327 == false) = false := by simpa using c41))
                          (try (have c41b3 : ¬ (t327 = false) := by simpa using c41))
                          clear c41
                          exact absurd H (by simp)
                    · rw [if_neg c32] at H
                      have c32b0 : ((t326 == 0) == x15_13) = false := by simpa using c32
                      (try (have c32b1 : decide ((t326 == 0) = x15_13) = false := by simpa using c32))
                      (try (have c32b2 : ((t326 == 0) == x15_13) = false := by simpa using c32))
                      (try (have c32b3 : ¬ ((t326 == 0) = x15_13) := by simpa using c32))
                      clear c32
                      exact absurd H (by simp)
                  · rw [if_neg c31] at H
                    have c31b0 : (t320 == x9_4) = false := by simpa using c31
                    (try (have c31b1 : decide (t320 = x9_4) = false := by simpa using c31))
                    (try (have c31b2 : (t320 == x9_4) = false := by simpa using c31))
                    (try (have c31b3 : ¬ (t320 = x9_4) := by simpa using c31))
                    clear c31
                    exact absurd H (by simp)
                · replace c30 := Bool.eq_false_iff.mpr c30
                  subst c30
                  have H1 : (some false) = some true := by rw [if_neg (show ¬ (false = true) by decide)] at H; exact H
                  clear H
                  have H := H1
                  clear H1
                  exact absurd H (by simp)

end Go.Proofs.Ytkjmecbbdccfoaa.X
