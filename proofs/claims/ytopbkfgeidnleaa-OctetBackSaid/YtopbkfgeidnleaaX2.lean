/- Walks of Go functions of this seat: each calls-theorem says that the Go function, called at values of its kinds, returns what the Lean function of its name tells, where that tells something; what was in memory stays. Written by our own program xprint.py. -/
import Derived.Test.YtopbkfgeidnleaaX0
import Derived.Test.YtopbkfgeidnleaaX1
namespace Go.Proofs.Ytopbkfgeidnleaa.X
open Go.RowKit Go.Proofs.YtopbkfgeidnleaaW.PrintWords Go.Proofs.YtopbkfgeidnleaaW.PrintLast Go.Proofs.YtopbkfgeidnleaaW.PrintMore
attribute [local go_sem] max2_int min2_int max_two min_two max_three min_three max_four min_four   -- for this text's walks alone
set_option linter.unusedVariables false
set_option linter.unusedSimpArgs false

/-! ### flyleaflaw01_OctetWithin: function 4 -/
mutual
def flyleaflaw01_OctetWithin.j0 : Nat → Bool → Int → Int → Int → Bool → Option (Bool)
  | 0, _, _, _, _, _ => none
  | k + 1, x3, x4, x5, x6, x7 => flyleaflaw01_OctetWithin.l0 k x3 x4 x5 x6 x7 x4
def flyleaflaw01_OctetWithin.l0 : Nat → Bool → Int → Int → Int → Bool → Int → Option (Bool)
  | 0, _, _, _, _, _, _ => none
  | k + 1, x3, x4, x5, x6, x7, x8 => if x8 < (wrap64 (x4 + x5)) then (if x7 = true then (if x8 ≥ 0 then (flyleaflaw01_OctetWithin.l0 k x3 x4 x5 x6 (decide (x8 < x6)) (wrap64 (x8 + 1))) else (flyleaflaw01_OctetWithin.l0 k x3 x4 x5 x6 false (wrap64 (x8 + 1)))) else (flyleaflaw01_OctetWithin.l0 k x3 x4 x5 x6 false (wrap64 (x8 + 1)))) else (if x3 = true then ((octet_Within.f x4 x5 x6).bind fun t120 => (some (t120 == x7))) else (some false))
end
def flyleaflaw01_OctetWithin.f (k : Nat) (a0_0 : Int) (a0_1 : Int) (a0_2 : Int) : Option (Bool) := (flyleaflaw01_awake.f k).bind fun t119 => (if (Int.tmod a0_0 60) ≥ 0 then (if (Int.tmod a0_1 60) ≥ 0 then (flyleaflaw01_OctetWithin.j0 k t119 (Int.tmod a0_0 60) (Int.tmod a0_1 60) (Int.tmod a0_2 60) (decide ((Int.tmod a0_0 60) ≤ (Int.tmod a0_2 60)))) else (flyleaflaw01_OctetWithin.j0 k t119 (Int.tmod a0_0 60) (Int.tmod a0_1 60) (Int.tmod a0_2 60) false)) else (flyleaflaw01_OctetWithin.j0 k t119 (Int.tmod a0_0 60) (Int.tmod a0_1 60) (Int.tmod a0_2 60) false))
theorem flyleaflaw01_OctetWithin.mono_l : ∀ k, (∀ y0 y1 y2 y3 y4, LeO (flyleaflaw01_OctetWithin.j0 k y0 y1 y2 y3 y4) (flyleaflaw01_OctetWithin.j0 (k + 1) y0 y1 y2 y3 y4)) ∧ (∀ y0 y1 y2 y3 y4 y5, LeO (flyleaflaw01_OctetWithin.l0 k y0 y1 y2 y3 y4 y5) (flyleaflaw01_OctetWithin.l0 (k + 1) y0 y1 y2 y3 y4 y5))
  | 0 => ⟨fun _ _ _ _ _ r h => by simp [flyleaflaw01_OctetWithin.j0] at h, fun _ _ _ _ _ _ r h => by simp [flyleaflaw01_OctetWithin.l0] at h⟩
  | k + 1 => by
    obtain ⟨ih0, ih1⟩ := flyleaflaw01_OctetWithin.mono_l k
    refine ⟨?_, ?_⟩
    · intro y0 y1 y2 y3 y4
      unfold flyleaflaw01_OctetWithin.j0
      repeat' first
      | (with_reducible exact ih0 _ _ _ _ _)
      | (with_reducible exact ih1 _ _ _ _ _ _)
      | (with_reducible exact flyleaflaw01_awake.mono _)
      | (with_reducible exact LeO.refl _)
      | (with_reducible exact LeO.none _)
      | (with_reducible refine LeO.ite ?_ ?_)
      | (with_reducible refine LeO.bind ?_ (fun _ => ?_))
      | exact ih0 _ _ _ _ _
      | exact ih1 _ _ _ _ _ _
      | exact flyleaflaw01_awake.mono _
      | exact LeO.none _
      | refine LeO.ite ?_ ?_
      | refine LeO.bind ?_ (fun _ => ?_)
    · intro y0 y1 y2 y3 y4 y5
      unfold flyleaflaw01_OctetWithin.l0
      repeat' first
      | (with_reducible exact ih0 _ _ _ _ _)
      | (with_reducible exact ih1 _ _ _ _ _ _)
      | (with_reducible exact flyleaflaw01_awake.mono _)
      | (with_reducible exact LeO.refl _)
      | (with_reducible exact LeO.none _)
      | (with_reducible refine LeO.ite ?_ ?_)
      | (with_reducible refine LeO.bind ?_ (fun _ => ?_))
      | exact ih0 _ _ _ _ _
      | exact ih1 _ _ _ _ _ _
      | exact flyleaflaw01_awake.mono _
      | exact LeO.none _
      | refine LeO.ite ?_ ?_
      | refine LeO.bind ?_ (fun _ => ?_)
theorem flyleaflaw01_OctetWithin.mono : ∀ a0 a1 a2 k, LeO (flyleaflaw01_OctetWithin.f k a0 a1 a2) (flyleaflaw01_OctetWithin.f (k + 1) a0 a1 a2) := by
  intro a0 a1 a2 k
  obtain ⟨ih0, ih1⟩ := flyleaflaw01_OctetWithin.mono_l k
  unfold flyleaflaw01_OctetWithin.f
  repeat' first
      | (with_reducible exact ih0 _ _ _ _ _)
      | (with_reducible exact ih1 _ _ _ _ _ _)
      | (with_reducible exact flyleaflaw01_awake.mono _)
      | (with_reducible exact LeO.refl _)
      | (with_reducible exact LeO.none _)
      | (with_reducible refine LeO.ite ?_ ?_)
      | (with_reducible refine LeO.bind ?_ (fun _ => ?_))
      | exact ih0 _ _ _ _ _
      | exact ih1 _ _ _ _ _ _
      | exact flyleaflaw01_awake.mono _
      | exact LeO.none _
      | refine LeO.ite ?_ ?_
      | refine LeO.bind ?_ (fun _ => ?_)
set_option maxHeartbeats 8000000 in
set_option maxRecDepth 100000 in
theorem flyleaflaw01_OctetWithin.calls (k : Nat) (a0_0 : Int) (a0_1 : Int) (a0_2 : Int) (w : World) (h : flyleaflaw01_OctetWithin.f k a0_0 a0_1 a0_2 = some true) :
    Calls Try.prog 4 #[.agg #[.int .i64 a0_0, .int .i64 a0_1, .int .i64 a0_2]] w fun e w' => e = .returned (.bool true) ∧ Below w.heap.size w w' := by
  have hu26 := Try.underlying26
  have HB := Aside0.mk (Below.refl w.heap.size w)
  have H : ((flyleaflaw01_awake.f k).bind fun t119 => (if (Int.tmod a0_0 60) ≥ 0 then (if (Int.tmod a0_1 60) ≥ 0 then (flyleaflaw01_OctetWithin.j0 k t119 (Int.tmod a0_0 60) (Int.tmod a0_1 60) (Int.tmod a0_2 60) (decide ((Int.tmod a0_0 60) ≤ (Int.tmod a0_2 60)))) else (flyleaflaw01_OctetWithin.j0 k t119 (Int.tmod a0_0 60) (Int.tmod a0_1 60) (Int.tmod a0_2 60) false)) else (flyleaflaw01_OctetWithin.j0 k t119 (Int.tmod a0_0 60) (Int.tmod a0_1 60) (Int.tmod a0_2 60) false))) = some true := h
  clear h
  replace H := Option.bind_eq_some_iff.mp H
  obtain ⟨t119, A20, H⟩ := H
  replace H : (if (Int.tmod a0_0 60) ≥ 0 then (if (Int.tmod a0_1 60) ≥ 0 then (flyleaflaw01_OctetWithin.j0 k t119 (Int.tmod a0_0 60) (Int.tmod a0_1 60) (Int.tmod a0_2 60) (decide ((Int.tmod a0_0 60) ≤ (Int.tmod a0_2 60)))) else (flyleaflaw01_OctetWithin.j0 k t119 (Int.tmod a0_0 60) (Int.tmod a0_1 60) (Int.tmod a0_2 60) false)) else (flyleaflaw01_OctetWithin.j0 k t119 (Int.tmod a0_0 60) (Int.tmod a0_1 60) (Int.tmod a0_2 60) false)) = some true := H
  have A2 := Aside0.mk A20
  clear A20
  have HC3 := Aside0.mk H
  clear H
  go_enter Try.func4, Try.ntmps4
  go_upto_region 5 with (first | ((with_reducible refine gate_dst (N := 1) rfl ?_); refine box_event ?hg (N := 1) ?hd (cs := #[.int .i64 a0_0, .int .i64 a0_1, .int .i64 a0_2]) (t := 26) ?hr ?_; (case hd => rfl); (case hg => rfl); (case hr => first | (go_simp; done) | (go_simp; rfl)); intro gb118 hg w4 hbox hb; have n0_ := Aside0.mk (below_step (by repeat (first | (with_reducible first | exact HB.out | apply below_alloc | apply pw_below_drewN | apply below_drew1) | exact HB.out)) hb); have n1_ := Aside0.mk (hbox); have n2_ := Aside0.mk ((by rw [hg]; exact (below_size (by repeat (first | (with_reducible first | exact HB.out | apply below_alloc | apply pw_below_drewN | apply below_drew1) | exact HB.out))) : w.heap.size ≤ gb118)); have n3_ := Aside0.mk ((by rw [hg]; exact (below_size (by repeat (first | (with_reducible first | exact HB.out | apply below_alloc | apply pw_below_drewN | apply below_drew1) | exact HB.out))) : w.heap.size ≤ gb118)); clear HB; have HB := n0_; have BK118 := n1_; have GW118 := n2_; have GE118 := n3_; clear n0_ n1_ n2_ n3_; clear hb hbox hg) | ((with_reducible refine gate_callee (f := 10) rfl ?_); refine goesL_ (some 9) rfl rfl Try.func10 (by kernel_rfl) rfl #[] rfl (by (try simp only [List.map_toArray, List.map_cons, List.map_nil]); first | done | rfl | (simp only [List.length_drop, List.length_take]; rfl) | (simp only [ByteArray.size_append, Int.natCast_add]; rfl)) ?_; (with_reducible refine (flyleaflaw01_awake.calls k  t119 _ A2.out).mono ?_); rintro e w5 ⟨rfl, hb⟩; refine ⟨_, rfl, ?_⟩; have n0_ := Aside0.mk (blk_below (g := gb118) (o := .cells #[.int .i64 a0_0, .int .i64 a0_1, .int .i64 a0_2] 26 (0, 0)) (by (with_reducible repeat (first | refine blk_drewN ?_ _ | refine blk_drew ?_ | refine blk_alloc ?_ _)); exact BK118.out) hb); have n1_ := Aside0.mk (below_step (by repeat (first | (with_reducible first | exact HB.out | apply below_alloc | apply pw_below_drewN | apply below_drew1 | refine below_set ?_ GE118.out) | exact HB.out)) hb); clear BK118; clear HB; have BK118 := n0_; have HB := n1_; clear n0_ n1_; (try clear hb); (try clear hb2); (try clear hk); (try clear hi); have hcz6_0 : w5.cell? ⟨gb118, 0, none⟩ = some (.int .i64 a0_0) := (blk_cell BK118.out 0).trans rfl; have hcz6_1 : w5.cell? ⟨gb118, 1, none⟩ = some (.int .i64 a0_1) := (blk_cell BK118.out 1).trans rfl; have hcz6_2 : w5.cell? ⟨gb118, 2, none⟩ = some (.int .i64 a0_2) := (blk_cell BK118.out 2).trans rfl; have hfz6_0 := blk_frozen BK118.out 0; have hfz6_1 := blk_frozen BK118.out 1; have hfz6_2 := blk_frozen BK118.out 2))
  (try simp only [Act.put, List.setIfInBounds_toArray, List.set_cons_zero, List.set_cons_succ])
  go_cut [7] (fun v7 wc => ∃ (kq : Nat) (x7_2 : Bool), v7 = .bool x7_2 ∧ Aside0 (flyleaflaw01_OctetWithin.j0 kq t119 (Int.tmod a0_0 60) (Int.tmod a0_1 60) (Int.tmod a0_2 60) x7_2 = some true) ∧ Aside0 (kq ≤ k) ∧ Aside0 (wc.heap[gb118]? = some (.cells #[.int .i64 a0_0, .int .i64 a0_1, .int .i64 a0_2] 26 (0, 0))) ∧ Aside0 (Below w.heap.size w wc))
  case first =>
    have H := HC3.out
    clear HC3
    by_cases c7 : (Int.tmod a0_0 60) ≥ 0
    · rw [if_pos c7] at H
      have c7b0 : decide (0 ≤ (Int.tmod a0_0 60)) = true := decide_eq_true c7
      clear c7
      (first | rw [c7b0] | (simp only [i64_w, i32_w]; rw [c7b0]) | skip)
      by_cases c8 : (Int.tmod a0_1 60) ≥ 0
      · rw [if_pos c8] at H
        have c8b0 : decide (0 ≤ (Int.tmod a0_1 60)) = true := decide_eq_true c8
        clear c8
        have H' := Aside0.mk H
        clear H
        go_wp2
        go_meet
        case rel => exact ⟨_, (decide ((Int.tmod a0_0 60) ≤ (Int.tmod a0_2 60))), (by first | rfl | (simp; done) | (simp [*]; done)), H', ⟨by first | omega | exact Nat.le_refl _⟩, ⟨by (with_reducible repeat (first | refine blk_drewN ?_ _ | refine blk_drew ?_ | refine blk_alloc ?_ _)); exact BK118.out⟩, ⟨by repeat (first | (with_reducible first | exact HB.out | apply below_alloc | apply pw_below_drewN | apply below_drew1 | refine below_set ?_ GE118.out) | exact HB.out)⟩⟩
      · rw [if_neg c8] at H
        have c8b0 : decide (0 ≤ (Int.tmod a0_1 60)) = false := decide_eq_false c8
        clear c8
        have H' := Aside0.mk H
        clear H
        go_wp2
        go_meet
        case rel => exact ⟨_, (false), (by first | rfl | (simp; done) | (simp [*]; done)), H', ⟨by first | omega | exact Nat.le_refl _⟩, ⟨by (with_reducible repeat (first | refine blk_drewN ?_ _ | refine blk_drew ?_ | refine blk_alloc ?_ _)); exact BK118.out⟩, ⟨by repeat (first | (with_reducible first | exact HB.out | apply below_alloc | apply pw_below_drewN | apply below_drew1 | refine below_set ?_ GE118.out) | exact HB.out)⟩⟩
    · rw [if_neg c7] at H
      have c7b0 : decide (0 ≤ (Int.tmod a0_0 60)) = false := decide_eq_false c7
      clear c7
      (first | rw [c7b0] | (simp only [i64_w, i32_w]; rw [c7b0]) | skip)
      have H' := Aside0.mk H
      clear H
      go_wp2
      go_meet
      case rel => exact ⟨_, (false), (by first | rfl | (simp; done) | (simp [*]; done)), H', ⟨by first | omega | exact Nat.le_refl _⟩, ⟨by (with_reducible repeat (first | refine blk_drewN ?_ _ | refine blk_drew ?_ | refine blk_alloc ?_ _)); exact BK118.out⟩, ⟨by repeat (first | (with_reducible first | exact HB.out | apply below_alloc | apply pw_below_drewN | apply below_drew1 | refine below_set ?_ GE118.out) | exact HB.out)⟩⟩
  case rest =>
    clear HC3
    try clear c1
    try clear p2
    try clear c4
    try clear c7
    try clear c7b0
    try clear c8
    try clear c8b0
    try clear hcz6_0
    try clear hcz6_1
    try clear hcz6_2
    try clear hfz6_0
    try clear hfz6_1
    try clear hfz6_2
    obtain ⟨kq, x7_2, rfl, HA, HJ2, BK118, HB⟩ := hcut
    cases kq with
    | zero => exact absurd HA.out (by simp [flyleaflaw01_OctetWithin.j0])
    | succ kj2 =>
      have H := HA.out
      clear HA
      simp only [flyleaflaw01_OctetWithin.j0] at H
      have H' := Aside0.mk H
      clear H
      go_wp2
      go_loopg [7, 8] kj2 (fun kq v7 v8 w' => ∃ (x7_2 : Bool) (x8_2 : Int), v7 = .bool x7_2 ∧ v8 = .int .i64 x8_2 ∧ Aside0 (flyleaflaw01_OctetWithin.l0 kq t119 (Int.tmod a0_0 60) (Int.tmod a0_1 60) (Int.tmod a0_2 60) x7_2 x8_2 = some true) ∧ Aside0 (kq ≤ kj2) ∧ Aside0 (w'.heap[gb118]? = some (.cells #[.int .i64 a0_0, .int .i64 a0_1, .int .i64 a0_2] 26 (0, 0))) ∧ Aside0 (Below w.heap.size w w'))
      case atStart => exact ⟨(x7_2), ((Int.tmod a0_0 60)), (by first | rfl | (simp; done) | (simp [*]; done)), (by first | rfl | (simp; done) | (simp [*]; done)), H', ⟨Nat.le_refl _⟩, ⟨by (with_reducible repeat (first | refine blk_drewN ?_ _ | refine blk_drew ?_ | refine blk_alloc ?_ _)); exact BK118.out⟩, ⟨by repeat (first | (with_reducible first | exact HB.out | apply below_alloc | apply pw_below_drewN | apply below_drew1 | refine below_set ?_ GE118.out) | exact HB.out)⟩⟩
      case round =>
        clear H'
        try clear c1
        try clear p2
        try clear c4
        try clear c7
        try clear c7b0
        try clear c8
        try clear c8b0
        try clear hcz6_0
        try clear hcz6_1
        try clear hcz6_2
        try clear hfz6_0
        try clear hfz6_1
        try clear hfz6_2
        try clear p2
        obtain ⟨x7_2, x8_2, rfl, rfl, HA, HK2, BK118, HB⟩ := hrel
        cases gk with
        | zero => exact absurd HA.out (by simp [flyleaflaw01_OctetWithin.l0])
        | succ k2 =>
          have H := HA.out
          clear HA
          simp only [flyleaflaw01_OctetWithin.l0] at H
          by_cases c9 : x8_2 < (wrap64 ((Int.tmod a0_0 60) + (Int.tmod a0_1 60)))
          · rw [if_pos c9] at H
            have c9b0 : decide (x8_2 < (wrap64 ((Int.tmod a0_0 60) + (Int.tmod a0_1 60)))) = true := decide_eq_true c9
            clear c9
            by_cases c10 : x7_2 = true
            · subst c10
              have H1 : (if x8_2 ≥ 0 then (flyleaflaw01_OctetWithin.l0 k2 t119 (Int.tmod a0_0 60) (Int.tmod a0_1 60) (Int.tmod a0_2 60) (decide (x8_2 < (Int.tmod a0_2 60))) (wrap64 (x8_2 + 1))) else (flyleaflaw01_OctetWithin.l0 k2 t119 (Int.tmod a0_0 60) (Int.tmod a0_1 60) (Int.tmod a0_2 60) false (wrap64 (x8_2 + 1)))) = some true := by rw [if_pos rfl] at H; exact H
              clear H
              have H := H1
              clear H1
              by_cases c11 : x8_2 ≥ 0
              · rw [if_pos c11] at H
                have c11b0 : decide (0 ≤ x8_2) = true := decide_eq_true c11
                clear c11
                have H' := Aside0.mk H
                clear H
                go_wp2
                go_roundg k2
                case measure => have := HJ2.out; have := HK2.out; omega
                case rel => exact ⟨(decide (x8_2 < (Int.tmod a0_2 60))), (wrap64 (x8_2 + 1)), (by first | rfl | (simp; done) | (simp [*]; done)), (by first | rfl | (simp; done) | (simp [*]; done)), H', ⟨by have := HJ2.out; have := HK2.out; omega⟩, ⟨by (with_reducible repeat (first | refine blk_drewN ?_ _ | refine blk_drew ?_ | refine blk_alloc ?_ _)); exact BK118.out⟩, ⟨by repeat (first | (with_reducible first | exact HB.out | apply below_alloc | apply pw_below_drewN | apply below_drew1 | refine below_set ?_ GE118.out) | exact HB.out)⟩⟩
              · rw [if_neg c11] at H
                have c11b0 : decide (0 ≤ x8_2) = false := decide_eq_false c11
                clear c11
                have H' := Aside0.mk H
                clear H
                go_wp2
                go_roundg k2
                case measure => have := HJ2.out; have := HK2.out; omega
                case rel => exact ⟨(false), (wrap64 (x8_2 + 1)), (by first | rfl | (simp; done) | (simp [*]; done)), (by first | rfl | (simp; done) | (simp [*]; done)), H', ⟨by have := HJ2.out; have := HK2.out; omega⟩, ⟨by (with_reducible repeat (first | refine blk_drewN ?_ _ | refine blk_drew ?_ | refine blk_alloc ?_ _)); exact BK118.out⟩, ⟨by repeat (first | (with_reducible first | exact HB.out | apply below_alloc | apply pw_below_drewN | apply below_drew1 | refine below_set ?_ GE118.out) | exact HB.out)⟩⟩
            · replace c10 := Bool.eq_false_iff.mpr c10
              subst c10
              have H1 : (flyleaflaw01_OctetWithin.l0 k2 t119 (Int.tmod a0_0 60) (Int.tmod a0_1 60) (Int.tmod a0_2 60) false (wrap64 (x8_2 + 1))) = some true := by rw [if_neg (show ¬ (false = true) by decide)] at H; exact H
              clear H
              have H := H1
              clear H1
              have H' := Aside0.mk H
              clear H
              go_wp2
              go_roundg k2
              case measure => have := HJ2.out; have := HK2.out; omega
              case rel => exact ⟨(false), (wrap64 (x8_2 + 1)), (by first | rfl | (simp; done) | (simp [*]; done)), (by first | rfl | (simp; done) | (simp [*]; done)), H', ⟨by have := HJ2.out; have := HK2.out; omega⟩, ⟨by (with_reducible repeat (first | refine blk_drewN ?_ _ | refine blk_drew ?_ | refine blk_alloc ?_ _)); exact BK118.out⟩, ⟨by repeat (first | (with_reducible first | exact HB.out | apply below_alloc | apply pw_below_drewN | apply below_drew1 | refine below_set ?_ GE118.out) | exact HB.out)⟩⟩
          · rw [if_neg c9] at H
            have c9b0 : decide (x8_2 < (wrap64 ((Int.tmod a0_0 60) + (Int.tmod a0_1 60)))) = false := decide_eq_false c9
            clear c9
            by_cases c12 : t119 = true
            · subst c12
              have H1 : ((octet_Within.f (Int.tmod a0_0 60) (Int.tmod a0_1 60) (Int.tmod a0_2 60)).bind fun t120 => (some (t120 == x7_2))) = some true := by rw [if_pos rfl] at H; exact H
              clear H
              have H := H1
              clear H1
              replace H := Option.bind_eq_some_iff.mp H
              obtain ⟨t120, A130, H⟩ := H
              replace H : (some (t120 == x7_2)) = some true := H
              have A13 := Aside0.mk A130
              clear A130
              have HR_ := Aside0.mk (Option.some.inj H)
              clear H
              go_wp2_with (first | (go_at_call 12; (with_reducible refine (octet_Within.calls (Int.tmod a0_0 60) (Int.tmod a0_1 60) (Int.tmod a0_2 60) t120 _ A13.out).mono ?_); rintro e w' ⟨rfl, ⟨nd, rfl⟩⟩))
              go_ret
              exact ⟨by first | rfl | (simp [errW_none, errW_some] <;> rfl) | (rw [HR_.out]; done) | (rw [← HR_.out]; done) | (have hR_ := HR_.out; simp only [hR_]; done) | (have hR_ := HR_.out; simp only [ByteArray.size_append] at hR_; exact congrArg (fun b_ => Ending.returned (.bool b_)) hR_) | (have hR_ := HR_.out; simp_all; done) | (simp [*, errW_none, errW_some] <;> rfl), by repeat (first | (with_reducible first | exact HB.out | apply below_alloc | apply pw_below_drewN | apply below_drew1 | refine below_set ?_ GE118.out) | exact HB.out)⟩
            · replace c12 := Bool.eq_false_iff.mpr c12
              subst c12
              have H1 : (some false) = some true := by rw [if_neg (show ¬ (false = true) by decide)] at H; exact H
              clear H
              have H := H1
              clear H1
              exact absurd H (by simp)

/-! ### flyleaflaw01_OctetPut: function 5 -/
def flyleaflaw01_OctetPut.j0 : Nat → Int → Bool → Int → Int → Option (Bool)
  | 0, _, _, _, _ => none
  | k + 1, x0, x7, x8, x9 => (octet_Put.f k x0 x8).bind fun t122 => ((octet_Put.f k x0 x9).bind fun t123 => (if x7 = true then (if (t122.size : Int) = x8 then (if (t123.size : Int) = x9 then (if 0 ≤ x8 then (if x8 ≤ (t123.size : Int) then (if (t123.extract 0 (x8 : Int).toNat).toList = t122.toList then ((octet_Put.f k x0 (-1)).bind fun t124 => (if t124.toList = ([] : List UInt8) then ((octet_Put.f k x0 9).bind fun t125 => (some ((t125.size : Int) == 8))) else (some false))) else (some false)) else (none)) else (none)) else (some false)) else (some false)) else (some false)))
def flyleaflaw01_OctetPut.f (k : Nat) (a0 : Int) (a1 : Int) (a2 : Int) : Option (Bool) := (flyleaflaw01_awake.f k).bind fun t121 => (if (Int.tmod (wrap64 ((Int.tmod a1 9) + 9)) 9) > (Int.tmod (wrap64 ((Int.tmod a2 9) + 9)) 9) then (flyleaflaw01_OctetPut.j0 k a0 t121 (Int.tmod (wrap64 ((Int.tmod a2 9) + 9)) 9) (Int.tmod (wrap64 ((Int.tmod a1 9) + 9)) 9)) else (flyleaflaw01_OctetPut.j0 k a0 t121 (Int.tmod (wrap64 ((Int.tmod a1 9) + 9)) 9) (Int.tmod (wrap64 ((Int.tmod a2 9) + 9)) 9)))
theorem flyleaflaw01_OctetPut.mono_l : ∀ k, (∀ y0 y1 y2 y3, LeO (flyleaflaw01_OctetPut.j0 k y0 y1 y2 y3) (flyleaflaw01_OctetPut.j0 (k + 1) y0 y1 y2 y3))
  | 0 => fun _ _ _ _ r h => by simp [flyleaflaw01_OctetPut.j0] at h
  | k + 1 => by
    have ih0 := flyleaflaw01_OctetPut.mono_l k
    · intro y0 y1 y2 y3
      unfold flyleaflaw01_OctetPut.j0
      repeat' first
      | (with_reducible exact ih0 _ _ _ _)
      | (with_reducible exact flyleaflaw01_awake.mono _)
      | (with_reducible exact octet_Put.mono _ _ _)
      | (with_reducible exact LeO.refl _)
      | (with_reducible exact LeO.none _)
      | (with_reducible refine LeO.ite ?_ ?_)
      | (with_reducible refine LeO.bind ?_ (fun _ => ?_))
      | exact ih0 _ _ _ _
      | exact flyleaflaw01_awake.mono _
      | exact octet_Put.mono _ _ _
      | exact LeO.none _
      | refine LeO.ite ?_ ?_
      | refine LeO.bind ?_ (fun _ => ?_)
theorem flyleaflaw01_OctetPut.mono : ∀ a0 a1 a2 k, LeO (flyleaflaw01_OctetPut.f k a0 a1 a2) (flyleaflaw01_OctetPut.f (k + 1) a0 a1 a2) := by
  intro a0 a1 a2 k
  have ih0 := flyleaflaw01_OctetPut.mono_l k
  unfold flyleaflaw01_OctetPut.f
  repeat' first
      | (with_reducible exact ih0 _ _ _ _)
      | (with_reducible exact flyleaflaw01_awake.mono _)
      | (with_reducible exact octet_Put.mono _ _ _)
      | (with_reducible exact LeO.refl _)
      | (with_reducible exact LeO.none _)
      | (with_reducible refine LeO.ite ?_ ?_)
      | (with_reducible refine LeO.bind ?_ (fun _ => ?_))
      | exact ih0 _ _ _ _
      | exact flyleaflaw01_awake.mono _
      | exact octet_Put.mono _ _ _
      | exact LeO.none _
      | refine LeO.ite ?_ ?_
      | refine LeO.bind ?_ (fun _ => ?_)
set_option maxHeartbeats 8000000 in
set_option maxRecDepth 100000 in
theorem flyleaflaw01_OctetPut.calls (k : Nat) (a0 : Int) (a1 : Int) (a2 : Int) (w : World) (h : flyleaflaw01_OctetPut.f k a0 a1 a2 = some true) :
    Calls Try.prog 5 #[.int .u64 a0, .int .i64 a1, .int .i64 a2] w fun e w' => e = .returned (.bool true) ∧ Below w.heap.size w w' := by
  have HB := Aside0.mk (Below.refl w.heap.size w)
  have H : ((flyleaflaw01_awake.f k).bind fun t121 => (if (Int.tmod (wrap64 ((Int.tmod a1 9) + 9)) 9) > (Int.tmod (wrap64 ((Int.tmod a2 9) + 9)) 9) then (flyleaflaw01_OctetPut.j0 k a0 t121 (Int.tmod (wrap64 ((Int.tmod a2 9) + 9)) 9) (Int.tmod (wrap64 ((Int.tmod a1 9) + 9)) 9)) else (flyleaflaw01_OctetPut.j0 k a0 t121 (Int.tmod (wrap64 ((Int.tmod a1 9) + 9)) 9) (Int.tmod (wrap64 ((Int.tmod a2 9) + 9)) 9)))) = some true := h
  clear h
  replace H := Option.bind_eq_some_iff.mp H
  obtain ⟨t121, A40, H⟩ := H
  replace H : (if (Int.tmod (wrap64 ((Int.tmod a1 9) + 9)) 9) > (Int.tmod (wrap64 ((Int.tmod a2 9) + 9)) 9) then (flyleaflaw01_OctetPut.j0 k a0 t121 (Int.tmod (wrap64 ((Int.tmod a2 9) + 9)) 9) (Int.tmod (wrap64 ((Int.tmod a1 9) + 9)) 9)) else (flyleaflaw01_OctetPut.j0 k a0 t121 (Int.tmod (wrap64 ((Int.tmod a1 9) + 9)) 9) (Int.tmod (wrap64 ((Int.tmod a2 9) + 9)) 9))) = some true := H
  have A4 := Aside0.mk A40
  clear A40
  have HC5 := Aside0.mk H
  clear H
  go_enter Try.func5, Try.ntmps5
  go_upto_if 24 with (first | ((with_reducible refine gate_callee (f := 10) rfl ?_); refine goesL_ (some 13) rfl rfl Try.func10 (by kernel_rfl) rfl #[] rfl (by (try simp only [List.map_toArray, List.map_cons, List.map_nil]); first | done | rfl | (simp only [List.length_drop, List.length_take]; rfl) | (simp only [ByteArray.size_append, Int.natCast_add]; rfl)) ?_; (with_reducible refine (flyleaflaw01_awake.calls k  t121 _ A4.out).mono ?_); rintro e w6 ⟨rfl, hb⟩; refine ⟨_, rfl, ?_⟩; have n0_ := Aside0.mk (below_step (by repeat (first | (with_reducible first | exact HB.out | apply below_alloc | apply pw_below_drewN | apply below_drew1) | exact HB.out)) hb); clear HB; have HB := n0_; clear n0_; (try clear hb); (try clear hb2); (try clear hk); (try clear hi)))
  (try simp only [Act.put, List.setIfInBounds_toArray, List.set_cons_zero, List.set_cons_succ])
  go_cut [8, 9] (fun v8 v9 wc => ∃ (kq : Nat) (x8_4 : Int) (x9_4 : Int), v8 = .int .i64 x8_4 ∧ v9 = .int .i64 x9_4 ∧ Aside0 (flyleaflaw01_OctetPut.j0 kq a0 t121 x8_4 x9_4 = some true) ∧ Aside0 (kq ≤ k) ∧ Aside0 (Below w.heap.size w wc))
  case first =>
    have H := HC5.out
    clear HC5
    by_cases c7 : (Int.tmod (wrap64 ((Int.tmod a1 9) + 9)) 9) > (Int.tmod (wrap64 ((Int.tmod a2 9) + 9)) 9)
    · rw [if_pos c7] at H
      have c7b0 : decide ((Int.tmod (wrap64 ((Int.tmod a2 9) + 9)) 9) < (Int.tmod (wrap64 ((Int.tmod a1 9) + 9)) 9)) = true := decide_eq_true c7
      clear c7
      (first | rw [c7b0] | (simp only [i64_w, i32_w]; rw [c7b0]) | skip)
      have H' := Aside0.mk H
      clear H
      go_wp2
      go_meet
      case rel => exact ⟨_, (Int.tmod (wrap64 ((Int.tmod a2 9) + 9)) 9), (Int.tmod (wrap64 ((Int.tmod a1 9) + 9)) 9), (by first | rfl | (simp; done) | (simp [*]; done)), (by first | rfl | (simp; done) | (simp [*]; done)), H', ⟨by first | omega | exact Nat.le_refl _⟩, ⟨by repeat (first | (with_reducible first | exact HB.out | apply below_alloc | apply pw_below_drewN | apply below_drew1) | exact HB.out)⟩⟩
    · rw [if_neg c7] at H
      have c7b0 : decide ((Int.tmod (wrap64 ((Int.tmod a2 9) + 9)) 9) < (Int.tmod (wrap64 ((Int.tmod a1 9) + 9)) 9)) = false := decide_eq_false c7
      clear c7
      (first | rw [c7b0] | (simp only [i64_w, i32_w]; rw [c7b0]) | skip)
      have H' := Aside0.mk H
      clear H
      go_wp2
      go_meet
      case rel => exact ⟨_, (Int.tmod (wrap64 ((Int.tmod a1 9) + 9)) 9), (Int.tmod (wrap64 ((Int.tmod a2 9) + 9)) 9), (by first | rfl | (simp; done) | (simp [*]; done)), (by first | rfl | (simp; done) | (simp [*]; done)), H', ⟨by first | omega | exact Nat.le_refl _⟩, ⟨by repeat (first | (with_reducible first | exact HB.out | apply below_alloc | apply pw_below_drewN | apply below_drew1) | exact HB.out)⟩⟩
  case rest =>
    clear HC5
    try clear c1
    try clear p2
    try clear c5
    try clear p6
    try clear c7
    try clear c7b0
    obtain ⟨kq, x8_4, x9_4, rfl, rfl, HA, HJ4, HB⟩ := hcut
    cases kq with
    | zero => exact absurd HA.out (by simp [flyleaflaw01_OctetPut.j0])
    | succ kj4 =>
      have H := HA.out
      clear HA
      simp only [flyleaflaw01_OctetPut.j0] at H
      replace H := Option.bind_eq_some_iff.mp H
      obtain ⟨t122, A80, H⟩ := H
      replace H : ((octet_Put.f kj4 a0 x9_4).bind fun t123 => (if t121 = true then (if (t122.size : Int) = x8_4 then (if (t123.size : Int) = x9_4 then (if 0 ≤ x8_4 then (if x8_4 ≤ (t123.size : Int) then (if (t123.extract 0 (x8_4 : Int).toNat).toList = t122.toList then ((octet_Put.f kj4 a0 (-1)).bind fun t124 => (if t124.toList = ([] : List UInt8) then ((octet_Put.f kj4 a0 9).bind fun t125 => (some ((t125.size : Int) == 8))) else (some false))) else (some false)) else (none)) else (none)) else (some false)) else (some false)) else (some false))) = some true := H
      have A8 := Aside0.mk A80
      clear A80
      replace H := Option.bind_eq_some_iff.mp H
      obtain ⟨t123, A90, H⟩ := H
      replace H : (if t121 = true then (if (t122.size : Int) = x8_4 then (if (t123.size : Int) = x9_4 then (if 0 ≤ x8_4 then (if x8_4 ≤ (t123.size : Int) then (if (t123.extract 0 (x8_4 : Int).toNat).toList = t122.toList then ((octet_Put.f kj4 a0 (-1)).bind fun t124 => (if t124.toList = ([] : List UInt8) then ((octet_Put.f kj4 a0 9).bind fun t125 => (some ((t125.size : Int) == 8))) else (some false))) else (some false)) else (none)) else (none)) else (some false)) else (some false)) else (some false)) = some true := H
      have A9 := Aside0.mk A90
      clear A90
      by_cases c10 : t121 = true
      · subst c10
        have H1 : (if (t122.size : Int) = x8_4 then (if (t123.size : Int) = x9_4 then (if 0 ≤ x8_4 then (if x8_4 ≤ (t123.size : Int) then (if (t123.extract 0 (x8_4 : Int).toNat).toList = t122.toList then ((octet_Put.f kj4 a0 (-1)).bind fun t124 => (if t124.toList = ([] : List UInt8) then ((octet_Put.f kj4 a0 9).bind fun t125 => (some ((t125.size : Int) == 8))) else (some false))) else (some false)) else (none)) else (none)) else (some false)) else (some false)) = some true := by rw [if_pos rfl] at H; exact H
        clear H
        have H := H1
        clear H1
        by_cases c11 : (t122.size : Int) = x8_4
        · rw [if_pos c11] at H
          have c11b0 : ((t122.size : Int) == x8_4) = true := beq_iff_eq.mpr c11
          have c11b1 : ((t122.size : Int) != x8_4) = false := bne_eq_false_iff_eq.mpr c11
          clear c11
          by_cases c12 : (t123.size : Int) = x9_4
          · rw [if_pos c12] at H
            have c12b0 : ((t123.size : Int) == x9_4) = true := beq_iff_eq.mpr c12
            have c12b1 : ((t123.size : Int) != x9_4) = false := bne_eq_false_iff_eq.mpr c12
            clear c12
            by_cases c13 : 0 ≤ x8_4
            · rw [if_pos c13] at H
              have c13b0 := eq_true c13
              have c13b1 : decide (0 ≤ x8_4) = true := decide_eq_true c13
              clear c13
              by_cases c14 : x8_4 ≤ (t123.size : Int)
              · rw [if_pos c14] at H
                have c14b0 := eq_true c14
                have c14b1 : decide (x8_4 ≤ (t123.size : Int)) = true := decide_eq_true c14
                clear c14
                by_cases c15 : (t123.extract 0 (x8_4 : Int).toNat).toList = t122.toList
                · rw [if_pos c15] at H
                  have c15b0 : ((t123.extract 0 (x8_4 : Int).toNat).toList == t122.toList) = true := beq_iff_eq.mpr c15
                  have c15b1 : ((t123.extract 0 (x8_4 : Int).toNat).toList != t122.toList) = false := bne_eq_false_iff_eq.mpr c15
                  clear c15
                  replace H := Option.bind_eq_some_iff.mp H
                  obtain ⟨t124, A160, H⟩ := H
                  replace H : (if t124.toList = ([] : List UInt8) then ((octet_Put.f kj4 a0 9).bind fun t125 => (some ((t125.size : Int) == 8))) else (some false)) = some true := H
                  have A16 := Aside0.mk A160
                  clear A160
                  by_cases c17 : t124.toList = ([] : List UInt8)
                  · rw [if_pos c17] at H
                    have c17b0 : (t124.toList == ([] : List UInt8)) = true := beq_iff_eq.mpr c17
                    have c17b1 : (t124.toList != ([] : List UInt8)) = false := bne_eq_false_iff_eq.mpr c17
                    clear c17
                    replace H := Option.bind_eq_some_iff.mp H
                    obtain ⟨t125, A180, H⟩ := H
                    replace H : (some ((t125.size : Int) == 8)) = some true := H
                    have A18 := Aside0.mk A180
                    clear A180
                    have HR_ := Aside0.mk (Option.some.inj H)
                    clear H
                    go_wp2_with (first | ((with_reducible refine gate_callee (f := 13) rfl ?_); refine goesL_ (some 30) rfl rfl Try.func13 (by kernel_rfl) rfl #[.int .u64 a0, .int .i64 x8_4] rfl (by (try simp only [List.map_toArray, List.map_cons, List.map_nil]); first | done | rfl | (simp only [List.length_drop, List.length_take]; rfl) | (simp only [ByteArray.size_append, Int.natCast_add]; rfl)) ?_; (with_reducible refine (octet_Put.calls kj4 a0 x8_4 t122 _ A8.out).mono ?_); rintro e w19 ⟨rfl, hb⟩; refine ⟨_, rfl, ?_⟩; have n0_ := Aside0.mk (below_step (by repeat (first | (with_reducible first | exact HB.out | apply below_alloc | apply pw_below_drewN | apply below_drew1) | exact HB.out)) hb); clear HB; have HB := n0_; clear n0_; (try clear hb); (try clear hb2); (try clear hk); (try clear hi)) | ((with_reducible refine gate_callee (f := 13) rfl ?_); refine goesL_ (some 33) rfl rfl Try.func13 (by kernel_rfl) rfl #[.int .u64 a0, .int .i64 x9_4] rfl (by (try simp only [List.map_toArray, List.map_cons, List.map_nil]); first | done | rfl | (simp only [List.length_drop, List.length_take]; rfl) | (simp only [ByteArray.size_append, Int.natCast_add]; rfl)) ?_; (with_reducible refine (octet_Put.calls kj4 a0 x9_4 t123 _ A9.out).mono ?_); rintro e w20 ⟨rfl, hb⟩; refine ⟨_, rfl, ?_⟩; have n0_ := Aside0.mk (below_step (by repeat (first | (with_reducible first | exact HB.out | apply below_alloc | apply pw_below_drewN | apply below_drew1) | exact HB.out)) hb); clear HB; have HB := n0_; clear n0_; (try clear hb); (try clear hb2); (try clear hk); (try clear hi)) | (go_at_call 13; (with_reducible refine (octet_Put.calls kj4 a0 (-1) t124 _ A16.out).mono ?_); rintro e w21 ⟨rfl, hb⟩; have n0_ := Aside0.mk (below_step (by repeat (first | (with_reducible first | exact HB.out | apply below_alloc | apply pw_below_drewN | apply below_drew1) | exact HB.out)) hb); clear HB; have HB := n0_; clear n0_; (try clear hb); (try clear hb2); (try clear hk); (try clear hi)) | (go_at_call 13; (with_reducible refine (octet_Put.calls kj4 a0 9 t125 _ A18.out).mono ?_); rintro e w22 ⟨rfl, hb⟩; have n0_ := Aside0.mk (below_step (by repeat (first | (with_reducible first | exact HB.out | apply below_alloc | apply pw_below_drewN | apply below_drew1) | exact HB.out)) hb); clear HB; have HB := n0_; clear n0_; (try clear hb); (try clear hb2); (try clear hk); (try clear hi)))
                    go_ret
                    exact ⟨by first | rfl | (simp [errW_none, errW_some] <;> rfl) | (rw [HR_.out]; done) | (rw [← HR_.out]; done) | (have hR_ := HR_.out; simp only [hR_]; done) | (have hR_ := HR_.out; simp only [ByteArray.size_append] at hR_; exact congrArg (fun b_ => Ending.returned (.bool b_)) hR_) | (have hR_ := HR_.out; simp_all; done) | (simp [*, errW_none, errW_some] <;> rfl), by repeat (first | (with_reducible first | exact HB.out | apply below_alloc | apply pw_below_drewN | apply below_drew1) | exact HB.out)⟩
                  · rw [if_neg c17] at H
                    have c17b0 : (t124.toList == ([] : List UInt8)) = false := beq_eq_false_iff_ne.mpr c17
                    have c17b1 : (t124.toList != ([] : List UInt8)) = true := bne_iff_ne.mpr c17
                    exact absurd H (by simp)
                · rw [if_neg c15] at H
                  have c15b0 : ((t123.extract 0 (x8_4 : Int).toNat).toList == t122.toList) = false := beq_eq_false_iff_ne.mpr c15
                  have c15b1 : ((t123.extract 0 (x8_4 : Int).toNat).toList != t122.toList) = true := bne_iff_ne.mpr c15
                  exact absurd H (by simp)
              · rw [if_neg c14] at H
                exact absurd H (by simp)
            · rw [if_neg c13] at H
              exact absurd H (by simp)
          · rw [if_neg c12] at H
            have c12b0 : ((t123.size : Int) == x9_4) = false := beq_eq_false_iff_ne.mpr c12
            have c12b1 : ((t123.size : Int) != x9_4) = true := bne_iff_ne.mpr c12
            exact absurd H (by simp)
        · rw [if_neg c11] at H
          have c11b0 : ((t122.size : Int) == x8_4) = false := beq_eq_false_iff_ne.mpr c11
          have c11b1 : ((t122.size : Int) != x8_4) = true := bne_iff_ne.mpr c11
          exact absurd H (by simp)
      · replace c10 := Bool.eq_false_iff.mpr c10
        subst c10
        have H1 : (some false) = some true := by rw [if_neg (show ¬ (false = true) by decide)] at H; exact H
        clear H
        have H := H1
        clear H1
        exact absurd H (by simp)

/-! ### flyleaflaw01_short: function 14 -/
def flyleaflaw01_short.f (a0 : ByteArray) (a1 : Int) : Option (ByteArray) := if (a0.size : Int) > a1 then (if 0 ≤ a1 then (if a1 ≤ (a0.size : Int) then (some (a0.extract 0 (a1 : Int).toNat)) else (none)) else (none)) else (some a0)
set_option maxHeartbeats 8000000 in
set_option maxRecDepth 100000 in
theorem flyleaflaw01_short.calls (a0 : ByteArray) (a1 : Int) (r : ByteArray) (w : World) (h : flyleaflaw01_short.f a0 a1 = some r) :
    Calls Try.prog 14 #[.string a0, .int .i64 a1] w fun e w' => e = .returned (.string r) ∧ Drawn0 w w' := by
  have H : (if (a0.size : Int) > a1 then (if 0 ≤ a1 then (if a1 ≤ (a0.size : Int) then (some (a0.extract 0 (a1 : Int).toNat)) else (none)) else (none)) else (some a0)) = some r := h
  clear h
  by_cases c3 : (a0.size : Int) > a1
  · rw [if_pos c3] at H
    have c3b0 : decide (a1 < (a0.size : Int)) = true := decide_eq_true c3
    clear c3
    by_cases c4 : 0 ≤ a1
    · rw [if_pos c4] at H
      have c4b0 := eq_true c4
      have c4b1 : decide (0 ≤ a1) = true := decide_eq_true c4
      clear c4
      by_cases c5 : a1 ≤ (a0.size : Int)
      · rw [if_pos c5] at H
        have c5b0 := eq_true c5
        have c5b1 : decide (a1 ≤ (a0.size : Int)) = true := decide_eq_true c5
        clear c5
        obtain rfl := Option.some.inj H
        go_enter Try.func14, Try.ntmps14
        go_wp2
        go_ret
        exact ⟨by first | rfl | (simp; done) | (simp [*]; done), by repeat (first | exact Drawn0.refl _ | apply Drawn0.step)⟩
      · rw [if_neg c5] at H
        exact absurd H (by simp)
    · rw [if_neg c4] at H
      exact absurd H (by simp)
  · rw [if_neg c3] at H
    have c3b0 : decide (a1 < (a0.size : Int)) = false := decide_eq_false c3
    clear c3
    obtain rfl := Option.some.inj H
    go_enter Try.func14, Try.ntmps14
    go_wp2
    go_ret
    exact ⟨by first | rfl | (simp; done) | (simp [*]; done), by repeat (first | exact Drawn0.refl _ | apply Drawn0.step)⟩

/-! ### flyleafref01_Within: function 27 -/
def flyleafref01_Within.f (a0 : Int) (a1 : Int) (a2 : Int) : Option (Bool) := if a0 ≥ 0 then (if a1 ≥ 0 then (if a0 ≤ a2 then (some (decide (a1 ≤ (wrap64 (a2 - a0))))) else (some false)) else (some false)) else (some false)
set_option maxHeartbeats 8000000 in
set_option maxRecDepth 100000 in
theorem flyleafref01_Within.calls (a0 : Int) (a1 : Int) (a2 : Int) (r : Bool) (w : World) (h : flyleafref01_Within.f a0 a1 a2 = some r) :
    Calls Try.prog 27 #[.int .i64 a0, .int .i64 a1, .int .i64 a2] w fun e w' => e = .returned (.bool r) ∧ Drawn0 w w' := by
  have H : (if a0 ≥ 0 then (if a1 ≥ 0 then (if a0 ≤ a2 then (some (decide (a1 ≤ (wrap64 (a2 - a0))))) else (some false)) else (some false)) else (some false)) = some r := h
  clear h
  by_cases c4 : a0 ≥ 0
  · rw [if_pos c4] at H
    have c4b0 : decide (0 ≤ a0) = true := decide_eq_true c4
    clear c4
    by_cases c5 : a1 ≥ 0
    · rw [if_pos c5] at H
      have c5b0 : decide (0 ≤ a1) = true := decide_eq_true c5
      clear c5
      by_cases c6 : a0 ≤ a2
      · rw [if_pos c6] at H
        have c6b0 : decide (a0 ≤ a2) = true := decide_eq_true c6
        clear c6
        obtain rfl := Option.some.inj H
        go_enter Try.func27, Try.ntmps27
        go_wp2
        go_ret
        exact ⟨by first | rfl | (simp; done) | (simp [*]; done), by repeat (first | exact Drawn0.refl _ | apply Drawn0.step)⟩
      · rw [if_neg c6] at H
        have c6b0 : decide (a0 ≤ a2) = false := decide_eq_false c6
        clear c6
        obtain rfl := Option.some.inj H
        go_enter Try.func27, Try.ntmps27
        go_wp2
        go_ret
        exact ⟨by first | rfl | (simp; done) | (simp [*]; done), by repeat (first | exact Drawn0.refl _ | apply Drawn0.step)⟩
    · rw [if_neg c5] at H
      have c5b0 : decide (0 ≤ a1) = false := decide_eq_false c5
      clear c5
      obtain rfl := Option.some.inj H
      go_enter Try.func27, Try.ntmps27
      go_wp2
      go_ret
      exact ⟨by first | rfl | (simp; done) | (simp [*]; done), by repeat (first | exact Drawn0.refl _ | apply Drawn0.step)⟩
  · rw [if_neg c4] at H
    have c4b0 : decide (0 ≤ a0) = false := decide_eq_false c4
    clear c4
    obtain rfl := Option.some.inj H
    go_enter Try.func27, Try.ntmps27
    go_wp2
    go_ret
    exact ⟨by first | rfl | (simp; done) | (simp [*]; done), by repeat (first | exact Drawn0.refl _ | apply Drawn0.step)⟩

/-! ### flyleafref01_Get: function 16 -/
mutual
def flyleafref01_Get.j0 : Nat → ByteArray → Int → Int → Bool → Option (Int × Bool)
  | 0, _, _, _, _ => none
  | k + 1, x0, x1, x2, x25 => if x25 = true then (some (0, false)) else (flyleafref01_Get.l0 k x0 x1 0 (wrap64 (x2 - 1)))
def flyleafref01_Get.l0 : Nat → ByteArray → Int → Int → Int → Option (Int × Bool)
  | 0, _, _, _, _ => none
  | k + 1, x0, x1, x9, x10 => if x10 ≥ 0 then (if 0 ≤ (wrap64 (x1 + x10)) then (if (wrap64 (x1 + x10)) < (x0.size : Int) then (flyleafref01_Get.l0 k x0 x1 (IntKind.u64.wrap ((IntKind.u64.wrap (x9 * 256)) + (IntKind.u64.wrap (bt x0 (wrap64 (x1 + x10)))))) (wrap64 (x10 - 1))) else (none)) else (none)) else (some (x9, true))
end
def flyleafref01_Get.f (k : Nat) (a0 : ByteArray) (a1 : Int) (a2 : Int) : Option (Int × Bool) := (flyleafref01_Within.f a1 a2 (a0.size : Int)).bind fun t126 => (if t126 = true then (if a2 < 1 then (flyleafref01_Get.j0 k a0 a1 a2 true) else (flyleafref01_Get.j0 k a0 a1 a2 (decide (a2 > 8)))) else (flyleafref01_Get.j0 k a0 a1 a2 true))
theorem flyleafref01_Get.mono_l : ∀ k, (∀ y0 y1 y2 y3, LeO (flyleafref01_Get.j0 k y0 y1 y2 y3) (flyleafref01_Get.j0 (k + 1) y0 y1 y2 y3)) ∧ (∀ y0 y1 y2 y3, LeO (flyleafref01_Get.l0 k y0 y1 y2 y3) (flyleafref01_Get.l0 (k + 1) y0 y1 y2 y3))
  | 0 => ⟨fun _ _ _ _ r h => by simp [flyleafref01_Get.j0] at h, fun _ _ _ _ r h => by simp [flyleafref01_Get.l0] at h⟩
  | k + 1 => by
    obtain ⟨ih0, ih1⟩ := flyleafref01_Get.mono_l k
    refine ⟨?_, ?_⟩
    · intro y0 y1 y2 y3
      unfold flyleafref01_Get.j0
      repeat' first
      | (with_reducible exact ih0 _ _ _ _)
      | (with_reducible exact ih1 _ _ _ _)
      | (with_reducible exact LeO.refl _)
      | (with_reducible exact LeO.none _)
      | (with_reducible refine LeO.ite ?_ ?_)
      | (with_reducible refine LeO.bind ?_ (fun _ => ?_))
      | exact ih0 _ _ _ _
      | exact ih1 _ _ _ _
      | exact LeO.none _
      | refine LeO.ite ?_ ?_
      | refine LeO.bind ?_ (fun _ => ?_)
    · intro y0 y1 y2 y3
      unfold flyleafref01_Get.l0
      repeat' first
      | (with_reducible exact ih0 _ _ _ _)
      | (with_reducible exact ih1 _ _ _ _)
      | (with_reducible exact LeO.refl _)
      | (with_reducible exact LeO.none _)
      | (with_reducible refine LeO.ite ?_ ?_)
      | (with_reducible refine LeO.bind ?_ (fun _ => ?_))
      | exact ih0 _ _ _ _
      | exact ih1 _ _ _ _
      | exact LeO.none _
      | refine LeO.ite ?_ ?_
      | refine LeO.bind ?_ (fun _ => ?_)
theorem flyleafref01_Get.mono : ∀ a0 a1 a2 k, LeO (flyleafref01_Get.f k a0 a1 a2) (flyleafref01_Get.f (k + 1) a0 a1 a2) := by
  intro a0 a1 a2 k
  obtain ⟨ih0, ih1⟩ := flyleafref01_Get.mono_l k
  unfold flyleafref01_Get.f
  repeat' first
      | (with_reducible exact ih0 _ _ _ _)
      | (with_reducible exact ih1 _ _ _ _)
      | (with_reducible exact LeO.refl _)
      | (with_reducible exact LeO.none _)
      | (with_reducible refine LeO.ite ?_ ?_)
      | (with_reducible refine LeO.bind ?_ (fun _ => ?_))
      | exact ih0 _ _ _ _
      | exact ih1 _ _ _ _
      | exact LeO.none _
      | refine LeO.ite ?_ ?_
      | refine LeO.bind ?_ (fun _ => ?_)
set_option maxHeartbeats 8000000 in
set_option maxRecDepth 100000 in
theorem flyleafref01_Get.calls (k : Nat) (a0 : ByteArray) (a1 : Int) (a2 : Int) (r1 : Int) (r2 : Bool) (w : World) (h : flyleafref01_Get.f k a0 a1 a2 = some (r1, r2)) :
    Calls Try.prog 16 #[.string a0, .int .i64 a1, .int .i64 a2] w fun e w' => e = .returned (.tuple #[.int .u64 r1, .bool r2]) ∧ Drawn0 w w' := by
  have H : ((flyleafref01_Within.f a1 a2 (a0.size : Int)).bind fun t126 => (if t126 = true then (if a2 < 1 then (flyleafref01_Get.j0 k a0 a1 a2 true) else (flyleafref01_Get.j0 k a0 a1 a2 (decide (a2 > 8)))) else (flyleafref01_Get.j0 k a0 a1 a2 true))) = some (r1, r2) := h
  clear h
  replace H := Option.bind_eq_some_iff.mp H
  obtain ⟨t126, A40, H⟩ := H
  replace H : (if t126 = true then (if a2 < 1 then (flyleafref01_Get.j0 k a0 a1 a2 true) else (flyleafref01_Get.j0 k a0 a1 a2 (decide (a2 > 8)))) else (flyleafref01_Get.j0 k a0 a1 a2 true)) = some (r1, r2) := H
  have A4 := Aside0.mk A40
  clear A40
  have HC5 := Aside0.mk H
  clear H
  go_enter Try.func16, Try.ntmps16
  go_upto_region 2 with (first | ((with_reducible refine gate_callee (f := 27) rfl ?_); refine goesL_ (some 15) rfl rfl Try.func27 (by kernel_rfl) rfl #[.int .i64 a1, .int .i64 a2, .int .i64 (a0.size : Int)] rfl (by (try simp only [List.map_toArray, List.map_cons, List.map_nil]); first | done | rfl | (simp only [List.length_drop, List.length_take]; rfl) | (simp only [ByteArray.size_append, Int.natCast_add]; rfl)) ?_; (with_reducible refine (flyleafref01_Within.calls a1 a2 (a0.size : Int) t126 _ A4.out).mono ?_); rintro e w' ⟨rfl, ⟨nd, rfl⟩⟩; refine ⟨_, rfl, ?_⟩))
  (try simp only [Act.put, List.setIfInBounds_toArray, List.set_cons_zero, List.set_cons_succ])
  go_cut [25] (fun v25 wc => ∃ (kq : Nat) (x25_4 : Bool), v25 = .bool x25_4 ∧ Aside0 (flyleafref01_Get.j0 kq a0 a1 a2 x25_4 = some (r1, r2)) ∧ Aside0 (kq ≤ k) ∧ Drawn0 w wc)
  case first =>
    have H := HC5.out
    clear HC5
    by_cases c6 : t126 = true
    · subst c6
      have H1 : (if a2 < 1 then (flyleafref01_Get.j0 k a0 a1 a2 true) else (flyleafref01_Get.j0 k a0 a1 a2 (decide (a2 > 8)))) = some (r1, r2) := by rw [if_pos rfl] at H; exact H
      clear H
      have H := H1
      clear H1
      by_cases c7 : a2 < 1
      · rw [if_pos c7] at H
        have c7b0 : decide (a2 < 1) = true := decide_eq_true c7
        clear c7
        (first | rw [c7b0] | (simp only [i64_w, i32_w]; rw [c7b0]) | skip)
        have H' := Aside0.mk H
        clear H
        go_wp2
        go_meet
        case rel => exact ⟨_, (true), (by first | rfl | (simp; done) | (simp [*]; done)), H', ⟨by first | omega | exact Nat.le_refl _⟩, by repeat (first | exact Drawn0.refl _ | apply Drawn0.step)⟩
      · rw [if_neg c7] at H
        have c7b0 : decide (a2 < 1) = false := decide_eq_false c7
        clear c7
        (first | rw [c7b0] | (simp only [i64_w, i32_w]; rw [c7b0]) | skip)
        have H' := Aside0.mk H
        clear H
        go_wp2
        go_meet
        case rel => exact ⟨_, (decide (a2 > 8)), (by first | rfl | (simp; done) | (simp [*]; done)), H', ⟨by first | omega | exact Nat.le_refl _⟩, by repeat (first | exact Drawn0.refl _ | apply Drawn0.step)⟩
    · replace c6 := Bool.eq_false_iff.mpr c6
      subst c6
      have H1 : (flyleafref01_Get.j0 k a0 a1 a2 true) = some (r1, r2) := by rw [if_neg (show ¬ (false = true) by decide)] at H; exact H
      clear H
      have H := H1
      clear H1
      have H' := Aside0.mk H
      clear H
      go_wp2
      go_meet
      case rel => exact ⟨_, (true), (by first | rfl | (simp; done) | (simp [*]; done)), H', ⟨by first | omega | exact Nat.le_refl _⟩, by repeat (first | exact Drawn0.refl _ | apply Drawn0.step)⟩
  case rest =>
    clear HC5
    try clear c1
    try clear c2
    try clear p2
    try clear c6
    try clear c7
    try clear c7b0
    obtain ⟨kq, x25_4, rfl, HA, HJ4, ⟨mc4, rfl⟩⟩ := hcut
    cases kq with
    | zero => exact absurd HA.out (by simp [flyleafref01_Get.j0])
    | succ kj4 =>
      have H := HA.out
      clear HA
      simp only [flyleafref01_Get.j0] at H
      by_cases c8 : x25_4 = true
      · subst c8
        have H1 : (some (0, false)) = some (r1, r2) := by rw [if_pos rfl] at H; exact H
        clear H
        have H := H1
        clear H1
        simp only [Option.some.injEq, Prod.mk.injEq] at H
        obtain ⟨rfl, rfl⟩ := H
        go_wp2
        go_ret2
        exact ⟨by first | rfl | (simp; done) | (simp [*]; done), by repeat (first | exact Drawn0.refl _ | apply Drawn0.step)⟩
      · replace c8 := Bool.eq_false_iff.mpr c8
        subst c8
        have H1 : (flyleafref01_Get.l0 kj4 a0 a1 0 (wrap64 (a2 - 1))) = some (r1, r2) := by rw [if_neg (show ¬ (false = true) by decide)] at H; exact H
        clear H
        have H := H1
        clear H1
        have H' := Aside0.mk H
        clear H
        go_wp2
        go_loopg [9, 10] kj4 (fun kq v9 v10 w' => ∃ (x9_2 : Int) (x10_2 : Int), v9 = .int .u64 x9_2 ∧ v10 = .int .i64 x10_2 ∧ Aside0 (flyleafref01_Get.l0 kq a0 a1 x9_2 x10_2 = some (r1, r2)) ∧ Aside0 (kq ≤ kj4) ∧ Drawn0 w w')
        case atStart => exact ⟨(0), (wrap64 (a2 - 1)), (by first | rfl | (simp; done) | (simp [*]; done)), (by first | rfl | (simp; done) | (simp [*]; done)), H', ⟨Nat.le_refl _⟩, by repeat (first | exact Drawn0.refl _ | apply Drawn0.step)⟩
        case round =>
          clear H'
          try clear c1
          try clear c2
          try clear p2
          try clear c4
          try clear c6
          try clear p6
          try clear c7
          try clear c7b0
          try clear c8
          try clear p2
          obtain ⟨x9_2, x10_2, rfl, rfl, HA, HK2, ⟨m2, rfl⟩⟩ := hrel
          cases gk with
          | zero => exact absurd HA.out (by simp [flyleafref01_Get.l0])
          | succ k2 =>
            have H := HA.out
            clear HA
            simp only [flyleafref01_Get.l0] at H
            by_cases c9 : x10_2 ≥ 0
            · rw [if_pos c9] at H
              have c9b0 : decide (0 ≤ x10_2) = true := decide_eq_true c9
              clear c9
              obtain ⟨ji10, hji10⟩ : ∃ j_ : Int, (wrap64 (a1 + x10_2)) = j_ := ⟨_, rfl⟩
              replace H : (if 0 ≤ (ji10) then (if (ji10) < (a0.size : Int) then (flyleafref01_Get.l0 k2 a0 a1 (IntKind.u64.wrap ((IntKind.u64.wrap (x9_2 * 256)) + (IntKind.u64.wrap (bt a0 (ji10))))) (wrap64 (x10_2 - 1))) else (none)) else (none)) = some (r1, r2) := by first | (rw [hji10] at H; exact H) | (simp only [hji10] at H ⊢; exact H)
              have hji10w : (IntKind.i64.wrap (a1 + x10_2)) = ji10 := (i64_w _).trans hji10
              by_cases c11 : 0 ≤ (ji10)
              · rw [if_pos c11] at H
                have c11b0 : decide (0 ≤ (ji10)) = true := decide_eq_true c11
                clear c11
                by_cases c12 : (ji10) < (a0.size : Int)
                · rw [if_pos c12] at H
                  have c12b0 : decide ((ji10) < (a0.size : Int)) = true := decide_eq_true c12
                  clear c12
                  have H' := Aside0.mk H
                  clear H
                  have p13 : 0 ≤ ((ji10) : Int) := of_decide_eq_true (by first | (with_reducible assumption) | assumption)
                  have q13 : (ji10) < (a0.size : Int) := of_decide_eq_true (by first | (with_reducible assumption) | assumption)
                  have hx13 := bt_at a0 (ji10)
                  replace p13 := eq_true p13
                  replace q13 := eq_true q13
                  go_wp2
                  go_roundg k2
                  case measure => have := HJ4.out; have := HK2.out; omega
                  case rel => exact ⟨(IntKind.u64.wrap ((IntKind.u64.wrap (x9_2 * 256)) + (IntKind.u64.wrap (bt a0 (ji10))))), (wrap64 (x10_2 - 1)), (by first | rfl | (simp; done) | (simp only [← hji10] <;> (first | rfl | (simp; done))) | (simp [*]; done)), (by first | rfl | (simp; done) | (simp [*]; done)), H', ⟨by have := HJ4.out; have := HK2.out; omega⟩, by repeat (first | exact Drawn0.refl _ | apply Drawn0.step)⟩
                · rw [if_neg c12] at H
                  exact absurd H (by simp)
              · rw [if_neg c11] at H
                exact absurd H (by simp)
            · rw [if_neg c9] at H
              have c9b0 : decide (0 ≤ x10_2) = false := decide_eq_false c9
              clear c9
              simp only [Option.some.injEq, Prod.mk.injEq] at H
              obtain ⟨rfl, rfl⟩ := H
              go_wp2
              go_ret2
              exact ⟨by first | rfl | (simp; done) | (simp [*]; done), by repeat (first | exact Drawn0.refl _ | apply Drawn0.step)⟩

/-! ### octet_Set: function 17 -/
/-- A text with another one laid over it from place i on. -/
def spliceB (s : ByteArray) (i : Nat) (p : ByteArray) : ByteArray := ⟨(s.data.toList.take i ++ p.data.toList ++ s.data.toList.drop (i + p.size)).toArray⟩
def octet_Set.f (k : Nat) (a0 : ByteArray) (a1 : Int) (a2 : Int) (a3 : Int) : Option (ByteArray × Bool) :=
  (octet_number.f a0 a1 a2).bind fun t => (if t = true then ((octet_Put.f k a3 a2).bind fun p => (if 0 ≤ a1 then (if a1 < (a0.size : Int) then (if a1.toNat + p.size ≤ a0.size then (some (spliceB a0 a1.toNat p, true)) else (none)) else (none)) else (none))) else (some (a0, false)))
theorem octet_Set.mono : ∀ a0 a1 a2 a3 k, LeO (octet_Set.f k a0 a1 a2 a3) (octet_Set.f (k + 1) a0 a1 a2 a3) := by
  intro a0 a1 a2 a3 k
  unfold octet_Set.f
  exact LeO.bind (LeO.refl _) fun _ => LeO.ite (LeO.bind (octet_Put.mono _ _ _) fun _ => LeO.refl _) (LeO.refl _)
theorem spliceB_nums (s : ByteArray) (i : Nat) (p : ByteArray) (h : i + p.size ≤ s.size) : ∃ xs : List Int, xs.length = s.size ∧ strOfNums xs = spliceB s i p ∧
    (∀ j, j < p.size → xs.getD (i + j) 0 = (p.data.toList.getD j 0).toNat) ∧ (∀ j, j < i ∨ i + p.size ≤ j → xs.getD j 0 = (s.data.toList.getD j 0).toNat) := by
  have hs : s.data.toList.length = s.size := by rw [Array.length_toList]; rfl
  have hp : p.data.toList.length = p.size := by rw [Array.length_toList]; rfl
  refine ⟨(s.data.toList.take i ++ p.data.toList ++ s.data.toList.drop (i + p.size)).map fun b => (b.toNat : Int), ?_, ?_, ?_, ?_⟩
  · simp only [List.length_map, List.length_append, List.length_take, List.length_drop, hs, hp]; omega
  · unfold strOfNums spliceB
    congr 2
    rw [List.map_map]
    refine (List.map_congr_left fun x _ => ?_).trans (List.map_id _)
    simp
  · intro j hj
    rw [List.getD_eq_getElem?_getD, List.getElem?_map, List.append_assoc, List.getElem?_append_right (by rw [List.length_take]; omega), List.length_take, List.getElem?_append_left (by rw [hp]; omega)]
    rw [show i + j - min i s.data.toList.length = j by omega, List.getD_eq_getElem?_getD, List.getElem?_eq_getElem (by omega)]
    simp
  · intro j hj
    rw [List.getD_eq_getElem?_getD, List.getElem?_map, List.getD_eq_getElem?_getD]
    rcases hj with hj | hj
    · rw [List.append_assoc, List.getElem?_append_left (by rw [List.length_take]; omega), List.getElem?_take_of_lt hj]
      cases s.data.toList[j]? <;> simp
    · rw [List.getElem?_append_right (by simp only [List.length_append, List.length_take, hp, hs]; omega), List.getElem?_drop]
      simp only [List.length_append, List.length_take, hp, hs]
      rw [show i + p.size + (j - (min i s.size + p.size)) = j by omega]
      cases s.data.toList[j]? <;> simp
set_option maxHeartbeats 200000 in
set_option maxRecDepth 100000 in
theorem octet_Set.calls (k : Nat) (a0 : ByteArray) (a1 : Int) (a2 : Int) (a3 : Int) (r1 : ByteArray) (r2 : Bool) (w : World) (h : octet_Set.f k a0 a1 a2 a3 = some (r1, r2)) :
    Calls Try.prog 17 #[.string a0, .int .i64 a1, .int .i64 a2, .int .u64 a3] w fun e w' => e = .returned (.tuple #[.string r1, .bool r2]) ∧ Below w.heap.size w w' := by
  have H : ((octet_number.f a0 a1 a2).bind fun t => (if t = true then ((octet_Put.f k a3 a2).bind fun p => (if 0 ≤ a1 then (if a1 < (a0.size : Int) then (if a1.toNat + p.size ≤ a0.size then (some (spliceB a0 a1.toNat p, true)) else (none)) else (none)) else (none))) else (some (a0, false)))) = some (r1, r2) := h
  clear h
  obtain ⟨t, hn0, H⟩ := Option.bind_eq_some_iff.mp H
  have hn := Aside0.mk hn0
  clear hn0
  cases t with
  | false =>
    simp only [Bool.false_eq_true, if_false, Option.some.injEq, Prod.mk.injEq] at H
    obtain ⟨rfl, rfl⟩ := H
    go_enter Try.func17, Try.ntmps17
    go_wp2_with (go_at_call 28; refine (octet_number.calls _ _ _ _ _ hn.out).mono ?_; rintro e w' ⟨rfl, ⟨nd, rfl⟩⟩)
    go_ret2
    exact ⟨rfl, pw_below_drewN (Below.refl _ _) _⟩
  | true =>
    simp only [if_true] at H
    obtain ⟨p, hp0, H⟩ := Option.bind_eq_some_iff.mp H
    have hp := Aside0.mk hp0
    clear hp0
    by_cases h0 : 0 ≤ a1
    · rw [if_pos h0] at H
      by_cases h1 : a1 < (a0.size : Int)
      · rw [if_pos h1] at H
        by_cases h2 : a1.toNat + p.size ≤ a0.size
        · rw [if_pos h2] at H
          simp only [Option.some.injEq, Prod.mk.injEq] at H
          obtain ⟨rfl, rfl⟩ := H
          obtain ⟨i, rfl⟩ := Int.eq_ofNat_of_zero_le h0
          simp only [Int.toNat_natCast] at h2 ⊢
          obtain ⟨xs, hxl, hxs, hx1, hx2⟩ := spliceB_nums a0 i p h2
          have kb := fun W => print_bytes (P := Try.prog) 9 41 5 Try.underlying9 Try.underlying41 Try.underlying5 a0 W
          go_enter Try.func17, Try.ntmps17
          go_wp2_with (go_at_call 28; refine (octet_number.calls _ _ _ _ _ hn.out).mono ?_; rintro e w' ⟨rfl, ⟨nd, rfl⟩⟩)
          have hcp := grownCap_ge (w.drewN nd) a0.size 0 5
          generalize grownCap (w.drewN nd) a0.size 0 5 = cp at hcp ⊢
          have hc0 : ∀ j, j < a0.size → (Lib.bytesWorld (w.drewN nd) 5 a0).cell? ⟨w.heap.size, j, none⟩ = some (.int .u8 (a0.data.toList.getD j 0).toNat) := fun j hj => Lib.bytesWorld_cell (w.drewN nd) 5 a0 j hj
          have hf0 : ∀ j, j < a0.size → (Lib.bytesWorld (w.drewN nd) 5 a0).frozen? ⟨w.heap.size, j, none⟩ = false := fun j hj => XW.bytesWorld_free (w.drewN nd) 5 a0 j hj
          have hb0 : Below w.heap.size w (Lib.bytesWorld (w.drewN nd) 5 a0) := bytes_below (B := w.heap.size) (W := w.drewN nd) (pw_below_drewN (Below.refl _ _) _) (Nat.le_refl _) 5 a0
          have hz0 : w.heap.size < (Lib.bytesWorld (w.drewN nd) 5 a0).heap.size := by rw [Lib.bytesWorld_size]; exact Nat.lt_succ_self _
          clear kb hn H h0
          generalize Lib.bytesWorld (w.drewN nd) 5 a0 = W0 at *
          generalize hg : w.heap.size = g at *
          have HG := Lib.hid hg
          have HC := Lib.hid hc0
          have HF := Lib.hid hf0
          have HX1 := Lib.hid hx1
          have HX2 := Lib.hid hx2
          have HXS := Lib.hid hxs
          have HXL := Lib.hid hxl
          clear hg hc0 hf0 hx1 hx2 hxs hxl
          have hi : i < a0.size := by omega
          have ks : ∀ W, (Instr.slice 41 (.slice (some ⟨g, 0, none⟩) a0.size cp) (some (.int .i64 (i : Int))) none none).run Try.prog W = .ok (.slice (some ⟨g, i, none⟩) (a0.size - i) (cp - i)) W := fun W => XW.slice_from W Try.underlying41 info5 (by omega) (by omega)
          go_region_law ((first | (refine goes_ (N := some 24) Try.func13 (by kernel_rfl) (by rfl) #[.int .u64 a3, .int .i64 a2] (by rfl) rfl rfl (by (try simp only [List.map_toArray, List.map_cons, List.map_nil]); first | done | rfl) ?_; with_reducible refine (octet_Put.calls k a3 a2 p _ hp.out).mono ?_; rintro e w1 ⟨rfl, hb1⟩; refine ⟨_, rfl, ?_⟩) | (refine XW.step_copy_str rfl (.tmp 21) (.tmp 24) 41 9 rfl 5 Try.underlying41 (by kernel_rfl) g i (a0.size - i) (cp - i) p rfl rfl (by omega) (XW.some_of HC hb1 (by omega) (by omega)) (XW.free_of HF hb1 (by omega) (by omega)) ?_)))
          have hcs : ∀ j, j < a0.size → (w1.setCells g i (XW.strCells p)).cell? ⟨g, 0 + j, none⟩ = some (.int .u8 (xs.getD j 0)) := by
            intro j hj
            rw [Nat.zero_add]
            have h1c : w1.cell? ⟨g, j, none⟩ = some (.int .u8 (a0.data.toList.getD j 0).toNat) := by
              rw [hb1.cell (p := ⟨g, j, none⟩) (by simpa using hz0)]
              exact HC.out j hj
            by_cases hin : i ≤ j ∧ j < i + p.size
            · obtain ⟨m, rfl⟩ : ∃ m, j = i + m := ⟨j - i, by omega⟩
              have hm : m < (XW.strCells p).length := by rw [XW.strCells_length]; omega
              rw [World.cell?_setCells_in g (XW.strCells p) i w1 (fun q hq => XW.some_of (m := p.size) HC hb1 hz0 (by omega) q (by rw [XW.strCells_length] at hq; exact hq)) m hm, HX1.out m (by omega)]
              have hq : m < p.data.toList.length := by rw [Array.length_toList]; exact (by omega : m < p.size)
              simp only [XW.strCells, List.getElem_map, List.getD_eq_getElem?_getD, List.getElem?_eq_getElem hq, Option.getD_some]
            · rw [World.cell?_setCells_out g _ i w1 _ (fun _ _ => by rw [XW.strCells_length]; simp only []; omega), h1c, HX2.out j (by omega)]
          have hbf : Below g w (w1.setCells g i (XW.strCells p)) := XW.below_setCells (Nat.le_refl _) _ _ _ (below_then (below_drew hb0) (Nat.le_of_lt (by simpa using hz0)) hb1)
          have hcv := fun W => run_convert_bytes_arg (P := Try.prog) W 41 5 Try.underlying41 Try.underlying5 g 0 a0.size cp xs HXL.out
          clear HC HF hb1 hb0 hz0 ks HX1 HX2 HXL h1 h2 hcp hi
          generalize w1.setCells g i (XW.strCells p) = W2 at *
          have hcw := hcv W2 hcs 9 Try.underlying9
          clear hcs hcv
          go_wp2
          go_ret2
          exact ⟨by rw [HXS.out]; rfl, by rw [HG.out]; exact hbf⟩
        · rw [if_neg h2] at H; cases H
      · rw [if_neg h1] at H; cases H
    · rw [if_neg h0] at H; cases H

end Go.Proofs.Ytopbkfgeidnleaa.X
