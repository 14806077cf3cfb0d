/- Walks of Go functions of this seat: each calls-theorem says that the Go function, called at values of its kinds, returns what the Lean function of its name tells, where that tells something; what was in memory stays. Written by our own program xprint.py. -/
import Derived.Test.YtkjmecbbdccfoaaX0
import Derived.Test.YtkjmecbbdccfoaaX2
import Derived.Test.YtkjmecbbdccfoaaX4
import Derived.Test.YtkjmecbbdccfoaaX5
import Derived.Test.YtkjmecbbdccfoaaX6
import Derived.Test.YtkjmecbbdccfoaaX9
import Derived.Test.YtkjmecbbdccfoaaX10
namespace Go.Proofs.Ytkjmecbbdccfoaa.X
open Go.RowKit Go.Proofs.YtkjmecbbdccfoaaW.PrintWords Go.Proofs.YtkjmecbbdccfoaaW.PrintLast Go.Proofs.YtkjmecbbdccfoaaW.PrintMore
attribute [local go_sem] max2_int min2_int max_two min_two max_three min_three max_four min_four   -- for this text's walks alone
set_option linter.unusedVariables false
set_option linter.unusedSimpArgs false

/-! ### flyleaflaw11_RelocReads: function 5 -/
mutual
def flyleaflaw11_RelocReads.j0 : Nat → List (S23) → ByteArray → Bool → Int → Int → Option (Bool)
  | 0, _, _, _, _, _ => none
  | k + 1, x0, x1, x7, x214000, x214001 => (flyleafref01_Fill.f (⟨#[]⟩ : ByteArray) 16).bind fun t215 => (flyleaflaw11_RelocReads.l0 k x0 x1 x7 t215 0 x214000 x214001)
def flyleaflaw11_RelocReads.l0 : Nat → List (S23) → ByteArray → Bool → ByteArray → Int → Int → Int → Option (Bool)
  | 0, _, _, _, _, _, _, _ => none
  | k + 1, x0, x1, x7, x8, x9, x214000, x214001 => if x9 < (x0.length : Int) then (if x9 < 6 then (if 0 ≤ x9 then ((flyleafref11_Bytes.f k ((rd_T23 x0 x9).f0) ((rd_T23 x0 x9).f1) ((rd_T23 x0 x9).f2) ((rd_T23 x0 x9).f3)).bind fun t217 => (if x8.size + t217.size ≤ 9223372036854775807 then (flyleaflaw11_RelocReads.l0 k x0 x1 x7 (x8 ++ t217) (wrap64 (x9 + 1)) x214000 x214001) else (none))) else (none)) else (if x8.size + x1.size ≤ 9223372036854775807 then ((reloc_Read.f k (x8 ++ x1) ([] : List Int) 0 0 0 0 x214000 x214001 0 0).bind fun bt219 => ((flyleafref11_Read.f k (x8 ++ x1) ([] : List Int) 0 0 0 0 x214000 x214001 0 0).bind fun bt223 => ((flyleafref11_Same.f k bt219.1 bt223.1).bind fun t227 => (if x7 = true then (if t227 = true then (some (bt219.2 == bt223.2)) else (some false)) else (some false))))) else (none))) else (if x8.size + x1.size ≤ 9223372036854775807 then ((reloc_Read.f k (x8 ++ x1) ([] : List Int) 0 0 0 0 x214000 x214001 0 0).bind fun bt229 => ((flyleafref11_Read.f k (x8 ++ x1) ([] : List Int) 0 0 0 0 x214000 x214001 0 0).bind fun bt233 => ((flyleafref11_Same.f k bt229.1 bt233.1).bind fun t237 => (if x7 = true then (if t237 = true then (some (bt229.2 == bt233.2)) else (some false)) else (some false))))) else (none))
end
def flyleaflaw11_RelocReads.f (k : Nat) (l0 : List (S23)) (a1 : ByteArray) (a2_0 : Int) (a2_1 : Int) : Option (Bool) := (flyleaflaw11_awake.f k).bind fun t214 => (if (a1.size : Int) > 200 then (if 0 ≤ 200 then (if 200 ≤ (a1.size : Int) then (flyleaflaw11_RelocReads.j0 k l0 (a1.extract 0 200) t214 a2_0 a2_1) else (none)) else (none)) else (flyleaflaw11_RelocReads.j0 k l0 a1 t214 a2_0 a2_1))
theorem flyleaflaw11_RelocReads.mono_l : ∀ k, (∀ y0 y1 y2 y3 y4, LeO (flyleaflaw11_RelocReads.j0 k y0 y1 y2 y3 y4) (flyleaflaw11_RelocReads.j0 (k + 1) y0 y1 y2 y3 y4)) ∧ (∀ y0 y1 y2 y3 y4 y5 y6, LeO (flyleaflaw11_RelocReads.l0 k y0 y1 y2 y3 y4 y5 y6) (flyleaflaw11_RelocReads.l0 (k + 1) y0 y1 y2 y3 y4 y5 y6))
  | 0 => ⟨fun _ _ _ _ _ r h => by simp [flyleaflaw11_RelocReads.j0] at h, fun _ _ _ _ _ _ _ r h => by simp [flyleaflaw11_RelocReads.l0] at h⟩
  | k + 1 => by
    obtain ⟨ih0, ih1⟩ := flyleaflaw11_RelocReads.mono_l k
    refine ⟨?_, ?_⟩
    · intro y0 y1 y2 y3 y4
      unfold flyleaflaw11_RelocReads.j0
      repeat' first
      | (with_reducible exact ih0 _ _ _ _ _)
      | (with_reducible exact ih1 _ _ _ _ _ _ _)
      | (with_reducible exact flyleaflaw11_awake.mono _)
      | (with_reducible exact flyleafref11_Bytes.mono _ _ _ _ _)
      | (with_reducible exact flyleafref11_Read.mono _ _ _ _ _ _ _ _ _ _ _)
      | (with_reducible exact flyleafref11_Same.mono _ _ _)
      | (with_reducible exact reloc_Read.mono _ _ _ _ _ _ _ _ _ _ _)
      | (with_reducible exact LeO.refl _)
      | (with_reducible exact LeO.none _)
      | (with_reducible refine LeO.ite ?_ ?_)
      | (with_reducible refine LeO.bind ?_ (fun _ => ?_))
      | exact ih0 _ _ _ _ _
      | exact ih1 _ _ _ _ _ _ _
      | exact flyleaflaw11_awake.mono _
      | exact flyleafref11_Bytes.mono _ _ _ _ _
      | exact flyleafref11_Read.mono _ _ _ _ _ _ _ _ _ _ _
      | exact flyleafref11_Same.mono _ _ _
      | exact reloc_Read.mono _ _ _ _ _ _ _ _ _ _ _
      | exact LeO.none _
      | refine LeO.ite ?_ ?_
      | refine LeO.bind ?_ (fun _ => ?_)
    · intro y0 y1 y2 y3 y4 y5 y6
      unfold flyleaflaw11_RelocReads.l0
      repeat' first
      | (with_reducible exact ih0 _ _ _ _ _)
      | (with_reducible exact ih1 _ _ _ _ _ _ _)
      | (with_reducible exact flyleaflaw11_awake.mono _)
      | (with_reducible exact flyleafref11_Bytes.mono _ _ _ _ _)
      | (with_reducible exact flyleafref11_Read.mono _ _ _ _ _ _ _ _ _ _ _)
      | (with_reducible exact flyleafref11_Same.mono _ _ _)
      | (with_reducible exact reloc_Read.mono _ _ _ _ _ _ _ _ _ _ _)
      | (with_reducible exact LeO.refl _)
      | (with_reducible exact LeO.none _)
      | (with_reducible refine LeO.ite ?_ ?_)
      | (with_reducible refine LeO.bind ?_ (fun _ => ?_))
      | exact ih0 _ _ _ _ _
      | exact ih1 _ _ _ _ _ _ _
      | exact flyleaflaw11_awake.mono _
      | exact flyleafref11_Bytes.mono _ _ _ _ _
      | exact flyleafref11_Read.mono _ _ _ _ _ _ _ _ _ _ _
      | exact flyleafref11_Same.mono _ _ _
      | exact reloc_Read.mono _ _ _ _ _ _ _ _ _ _ _
      | exact LeO.none _
      | refine LeO.ite ?_ ?_
      | refine LeO.bind ?_ (fun _ => ?_)
theorem flyleaflaw11_RelocReads.mono : ∀ a0 a1 a2 a3 k, LeO (flyleaflaw11_RelocReads.f k a0 a1 a2 a3) (flyleaflaw11_RelocReads.f (k + 1) a0 a1 a2 a3) := by
  intro a0 a1 a2 a3 k
  obtain ⟨ih0, ih1⟩ := flyleaflaw11_RelocReads.mono_l k
  unfold flyleaflaw11_RelocReads.f
  repeat' first
      | (with_reducible exact ih0 _ _ _ _ _)
      | (with_reducible exact ih1 _ _ _ _ _ _ _)
      | (with_reducible exact flyleaflaw11_awake.mono _)
      | (with_reducible exact flyleafref11_Bytes.mono _ _ _ _ _)
      | (with_reducible exact flyleafref11_Read.mono _ _ _ _ _ _ _ _ _ _ _)
      | (with_reducible exact flyleafref11_Same.mono _ _ _)
      | (with_reducible exact reloc_Read.mono _ _ _ _ _ _ _ _ _ _ _)
      | (with_reducible exact LeO.refl _)
      | (with_reducible exact LeO.none _)
      | (with_reducible refine LeO.ite ?_ ?_)
      | (with_reducible refine LeO.bind ?_ (fun _ => ?_))
      | exact ih0 _ _ _ _ _
      | exact ih1 _ _ _ _ _ _ _
      | exact flyleaflaw11_awake.mono _
      | exact flyleafref11_Bytes.mono _ _ _ _ _
      | exact flyleafref11_Read.mono _ _ _ _ _ _ _ _ _ _ _
      | exact flyleafref11_Same.mono _ _ _
      | exact reloc_Read.mono _ _ _ _ _ _ _ _ _ _ _
      | exact LeO.none _
      | refine LeO.ite ?_ ?_
      | refine LeO.bind ?_ (fun _ => ?_)
set_option maxHeartbeats 8000000 in
set_option maxRecDepth 100000 in
theorem flyleaflaw11_RelocReads.calls (k : Nat) (A0 : Option Addr) (c0 : Nat) (l0 : List (S23)) (a1 : ByteArray) (a2_0 : Int) (a2_1 : Int) (w : World) (hr0 : Kd.C k23 w A0 l0.length l0) (hc0 : l0.length ≤ c0) (h : flyleaflaw11_RelocReads.f k l0 a1 a2_0 a2_1 = some true) :
    Calls Try.prog 5 #[.slice A0 l0.length c0, .string a1, .agg #[.int .i64 a2_0, .int .i64 a2_1]] w fun e w' => e = .returned (.bool true) ∧ Below w.heap.size w w' := by
  have hu36 := Try.underlying36
  have hu23 := Try.underlying23
  have hu40 := Try.underlying40
  have HR0 := Aside0.mk hr0
  have HC0 := Aside0.mk hc0
  clear hr0 hc0
  have HB := Aside0.mk (Below.refl w.heap.size w)
  have H : ((flyleaflaw11_awake.f k).bind fun t214 => (if (a1.size : Int) > 200 then (if 0 ≤ 200 then (if 200 ≤ (a1.size : Int) then (flyleaflaw11_RelocReads.j0 k l0 (a1.extract 0 200) t214 a2_0 a2_1) else (none)) else (none)) else (flyleaflaw11_RelocReads.j0 k l0 a1 t214 a2_0 a2_1))) = some true := h
  clear h
  replace H := Option.bind_eq_some_iff.mp H
  obtain ⟨t214, A40, H⟩ := H
  replace H : (if (a1.size : Int) > 200 then (if 0 ≤ 200 then (if 200 ≤ (a1.size : Int) then (flyleaflaw11_RelocReads.j0 k l0 (a1.extract 0 200) t214 a2_0 a2_1) else (none)) else (none)) else (flyleaflaw11_RelocReads.j0 k l0 a1 t214 a2_0 a2_1)) = some true := H
  have A4 := Aside0.mk A40
  clear A40
  have HC5 := Aside0.mk H
  clear H
  go_enter Try.func5, Try.ntmps5
  go_upto_if 19 with (first | ((with_reducible refine gate_dst (N := 5) rfl ?_); refine box_event ?hg (N := 5) ?hd (cs := #[.int .i64 a2_0, .int .i64 a2_1]) (t := 36) ?hr ?_; (case hd => rfl); (case hg => rfl); (case hr => first | (go_simp; done) | (go_simp; rfl)); intro gb213 hg w6 hbox hb; have n0_ := Aside0.mk (below_step (by repeat (first | (with_reducible first | exact HB.out | apply below_alloc | apply pw_below_drewN | apply below_drew1) | exact HB.out)) hb); have n1_ := Aside0.mk (hbox); have n2_ := Aside0.mk ((by rw [hg]; exact (below_size (by repeat (first | (with_reducible first | exact HB.out | apply below_alloc | apply pw_below_drewN | apply below_drew1) | exact HB.out))) : w.heap.size ≤ gb213)); have n3_ := Aside0.mk ((by rw [hg]; exact (below_size (by repeat (first | (with_reducible first | exact HB.out | apply below_alloc | apply pw_below_drewN | apply below_drew1) | exact HB.out))) : w.heap.size ≤ gb213)); clear HB; have HB := n0_; have BK213 := n1_; have GW213 := n2_; have GE213 := n3_; clear n0_ n1_ n2_ n3_; clear hb hbox hg) | ((with_reducible refine gate_callee (f := 9) rfl ?_); refine goesL_ (some 16) rfl rfl Try.func9 (by kernel_rfl) rfl #[] rfl (by (try simp only [List.map_toArray, List.map_cons, List.map_nil]); first | done | rfl | (simp only [List.length_drop, List.length_take]; rfl) | (simp only [ByteArray.size_append, Int.natCast_add]; rfl)) ?_; (with_reducible refine (flyleaflaw11_awake.calls k  t214 _ A4.out).mono ?_); rintro e w7 ⟨rfl, hb⟩; refine ⟨_, rfl, ?_⟩; have n0_ := Aside0.mk (blk_below (g := gb213) (o := .cells #[.int .i64 a2_0, .int .i64 a2_1] 36 (0, 0)) (by (with_reducible repeat (first | refine blk_drewN ?_ _ | refine blk_drew ?_ | refine blk_alloc ?_ _)); exact BK213.out) hb); have n1_ := Aside0.mk (below_step (by repeat (first | (with_reducible first | exact HB.out | apply below_alloc | apply pw_below_drewN | apply below_drew1 | refine below_set ?_ GE213.out) | exact HB.out)) hb); clear BK213; clear HB; have BK213 := n0_; have HB := n1_; clear n0_ n1_; (try clear hb); (try clear hb2); (try clear hk); (try clear hi)))
  (try simp only [Act.put, List.setIfInBounds_toArray, List.set_cons_zero, List.set_cons_succ])
  go_cut [1] (fun v1 wc => ∃ (kq : Nat) (x1_4 : ByteArray), v1 = .string x1_4 ∧ Aside0 (flyleaflaw11_RelocReads.j0 kq l0 x1_4 t214 a2_0 a2_1 = some true) ∧ Aside0 (kq ≤ k) ∧ Aside0 (wc.heap[gb213]? = some (.cells #[.int .i64 a2_0, .int .i64 a2_1] 36 (0, 0))) ∧ Aside0 (Below w.heap.size w wc))
  case first =>
    have H := HC5.out
    clear HC5
    by_cases c8 : (a1.size : Int) > 200
    · rw [if_pos c8] at H
      have c8b0 : decide (200 < (a1.size : Int)) = true := decide_eq_true c8
      have c8b1 : decide (200 < a1.size) = true := decide_eq_true (by omega)
      clear c8
      (first | rw [c8b0] | (simp only [i64_w, i32_w]; rw [c8b0]) | skip)
      by_cases c9 : 0 ≤ 200
      · rw [if_pos c9] at H
        have c9b0 := eq_true c9
        have c9b1 : decide (0 ≤ 200) = true := decide_eq_true c9
        clear c9
        by_cases c10 : 200 ≤ (a1.size : Int)
        · rw [if_pos c10] at H
          have c10b0 := eq_true c10
          have c10b1 : decide (200 ≤ (a1.size : Int)) = true := decide_eq_true c10
          clear c10
          have H' := Aside0.mk H
          clear H
          go_wp2
          go_meet
          case rel => exact ⟨_, (a1.extract 0 200), (by first | rfl | (simp; done) | (simp [*]; done)), H', ⟨by first | omega | exact Nat.le_refl _⟩, ⟨by (with_reducible repeat (first | refine blk_drewN ?_ _ | refine blk_drew ?_ | refine blk_alloc ?_ _)); exact BK213.out⟩, ⟨by repeat (first | (with_reducible first | exact HB.out | apply below_alloc | apply pw_below_drewN | apply below_drew1 | refine below_set ?_ GE213.out) | exact HB.out)⟩⟩
        · rw [if_neg c10] at H
          exact absurd H (by simp)
      · rw [if_neg c9] at H
        exact absurd H (by simp)
    · rw [if_neg c8] at H
      have c8b0 : decide (200 < (a1.size : Int)) = false := decide_eq_false c8
      have c8b1 : decide (200 < a1.size) = false := decide_eq_false (by omega)
      clear c8
      (first | rw [c8b0] | (simp only [i64_w, i32_w]; rw [c8b0]) | skip)
      have H' := Aside0.mk H
      clear H
      go_wp2
      go_meet
      case rel => exact ⟨_, (a1), (by first | rfl | (simp; done) | (simp [*]; done)), H', ⟨by first | omega | exact Nat.le_refl _⟩, ⟨by (with_reducible repeat (first | refine blk_drewN ?_ _ | refine blk_drew ?_ | refine blk_alloc ?_ _)); exact BK213.out⟩, ⟨by repeat (first | (with_reducible first | exact HB.out | apply below_alloc | apply pw_below_drewN | apply below_drew1 | refine below_set ?_ GE213.out) | exact HB.out)⟩⟩
  case rest =>
    clear HC5
    try clear c1
    try clear p2
    try clear c5
    try clear c8
    try clear c8b0
    try clear c8b1
    try clear c9
    try clear c9b0
    try clear c9b1
    try clear c10
    try clear c10b0
    try clear c10b1
    obtain ⟨kq, x1_4, rfl, HA, HJ4, BK213, HB⟩ := hcut
    cases kq with
    | zero => exact absurd HA.out (by simp [flyleaflaw11_RelocReads.j0])
    | succ kj4 =>
      have H := HA.out
      clear HA
      simp only [flyleaflaw11_RelocReads.j0] at H
      replace H := Option.bind_eq_some_iff.mp H
      obtain ⟨t215, A110, H⟩ := H
      replace H : (flyleaflaw11_RelocReads.l0 kj4 l0 x1_4 t214 t215 0 a2_0 a2_1) = some true := H
      have A11 := Aside0.mk A110
      clear A110
      have H' := Aside0.mk H
      clear H
      go_wp2_with (first | ((with_reducible refine gate_callee (f := 17) rfl ?_); refine goesL_ (some 22) rfl rfl Try.func17 (by kernel_rfl) rfl #[.string (⟨#[]⟩ : ByteArray), .int .i64 16] rfl (by (try simp only [List.map_toArray, List.map_cons, List.map_nil]); first | done | rfl | (simp only [List.length_drop, List.length_take]; rfl) | (simp only [ByteArray.size_append, Int.natCast_add]; rfl)) ?_; (with_reducible refine (flyleafref01_Fill.calls (⟨#[]⟩ : ByteArray) 16 t215 _ A11.out).mono ?_); rintro e w12 ⟨rfl, hb⟩; refine ⟨_, rfl, ?_⟩; have n0_ := Aside0.mk (blk_below (g := gb213) (o := .cells #[.int .i64 a2_0, .int .i64 a2_1] 36 (0, 0)) (by (with_reducible repeat (first | refine blk_drewN ?_ _ | refine blk_drew ?_ | refine blk_alloc ?_ _)); exact BK213.out) hb); have n1_ := Aside0.mk (below_step (by repeat (first | (with_reducible first | exact HB.out | apply below_alloc | apply pw_below_drewN | apply below_drew1 | refine below_set ?_ GE213.out) | exact HB.out)) hb); clear BK213; clear HB; have BK213 := n0_; have HB := n1_; clear n0_ n1_; (try clear hb); (try clear hb2); (try clear hk); (try clear hi)))
      go_loopg [8, 9] kj4 (fun kq v8 v9 w' => ∃ (x8_2 : ByteArray) (x9_2 : Int), v8 = .string x8_2 ∧ v9 = .int .i64 x9_2 ∧ Aside0 (flyleaflaw11_RelocReads.l0 kq l0 x1_4 t214 x8_2 x9_2 a2_0 a2_1 = some true) ∧ Aside0 (kq ≤ kj4) ∧ Aside0 (w'.heap[gb213]? = some (.cells #[.int .i64 a2_0, .int .i64 a2_1] 36 (0, 0))) ∧ Aside0 (Below w.heap.size w w'))
      case atStart => exact ⟨(t215), (0), (by first | rfl | (simp; done) | (simp [*]; done)), (by first | rfl | (simp; done) | (simp [*]; done)), H', ⟨Nat.le_refl _⟩, ⟨by (with_reducible repeat (first | refine blk_drewN ?_ _ | refine blk_drew ?_ | refine blk_alloc ?_ _)); exact BK213.out⟩, ⟨by repeat (first | (with_reducible first | exact HB.out | apply below_alloc | apply pw_below_drewN | apply below_drew1 | refine below_set ?_ GE213.out) | exact HB.out)⟩⟩
      case round =>
        clear H'
        try clear c1
        try clear p2
        try clear c5
        try clear c8
        try clear c8b0
        try clear c8b1
        try clear c9
        try clear c9b0
        try clear c9b1
        try clear c10
        try clear c10b0
        try clear c10b1
        try clear p2
        obtain ⟨x8_2, x9_2, rfl, rfl, HA, HK2, BK213, HB⟩ := hrel
        cases gk with
        | zero => exact absurd HA.out (by simp [flyleaflaw11_RelocReads.l0])
        | succ k2 =>
          have H := HA.out
          clear HA
          simp only [flyleaflaw11_RelocReads.l0] at H
          by_cases c13 : x9_2 < (l0.length : Int)
          · rw [if_pos c13] at H
            have c13b0 : decide (x9_2 < (l0.length : Int)) = true := decide_eq_true c13
            clear c13
            by_cases c14 : x9_2 < 6
            · rw [if_pos c14] at H
              have c14b0 : decide (x9_2 < 6) = true := decide_eq_true c14
              clear c14
              by_cases c15 : 0 ≤ x9_2
              · rw [if_pos c15] at H
                have c15b0 : decide (0 ≤ x9_2) = true := decide_eq_true c15
                clear c15
                replace H := Option.bind_eq_some_iff.mp H
                obtain ⟨t217, A160, H⟩ := H
                replace H : (if x8_2.size + t217.size ≤ 9223372036854775807 then (flyleaflaw11_RelocReads.l0 k2 l0 x1_4 t214 (x8_2 ++ t217) (wrap64 (x9_2 + 1)) a2_0 a2_1) else (none)) = some true := H
                have A16 := Aside0.mk A160
                clear A160
                by_cases c17 : x8_2.size + t217.size ≤ 9223372036854775807
                · rw [if_pos c17] at H
                  have c17b0 := eq_true c17
                  have c17b1 : decide (x8_2.size + t217.size ≤ 9223372036854775807) = true := decide_eq_true c17
                  try have c17b2 : (9223372036854775807 < x8_2.size + t217.size) = False := eq_false (Nat.not_lt.2 c17)
                  clear c17
                  have H' := Aside0.mk H
                  clear H
                  have p216 : 0 ≤ (x9_2 : Int) := of_decide_eq_true (by first | (with_reducible assumption) | assumption)
                  have q216 : x9_2 < (l0.length : Int) := of_decide_eq_true (by first | (with_reducible assumption) | assumption)
                  obtain ⟨ad216, e216, hx216_0, hx216_1, hx216_2, hx216_3⟩ := at_T23 HR0.out x9_2 p216 q216
                  cases e216
                  replace hx216_0 := (HB.out.cell (World.block_lt_of_cell? w _ hx216_0)).trans hx216_0
                  replace hx216_1 := (HB.out.cell (World.block_lt_of_cell? w _ hx216_1)).trans hx216_1
                  replace hx216_2 := (HB.out.cell (World.block_lt_of_cell? w _ hx216_2)).trans hx216_2
                  replace hx216_3 := (HB.out.cell (World.block_lt_of_cell? w _ hx216_3)).trans hx216_3
                  replace p216 := eq_true p216
                  replace q216 := eq_true q216
                  go_wp2_with (first | ((with_reducible refine gate_callee (f := 15) rfl ?_); refine goesL_ (some 38) rfl rfl Try.func15 (by kernel_rfl) rfl #[.agg #[.int .i64 ((rd_T23 l0 x9_2).f0), .int .i64 ((rd_T23 l0 x9_2).f1), .int .i64 ((rd_T23 l0 x9_2).f2), .int .i64 ((rd_T23 l0 x9_2).f3)]] rfl (by (try simp only [List.map_toArray, List.map_cons, List.map_nil]); first | done | rfl | (simp only [List.length_drop, List.length_take]; rfl) | (simp only [ByteArray.size_append, Int.natCast_add]; rfl)) ?_; (with_reducible refine (flyleafref11_Bytes.calls k2 ((rd_T23 l0 x9_2).f0) ((rd_T23 l0 x9_2).f1) ((rd_T23 l0 x9_2).f2) ((rd_T23 l0 x9_2).f3) t217 _ A16.out).mono ?_); rintro e w18 ⟨rfl, hb⟩; refine ⟨_, rfl, ?_⟩; have n0_ := Aside0.mk (blk_below (g := gb213) (o := .cells #[.int .i64 a2_0, .int .i64 a2_1] 36 (0, 0)) (by (with_reducible repeat (first | refine blk_drewN ?_ _ | refine blk_drew ?_ | refine blk_alloc ?_ _)); exact BK213.out) hb); have n1_ := Aside0.mk (below_step (by repeat (first | (with_reducible first | exact HB.out | apply below_alloc | apply pw_below_drewN | apply below_drew1 | refine below_set ?_ GE213.out) | exact HB.out)) hb); clear BK213; clear HB; have BK213 := n0_; have HB := n1_; clear n0_ n1_; (try clear hb); (try clear hb2); (try clear hk); (try clear hi)))
                  go_roundg k2
                  case measure => have := HJ4.out; have := HK2.out; omega
                  case rel => exact ⟨(x8_2 ++ t217), (wrap64 (x9_2 + 1)), (by first | rfl | (simp; done) | (simp [*]; done)), (by first | rfl | (simp; done) | (simp [*]; done)), H', ⟨by have := HJ4.out; have := HK2.out; omega⟩, ⟨by (with_reducible repeat (first | refine blk_drewN ?_ _ | refine blk_drew ?_ | refine blk_alloc ?_ _)); exact BK213.out⟩, ⟨by repeat (first | (with_reducible first | exact HB.out | apply below_alloc | apply pw_below_drewN | apply below_drew1 | refine below_set ?_ GE213.out) | exact HB.out)⟩⟩
                · rw [if_neg c17] at H
                  exact absurd H (by simp)
              · rw [if_neg c15] at H
                exact absurd H (by simp)
            · rw [if_neg c14] at H
              have c14b0 : decide (x9_2 < 6) = false := decide_eq_false c14
              clear c14
              by_cases c19 : x8_2.size + x1_4.size ≤ 9223372036854775807
              · rw [if_pos c19] at H
                have c19b0 := eq_true c19
                have c19b1 : decide (x8_2.size + x1_4.size ≤ 9223372036854775807) = true := decide_eq_true c19
                try have c19b2 : (9223372036854775807 < x8_2.size + x1_4.size) = False := eq_false (Nat.not_lt.2 c19)
                clear c19
                replace H := Option.bind_eq_some_iff.mp H
                obtain ⟨⟨t219, t222⟩, A200, H⟩ := H
                replace H : ((flyleafref11_Read.f k2 (x8_2 ++ x1_4) ([] : List Int) 0 0 0 0 a2_0 a2_1 0 0).bind fun bt223 => ((flyleafref11_Same.f k2 t219 bt223.1).bind fun t227 => (if t214 = true then (if t227 = true then (some (t222 == bt223.2)) else (some false)) else (some false)))) = some true := H
                have A20 := Aside0.mk A200
                clear A200
                replace H := Option.bind_eq_some_iff.mp H
                obtain ⟨⟨t223, t226⟩, A210, H⟩ := H
                replace H : ((flyleafref11_Same.f k2 t219 t223).bind fun t227 => (if t214 = true then (if t227 = true then (some (t222 == t226)) else (some false)) else (some false))) = some true := H
                have A21 := Aside0.mk A210
                clear A210
                replace H := Option.bind_eq_some_iff.mp H
                obtain ⟨t227, A220, H⟩ := H
                replace H : (if t214 = true then (if t227 = true then (some (t222 == t226)) else (some false)) else (some false)) = some true := H
                have A22 := Aside0.mk A220
                clear A220
                by_cases c23 : t214 = true
                · subst c23
                  have H1 : (if t227 = true then (some (t222 == t226)) else (some false)) = some true := by rw [if_pos rfl] at H; exact H
                  clear H
                  have H := H1
                  clear H1
                  by_cases c24 : t227 = true
                  · subst c24
                    have H1 : (some (t222 == t226)) = some true := by rw [if_pos rfl] at H; exact H
                    clear H
                    have H := H1
                    clear H1
                    have HR_ := Aside0.mk (Option.some.inj H)
                    clear H
                    have hcz25_0 : wr.cell? ⟨gb213, 0, none⟩ = some (.int .i64 a2_0) := (blk_cell BK213.out 0).trans rfl
                    have hcz25_1 : wr.cell? ⟨gb213, 1, none⟩ = some (.int .i64 a2_1) := (blk_cell BK213.out 1).trans rfl
                    have hfz25_0 := blk_frozen BK213.out 0
                    have hfz25_1 := blk_frozen BK213.out 1
                    go_wp2_with (first | ((with_reducible refine gate_dst (N := 10) rfl ?_); refine box_event ?hg (N := 10) ?hd (cs := #[.slice none 0 0, .int .i64 0, .int .i64 0, .int .i64 0, .int .i64 0, .int .i64 0, .int .i64 0, .int .i64 0, .int .i64 0]) (t := 40) ?hr ?_; (case hd => rfl); (case hg => rfl); (case hr => first | (go_simp; done) | (go_simp; rfl)); intro gb218 hg w26 hbox hb; have n0_ := Aside0.mk (blk_below (g := gb213) (o := .cells #[.int .i64 a2_0, .int .i64 a2_1] 36 (0, 0)) (by (with_reducible repeat (first | refine blk_drewN ?_ _ | refine blk_drew ?_ | refine blk_alloc ?_ _)); exact BK213.out) hb); have n1_ := Aside0.mk (below_step (by repeat (first | (with_reducible first | exact HB.out | apply below_alloc | apply pw_below_drewN | apply below_drew1 | refine below_set ?_ GE213.out) | exact HB.out)) hb); have n2_ := Aside0.mk (hbox); have n3_ := Aside0.mk ((by rw [hg]; exact (below_size (by repeat (first | (with_reducible first | exact HB.out | apply below_alloc | apply pw_below_drewN | apply below_drew1 | refine below_set ?_ GE213.out) | exact HB.out))) : w.heap.size ≤ gb218)); have n4_ := Aside0.mk ((by rw [hg]; exact (below_size (by repeat (first | (with_reducible first | exact HB.out | apply below_alloc | apply pw_below_drewN | apply below_drew1 | refine below_set ?_ GE213.out) | exact HB.out))) : w.heap.size ≤ gb218)); have n5_ := Aside0.mk ((by rw [hg]; exact Nat.ne_of_lt (blk_lt (g := gb213) (o := .cells #[.int .i64 a2_0, .int .i64 a2_1] 36 (0, 0)) (by (with_reducible repeat (first | refine blk_drewN ?_ _ | refine blk_drew ?_ | refine blk_alloc ?_ _)); exact BK213.out)) : gb213 ≠ gb218)); have n6_ := Aside0.mk ((by rw [hg]; exact Nat.ne_of_gt (blk_lt (g := gb213) (o := .cells #[.int .i64 a2_0, .int .i64 a2_1] 36 (0, 0)) (by (with_reducible repeat (first | refine blk_drewN ?_ _ | refine blk_drew ?_ | refine blk_alloc ?_ _)); exact BK213.out)) : gb218 ≠ gb213)); clear BK213; clear HB; have BK213 := n0_; have HB := n1_; have BK218 := n2_; have GW218 := n3_; have GE218 := n4_; have NB213_218 := n5_; have NB218_213 := n6_; clear n0_ n1_ n2_ n3_ n4_ n5_ n6_; clear hb hbox hg; have hnb27 := NB218_213.out; have hnc27 := NB213_218.out; have hcz28_0 : w26.cell? ⟨gb218, 0, none⟩ = some (.slice none 0 0) := (blk_cell BK218.out 0).trans rfl; have hcz28_1 : w26.cell? ⟨gb218, 1, none⟩ = some (.int .i64 0) := (blk_cell BK218.out 1).trans rfl; have hcz28_2 : w26.cell? ⟨gb218, 2, none⟩ = some (.int .i64 0) := (blk_cell BK218.out 2).trans rfl; have hcz28_3 : w26.cell? ⟨gb218, 3, none⟩ = some (.int .i64 0) := (blk_cell BK218.out 3).trans rfl; have hcz28_4 : w26.cell? ⟨gb218, 4, none⟩ = some (.int .i64 0) := (blk_cell BK218.out 4).trans rfl; have hcz28_5 : w26.cell? ⟨gb218, 5, none⟩ = some (.int .i64 0) := (blk_cell BK218.out 5).trans rfl; have hcz28_6 : w26.cell? ⟨gb218, 6, none⟩ = some (.int .i64 0) := (blk_cell BK218.out 6).trans rfl; have hcz28_7 : w26.cell? ⟨gb218, 7, none⟩ = some (.int .i64 0) := (blk_cell BK218.out 7).trans rfl; have hcz28_8 : w26.cell? ⟨gb218, 8, none⟩ = some (.int .i64 0) := (blk_cell BK218.out 8).trans rfl; have hfz28_0 := blk_frozen BK218.out 0; have hfz28_1 := blk_frozen BK218.out 1; have hfz28_2 := blk_frozen BK218.out 2; have hfz28_3 := blk_frozen BK218.out 3; have hfz28_4 := blk_frozen BK218.out 4; have hfz28_5 := blk_frozen BK218.out 5; have hfz28_6 := blk_frozen BK218.out 6; have hfz28_7 := blk_frozen BK218.out 7; have hfz28_8 := blk_frozen BK218.out 8) | ((with_reducible refine gate_callee (f := 18) rfl ?_); refine goesL_ (some 51) rfl rfl Try.func18 (by kernel_rfl) rfl #[.string (x8_2 ++ x1_4), .agg #[.slice none 0 0, .int .i64 0, .int .i64 0, .int .i64 0, .int .i64 0, .int .i64 a2_0, .int .i64 a2_1, .int .i64 0, .int .i64 0]] rfl (by (try simp only [List.map_toArray, List.map_cons, List.map_nil]); first | done | rfl | (simp only [List.length_drop, List.length_take]; rfl) | (simp only [ByteArray.size_append, Int.natCast_add]; rfl)) ?_; (refine (reloc_Read.calls k2 (x8_2 ++ x1_4) _ _ ([] : List Int) 0 0 0 0 a2_0 a2_1 0 0 t219 t222 _ ?side1 ?side2 A20.out).mono ?_); (case side1 => exact Kd.C_nil _ _); (case side2 => exact Nat.le_refl _); rintro e w29 ⟨v220, rfl, ho0, hb⟩; refine ⟨_, rfl, ?_⟩; have n0_ := Aside0.mk (Kd.R_lower ho0 (below_size (by repeat (first | (with_reducible first | exact HB.out | apply below_alloc | apply pw_below_drewN | apply below_drew1 | refine below_set ?_ GE213.out | refine below_set ?_ GE218.out) | exact HB.out)))); have n1_ := Aside0.mk (blk_below (g := gb213) (o := .cells #[.int .i64 a2_0, .int .i64 a2_1] 36 (0, 0)) (by (with_reducible repeat (first | refine blk_drewN ?_ _ | refine blk_drew ?_ | refine blk_alloc ?_ _)); refine blk_far ?_ NB213_218.out _; (with_reducible repeat (first | refine blk_drewN ?_ _ | refine blk_drew ?_ | refine blk_alloc ?_ _)); refine blk_far ?_ NB213_218.out _; (with_reducible repeat (first | refine blk_drewN ?_ _ | refine blk_drew ?_ | refine blk_alloc ?_ _)); refine blk_far ?_ NB213_218.out _; (with_reducible repeat (first | refine blk_drewN ?_ _ | refine blk_drew ?_ | refine blk_alloc ?_ _)); refine blk_far ?_ NB213_218.out _; (with_reducible repeat (first | refine blk_drewN ?_ _ | refine blk_drew ?_ | refine blk_alloc ?_ _)); refine blk_far ?_ NB213_218.out _; (with_reducible repeat (first | refine blk_drewN ?_ _ | refine blk_drew ?_ | refine blk_alloc ?_ _)); refine blk_far ?_ NB213_218.out _; (with_reducible repeat (first | refine blk_drewN ?_ _ | refine blk_drew ?_ | refine blk_alloc ?_ _)); refine blk_far ?_ NB213_218.out _; (with_reducible repeat (first | refine blk_drewN ?_ _ | refine blk_drew ?_ | refine blk_alloc ?_ _)); refine blk_far ?_ NB213_218.out _; (with_reducible repeat (first | refine blk_drewN ?_ _ | refine blk_drew ?_ | refine blk_alloc ?_ _)); refine blk_far ?_ NB213_218.out _; (with_reducible repeat (first | refine blk_drewN ?_ _ | refine blk_drew ?_ | refine blk_alloc ?_ _)); exact BK213.out) hb); have n2_ := Aside0.mk (blk_below (g := gb218) (o := .cells #[.slice none 0 0, .int .i64 0, .int .i64 0, .int .i64 0, .int .i64 0, .int .i64 a2_0, .int .i64 a2_1, .int .i64 0, .int .i64 0] 40 (0, 0)) (by (with_reducible repeat (first | refine blk_drewN ?_ _ | refine blk_drew ?_ | refine blk_alloc ?_ _)); refine blk_put (cs := #[.slice none 0 0, .int .i64 0, .int .i64 0, .int .i64 0, .int .i64 0, .int .i64 a2_0, .int .i64 a2_1, .int .i64 0, .int .i64 0]) ?_ 8 _ rfl; (with_reducible repeat (first | refine blk_drewN ?_ _ | refine blk_drew ?_ | refine blk_alloc ?_ _)); refine blk_put (cs := #[.slice none 0 0, .int .i64 0, .int .i64 0, .int .i64 0, .int .i64 0, .int .i64 a2_0, .int .i64 a2_1, .int .i64 0, .int .i64 0]) ?_ 7 _ rfl; (with_reducible repeat (first | refine blk_drewN ?_ _ | refine blk_drew ?_ | refine blk_alloc ?_ _)); refine blk_put (cs := #[.slice none 0 0, .int .i64 0, .int .i64 0, .int .i64 0, .int .i64 0, .int .i64 a2_0, .int .i64 0, .int .i64 0, .int .i64 0]) ?_ 6 _ rfl; (with_reducible repeat (first | refine blk_drewN ?_ _ | refine blk_drew ?_ | refine blk_alloc ?_ _)); refine blk_put (cs := #[.slice none 0 0, .int .i64 0, .int .i64 0, .int .i64 0, .int .i64 0, .int .i64 0, .int .i64 0, .int .i64 0, .int .i64 0]) ?_ 5 _ rfl; (with_reducible repeat (first | refine blk_drewN ?_ _ | refine blk_drew ?_ | refine blk_alloc ?_ _)); refine blk_put (cs := #[.slice none 0 0, .int .i64 0, .int .i64 0, .int .i64 0, .int .i64 0, .int .i64 0, .int .i64 0, .int .i64 0, .int .i64 0]) ?_ 4 _ rfl; (with_reducible repeat (first | refine blk_drewN ?_ _ | refine blk_drew ?_ | refine blk_alloc ?_ _)); refine blk_put (cs := #[.slice none 0 0, .int .i64 0, .int .i64 0, .int .i64 0, .int .i64 0, .int .i64 0, .int .i64 0, .int .i64 0, .int .i64 0]) ?_ 3 _ rfl; (with_reducible repeat (first | refine blk_drewN ?_ _ | refine blk_drew ?_ | refine blk_alloc ?_ _)); refine blk_put (cs := #[.slice none 0 0, .int .i64 0, .int .i64 0, .int .i64 0, .int .i64 0, .int .i64 0, .int .i64 0, .int .i64 0, .int .i64 0]) ?_ 2 _ rfl; (with_reducible repeat (first | refine blk_drewN ?_ _ | refine blk_drew ?_ | refine blk_alloc ?_ _)); refine blk_put (cs := #[.slice none 0 0, .int .i64 0, .int .i64 0, .int .i64 0, .int .i64 0, .int .i64 0, .int .i64 0, .int .i64 0, .int .i64 0]) ?_ 1 _ rfl; (with_reducible repeat (first | refine blk_drewN ?_ _ | refine blk_drew ?_ | refine blk_alloc ?_ _)); refine blk_put (cs := #[.slice none 0 0, .int .i64 0, .int .i64 0, .int .i64 0, .int .i64 0, .int .i64 0, .int .i64 0, .int .i64 0, .int .i64 0]) ?_ 0 _ rfl; (with_reducible repeat (first | refine blk_drewN ?_ _ | refine blk_drew ?_ | refine blk_alloc ?_ _)); exact BK218.out) hb); have n3_ := Aside0.mk (below_step (by repeat (first | (with_reducible first | exact HB.out | apply below_alloc | apply pw_below_drewN | apply below_drew1 | refine below_set ?_ GE213.out | refine below_set ?_ GE218.out) | exact HB.out)) hb); clear BK213; clear BK218; clear HB; have HO221 := n0_; have BK213 := n1_; have BK218 := n2_; have HB := n3_; clear n0_ n1_ n2_ n3_; (try clear hb); (try clear hb2); (try clear hk); (try clear hi); (try clear ho0); have hcz30_0 : w29.cell? ⟨gb218, 0, none⟩ = some (.slice none 0 0) := (blk_cell BK218.out 0).trans rfl; have hcz30_1 : w29.cell? ⟨gb218, 1, none⟩ = some (.int .i64 0) := (blk_cell BK218.out 1).trans rfl; have hcz30_2 : w29.cell? ⟨gb218, 2, none⟩ = some (.int .i64 0) := (blk_cell BK218.out 2).trans rfl; have hcz30_3 : w29.cell? ⟨gb218, 3, none⟩ = some (.int .i64 0) := (blk_cell BK218.out 3).trans rfl; have hcz30_4 : w29.cell? ⟨gb218, 4, none⟩ = some (.int .i64 0) := (blk_cell BK218.out 4).trans rfl; have hcz30_5 : w29.cell? ⟨gb218, 5, none⟩ = some (.int .i64 a2_0) := (blk_cell BK218.out 5).trans rfl; have hcz30_6 : w29.cell? ⟨gb218, 6, none⟩ = some (.int .i64 a2_1) := (blk_cell BK218.out 6).trans rfl; have hcz30_7 : w29.cell? ⟨gb218, 7, none⟩ = some (.int .i64 0) := (blk_cell BK218.out 7).trans rfl; have hcz30_8 : w29.cell? ⟨gb218, 8, none⟩ = some (.int .i64 0) := (blk_cell BK218.out 8).trans rfl; have hfz30_0 := blk_frozen BK218.out 0; have hfz30_1 := blk_frozen BK218.out 1; have hfz30_2 := blk_frozen BK218.out 2; have hfz30_3 := blk_frozen BK218.out 3; have hfz30_4 := blk_frozen BK218.out 4; have hfz30_5 := blk_frozen BK218.out 5; have hfz30_6 := blk_frozen BK218.out 6; have hfz30_7 := blk_frozen BK218.out 7; have hfz30_8 := blk_frozen BK218.out 8) | ((with_reducible refine gate_callee (f := 19) rfl ?_); refine goesL_ (some 57) rfl rfl Try.func19 (by kernel_rfl) rfl #[.string (x8_2 ++ x1_4), .agg #[.slice none 0 0, .int .i64 0, .int .i64 0, .int .i64 0, .int .i64 0, .int .i64 a2_0, .int .i64 a2_1, .int .i64 0, .int .i64 0]] rfl (by (try simp only [List.map_toArray, List.map_cons, List.map_nil]); first | done | rfl | (simp only [List.length_drop, List.length_take]; rfl) | (simp only [ByteArray.size_append, Int.natCast_add]; rfl)) ?_; (refine (flyleafref11_Read.calls k2 (x8_2 ++ x1_4) _ _ ([] : List Int) 0 0 0 0 a2_0 a2_1 0 0 t223 t226 _ ?side1 ?side2 A21.out).mono ?_); (case side1 => exact Kd.C_nil _ _); (case side2 => exact Nat.le_refl _); rintro e w31 ⟨v224, rfl, ho0, hb⟩; refine ⟨_, rfl, ?_⟩; have n0_ := Aside0.mk (Kd.R_elder' (by (with_reducible repeat (first | apply Kd.R_alloc | apply Kd.R_drewN | apply Kd.R_drew)); exact HO221.out) (Kd.R_base ho0) hb); have n1_ := Aside0.mk (Kd.R_lower (Kd.R_new' ho0 (Kd.R_lt (by (with_reducible repeat (first | apply Kd.R_alloc | apply Kd.R_drewN | apply Kd.R_drew)); exact HO221.out))) (below_size (by repeat (first | (with_reducible first | exact HB.out | apply below_alloc | apply pw_below_drewN | apply below_drew1 | refine below_set ?_ GE213.out | refine below_set ?_ GE218.out) | exact HB.out)))); have n2_ := Aside0.mk (blk_below (g := gb213) (o := .cells #[.int .i64 a2_0, .int .i64 a2_1] 36 (0, 0)) (by (with_reducible repeat (first | refine blk_drewN ?_ _ | refine blk_drew ?_ | refine blk_alloc ?_ _)); exact BK213.out) hb); have n3_ := Aside0.mk (blk_below (g := gb218) (o := .cells #[.slice none 0 0, .int .i64 0, .int .i64 0, .int .i64 0, .int .i64 0, .int .i64 a2_0, .int .i64 a2_1, .int .i64 0, .int .i64 0] 40 (0, 0)) (by (with_reducible repeat (first | refine blk_drewN ?_ _ | refine blk_drew ?_ | refine blk_alloc ?_ _)); exact BK218.out) hb); have n4_ := Aside0.mk (below_step (by repeat (first | (with_reducible first | exact HB.out | apply below_alloc | apply pw_below_drewN | apply below_drew1 | refine below_set ?_ GE213.out | refine below_set ?_ GE218.out) | exact HB.out)) hb); clear HO221; clear BK213; clear BK218; clear HB; have HO221 := n0_; have HO225 := n1_; have BK213 := n2_; have BK218 := n3_; have HB := n4_; clear n0_ n1_ n2_ n3_ n4_; (try clear hb); (try clear hb2); (try clear hk); (try clear hi); (try clear ho0); obtain ⟨Ao32, co32, eo32⟩ := Kd.R_slice HO221.out; subst eo32; obtain ⟨Ao33, co33, eo33⟩ := Kd.R_slice HO225.out; subst eo33) | ((with_reducible refine gate_callee (f := 20) rfl ?_); refine goesL_ (some 62) rfl rfl Try.func20 (by kernel_rfl) rfl #[.slice Ao32 t219.length co32, .slice Ao33 t223.length co33] rfl (by (try simp only [List.map_toArray, List.map_cons, List.map_nil]); first | done | rfl | (simp only [List.length_drop, List.length_take]; rfl) | (simp only [ByteArray.size_append, Int.natCast_add]; rfl)) ?_; (with_reducible refine (flyleafref11_Same.calls k2 _ _ t219 _ _ t223 true _ ?side1 ?side2 ?side3 ?side4 A22.out).mono ?_); (case side1 => repeat (first | exact (Kd.R_reads' HO221.out).2.2 | (with_reducible refine Kd.C_alloc ?_ _) | (with_reducible refine Kd.C_drewN ?_ _) | (with_reducible refine Kd.C_drew ?_))); (case side2 => exact (Kd.R_reads' HO221.out).2.1); (case side3 => repeat (first | exact (Kd.R_reads' HO225.out).2.2 | (with_reducible refine Kd.C_alloc ?_ _) | (with_reducible refine Kd.C_drewN ?_ _) | (with_reducible refine Kd.C_drew ?_))); (case side4 => exact (Kd.R_reads' HO225.out).2.1); rintro e w' ⟨rfl, ⟨nd, rfl⟩⟩; refine ⟨_, rfl, ?_⟩))
                    go_ret
                    exact ⟨by first | rfl | (simp [errW_none, errW_some] <;> rfl) | (rw [HR_.out]; done) | (rw [← HR_.out]; done) | (have hR_ := HR_.out; simp only [hR_]; done) | (have hR_ := HR_.out; simp only [ByteArray.size_append] at hR_; exact congrArg (fun b_ => Ending.returned (.bool b_)) hR_) | (have hR_ := HR_.out; simp_all; done) | (have hR_ := beq_iff_eq.mp HR_.out; simp; exact hR_) | (simp [*, errW_none, errW_some] <;> rfl), by repeat (first | (with_reducible first | exact HB.out | apply below_alloc | apply pw_below_drewN | apply below_drew1 | refine below_set ?_ GE213.out | refine below_set ?_ GE218.out) | exact HB.out)⟩
                  · replace c24 := Bool.eq_false_iff.mpr c24
                    subst c24
                    have H1 : (some false) = some true := by rw [if_neg (show ¬ (false = true) by decide)] at H; exact H
                    clear H
                    have H := H1
                    clear H1
                    exact absurd H (by simp)
                · replace c23 := Bool.eq_false_iff.mpr c23
                  subst c23
                  have H1 : (some false) = some true := by rw [if_neg (show ¬ (false = true) by decide)] at H; exact H
                  clear H
                  have H := H1
                  clear H1
                  exact absurd H (by simp)
              · rw [if_neg c19] at H
                exact absurd H (by simp)
          · rw [if_neg c13] at H
            have c13b0 : decide (x9_2 < (l0.length : Int)) = false := decide_eq_false c13
            clear c13
            by_cases c34 : x8_2.size + x1_4.size ≤ 9223372036854775807
            · rw [if_pos c34] at H
              have c34b0 := eq_true c34
              have c34b1 : decide (x8_2.size + x1_4.size ≤ 9223372036854775807) = true := decide_eq_true c34
              try have c34b2 : (9223372036854775807 < x8_2.size + x1_4.size) = False := eq_false (Nat.not_lt.2 c34)
              clear c34
              replace H := Option.bind_eq_some_iff.mp H
              obtain ⟨⟨t229, t232⟩, A350, H⟩ := H
              replace H : ((flyleafref11_Read.f k2 (x8_2 ++ x1_4) ([] : List Int) 0 0 0 0 a2_0 a2_1 0 0).bind fun bt233 => ((flyleafref11_Same.f k2 t229 bt233.1).bind fun t237 => (if t214 = true then (if t237 = true then (some (t232 == bt233.2)) else (some false)) else (some false)))) = some true := H
              have A35 := Aside0.mk A350
              clear A350
              replace H := Option.bind_eq_some_iff.mp H
              obtain ⟨⟨t233, t236⟩, A360, H⟩ := H
              replace H : ((flyleafref11_Same.f k2 t229 t233).bind fun t237 => (if t214 = true then (if t237 = true then (some (t232 == t236)) else (some false)) else (some false))) = some true := H
              have A36 := Aside0.mk A360
              clear A360
              replace H := Option.bind_eq_some_iff.mp H
              obtain ⟨t237, A370, H⟩ := H
              replace H : (if t214 = true then (if t237 = true then (some (t232 == t236)) else (some false)) else (some false)) = some true := H
              have A37 := Aside0.mk A370
              clear A370
              by_cases c38 : t214 = true
              · subst c38
                have H1 : (if t237 = true then (some (t232 == t236)) else (some false)) = some true := by rw [if_pos rfl] at H; exact H
                clear H
                have H := H1
                clear H1
                by_cases c39 : t237 = true
                · subst c39
                  have H1 : (some (t232 == t236)) = some true := by rw [if_pos rfl] at H; exact H
                  clear H
                  have H := H1
                  clear H1
                  have HR_ := Aside0.mk (Option.some.inj H)
                  clear H
                  have hcz40_0 : wr.cell? ⟨gb213, 0, none⟩ = some (.int .i64 a2_0) := (blk_cell BK213.out 0).trans rfl
                  have hcz40_1 : wr.cell? ⟨gb213, 1, none⟩ = some (.int .i64 a2_1) := (blk_cell BK213.out 1).trans rfl
                  have hfz40_0 := blk_frozen BK213.out 0
                  have hfz40_1 := blk_frozen BK213.out 1
                  go_wp2_with (first | ((with_reducible refine gate_dst (N := 10) rfl ?_); refine box_event ?hg (N := 10) ?hd (cs := #[.slice none 0 0, .int .i64 0, .int .i64 0, .int .i64 0, .int .i64 0, .int .i64 0, .int .i64 0, .int .i64 0, .int .i64 0]) (t := 40) ?hr ?_; (case hd => rfl); (case hg => rfl); (case hr => first | (go_simp; done) | (go_simp; rfl)); intro gb228 hg w41 hbox hb; have n0_ := Aside0.mk (blk_below (g := gb213) (o := .cells #[.int .i64 a2_0, .int .i64 a2_1] 36 (0, 0)) (by (with_reducible repeat (first | refine blk_drewN ?_ _ | refine blk_drew ?_ | refine blk_alloc ?_ _)); exact BK213.out) hb); have n1_ := Aside0.mk (below_step (by repeat (first | (with_reducible first | exact HB.out | apply below_alloc | apply pw_below_drewN | apply below_drew1 | refine below_set ?_ GE213.out) | exact HB.out)) hb); have n2_ := Aside0.mk (hbox); have n3_ := Aside0.mk ((by rw [hg]; exact (below_size (by repeat (first | (with_reducible first | exact HB.out | apply below_alloc | apply pw_below_drewN | apply below_drew1 | refine below_set ?_ GE213.out) | exact HB.out))) : w.heap.size ≤ gb228)); have n4_ := Aside0.mk ((by rw [hg]; exact (below_size (by repeat (first | (with_reducible first | exact HB.out | apply below_alloc | apply pw_below_drewN | apply below_drew1 | refine below_set ?_ GE213.out) | exact HB.out))) : w.heap.size ≤ gb228)); have n5_ := Aside0.mk ((by rw [hg]; exact Nat.ne_of_lt (blk_lt (g := gb213) (o := .cells #[.int .i64 a2_0, .int .i64 a2_1] 36 (0, 0)) (by (with_reducible repeat (first | refine blk_drewN ?_ _ | refine blk_drew ?_ | refine blk_alloc ?_ _)); exact BK213.out)) : gb213 ≠ gb228)); have n6_ := Aside0.mk ((by rw [hg]; exact Nat.ne_of_gt (blk_lt (g := gb213) (o := .cells #[.int .i64 a2_0, .int .i64 a2_1] 36 (0, 0)) (by (with_reducible repeat (first | refine blk_drewN ?_ _ | refine blk_drew ?_ | refine blk_alloc ?_ _)); exact BK213.out)) : gb228 ≠ gb213)); clear BK213; clear HB; have BK213 := n0_; have HB := n1_; have BK228 := n2_; have GW228 := n3_; have GE228 := n4_; have NB213_228 := n5_; have NB228_213 := n6_; clear n0_ n1_ n2_ n3_ n4_ n5_ n6_; clear hb hbox hg; have hnb42 := NB228_213.out; have hnc42 := NB213_228.out; have hcz43_0 : w41.cell? ⟨gb228, 0, none⟩ = some (.slice none 0 0) := (blk_cell BK228.out 0).trans rfl; have hcz43_1 : w41.cell? ⟨gb228, 1, none⟩ = some (.int .i64 0) := (blk_cell BK228.out 1).trans rfl; have hcz43_2 : w41.cell? ⟨gb228, 2, none⟩ = some (.int .i64 0) := (blk_cell BK228.out 2).trans rfl; have hcz43_3 : w41.cell? ⟨gb228, 3, none⟩ = some (.int .i64 0) := (blk_cell BK228.out 3).trans rfl; have hcz43_4 : w41.cell? ⟨gb228, 4, none⟩ = some (.int .i64 0) := (blk_cell BK228.out 4).trans rfl; have hcz43_5 : w41.cell? ⟨gb228, 5, none⟩ = some (.int .i64 0) := (blk_cell BK228.out 5).trans rfl; have hcz43_6 : w41.cell? ⟨gb228, 6, none⟩ = some (.int .i64 0) := (blk_cell BK228.out 6).trans rfl; have hcz43_7 : w41.cell? ⟨gb228, 7, none⟩ = some (.int .i64 0) := (blk_cell BK228.out 7).trans rfl; have hcz43_8 : w41.cell? ⟨gb228, 8, none⟩ = some (.int .i64 0) := (blk_cell BK228.out 8).trans rfl; have hfz43_0 := blk_frozen BK228.out 0; have hfz43_1 := blk_frozen BK228.out 1; have hfz43_2 := blk_frozen BK228.out 2; have hfz43_3 := blk_frozen BK228.out 3; have hfz43_4 := blk_frozen BK228.out 4; have hfz43_5 := blk_frozen BK228.out 5; have hfz43_6 := blk_frozen BK228.out 6; have hfz43_7 := blk_frozen BK228.out 7; have hfz43_8 := blk_frozen BK228.out 8) | ((with_reducible refine gate_callee (f := 18) rfl ?_); refine goesL_ (some 51) rfl rfl Try.func18 (by kernel_rfl) rfl #[.string (x8_2 ++ x1_4), .agg #[.slice none 0 0, .int .i64 0, .int .i64 0, .int .i64 0, .int .i64 0, .int .i64 a2_0, .int .i64 a2_1, .int .i64 0, .int .i64 0]] rfl (by (try simp only [List.map_toArray, List.map_cons, List.map_nil]); first | done | rfl | (simp only [List.length_drop, List.length_take]; rfl) | (simp only [ByteArray.size_append, Int.natCast_add]; rfl)) ?_; (refine (reloc_Read.calls k2 (x8_2 ++ x1_4) _ _ ([] : List Int) 0 0 0 0 a2_0 a2_1 0 0 t229 t232 _ ?side1 ?side2 A35.out).mono ?_); (case side1 => exact Kd.C_nil _ _); (case side2 => exact Nat.le_refl _); rintro e w44 ⟨v230, rfl, ho0, hb⟩; refine ⟨_, rfl, ?_⟩; have n0_ := Aside0.mk (Kd.R_lower ho0 (below_size (by repeat (first | (with_reducible first | exact HB.out | apply below_alloc | apply pw_below_drewN | apply below_drew1 | refine below_set ?_ GE213.out | refine below_set ?_ GE228.out) | exact HB.out)))); have n1_ := Aside0.mk (blk_below (g := gb213) (o := .cells #[.int .i64 a2_0, .int .i64 a2_1] 36 (0, 0)) (by (with_reducible repeat (first | refine blk_drewN ?_ _ | refine blk_drew ?_ | refine blk_alloc ?_ _)); refine blk_far ?_ NB213_228.out _; (with_reducible repeat (first | refine blk_drewN ?_ _ | refine blk_drew ?_ | refine blk_alloc ?_ _)); refine blk_far ?_ NB213_228.out _; (with_reducible repeat (first | refine blk_drewN ?_ _ | refine blk_drew ?_ | refine blk_alloc ?_ _)); refine blk_far ?_ NB213_228.out _; (with_reducible repeat (first | refine blk_drewN ?_ _ | refine blk_drew ?_ | refine blk_alloc ?_ _)); refine blk_far ?_ NB213_228.out _; (with_reducible repeat (first | refine blk_drewN ?_ _ | refine blk_drew ?_ | refine blk_alloc ?_ _)); refine blk_far ?_ NB213_228.out _; (with_reducible repeat (first | refine blk_drewN ?_ _ | refine blk_drew ?_ | refine blk_alloc ?_ _)); refine blk_far ?_ NB213_228.out _; (with_reducible repeat (first | refine blk_drewN ?_ _ | refine blk_drew ?_ | refine blk_alloc ?_ _)); refine blk_far ?_ NB213_228.out _; (with_reducible repeat (first | refine blk_drewN ?_ _ | refine blk_drew ?_ | refine blk_alloc ?_ _)); refine blk_far ?_ NB213_228.out _; (with_reducible repeat (first | refine blk_drewN ?_ _ | refine blk_drew ?_ | refine blk_alloc ?_ _)); refine blk_far ?_ NB213_228.out _; (with_reducible repeat (first | refine blk_drewN ?_ _ | refine blk_drew ?_ | refine blk_alloc ?_ _)); exact BK213.out) hb); have n2_ := Aside0.mk (blk_below (g := gb228) (o := .cells #[.slice none 0 0, .int .i64 0, .int .i64 0, .int .i64 0, .int .i64 0, .int .i64 a2_0, .int .i64 a2_1, .int .i64 0, .int .i64 0] 40 (0, 0)) (by (with_reducible repeat (first | refine blk_drewN ?_ _ | refine blk_drew ?_ | refine blk_alloc ?_ _)); refine blk_put (cs := #[.slice none 0 0, .int .i64 0, .int .i64 0, .int .i64 0, .int .i64 0, .int .i64 a2_0, .int .i64 a2_1, .int .i64 0, .int .i64 0]) ?_ 8 _ rfl; (with_reducible repeat (first | refine blk_drewN ?_ _ | refine blk_drew ?_ | refine blk_alloc ?_ _)); refine blk_put (cs := #[.slice none 0 0, .int .i64 0, .int .i64 0, .int .i64 0, .int .i64 0, .int .i64 a2_0, .int .i64 a2_1, .int .i64 0, .int .i64 0]) ?_ 7 _ rfl; (with_reducible repeat (first | refine blk_drewN ?_ _ | refine blk_drew ?_ | refine blk_alloc ?_ _)); refine blk_put (cs := #[.slice none 0 0, .int .i64 0, .int .i64 0, .int .i64 0, .int .i64 0, .int .i64 a2_0, .int .i64 0, .int .i64 0, .int .i64 0]) ?_ 6 _ rfl; (with_reducible repeat (first | refine blk_drewN ?_ _ | refine blk_drew ?_ | refine blk_alloc ?_ _)); refine blk_put (cs := #[.slice none 0 0, .int .i64 0, .int .i64 0, .int .i64 0, .int .i64 0, .int .i64 0, .int .i64 0, .int .i64 0, .int .i64 0]) ?_ 5 _ rfl; (with_reducible repeat (first | refine blk_drewN ?_ _ | refine blk_drew ?_ | refine blk_alloc ?_ _)); refine blk_put (cs := #[.slice none 0 0, .int .i64 0, .int .i64 0, .int .i64 0, .int .i64 0, .int .i64 0, .int .i64 0, .int .i64 0, .int .i64 0]) ?_ 4 _ rfl; (with_reducible repeat (first | refine blk_drewN ?_ _ | refine blk_drew ?_ | refine blk_alloc ?_ _)); refine blk_put (cs := #[.slice none 0 0, .int .i64 0, .int .i64 0, .int .i64 0, .int .i64 0, .int .i64 0, .int .i64 0, .int .i64 0, .int .i64 0]) ?_ 3 _ rfl; (with_reducible repeat (first | refine blk_drewN ?_ _ | refine blk_drew ?_ | refine blk_alloc ?_ _)); refine blk_put (cs := #[.slice none 0 0, .int .i64 0, .int .i64 0, .int .i64 0, .int .i64 0, .int .i64 0, .int .i64 0, .int .i64 0, .int .i64 0]) ?_ 2 _ rfl; (with_reducible repeat (first | refine blk_drewN ?_ _ | refine blk_drew ?_ | refine blk_alloc ?_ _)); refine blk_put (cs := #[.slice none 0 0, .int .i64 0, .int .i64 0, .int .i64 0, .int .i64 0, .int .i64 0, .int .i64 0, .int .i64 0, .int .i64 0]) ?_ 1 _ rfl; (with_reducible repeat (first | refine blk_drewN ?_ _ | refine blk_drew ?_ | refine blk_alloc ?_ _)); refine blk_put (cs := #[.slice none 0 0, .int .i64 0, .int .i64 0, .int .i64 0, .int .i64 0, .int .i64 0, .int .i64 0, .int .i64 0, .int .i64 0]) ?_ 0 _ rfl; (with_reducible repeat (first | refine blk_drewN ?_ _ | refine blk_drew ?_ | refine blk_alloc ?_ _)); exact BK228.out) hb); have n3_ := Aside0.mk (below_step (by repeat (first | (with_reducible first | exact HB.out | apply below_alloc | apply pw_below_drewN | apply below_drew1 | refine below_set ?_ GE213.out | refine below_set ?_ GE228.out) | exact HB.out)) hb); clear BK213; clear BK228; clear HB; have HO231 := n0_; have BK213 := n1_; have BK228 := n2_; have HB := n3_; clear n0_ n1_ n2_ n3_; (try clear hb); (try clear hb2); (try clear hk); (try clear hi); (try clear ho0); have hcz45_0 : w44.cell? ⟨gb228, 0, none⟩ = some (.slice none 0 0) := (blk_cell BK228.out 0).trans rfl; have hcz45_1 : w44.cell? ⟨gb228, 1, none⟩ = some (.int .i64 0) := (blk_cell BK228.out 1).trans rfl; have hcz45_2 : w44.cell? ⟨gb228, 2, none⟩ = some (.int .i64 0) := (blk_cell BK228.out 2).trans rfl; have hcz45_3 : w44.cell? ⟨gb228, 3, none⟩ = some (.int .i64 0) := (blk_cell BK228.out 3).trans rfl; have hcz45_4 : w44.cell? ⟨gb228, 4, none⟩ = some (.int .i64 0) := (blk_cell BK228.out 4).trans rfl; have hcz45_5 : w44.cell? ⟨gb228, 5, none⟩ = some (.int .i64 a2_0) := (blk_cell BK228.out 5).trans rfl; have hcz45_6 : w44.cell? ⟨gb228, 6, none⟩ = some (.int .i64 a2_1) := (blk_cell BK228.out 6).trans rfl; have hcz45_7 : w44.cell? ⟨gb228, 7, none⟩ = some (.int .i64 0) := (blk_cell BK228.out 7).trans rfl; have hcz45_8 : w44.cell? ⟨gb228, 8, none⟩ = some (.int .i64 0) := (blk_cell BK228.out 8).trans rfl; have hfz45_0 := blk_frozen BK228.out 0; have hfz45_1 := blk_frozen BK228.out 1; have hfz45_2 := blk_frozen BK228.out 2; have hfz45_3 := blk_frozen BK228.out 3; have hfz45_4 := blk_frozen BK228.out 4; have hfz45_5 := blk_frozen BK228.out 5; have hfz45_6 := blk_frozen BK228.out 6; have hfz45_7 := blk_frozen BK228.out 7; have hfz45_8 := blk_frozen BK228.out 8) | ((with_reducible refine gate_callee (f := 19) rfl ?_); refine goesL_ (some 57) rfl rfl Try.func19 (by kernel_rfl) rfl #[.string (x8_2 ++ x1_4), .agg #[.slice none 0 0, .int .i64 0, .int .i64 0, .int .i64 0, .int .i64 0, .int .i64 a2_0, .int .i64 a2_1, .int .i64 0, .int .i64 0]] rfl (by (try simp only [List.map_toArray, List.map_cons, List.map_nil]); first | done | rfl | (simp only [List.length_drop, List.length_take]; rfl) | (simp only [ByteArray.size_append, Int.natCast_add]; rfl)) ?_; (refine (flyleafref11_Read.calls k2 (x8_2 ++ x1_4) _ _ ([] : List Int) 0 0 0 0 a2_0 a2_1 0 0 t233 t236 _ ?side1 ?side2 A36.out).mono ?_); (case side1 => exact Kd.C_nil _ _); (case side2 => exact Nat.le_refl _); rintro e w46 ⟨v234, rfl, ho0, hb⟩; refine ⟨_, rfl, ?_⟩; have n0_ := Aside0.mk (Kd.R_elder' (by (with_reducible repeat (first | apply Kd.R_alloc | apply Kd.R_drewN | apply Kd.R_drew)); exact HO231.out) (Kd.R_base ho0) hb); have n1_ := Aside0.mk (Kd.R_lower (Kd.R_new' ho0 (Kd.R_lt (by (with_reducible repeat (first | apply Kd.R_alloc | apply Kd.R_drewN | apply Kd.R_drew)); exact HO231.out))) (below_size (by repeat (first | (with_reducible first | exact HB.out | apply below_alloc | apply pw_below_drewN | apply below_drew1 | refine below_set ?_ GE213.out | refine below_set ?_ GE228.out) | exact HB.out)))); have n2_ := Aside0.mk (blk_below (g := gb213) (o := .cells #[.int .i64 a2_0, .int .i64 a2_1] 36 (0, 0)) (by (with_reducible repeat (first | refine blk_drewN ?_ _ | refine blk_drew ?_ | refine blk_alloc ?_ _)); exact BK213.out) hb); have n3_ := Aside0.mk (blk_below (g := gb228) (o := .cells #[.slice none 0 0, .int .i64 0, .int .i64 0, .int .i64 0, .int .i64 0, .int .i64 a2_0, .int .i64 a2_1, .int .i64 0, .int .i64 0] 40 (0, 0)) (by (with_reducible repeat (first | refine blk_drewN ?_ _ | refine blk_drew ?_ | refine blk_alloc ?_ _)); exact BK228.out) hb); have n4_ := Aside0.mk (below_step (by repeat (first | (with_reducible first | exact HB.out | apply below_alloc | apply pw_below_drewN | apply below_drew1 | refine below_set ?_ GE213.out | refine below_set ?_ GE228.out) | exact HB.out)) hb); clear HO231; clear BK213; clear BK228; clear HB; have HO231 := n0_; have HO235 := n1_; have BK213 := n2_; have BK228 := n3_; have HB := n4_; clear n0_ n1_ n2_ n3_ n4_; (try clear hb); (try clear hb2); (try clear hk); (try clear hi); (try clear ho0); obtain ⟨Ao47, co47, eo47⟩ := Kd.R_slice HO231.out; subst eo47; obtain ⟨Ao48, co48, eo48⟩ := Kd.R_slice HO235.out; subst eo48) | ((with_reducible refine gate_callee (f := 20) rfl ?_); refine goesL_ (some 62) rfl rfl Try.func20 (by kernel_rfl) rfl #[.slice Ao47 t229.length co47, .slice Ao48 t233.length co48] rfl (by (try simp only [List.map_toArray, List.map_cons, List.map_nil]); first | done | rfl | (simp only [List.length_drop, List.length_take]; rfl) | (simp only [ByteArray.size_append, Int.natCast_add]; rfl)) ?_; (with_reducible refine (flyleafref11_Same.calls k2 _ _ t229 _ _ t233 true _ ?side1 ?side2 ?side3 ?side4 A37.out).mono ?_); (case side1 => repeat (first | exact (Kd.R_reads' HO231.out).2.2 | (with_reducible refine Kd.C_alloc ?_ _) | (with_reducible refine Kd.C_drewN ?_ _) | (with_reducible refine Kd.C_drew ?_))); (case side2 => exact (Kd.R_reads' HO231.out).2.1); (case side3 => repeat (first | exact (Kd.R_reads' HO235.out).2.2 | (with_reducible refine Kd.C_alloc ?_ _) | (with_reducible refine Kd.C_drewN ?_ _) | (with_reducible refine Kd.C_drew ?_))); (case side4 => exact (Kd.R_reads' HO235.out).2.1); rintro e w' ⟨rfl, ⟨nd, rfl⟩⟩; refine ⟨_, rfl, ?_⟩))
                  go_ret
                  exact ⟨by first | rfl | (simp [errW_none, errW_some] <;> rfl) | (rw [HR_.out]; done) | (rw [← HR_.out]; done) | (have hR_ := HR_.out; simp only [hR_]; done) | (have hR_ := HR_.out; simp only [ByteArray.size_append] at hR_; exact congrArg (fun b_ => Ending.returned (.bool b_)) hR_) | (have hR_ := HR_.out; simp_all; done) | (have hR_ := beq_iff_eq.mp HR_.out; simp; exact hR_) | (simp [*, errW_none, errW_some] <;> rfl), by repeat (first | (with_reducible first | exact HB.out | apply below_alloc | apply pw_below_drewN | apply below_drew1 | refine below_set ?_ GE213.out | refine below_set ?_ GE228.out) | exact HB.out)⟩
                · replace c39 := Bool.eq_false_iff.mpr c39
                  subst c39
                  have H1 : (some false) = some true := by rw [if_neg (show ¬ (false = true) by decide)] at H; exact H
                  clear H
                  have H := H1
                  clear H1
                  exact absurd H (by simp)
              · replace c38 := Bool.eq_false_iff.mpr c38
                subst c38
                have H1 : (some false) = some true := by rw [if_neg (show ¬ (false = true) by decide)] at H; exact H
                clear H
                have H := H1
                clear H1
                exact absurd H (by simp)
            · rw [if_neg c34] at H
              exact absurd H (by simp)

-- NOT PRINTED: function 6 (flyleaflaw11_RelocBack)

/-! ### flyleaflaw11_RelocOrder: function 7 -/
mutual
def flyleaflaw11_RelocOrder.l0 : Nat → Int → Bool → Int → ByteArray → Int → Option (Bool)
  | 0, _, _, _, _, _ => none
  | k + 1, x1, x5, x6, x7, x8 => if x8 < x6 then ((reloc_Bytes.f k x8 1 (wrap64 (1 + x8)) (wrap64 (-x8))).bind fun t307 => (if x7.size + t307.size ≤ 9223372036854775807 then (flyleaflaw11_RelocOrder.l0 k x1 x5 x6 (x7 ++ t307) (wrap64 (x8 + 1))) else (none))) else ((flyleafref01_Fill.f x7 (wrap64 (24 * x6))).bind fun t308 => ((reloc_Read.f k t308 ([] : List Int) 0 0 0 0 0 (wrap64 (24 * (Go.bits .and .i64 x1 15))) 0 0).bind fun bt309 => (if (Go.bits .and .i64 x1 15) > x6 then (flyleaflaw11_RelocOrder.j1 k x5 (Go.bits .and .i64 x1 15) bt309.1 bt309.2 true) else (if (Go.bits .and .i64 x1 15) > 0 then (flyleaflaw11_RelocOrder.j1 k x5 (Go.bits .and .i64 x1 15) bt309.1 bt309.2 (decide ((wrap64 (24 * x6)) < (wrap64 ((wrap64 (8 + (Go.bits .and .i64 x1 15))) - 1))))) else (flyleaflaw11_RelocOrder.j1 k x5 (Go.bits .and .i64 x1 15) bt309.1 bt309.2 false)))))
def flyleaflaw11_RelocOrder.j1 : Nat → Bool → Int → List (S23) → Int → Bool → Option (Bool)
  | 0, _, _, _, _, _ => none
  | k + 1, x5, x9, x10, x11, x57 => if x57 = true then (if x5 = true then (if x11 = 17 then (some ((x10.length : Int) == 0)) else (some false)) else (some false)) else (flyleaflaw11_RelocOrder.l1 k x5 x9 x10 x11 0)
def flyleaflaw11_RelocOrder.l1 : Nat → Bool → Int → List (S23) → Int → Int → Option (Bool)
  | 0, _, _, _, _, _ => none
  | k + 1, x5, x9, x10, x11, x12 => if x12 < (x10.length : Int) then (if 0 ≤ x12 then (if ((rd_T23 x10 x12).f0) = x12 then (if ((rd_T23 x10 x12).f2) = (wrap64 (1 + x12)) then (if ((rd_T23 x10 x12).f3) = (wrap64 (-x12)) then (if ((rd_T23 x10 x12).f1) = 1 then (flyleaflaw11_RelocOrder.l1 k x5 x9 x10 x11 (wrap64 (x12 + 1))) else (some false)) else (some false)) else (some false)) else (some false)) else (none)) else (if x5 = true then (if x11 = 0 then (some ((x10.length : Int) == x9)) else (some false)) else (some false))
end
def flyleaflaw11_RelocOrder.f (k : Nat) (a0 : Int) (a1 : Int) : Option (Bool) := (flyleaflaw11_awake.f k).bind fun t306 => (flyleaflaw11_RelocOrder.l0 k a1 t306 (Go.bits .and .i64 a0 15) (⟨#[]⟩ : ByteArray) 0)
theorem flyleaflaw11_RelocOrder.mono_l : ∀ k, (∀ y0 y1 y2 y3 y4, LeO (flyleaflaw11_RelocOrder.l0 k y0 y1 y2 y3 y4) (flyleaflaw11_RelocOrder.l0 (k + 1) y0 y1 y2 y3 y4)) ∧ (∀ y0 y1 y2 y3 y4, LeO (flyleaflaw11_RelocOrder.j1 k y0 y1 y2 y3 y4) (flyleaflaw11_RelocOrder.j1 (k + 1) y0 y1 y2 y3 y4)) ∧ (∀ y0 y1 y2 y3 y4, LeO (flyleaflaw11_RelocOrder.l1 k y0 y1 y2 y3 y4) (flyleaflaw11_RelocOrder.l1 (k + 1) y0 y1 y2 y3 y4))
  | 0 => ⟨fun _ _ _ _ _ r h => by simp [flyleaflaw11_RelocOrder.l0] at h, fun _ _ _ _ _ r h => by simp [flyleaflaw11_RelocOrder.j1] at h, fun _ _ _ _ _ r h => by simp [flyleaflaw11_RelocOrder.l1] at h⟩
  | k + 1 => by
    obtain ⟨ih0, ih1, ih2⟩ := flyleaflaw11_RelocOrder.mono_l k
    refine ⟨?_, ?_, ?_⟩
    · intro y0 y1 y2 y3 y4
      unfold flyleaflaw11_RelocOrder.l0
      repeat' first
      | (with_reducible exact ih0 _ _ _ _ _)
      | (with_reducible exact ih1 _ _ _ _ _)
      | (with_reducible exact ih2 _ _ _ _ _)
      | (with_reducible exact flyleaflaw11_awake.mono _)
      | (with_reducible exact reloc_Bytes.mono _ _ _ _ _)
      | (with_reducible exact reloc_Read.mono _ _ _ _ _ _ _ _ _ _ _)
      | (with_reducible exact LeO.refl _)
      | (with_reducible exact LeO.none _)
      | (with_reducible refine LeO.ite ?_ ?_)
      | (with_reducible refine LeO.bind ?_ (fun _ => ?_))
      | exact ih0 _ _ _ _ _
      | exact ih1 _ _ _ _ _
      | exact ih2 _ _ _ _ _
      | exact flyleaflaw11_awake.mono _
      | exact reloc_Bytes.mono _ _ _ _ _
      | exact reloc_Read.mono _ _ _ _ _ _ _ _ _ _ _
      | exact LeO.none _
      | refine LeO.ite ?_ ?_
      | refine LeO.bind ?_ (fun _ => ?_)
    · intro y0 y1 y2 y3 y4
      unfold flyleaflaw11_RelocOrder.j1
      repeat' first
      | (with_reducible exact ih0 _ _ _ _ _)
      | (with_reducible exact ih1 _ _ _ _ _)
      | (with_reducible exact ih2 _ _ _ _ _)
      | (with_reducible exact flyleaflaw11_awake.mono _)
      | (with_reducible exact reloc_Bytes.mono _ _ _ _ _)
      | (with_reducible exact reloc_Read.mono _ _ _ _ _ _ _ _ _ _ _)
      | (with_reducible exact LeO.refl _)
      | (with_reducible exact LeO.none _)
      | (with_reducible refine LeO.ite ?_ ?_)
      | (with_reducible refine LeO.bind ?_ (fun _ => ?_))
      | exact ih0 _ _ _ _ _
      | exact ih1 _ _ _ _ _
      | exact ih2 _ _ _ _ _
      | exact flyleaflaw11_awake.mono _
      | exact reloc_Bytes.mono _ _ _ _ _
      | exact reloc_Read.mono _ _ _ _ _ _ _ _ _ _ _
      | exact LeO.none _
      | refine LeO.ite ?_ ?_
      | refine LeO.bind ?_ (fun _ => ?_)
    · intro y0 y1 y2 y3 y4
      unfold flyleaflaw11_RelocOrder.l1
      repeat' first
      | (with_reducible exact ih0 _ _ _ _ _)
      | (with_reducible exact ih1 _ _ _ _ _)
      | (with_reducible exact ih2 _ _ _ _ _)
      | (with_reducible exact flyleaflaw11_awake.mono _)
      | (with_reducible exact reloc_Bytes.mono _ _ _ _ _)
      | (with_reducible exact reloc_Read.mono _ _ _ _ _ _ _ _ _ _ _)
      | (with_reducible exact LeO.refl _)
      | (with_reducible exact LeO.none _)
      | (with_reducible refine LeO.ite ?_ ?_)
      | (with_reducible refine LeO.bind ?_ (fun _ => ?_))
      | exact ih0 _ _ _ _ _
      | exact ih1 _ _ _ _ _
      | exact ih2 _ _ _ _ _
      | exact flyleaflaw11_awake.mono _
      | exact reloc_Bytes.mono _ _ _ _ _
      | exact reloc_Read.mono _ _ _ _ _ _ _ _ _ _ _
      | exact LeO.none _
      | refine LeO.ite ?_ ?_
      | refine LeO.bind ?_ (fun _ => ?_)
theorem flyleaflaw11_RelocOrder.mono : ∀ a0 a1 k, LeO (flyleaflaw11_RelocOrder.f k a0 a1) (flyleaflaw11_RelocOrder.f (k + 1) a0 a1) := by
  intro a0 a1 k
  obtain ⟨ih0, ih1, ih2⟩ := flyleaflaw11_RelocOrder.mono_l k
  unfold flyleaflaw11_RelocOrder.f
  repeat' first
      | (with_reducible exact ih0 _ _ _ _ _)
      | (with_reducible exact ih1 _ _ _ _ _)
      | (with_reducible exact ih2 _ _ _ _ _)
      | (with_reducible exact flyleaflaw11_awake.mono _)
      | (with_reducible exact reloc_Bytes.mono _ _ _ _ _)
      | (with_reducible exact reloc_Read.mono _ _ _ _ _ _ _ _ _ _ _)
      | (with_reducible exact LeO.refl _)
      | (with_reducible exact LeO.none _)
      | (with_reducible refine LeO.ite ?_ ?_)
      | (with_reducible refine LeO.bind ?_ (fun _ => ?_))
      | exact ih0 _ _ _ _ _
      | exact ih1 _ _ _ _ _
      | exact ih2 _ _ _ _ _
      | exact flyleaflaw11_awake.mono _
      | exact reloc_Bytes.mono _ _ _ _ _
      | exact reloc_Read.mono _ _ _ _ _ _ _ _ _ _ _
      | exact LeO.none _
      | refine LeO.ite ?_ ?_
      | refine LeO.bind ?_ (fun _ => ?_)
set_option maxHeartbeats 8000000 in
set_option maxRecDepth 100000 in
theorem flyleaflaw11_RelocOrder.calls (k : Nat) (a0 : Int) (a1 : Int) (w : World) (h : flyleaflaw11_RelocOrder.f k a0 a1 = some true) :
    Calls Try.prog 7 #[.int .i64 a0, .int .i64 a1] w fun e w' => e = .returned (.bool true) ∧ Below w.heap.size w w' := by
  have hu23 := Try.underlying23
  have hu40 := Try.underlying40
  have HB := Aside0.mk (Below.refl w.heap.size w)
  have H : ((flyleaflaw11_awake.f k).bind fun t306 => (flyleaflaw11_RelocOrder.l0 k a1 t306 (Go.bits .and .i64 a0 15) (⟨#[]⟩ : ByteArray) 0)) = some true := h
  clear h
  replace H := Option.bind_eq_some_iff.mp H
  obtain ⟨t306, A30, H⟩ := H
  replace H : (flyleaflaw11_RelocOrder.l0 k a1 t306 (Go.bits .and .i64 a0 15) (⟨#[]⟩ : ByteArray) 0) = some true := H
  have A3 := Aside0.mk A30
  clear A30
  have H' := Aside0.mk H
  clear H
  go_enter Try.func7, Try.ntmps7
  go_wp2_with (first | ((with_reducible refine gate_callee (f := 9) rfl ?_); refine goesL_ (some 13) rfl rfl Try.func9 (by kernel_rfl) rfl #[] rfl (by (try simp only [List.map_toArray, List.map_cons, List.map_nil]); first | done | rfl | (simp only [List.length_drop, List.length_take]; rfl) | (simp only [ByteArray.size_append, Int.natCast_add]; rfl)) ?_; (with_reducible refine (flyleaflaw11_awake.calls k  t306 _ A3.out).mono ?_); rintro e w4 ⟨rfl, hb⟩; refine ⟨_, rfl, ?_⟩; have n0_ := Aside0.mk (below_step (by repeat (first | (with_reducible first | exact HB.out | apply below_alloc | apply pw_below_drewN | apply below_drew1) | exact HB.out)) hb); clear HB; have HB := n0_; clear n0_; (try clear hb); (try clear hb2); (try clear hk); (try clear hi)))
  go_loopg [7, 8] k (fun kq v7 v8 w' => ∃ (x7_1 : ByteArray) (x8_1 : Int), v7 = .string x7_1 ∧ v8 = .int .i64 x8_1 ∧ Aside0 (flyleaflaw11_RelocOrder.l0 kq a1 t306 (Go.bits .and .i64 a0 15) x7_1 x8_1 = some true) ∧ Aside0 (kq ≤ k) ∧ Aside0 (Below w.heap.size w w'))
  case atStart => exact ⟨((⟨#[]⟩ : ByteArray)), (0), (by first | rfl | (simp; done) | (simp [*]; done)), (by first | rfl | (simp; done) | (simp [*]; done)), H', ⟨Nat.le_refl _⟩, ⟨by repeat (first | (with_reducible first | exact HB.out | apply below_alloc | apply pw_below_drewN | apply below_drew1) | exact HB.out)⟩⟩
  case round =>
    clear H'
    try clear p2
    obtain ⟨x7_1, x8_1, rfl, rfl, HA, HK1, HB⟩ := hrel
    cases gk with
    | zero => exact absurd HA.out (by simp [flyleaflaw11_RelocOrder.l0])
    | succ k1 =>
      have H := HA.out
      clear HA
      simp only [flyleaflaw11_RelocOrder.l0] at H
      by_cases c5 : x8_1 < (Go.bits .and .i64 a0 15)
      · rw [if_pos c5] at H
        have c5b0 : decide (x8_1 < (Go.bits .and .i64 a0 15)) = true := decide_eq_true c5
        clear c5
        replace H := Option.bind_eq_some_iff.mp H
        obtain ⟨t307, A60, H⟩ := H
        replace H : (if x7_1.size + t307.size ≤ 9223372036854775807 then (flyleaflaw11_RelocOrder.l0 k1 a1 t306 (Go.bits .and .i64 a0 15) (x7_1 ++ t307) (wrap64 (x8_1 + 1))) else (none)) = some true := H
        have A6 := Aside0.mk A60
        clear A60
        by_cases c7 : x7_1.size + t307.size ≤ 9223372036854775807
        · rw [if_pos c7] at H
          have c7b0 := eq_true c7
          have c7b1 : decide (x7_1.size + t307.size ≤ 9223372036854775807) = true := decide_eq_true c7
          try have c7b2 : (9223372036854775807 < x7_1.size + t307.size) = False := eq_false (Nat.not_lt.2 c7)
          clear c7
          have H' := Aside0.mk H
          clear H
          go_wp2_with (first | ((with_reducible refine gate_callee (f := 14) rfl ?_); refine goesL_ (some 28) rfl rfl Try.func14 (by kernel_rfl) rfl #[.agg #[.int .i64 x8_1, .int .i64 1, .int .i64 (wrap64 (1 + x8_1)), .int .i64 (wrap64 (-x8_1))]] rfl (by (try simp only [List.map_toArray, List.map_cons, List.map_nil]); first | done | rfl | (simp only [List.length_drop, List.length_take]; rfl) | (simp only [ByteArray.size_append, Int.natCast_add]; rfl)) ?_; (with_reducible refine (reloc_Bytes.calls k1 x8_1 1 (wrap64 (1 + x8_1)) (wrap64 (-x8_1)) t307 _ A6.out).mono ?_); rintro e w8 ⟨rfl, hb⟩; refine ⟨_, rfl, ?_⟩; have n0_ := Aside0.mk (below_step (by repeat (first | (with_reducible first | exact HB.out | apply below_alloc | apply pw_below_drewN | apply below_drew1) | exact HB.out)) hb); clear HB; have HB := n0_; clear n0_; (try clear hb); (try clear hb2); (try clear hk); (try clear hi)))
          go_roundg k1
          case measure => have := HK1.out; omega
          case rel => exact ⟨(x7_1 ++ t307), (wrap64 (x8_1 + 1)), (by first | rfl | (simp; done) | (simp [*]; done)), (by first | rfl | (simp; done) | (simp [*]; done)), H', ⟨by have := HK1.out; omega⟩, ⟨by repeat (first | (with_reducible first | exact HB.out | apply below_alloc | apply pw_below_drewN | apply below_drew1) | exact HB.out)⟩⟩
        · rw [if_neg c7] at H
          exact absurd H (by simp)
      · rw [if_neg c5] at H
        have c5b0 : decide (x8_1 < (Go.bits .and .i64 a0 15)) = false := decide_eq_false c5
        clear c5
        replace H := Option.bind_eq_some_iff.mp H
        obtain ⟨t308, A90, H⟩ := H
        replace H : ((reloc_Read.f k1 t308 ([] : List Int) 0 0 0 0 0 (wrap64 (24 * (Go.bits .and .i64 a1 15))) 0 0).bind fun bt309 => (if (Go.bits .and .i64 a1 15) > (Go.bits .and .i64 a0 15) then (flyleaflaw11_RelocOrder.j1 k1 t306 (Go.bits .and .i64 a1 15) bt309.1 bt309.2 true) else (if (Go.bits .and .i64 a1 15) > 0 then (flyleaflaw11_RelocOrder.j1 k1 t306 (Go.bits .and .i64 a1 15) bt309.1 bt309.2 (decide ((wrap64 (24 * (Go.bits .and .i64 a0 15))) < (wrap64 ((wrap64 (8 + (Go.bits .and .i64 a1 15))) - 1))))) else (flyleaflaw11_RelocOrder.j1 k1 t306 (Go.bits .and .i64 a1 15) bt309.1 bt309.2 false)))) = some true := H
        have A9 := Aside0.mk A90
        clear A90
        replace H := Option.bind_eq_some_iff.mp H
        obtain ⟨⟨t309, t312⟩, A100, H⟩ := H
        replace H : (if (Go.bits .and .i64 a1 15) > (Go.bits .and .i64 a0 15) then (flyleaflaw11_RelocOrder.j1 k1 t306 (Go.bits .and .i64 a1 15) t309 t312 true) else (if (Go.bits .and .i64 a1 15) > 0 then (flyleaflaw11_RelocOrder.j1 k1 t306 (Go.bits .and .i64 a1 15) t309 t312 (decide ((wrap64 (24 * (Go.bits .and .i64 a0 15))) < (wrap64 ((wrap64 (8 + (Go.bits .and .i64 a1 15))) - 1))))) else (flyleaflaw11_RelocOrder.j1 k1 t306 (Go.bits .and .i64 a1 15) t309 t312 false))) = some true := H
        have A10 := Aside0.mk A100
        clear A100
        have HC11 := Aside0.mk H
        clear H
        go_upto_region 10 with (first | ((with_reducible refine gate_callee (f := 17) rfl ?_); refine goesL_ (some 36) rfl rfl Try.func17 (by kernel_rfl) rfl #[.string x7_1, .int .i64 (wrap64 (24 * (Go.bits .and .i64 a0 15)))] rfl (by (try simp only [List.map_toArray, List.map_cons, List.map_nil]); first | done | rfl | (simp only [List.length_drop, List.length_take]; rfl) | (simp only [ByteArray.size_append, Int.natCast_add]; rfl)) ?_; (with_reducible refine (flyleafref01_Fill.calls x7_1 (wrap64 (24 * (Go.bits .and .i64 a0 15))) t308 _ A9.out).mono ?_); rintro e w12 ⟨rfl, hb⟩; refine ⟨_, rfl, ?_⟩; have n0_ := Aside0.mk (below_step (by repeat (first | (with_reducible first | exact HB.out | apply below_alloc | apply pw_below_drewN | apply below_drew1) | exact HB.out)) hb); clear HB; have HB := n0_; clear n0_; (try clear hb); (try clear hb2); (try clear hk); (try clear hi)) | ((with_reducible refine gate_callee (f := 18) rfl ?_); refine goesL_ (some 40) rfl rfl Try.func18 (by kernel_rfl) rfl #[.string t308, .agg #[.slice none 0 0, .int .i64 0, .int .i64 0, .int .i64 0, .int .i64 0, .int .i64 0, .int .i64 (wrap64 (24 * (Go.bits .and .i64 a1 15))), .int .i64 0, .int .i64 0]] rfl (by (try simp only [List.map_toArray, List.map_cons, List.map_nil]); first | done | rfl | (simp only [List.length_drop, List.length_take]; rfl) | (simp only [ByteArray.size_append, Int.natCast_add]; rfl)) ?_; (refine (reloc_Read.calls k1 t308 _ _ ([] : List Int) 0 0 0 0 0 (wrap64 (24 * (Go.bits .and .i64 a1 15))) 0 0 t309 t312 _ ?side1 ?side2 A10.out).mono ?_); (case side1 => exact Kd.C_nil _ _); (case side2 => exact Nat.le_refl _); rintro e w13 ⟨v310, rfl, ho0, hb⟩; refine ⟨_, rfl, ?_⟩; have n0_ := Aside0.mk (Kd.R_lower ho0 (below_size (by repeat (first | (with_reducible first | exact HB.out | apply below_alloc | apply pw_below_drewN | apply below_drew1) | exact HB.out)))); have n1_ := Aside0.mk (below_step (by repeat (first | (with_reducible first | exact HB.out | apply below_alloc | apply pw_below_drewN | apply below_drew1) | exact HB.out)) hb); clear HB; have HO311 := n0_; have HB := n1_; clear n0_ n1_; (try clear hb); (try clear hb2); (try clear hk); (try clear hi); (try clear ho0)))
        (try simp only [Act.put, List.setIfInBounds_toArray, List.set_cons_zero, List.set_cons_succ])
        go_cut [57] (fun v57 wc => ∃ (kq : Nat) (x57_10 : Bool), v57 = .bool x57_10 ∧ Aside0 (flyleaflaw11_RelocOrder.j1 kq t306 (Go.bits .and .i64 a1 15) t309 t312 x57_10 = some true) ∧ Aside0 (kq ≤ k1) ∧ Aside0 (Kd.R k23 23 wc w.heap.size (fun _ => True) v310 t309) ∧ Aside0 (Below w.heap.size w wc))
        case first =>
          have H := HC11.out
          clear HC11
          by_cases c14 : (Go.bits .and .i64 a1 15) > (Go.bits .and .i64 a0 15)
          · rw [if_pos c14] at H
            have c14b0 : decide ((Go.bits .and .i64 a0 15) < (Go.bits .and .i64 a1 15)) = true := decide_eq_true c14
            clear c14
            (first | rw [c14b0] | (simp only [i64_w, i32_w]; rw [c14b0]) | skip)
            have H' := Aside0.mk H
            clear H
            go_wp2
            go_meet
            case rel => exact ⟨_, (true), (by first | rfl | (simp; done) | (simp [*]; done)), H', ⟨by have := HK1.out; first | omega | exact Nat.le_refl _⟩, ⟨by (with_reducible repeat (first | apply Kd.R_alloc | apply Kd.R_drewN | apply Kd.R_drew)); exact HO311.out⟩, ⟨by repeat (first | (with_reducible first | exact HB.out | apply below_alloc | apply pw_below_drewN | apply below_drew1) | exact HB.out)⟩⟩
          · rw [if_neg c14] at H
            have c14b0 : decide ((Go.bits .and .i64 a0 15) < (Go.bits .and .i64 a1 15)) = false := decide_eq_false c14
            clear c14
            (first | rw [c14b0] | (simp only [i64_w, i32_w]; rw [c14b0]) | skip)
            by_cases c15 : (Go.bits .and .i64 a1 15) > 0
            · rw [if_pos c15] at H
              have c15b0 : decide (0 < (Go.bits .and .i64 a1 15)) = true := decide_eq_true c15
              clear c15
              have H' := Aside0.mk H
              clear H
              go_wp2
              go_meet
              case rel => exact ⟨_, (decide ((wrap64 (24 * (Go.bits .and .i64 a0 15))) < (wrap64 ((wrap64 (8 + (Go.bits .and .i64 a1 15))) - 1)))), (by first | rfl | (simp; done) | (simp [*]; done)), H', ⟨by have := HK1.out; first | omega | exact Nat.le_refl _⟩, ⟨by (with_reducible repeat (first | apply Kd.R_alloc | apply Kd.R_drewN | apply Kd.R_drew)); exact HO311.out⟩, ⟨by repeat (first | (with_reducible first | exact HB.out | apply below_alloc | apply pw_below_drewN | apply below_drew1) | exact HB.out)⟩⟩
            · rw [if_neg c15] at H
              have c15b0 : decide (0 < (Go.bits .and .i64 a1 15)) = false := decide_eq_false c15
              clear c15
              have H' := Aside0.mk H
              clear H
              go_wp2
              go_meet
              case rel => exact ⟨_, (false), (by first | rfl | (simp; done) | (simp [*]; done)), H', ⟨by have := HK1.out; first | omega | exact Nat.le_refl _⟩, ⟨by (with_reducible repeat (first | apply Kd.R_alloc | apply Kd.R_drewN | apply Kd.R_drew)); exact HO311.out⟩, ⟨by repeat (first | (with_reducible first | exact HB.out | apply below_alloc | apply pw_below_drewN | apply below_drew1) | exact HB.out)⟩⟩
        case rest =>
          clear HC11
          try clear c1
          try clear p2
          try clear c5
          try clear c5b0
          try clear p6
          try clear c7
          try clear c7b0
          try clear c7b1
          try clear c7b2
          try clear c9
          try clear c14
          try clear c14b0
          try clear c15
          try clear c15b0
          try clear p2
          obtain ⟨kq, x57_10, rfl, HA, HJ10, HO_10, HB⟩ := hcut
          cases kq with
          | zero => exact absurd HA.out (by simp [flyleaflaw11_RelocOrder.j1])
          | succ kj10 =>
            have H := HA.out
            clear HA
            simp only [flyleaflaw11_RelocOrder.j1] at H
            by_cases c16 : x57_10 = true
            · subst c16
              have H1 : (if t306 = true then (if t312 = 17 then (some ((t309.length : Int) == 0)) else (some false)) else (some false)) = some true := by rw [if_pos rfl] at H; exact H
              clear H
              have H := H1
              clear H1
              by_cases c17 : t306 = true
              · subst c17
                have H1 : (if t312 = 17 then (some ((t309.length : Int) == 0)) else (some false)) = some true := by rw [if_pos rfl] at H; exact H
                clear H
                have H := H1
                clear H1
                by_cases c18 : t312 = 17
                · rw [if_pos c18] at H
                  have c18b0 : (t312 == 17) = true := beq_iff_eq.mpr c18
                  have c18b1 : (t312 != 17) = false := bne_eq_false_iff_eq.mpr c18
                  clear c18
                  have HR_ := Aside0.mk (Option.some.inj H)
                  clear H
                  obtain ⟨Ao19, co19, eo19⟩ := Kd.R_slice HO_10.out
                  subst eo19
                  go_wp2
                  go_ret
                  exact ⟨by first | rfl | (simp [errW_none, errW_some] <;> rfl) | (rw [HR_.out]; done) | (rw [← HR_.out]; done) | (have hR_ := HR_.out; simp only [hR_]; done) | (have hR_ := HR_.out; simp only [ByteArray.size_append] at hR_; exact congrArg (fun b_ => Ending.returned (.bool b_)) hR_) | (have hR_ := HR_.out; simp_all; done) | (have hR_ := beq_iff_eq.mp HR_.out; simp; exact hR_) | (simp [*, errW_none, errW_some] <;> rfl), by repeat (first | (with_reducible first | exact HB.out | apply below_alloc | apply pw_below_drewN | apply below_drew1) | exact HB.out)⟩
                · rw [if_neg c18] at H
                  have c18b0 : (t312 == 17) = false := beq_eq_false_iff_ne.mpr c18
                  have c18b1 : (t312 != 17) = true := bne_iff_ne.mpr c18
                  exact absurd H (by simp)
              · replace c17 := Bool.eq_false_iff.mpr c17
                subst c17
                have H1 : (some false) = some true := by rw [if_neg (show ¬ (false = true) by decide)] at H; exact H
                clear H
                have H := H1
                clear H1
                exact absurd H (by simp)
            · replace c16 := Bool.eq_false_iff.mpr c16
              subst c16
              have H1 : (flyleaflaw11_RelocOrder.l1 kj10 t306 (Go.bits .and .i64 a1 15) t309 t312 0) = some true := by rw [if_neg (show ¬ (false = true) by decide)] at H; exact H
              clear H
              have H := H1
              clear H1
              have H' := Aside0.mk H
              clear H
              go_wp2
              go_loopg [12] kj10 (fun kq v12 w' => ∃ (x12_3 : Int), v12 = .int .i64 x12_3 ∧ Aside0 (flyleaflaw11_RelocOrder.l1 kq t306 (Go.bits .and .i64 a1 15) t309 t312 x12_3 = some true) ∧ Aside0 (kq ≤ kj10) ∧ Aside0 (Kd.R k23 23 w' w.heap.size (fun _ => True) v310 t309) ∧ Aside0 (Below w.heap.size w w'))
              case atStart => exact ⟨(0), (by first | rfl | (simp; done) | (simp [*]; done)), H', ⟨Nat.le_refl _⟩, ⟨by (with_reducible repeat (first | apply Kd.R_alloc | apply Kd.R_drewN | apply Kd.R_drew)); exact HO_10.out⟩, ⟨by repeat (first | (with_reducible first | exact HB.out | apply below_alloc | apply pw_below_drewN | apply below_drew1) | exact HB.out)⟩⟩
              case round =>
                clear H'
                try clear c1
                try clear p2
                try clear c5
                try clear c5b0
                try clear p6
                try clear c7
                try clear c7b0
                try clear c7b1
                try clear c7b2
                try clear c9
                try clear c14
                try clear c14b0
                try clear c15
                try clear c15b0
                try clear c16
                try clear c17
                try clear c18
                try clear c18b0
                try clear c18b1
                try clear p2
                try clear p6
                obtain ⟨x12_3, rfl, HA, HK3, HO_10, HB⟩ := hrel
                cases gk with
                | zero => exact absurd HA.out (by simp [flyleaflaw11_RelocOrder.l1])
                | succ k3 =>
                  have H := HA.out
                  clear HA
                  simp only [flyleaflaw11_RelocOrder.l1] at H
                  by_cases c20 : x12_3 < (t309.length : Int)
                  · rw [if_pos c20] at H
                    have c20b0 : decide (x12_3 < (t309.length : Int)) = true := decide_eq_true c20
                    clear c20
                    by_cases c21 : 0 ≤ x12_3
                    · rw [if_pos c21] at H
                      have c21b0 : decide (0 ≤ x12_3) = true := decide_eq_true c21
                      clear c21
                      by_cases c22 : ((rd_T23 t309 x12_3).f0) = x12_3
                      · rw [if_pos c22] at H
                        have c22b0 : (((rd_T23 t309 x12_3).f0) == x12_3) = true := beq_iff_eq.mpr c22
                        have c22b1 : (((rd_T23 t309 x12_3).f0) != x12_3) = false := bne_eq_false_iff_eq.mpr c22
                        clear c22
                        by_cases c23 : ((rd_T23 t309 x12_3).f2) = (wrap64 (1 + x12_3))
                        · rw [if_pos c23] at H
                          have c23b0 : (((rd_T23 t309 x12_3).f2) == (wrap64 (1 + x12_3))) = true := beq_iff_eq.mpr c23
                          have c23b1 : (((rd_T23 t309 x12_3).f2) != (wrap64 (1 + x12_3))) = false := bne_eq_false_iff_eq.mpr c23
                          clear c23
                          by_cases c24 : ((rd_T23 t309 x12_3).f3) = (wrap64 (-x12_3))
                          · rw [if_pos c24] at H
                            have c24b0 : (((rd_T23 t309 x12_3).f3) == (wrap64 (-x12_3))) = true := beq_iff_eq.mpr c24
                            have c24b1 : (((rd_T23 t309 x12_3).f3) != (wrap64 (-x12_3))) = false := bne_eq_false_iff_eq.mpr c24
                            clear c24
                            by_cases c25 : ((rd_T23 t309 x12_3).f1) = 1
                            · rw [if_pos c25] at H
                              have c25b0 : (((rd_T23 t309 x12_3).f1) == 1) = true := beq_iff_eq.mpr c25
                              have c25b1 : (((rd_T23 t309 x12_3).f1) != 1) = false := bne_eq_false_iff_eq.mpr c25
                              clear c25
                              have H' := Aside0.mk H
                              clear H
                              obtain ⟨Ao26, co26, eo26⟩ := Kd.R_slice HO_10.out
                              subst eo26
                              have p313 : 0 ≤ (x12_3 : Int) := of_decide_eq_true (by first | (with_reducible assumption) | assumption)
                              have q313 : x12_3 < (t309.length : Int) := of_decide_eq_true (by first | (with_reducible assumption) | assumption)
                              obtain ⟨ad313, e313, hx313_0, hx313_1, hx313_2, hx313_3⟩ := at_T23 (Kd.R_reads' HO_10.out).2.2 x12_3 p313 q313
                              cases e313
                              replace p313 := eq_true p313
                              replace q313 := eq_true q313
                              have p314 : 0 ≤ (x12_3 : Int) := of_decide_eq_true (by first | (with_reducible assumption) | assumption)
                              have q314 : x12_3 < (t309.length : Int) := of_decide_eq_true (by first | (with_reducible assumption) | assumption)
                              obtain ⟨ad314, e314, hx314_0, hx314_1, hx314_2, hx314_3⟩ := at_T23 (Kd.R_reads' HO_10.out).2.2 x12_3 p314 q314
                              obtain rfl : ad313 = ad314 := (by injection e314)
                              replace p314 := eq_true p314
                              replace q314 := eq_true q314
                              have p315 : 0 ≤ (x12_3 : Int) := of_decide_eq_true (by first | (with_reducible assumption) | assumption)
                              have q315 : x12_3 < (t309.length : Int) := of_decide_eq_true (by first | (with_reducible assumption) | assumption)
                              obtain ⟨ad315, e315, hx315_0, hx315_1, hx315_2, hx315_3⟩ := at_T23 (Kd.R_reads' HO_10.out).2.2 x12_3 p315 q315
                              obtain rfl : ad313 = ad315 := (by injection e315)
                              replace p315 := eq_true p315
                              replace q315 := eq_true q315
                              have p316 : 0 ≤ (x12_3 : Int) := of_decide_eq_true (by first | (with_reducible assumption) | assumption)
                              have q316 : x12_3 < (t309.length : Int) := of_decide_eq_true (by first | (with_reducible assumption) | assumption)
                              obtain ⟨ad316, e316, hx316_0, hx316_1, hx316_2, hx316_3⟩ := at_T23 (Kd.R_reads' HO_10.out).2.2 x12_3 p316 q316
                              obtain rfl : ad313 = ad316 := (by injection e316)
                              replace p316 := eq_true p316
                              replace q316 := eq_true q316
                              go_wp2
                              go_roundg k3
                              case measure => have := HK1.out; have := HJ10.out; have := HK3.out; omega
                              case rel => exact ⟨(wrap64 (x12_3 + 1)), (by first | rfl | (simp; done) | (simp [*]; done)), H', ⟨by have := HK1.out; have := HJ10.out; have := HK3.out; omega⟩, ⟨by (with_reducible repeat (first | apply Kd.R_alloc | apply Kd.R_drewN | apply Kd.R_drew)); exact HO_10.out⟩, ⟨by repeat (first | (with_reducible first | exact HB.out | apply below_alloc | apply pw_below_drewN | apply below_drew1) | exact HB.out)⟩⟩
                            · rw [if_neg c25] at H
                              have c25b0 : (((rd_T23 t309 x12_3).f1) == 1) = false := beq_eq_false_iff_ne.mpr c25
                              have c25b1 : (((rd_T23 t309 x12_3).f1) != 1) = true := bne_iff_ne.mpr c25
                              exact absurd H (by simp)
                          · rw [if_neg c24] at H
                            have c24b0 : (((rd_T23 t309 x12_3).f3) == (wrap64 (-x12_3))) = false := beq_eq_false_iff_ne.mpr c24
                            have c24b1 : (((rd_T23 t309 x12_3).f3) != (wrap64 (-x12_3))) = true := bne_iff_ne.mpr c24
                            exact absurd H (by simp)
                        · rw [if_neg c23] at H
                          have c23b0 : (((rd_T23 t309 x12_3).f2) == (wrap64 (1 + x12_3))) = false := beq_eq_false_iff_ne.mpr c23
                          have c23b1 : (((rd_T23 t309 x12_3).f2) != (wrap64 (1 + x12_3))) = true := bne_iff_ne.mpr c23
                          exact absurd H (by simp)
                      · rw [if_neg c22] at H
                        have c22b0 : (((rd_T23 t309 x12_3).f0) == x12_3) = false := beq_eq_false_iff_ne.mpr c22
                        have c22b1 : (((rd_T23 t309 x12_3).f0) != x12_3) = true := bne_iff_ne.mpr c22
                        exact absurd H (by simp)
                    · rw [if_neg c21] at H
                      exact absurd H (by simp)
                  · rw [if_neg c20] at H
                    have c20b0 : decide (x12_3 < (t309.length : Int)) = false := decide_eq_false c20
                    clear c20
                    by_cases c27 : t306 = true
                    · subst c27
                      have H1 : (if t312 = 0 then (some ((t309.length : Int) == (Go.bits .and .i64 a1 15))) else (some false)) = some true := by rw [if_pos rfl] at H; exact H
                      clear H
                      have H := H1
                      clear H1
                      by_cases c28 : t312 = 0
                      · rw [if_pos c28] at H
                        have c28b0 : (t312 == 0) = true := beq_iff_eq.mpr c28
                        have c28b1 : (t312 != 0) = false := bne_eq_false_iff_eq.mpr c28
                        clear c28
                        have HR_ := Aside0.mk (Option.some.inj H)
                        clear H
                        obtain ⟨Ao29, co29, eo29⟩ := Kd.R_slice HO_10.out
                        subst eo29
                        go_wp2
                        go_ret
                        exact ⟨by first | rfl | (simp [errW_none, errW_some] <;> rfl) | (rw [HR_.out]; done) | (rw [← HR_.out]; done) | (have hR_ := HR_.out; simp only [hR_]; done) | (have hR_ := HR_.out; simp only [ByteArray.size_append] at hR_; exact congrArg (fun b_ => Ending.returned (.bool b_)) hR_) | (have hR_ := HR_.out; simp_all; done) | (have hR_ := beq_iff_eq.mp HR_.out; simp; exact hR_) | (simp [*, errW_none, errW_some] <;> rfl), by repeat (first | (with_reducible first | exact HB.out | apply below_alloc | apply pw_below_drewN | apply below_drew1) | exact HB.out)⟩
                      · rw [if_neg c28] at H
                        have c28b0 : (t312 == 0) = false := beq_eq_false_iff_ne.mpr c28
                        have c28b1 : (t312 != 0) = true := bne_iff_ne.mpr c28
                        exact absurd H (by simp)
                    · replace c27 := Bool.eq_false_iff.mpr c27
                      subst c27
                      have H1 : (some false) = some true := by rw [if_neg (show ¬ (false = true) by decide)] at H; exact H
                      clear H
                      have H := H1
                      clear H1
                      exact absurd H (by simp)

end Go.Proofs.Ytkjmecbbdccfoaa.X
