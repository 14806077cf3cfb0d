/- Walks of Go functions of this seat: each calls-theorem says that the Go function, called at values of its kinds, returns what the Lean function of its name tells, where that tells something; what was in memory stays. Written by our own program xprint.py. -/
import Derived.Test.YtopbkfgeidnleaaX0
import Derived.Test.YtopbkfgeidnleaaX1
import Derived.Test.YtopbkfgeidnleaaX2
namespace Go.Proofs.Ytopbkfgeidnleaa.X
open Go.RowKit Go.Proofs.YtopbkfgeidnleaaW.PrintWords Go.Proofs.YtopbkfgeidnleaaW.PrintLast Go.Proofs.YtopbkfgeidnleaaW.PrintMore
attribute [local go_sem] max2_int min2_int max_two min_two max_three min_three max_four min_four   -- for this text's walks alone
set_option linter.unusedVariables false
set_option linter.unusedSimpArgs false

/-! ### octet_Text: function 21 -/
mutual
def octet_Text.j0 : Nat → ByteArray → Int → Int → Bool → Option (ByteArray × Bool)
  | 0, _, _, _, _ => none
  | k + 1, x0, x1, x2, x21 => if x21 = true then (some ((⟨#[]⟩ : ByteArray), false)) else (octet_Text.l0 k x0 x1 x2 0 false)
def octet_Text.l0 : Nat → ByteArray → Int → Int → Int → Bool → Option (ByteArray × Bool)
  | 0, _, _, _, _, _ => none
  | k + 1, x0, x1, x2, x8, x9 => if (wrap64 (x1 + x8)) < (x0.size : Int) then (octet_Text.j2 k x0 x1 x2 x8 x9 (decide (x8 ≤ x2))) else (octet_Text.j2 k x0 x1 x2 x8 x9 false)
def octet_Text.j2 : Nat → ByteArray → Int → Int → Int → Bool → Bool → Option (ByteArray × Bool)
  | 0, _, _, _, _, _, _ => none
  | k + 1, x0, x1, x2, x8, x9, x32 => if x32 = true then (if 0 ≤ (wrap64 (x1 + x8)) then (if (wrap64 (x1 + x8)) < (x0.size : Int) then (if (bt x0 (wrap64 (x1 + x8))) = 0 then (if 0 ≤ x1 then (if x1 ≤ (wrap64 (x1 + x8)) then (if (wrap64 (x1 + x8)) ≤ (x0.size : Int) then (some (x0.extract (x1 : Int).toNat ((wrap64 (x1 + x8)) : Int).toNat, true)) else (none)) else (none)) else (none)) else (octet_Text.l0 k x0 x1 x2 (wrap64 (x8 + 1)) ((bt x0 (wrap64 (x1 + x8))) == 0))) else (none)) else (none)) else (if x9 = true then (if 0 ≤ x1 then (if x1 ≤ (wrap64 (x1 + x8)) then (if (wrap64 (x1 + x8)) ≤ (x0.size : Int) then (some (x0.extract (x1 : Int).toNat ((wrap64 (x1 + x8)) : Int).toNat, true)) else (none)) else (none)) else (none)) else (some ((⟨#[]⟩ : ByteArray), false)))
end
def octet_Text.f (k : Nat) (a0 : ByteArray) (a1 : Int) (a2 : Int) : Option (ByteArray × Bool) := if a1 < 0 then (octet_Text.j0 k a0 a1 a2 true) else (if a1 ≥ (a0.size : Int) then (octet_Text.j0 k a0 a1 a2 true) else (octet_Text.j0 k a0 a1 a2 (decide (a2 < 0))))
theorem octet_Text.mono_l : ∀ k, (∀ y0 y1 y2 y3, LeO (octet_Text.j0 k y0 y1 y2 y3) (octet_Text.j0 (k + 1) y0 y1 y2 y3)) ∧ (∀ y0 y1 y2 y3 y4, LeO (octet_Text.l0 k y0 y1 y2 y3 y4) (octet_Text.l0 (k + 1) y0 y1 y2 y3 y4)) ∧ (∀ y0 y1 y2 y3 y4 y5, LeO (octet_Text.j2 k y0 y1 y2 y3 y4 y5) (octet_Text.j2 (k + 1) y0 y1 y2 y3 y4 y5))
  | 0 => ⟨fun _ _ _ _ r h => by simp [octet_Text.j0] at h, fun _ _ _ _ _ r h => by simp [octet_Text.l0] at h, fun _ _ _ _ _ _ r h => by simp [octet_Text.j2] at h⟩
  | k + 1 => by
    obtain ⟨ih0, ih1, ih2⟩ := octet_Text.mono_l k
    refine ⟨?_, ?_, ?_⟩
    · intro y0 y1 y2 y3
      unfold octet_Text.j0
      repeat' first
      | (with_reducible exact ih0 _ _ _ _)
      | (with_reducible exact ih1 _ _ _ _ _)
      | (with_reducible exact ih2 _ _ _ _ _ _)
      | (with_reducible exact LeO.refl _)
      | (with_reducible exact LeO.none _)
      | (with_reducible refine LeO.ite ?_ ?_)
      | (with_reducible refine LeO.bind ?_ (fun _ => ?_))
      | exact ih0 _ _ _ _
      | exact ih1 _ _ _ _ _
      | exact ih2 _ _ _ _ _ _
      | exact LeO.none _
      | refine LeO.ite ?_ ?_
      | refine LeO.bind ?_ (fun _ => ?_)
    · intro y0 y1 y2 y3 y4
      unfold octet_Text.l0
      repeat' first
      | (with_reducible exact ih0 _ _ _ _)
      | (with_reducible exact ih1 _ _ _ _ _)
      | (with_reducible exact ih2 _ _ _ _ _ _)
      | (with_reducible exact LeO.refl _)
      | (with_reducible exact LeO.none _)
      | (with_reducible refine LeO.ite ?_ ?_)
      | (with_reducible refine LeO.bind ?_ (fun _ => ?_))
      | exact ih0 _ _ _ _
      | exact ih1 _ _ _ _ _
      | exact ih2 _ _ _ _ _ _
      | exact LeO.none _
      | refine LeO.ite ?_ ?_
      | refine LeO.bind ?_ (fun _ => ?_)
    · intro y0 y1 y2 y3 y4 y5
      unfold octet_Text.j2
      repeat' first
      | (with_reducible exact ih0 _ _ _ _)
      | (with_reducible exact ih1 _ _ _ _ _)
      | (with_reducible exact ih2 _ _ _ _ _ _)
      | (with_reducible exact LeO.refl _)
      | (with_reducible exact LeO.none _)
      | (with_reducible refine LeO.ite ?_ ?_)
      | (with_reducible refine LeO.bind ?_ (fun _ => ?_))
      | exact ih0 _ _ _ _
      | exact ih1 _ _ _ _ _
      | exact ih2 _ _ _ _ _ _
      | exact LeO.none _
      | refine LeO.ite ?_ ?_
      | refine LeO.bind ?_ (fun _ => ?_)
theorem octet_Text.mono : ∀ a0 a1 a2 k, LeO (octet_Text.f k a0 a1 a2) (octet_Text.f (k + 1) a0 a1 a2) := by
  intro a0 a1 a2 k
  obtain ⟨ih0, ih1, ih2⟩ := octet_Text.mono_l k
  unfold octet_Text.f
  repeat' first
      | (with_reducible exact ih0 _ _ _ _)
      | (with_reducible exact ih1 _ _ _ _ _)
      | (with_reducible exact ih2 _ _ _ _ _ _)
      | (with_reducible exact LeO.refl _)
      | (with_reducible exact LeO.none _)
      | (with_reducible refine LeO.ite ?_ ?_)
      | (with_reducible refine LeO.bind ?_ (fun _ => ?_))
      | exact ih0 _ _ _ _
      | exact ih1 _ _ _ _ _
      | exact ih2 _ _ _ _ _ _
      | exact LeO.none _
      | refine LeO.ite ?_ ?_
      | refine LeO.bind ?_ (fun _ => ?_)
set_option maxHeartbeats 8000000 in
set_option maxRecDepth 100000 in
theorem octet_Text.calls (k : Nat) (a0 : ByteArray) (a1 : Int) (a2 : Int) (r1 : ByteArray) (r2 : Bool) (w : World) (h : octet_Text.f k a0 a1 a2 = some (r1, r2)) :
    Calls Try.prog 21 #[.string a0, .int .i64 a1, .int .i64 a2] w fun e w' => e = .returned (.tuple #[.string r1, .bool r2]) ∧ Drawn0 w w' := by
  have H : (if a1 < 0 then (octet_Text.j0 k a0 a1 a2 true) else (if a1 ≥ (a0.size : Int) then (octet_Text.j0 k a0 a1 a2 true) else (octet_Text.j0 k a0 a1 a2 (decide (a2 < 0))))) = some (r1, r2) := h
  clear h
  have HC4 := Aside0.mk H
  clear H
  go_enter Try.func21, Try.ntmps21
  go_wp2
  refine XW.wp_scope_body ?_
  go_upto_region 1 with (fail)
  go_cut [21] (fun v21 wc => ∃ (kq : Nat) (x21_3 : Bool), v21 = .bool x21_3 ∧ Aside0 (octet_Text.j0 kq a0 a1 a2 x21_3 = some (r1, r2)) ∧ Aside0 (kq ≤ k) ∧ Drawn0 w wc)
  case first =>
    have H := HC4.out
    clear HC4
    by_cases c5 : a1 < 0
    · rw [if_pos c5] at H
      have c5b0 : decide (a1 < 0) = true := decide_eq_true c5
      clear c5
      (first | rw [c5b0] | (simp only [i64_w, i32_w]; rw [c5b0]) | skip)
      have H' := Aside0.mk H
      clear H
      go_wp2
      (try (go_step3; go_wp2))
      go_meet
      case rel => exact ⟨_, (true), (by first | rfl | (simp; done) | (simp [*]; done)), H', ⟨by first | omega | exact Nat.le_refl _⟩, by repeat (first | exact Drawn0.refl _ | apply Drawn0.step)⟩
    · rw [if_neg c5] at H
      have c5b0 : decide (a1 < 0) = false := decide_eq_false c5
      clear c5
      (first | rw [c5b0] | (simp only [i64_w, i32_w]; rw [c5b0]) | skip)
      by_cases c6 : a1 ≥ (a0.size : Int)
      · rw [if_pos c6] at H
        have c6b0 : decide ((a0.size : Int) ≤ a1) = true := decide_eq_true c6
        clear c6
        have H' := Aside0.mk H
        clear H
        go_wp2
        (try (go_step3; go_wp2))
        go_meet
        case rel => exact ⟨_, (true), (by first | rfl | (simp; done) | (simp [*]; done)), H', ⟨by first | omega | exact Nat.le_refl _⟩, by repeat (first | exact Drawn0.refl _ | apply Drawn0.step)⟩
      · rw [if_neg c6] at H
        have c6b0 : decide ((a0.size : Int) ≤ a1) = false := decide_eq_false c6
        clear c6
        have H' := Aside0.mk H
        clear H
        go_wp2
        (try (go_step3; go_wp2))
        go_meet
        case rel => exact ⟨_, (decide (a2 < 0)), (by first | rfl | (simp; done) | (simp [*]; done)), H', ⟨by first | omega | exact Nat.le_refl _⟩, by repeat (first | exact Drawn0.refl _ | apply Drawn0.step)⟩
  case rest =>
    clear HC4
    try clear c2
    try clear p2
    try clear p3
    try clear c5
    try clear c5b0
    try clear c6
    try clear c6b0
    obtain ⟨kq, x21_3, rfl, HA, HJ3, ⟨mc3, rfl⟩⟩ := hcut
    cases kq with
    | zero => exact absurd HA.out (by simp [octet_Text.j0])
    | succ kj3 =>
      have H := HA.out
      clear HA
      simp only [octet_Text.j0] at H
      by_cases c7 : x21_3 = true
      · subst c7
        have H1 : (some ((⟨#[]⟩ : ByteArray), false)) = some (r1, r2) := by rw [if_pos rfl] at H; exact H
        clear H
        have H := H1
        clear H1
        simp only [Option.some.injEq, Prod.mk.injEq] at H
        obtain ⟨rfl, rfl⟩ := H
        go_wp2
        (try (go_step3; go_wp2))
        go_ret2
        exact ⟨by first | rfl | (simp; done) | (simp [*]; done), by repeat (first | exact Drawn0.refl _ | apply Drawn0.step)⟩
      · replace c7 := Bool.eq_false_iff.mpr c7
        subst c7
        have H1 : (octet_Text.l0 kj3 a0 a1 a2 0 false) = some (r1, r2) := by rw [if_neg (show ¬ (false = true) by decide)] at H; exact H
        clear H
        have H := H1
        clear H1
        have H' := Aside0.mk H
        clear H
        go_wp2
        (try (go_step3; go_wp2))
        go_loopg [8, 9] kj3 (fun kq v8 v9 w' => ∃ (x8_2 : Int) (x9_2 : Bool), v8 = .int .i64 x8_2 ∧ v9 = .bool x9_2 ∧ Aside0 (octet_Text.l0 kq a0 a1 a2 x8_2 x9_2 = some (r1, r2)) ∧ Aside0 (kq ≤ kj3) ∧ Drawn0 w w')
        case atStart => exact ⟨(0), (false), (by first | rfl | (simp; done) | (simp [*]; done)), (by first | rfl | (simp; done) | (simp [*]; done)), H', ⟨Nat.le_refl _⟩, by repeat (first | exact Drawn0.refl _ | apply Drawn0.step)⟩
        case round =>
          clear H'
          try clear c2
          try clear p2
          try clear c3
          try clear p3
          try clear c5
          try clear c5b0
          try clear c6
          try clear c6b0
          try clear c7
          try clear p2
          try clear p3
          obtain ⟨x8_2, x9_2, rfl, rfl, HA, HK2, ⟨m2, rfl⟩⟩ := hrel
          cases gk with
          | zero => exact absurd HA.out (by simp [octet_Text.l0])
          | succ k2 =>
            have H := HA.out
            clear HA
            simp only [octet_Text.l0] at H
            have HC8 := Aside0.mk H
            clear H
            go_upto_region 5 with (fail)
            go_cut [32] (fun v32 wc => ∃ (kq : Nat) (x32_7 : Bool), v32 = .bool x32_7 ∧ Aside0 (octet_Text.j2 kq a0 a1 a2 x8_2 x9_2 x32_7 = some (r1, r2)) ∧ Aside0 (kq ≤ k2) ∧ Drawn0 w wc)
            case first =>
              have H := HC8.out
              clear HC8
              by_cases c9 : (wrap64 (a1 + x8_2)) < (a0.size : Int)
              · rw [if_pos c9] at H
                have c9b0 : decide ((wrap64 (a1 + x8_2)) < (a0.size : Int)) = true := decide_eq_true c9
                clear c9
                (first | rw [c9b0] | (simp only [i64_w, i32_w]; rw [c9b0]) | skip)
                have H' := Aside0.mk H
                clear H
                go_wp2
                (try (go_step3; go_wp2))
                go_meet
                case rel => exact ⟨_, (decide (x8_2 ≤ a2)), (by first | rfl | (simp; done) | (simp [*]; done)), H', ⟨by have := HJ3.out; have := HK2.out; first | omega | exact Nat.le_refl _⟩, by repeat (first | exact Drawn0.refl _ | apply Drawn0.step)⟩
              · rw [if_neg c9] at H
                have c9b0 : decide ((wrap64 (a1 + x8_2)) < (a0.size : Int)) = false := decide_eq_false c9
                clear c9
                (first | rw [c9b0] | (simp only [i64_w, i32_w]; rw [c9b0]) | skip)
                have H' := Aside0.mk H
                clear H
                go_wp2
                (try (go_step3; go_wp2))
                go_meet
                case rel => exact ⟨_, (false), (by first | rfl | (simp; done) | (simp [*]; done)), H', ⟨by have := HJ3.out; have := HK2.out; first | omega | exact Nat.le_refl _⟩, by repeat (first | exact Drawn0.refl _ | apply Drawn0.step)⟩
            case rest =>
              clear HC8
              try clear c2
              try clear p2
              try clear c3
              try clear p3
              try clear c5
              try clear c5b0
              try clear c6
              try clear c6b0
              try clear p6
              try clear c7
              try clear c9
              try clear c9b0
              try clear p2
              try clear p3
              obtain ⟨kq, x32_7, rfl, HA, HJ7, ⟨mc7, rfl⟩⟩ := hcut
              cases kq with
              | zero => exact absurd HA.out (by simp [octet_Text.j2])
              | succ kj7 =>
                have H := HA.out
                clear HA
                simp only [octet_Text.j2] at H
                by_cases c10 : x32_7 = true
                · subst c10
                  have H1 : (if 0 ≤ (wrap64 (a1 + x8_2)) then (if (wrap64 (a1 + x8_2)) < (a0.size : Int) then (if (bt a0 (wrap64 (a1 + x8_2))) = 0 then (if 0 ≤ a1 then (if a1 ≤ (wrap64 (a1 + x8_2)) then (if (wrap64 (a1 + x8_2)) ≤ (a0.size : Int) then (some (a0.extract (a1 : Int).toNat ((wrap64 (a1 + x8_2)) : Int).toNat, true)) else (none)) else (none)) else (none)) else (octet_Text.l0 kj7 a0 a1 a2 (wrap64 (x8_2 + 1)) ((bt a0 (wrap64 (a1 + x8_2))) == 0))) else (none)) else (none)) = some (r1, r2) := by rw [if_pos rfl] at H; exact H
                  clear H
                  have H := H1
                  clear H1
                  obtain ⟨ji11, hji11⟩ : ∃ j_ : Int, (wrap64 (a1 + x8_2)) = j_ := ⟨_, rfl⟩
                  replace H : (if 0 ≤ (ji11) then (if (ji11) < (a0.size : Int) then (if (bt a0 (ji11)) = 0 then (if 0 ≤ a1 then (if a1 ≤ (ji11) then (if (ji11) ≤ (a0.size : Int) then (some (a0.extract (a1 : Int).toNat ((ji11) : Int).toNat, true)) else (none)) else (none)) else (none)) else (octet_Text.l0 kj7 a0 a1 a2 (wrap64 (x8_2 + 1)) ((bt a0 (ji11)) == 0))) else (none)) else (none)) = some (r1, r2) := by first | (rw [hji11] at H; exact H) | (simp only [hji11] at H ⊢; exact H)
                  have hji11w : (IntKind.i64.wrap (a1 + x8_2)) = ji11 := (i64_w _).trans hji11
                  by_cases c12 : 0 ≤ (ji11)
                  · rw [if_pos c12] at H
                    have c12b0 : decide (0 ≤ (ji11)) = true := decide_eq_true c12
                    clear c12
                    by_cases c13 : (ji11) < (a0.size : Int)
                    · rw [if_pos c13] at H
                      have c13b0 : decide ((ji11) < (a0.size : Int)) = true := decide_eq_true c13
                      clear c13
                      by_cases c15 : (bt a0 (ji11)) = 0
                      · rw [if_pos c15] at H
                        have c15b0 : ((bt a0 (ji11)) == 0) = true := beq_iff_eq.mpr c15
                        have c15b1 : ((bt a0 (ji11)) != 0) = false := bne_eq_false_iff_eq.mpr c15
                        clear c15
                        by_cases c16 : 0 ≤ a1
                        · rw [if_pos c16] at H
                          have c16b0 := eq_true c16
                          have c16b1 : decide (0 ≤ a1) = true := decide_eq_true c16
                          clear c16
                          by_cases c17 : a1 ≤ (ji11)
                          · rw [if_pos c17] at H
                            have c17b0 := eq_true c17
                            have c17b1 : decide (a1 ≤ (ji11)) = true := decide_eq_true c17
                            clear c17
                            by_cases c18 : (ji11) ≤ (a0.size : Int)
                            · rw [if_pos c18] at H
                              have c18b0 := eq_true c18
                              have c18b1 : decide ((ji11) ≤ (a0.size : Int)) = true := decide_eq_true c18
                              clear c18
                              simp only [Option.some.injEq, Prod.mk.injEq] at H
                              obtain ⟨rfl, rfl⟩ := H
                              have p14 : 0 ≤ ((ji11) : Int) := of_decide_eq_true (by first | (with_reducible assumption) | assumption)
                              have q14 : (ji11) < (a0.size : Int) := of_decide_eq_true (by first | (with_reducible assumption) | assumption)
                              have hx14 := bt_at a0 (ji11)
                              replace p14 := eq_true p14
                              replace q14 := eq_true q14
                              go_wp2
                              (try (go_step3; go_wp2))
                              go_ret2
                              exact ⟨by first | rfl | (simp; done) | (simp only [← hji11] <;> (first | rfl | (simp; done))) | (simp [*]; done), by repeat (first | exact Drawn0.refl _ | apply Drawn0.step)⟩
                            · rw [if_neg c18] at H
                              exact absurd H (by simp)
                          · rw [if_neg c17] at H
                            exact absurd H (by simp)
                        · rw [if_neg c16] at H
                          exact absurd H (by simp)
                      · rw [if_neg c15] at H
                        have c15b0 : ((bt a0 (ji11)) == 0) = false := beq_eq_false_iff_ne.mpr c15
                        have c15b1 : ((bt a0 (ji11)) != 0) = true := bne_iff_ne.mpr c15
                        have H' := Aside0.mk H
                        clear H
                        have p14 : 0 ≤ ((ji11) : Int) := of_decide_eq_true (by first | (with_reducible assumption) | assumption)
                        have q14 : (ji11) < (a0.size : Int) := of_decide_eq_true (by first | (with_reducible assumption) | assumption)
                        have hx14 := bt_at a0 (ji11)
                        replace p14 := eq_true p14
                        replace q14 := eq_true q14
                        go_wp2
                        (try (go_step3; go_wp2))
                        go_roundg kj7
                        case measure => have := HJ3.out; have := HK2.out; have := HJ7.out; omega
                        case rel => exact ⟨(wrap64 (x8_2 + 1)), (((bt a0 (ji11)) == 0)), (by first | rfl | (simp; done) | (simp [*]; done)), (by first | rfl | (simp; done) | (simp only [← hji11] <;> (first | rfl | (simp; done))) | (simp [*]; done)), H', ⟨by have := HJ3.out; have := HK2.out; have := HJ7.out; omega⟩, by repeat (first | exact Drawn0.refl _ | apply Drawn0.step)⟩
                    · rw [if_neg c13] at H
                      exact absurd H (by simp)
                  · rw [if_neg c12] at H
                    exact absurd H (by simp)
                · replace c10 := Bool.eq_false_iff.mpr c10
                  subst c10
                  have H1 : (if x9_2 = true then (if 0 ≤ a1 then (if a1 ≤ (wrap64 (a1 + x8_2)) then (if (wrap64 (a1 + x8_2)) ≤ (a0.size : Int) then (some (a0.extract (a1 : Int).toNat ((wrap64 (a1 + x8_2)) : Int).toNat, true)) else (none)) else (none)) else (none)) else (some ((⟨#[]⟩ : ByteArray), false))) = some (r1, r2) := by rw [if_neg (show ¬ (false = true) by decide)] at H; exact H
                  clear H
                  have H := H1
                  clear H1
                  by_cases c19 : x9_2 = true
                  · subst c19
                    have H1 : (if 0 ≤ a1 then (if a1 ≤ (wrap64 (a1 + x8_2)) then (if (wrap64 (a1 + x8_2)) ≤ (a0.size : Int) then (some (a0.extract (a1 : Int).toNat ((wrap64 (a1 + x8_2)) : Int).toNat, true)) else (none)) else (none)) else (none)) = some (r1, r2) := by rw [if_pos rfl] at H; exact H
                    clear H
                    have H := H1
                    clear H1
                    by_cases c20 : 0 ≤ a1
                    · rw [if_pos c20] at H
                      have c20b0 := eq_true c20
                      have c20b1 : decide (0 ≤ a1) = true := decide_eq_true c20
                      clear c20
                      by_cases c21 : a1 ≤ (wrap64 (a1 + x8_2))
                      · rw [if_pos c21] at H
                        have c21b0 := eq_true c21
                        have c21b1 : decide (a1 ≤ (wrap64 (a1 + x8_2))) = true := decide_eq_true c21
                        by_cases c22 : (wrap64 (a1 + x8_2)) ≤ (a0.size : Int)
                        · rw [if_pos c22] at H
                          have c22b0 := eq_true c22
                          have c22b1 : decide ((wrap64 (a1 + x8_2)) ≤ (a0.size : Int)) = true := decide_eq_true c22
                          simp only [Option.some.injEq, Prod.mk.injEq] at H
                          obtain ⟨rfl, rfl⟩ := H
                          go_wp2
                          (try (go_step3; go_wp2))
                          go_ret2
                          exact ⟨by first | rfl | (simp; done) | (simp [*]; done), by repeat (first | exact Drawn0.refl _ | apply Drawn0.step)⟩
                        · rw [if_neg c22] at H
                          exact absurd H (by simp)
                      · rw [if_neg c21] at H
                        exact absurd H (by simp)
                    · rw [if_neg c20] at H
                      exact absurd H (by simp)
                  · replace c19 := Bool.eq_false_iff.mpr c19
                    subst c19
                    have H1 : (some ((⟨#[]⟩ : ByteArray), false)) = some (r1, r2) := by rw [if_neg (show ¬ (false = true) by decide)] at H; exact H
                    clear H
                    have H := H1
                    clear H1
                    simp only [Option.some.injEq, Prod.mk.injEq] at H
                    obtain ⟨rfl, rfl⟩ := H
                    go_wp2
                    (try (go_step3; go_wp2))
                    go_ret2
                    exact ⟨by first | rfl | (simp; done) | (simp [*]; done), by repeat (first | exact Drawn0.refl _ | apply Drawn0.step)⟩

/-! ### strings_Repeat: function 29 -/
/-- So many copies of a text, one behind the other. -/
def repeatB (s : ByteArray) (c : Nat) : ByteArray := ⟨(Lib.repeatL s.data.toList c).toArray⟩
def strings_Repeat.f (a0 : ByteArray) (a1 : Int) : Option (ByteArray) :=
  if 0 ≤ a1 then (if a1 ≤ 9223372036854775807 then (if a0.size * a1.toNat ≤ 140737488355328 then (some (repeatB a0 a1.toNat)) else (none)) else (none)) else (none)
theorem strings_Repeat.calls (a0 : ByteArray) (a1 : Int) (r : ByteArray) (w : World) (h : strings_Repeat.f a0 a1 = some r) :
    Calls Try.prog 29 #[.string a0, .int .i64 a1] w fun e w' => e = .returned (.string r) ∧ Below w.heap.size w w' := by
  unfold strings_Repeat.f at h
  by_cases h0 : 0 ≤ a1
  · rw [if_pos h0] at h
    by_cases h1 : a1 ≤ 9223372036854775807
    · rw [if_pos h1] at h
      by_cases h2 : a0.size * a1.toNat ≤ 140737488355328
      · rw [if_pos h2] at h
        obtain rfl := Option.some.inj h
        obtain ⟨c, rfl⟩ := Int.eq_ofNat_of_zero_le h0
        rw [Int.toNat_natCast] at h2 ⊢
        exact Try.strings_Repeat a0 c w (by omega) h2
      · rw [if_neg h2] at h; cases h
    · rw [if_neg h1] at h; cases h
  · rw [if_neg h0] at h; cases h

/-! ### octet_Fill: function 22 -/
def octet_Fill.f (a0 : ByteArray) (a1 : Int) : Option (ByteArray) := if (a0.size : Int) ≥ (mx a1 0) then (if 0 ≤ (mx a1 0) then (if (mx a1 0) ≤ (a0.size : Int) then (some (a0.extract 0 ((mx a1 0) : Int).toNat)) else (none)) else (none)) else ((strings_Repeat.f (⟨#[0]⟩ : ByteArray) (wrap64 ((mx a1 0) - (a0.size : Int)))).bind fun t159 => (if a0.size + t159.size ≤ 9223372036854775807 then (some (a0 ++ t159)) else (none)))
set_option maxHeartbeats 8000000 in
set_option maxRecDepth 100000 in
theorem octet_Fill.calls (a0 : ByteArray) (a1 : Int) (r : ByteArray) (w : World) (h : octet_Fill.f a0 a1 = some r) :
    Calls Try.prog 22 #[.string a0, .int .i64 a1] w fun e w' => e = .returned (.string r) ∧ Below w.heap.size w w' := by
  have HB := Aside0.mk (Below.refl w.heap.size w)
  have H : (if (a0.size : Int) ≥ (mx a1 0) then (if 0 ≤ (mx a1 0) then (if (mx a1 0) ≤ (a0.size : Int) then (some (a0.extract 0 ((mx a1 0) : Int).toNat)) else (none)) else (none)) else ((strings_Repeat.f (⟨#[0]⟩ : ByteArray) (wrap64 ((mx a1 0) - (a0.size : Int)))).bind fun t159 => (if a0.size + t159.size ≤ 9223372036854775807 then (some (a0 ++ t159)) else (none)))) = some r := h
  clear h
  obtain ⟨ji3, hji3⟩ : ∃ j_ : Int, (mx a1 0) = j_ := ⟨_, rfl⟩
  replace H : (if (a0.size : Int) ≥ (ji3) then (if 0 ≤ (ji3) then (if (ji3) ≤ (a0.size : Int) then (some (a0.extract 0 ((ji3) : Int).toNat)) else (none)) else (none)) else ((strings_Repeat.f (⟨#[0]⟩ : ByteArray) (wrap64 ((ji3) - (a0.size : Int)))).bind fun t159 => (if a0.size + t159.size ≤ 9223372036854775807 then (some (a0 ++ t159)) else (none)))) = some r := by first | (rw [hji3] at H; exact H) | (simp only [hji3] at H ⊢; exact H)
  (try (have hji3l : 0 ≤ ji3 := by (rw [← hji3]; unfold mx; (repeat' split) <;> omega)))
  (try (have hji3m : 0 ≤ ji3 := by omega))
  have hji3_ : (if a1 < 0 then 0 else a1) = ji3 := hji3
  by_cases c4 : (a0.size : Int) ≥ (ji3)
  · rw [if_pos c4] at H
    have c4b0 : decide ((ji3) ≤ (a0.size : Int)) = true := decide_eq_true c4
    clear c4
    by_cases c5 : 0 ≤ (ji3)
    · rw [if_pos c5] at H
      have c5b0 := eq_true c5
      have c5b1 : decide (0 ≤ (ji3)) = true := decide_eq_true c5
      clear c5
      by_cases c6 : (ji3) ≤ (a0.size : Int)
      · rw [if_pos c6] at H
        have c6b0 := eq_true c6
        have c6b1 : decide ((ji3) ≤ (a0.size : Int)) = true := decide_eq_true c6
        clear c6
        obtain rfl := Option.some.inj H
        go_enter Try.func22, Try.ntmps22
        go_wp2
        go_ret
        exact ⟨by first | rfl | (simp [errW_none, errW_some] <;> rfl) | (simp only [← hji3]; first | rfl | (simp [errW_none, errW_some] <;> rfl)) | (simp [*, errW_none, errW_some] <;> rfl), by repeat (first | (with_reducible first | exact HB.out | apply below_alloc | apply pw_below_drewN | apply below_drew1) | exact HB.out)⟩
      · rw [if_neg c6] at H
        exact absurd H (by simp)
    · rw [if_neg c5] at H
      exact absurd H (by simp)
  · rw [if_neg c4] at H
    have c4b0 : decide ((ji3) ≤ (a0.size : Int)) = false := decide_eq_false c4
    clear c4
    replace H := Option.bind_eq_some_iff.mp H
    obtain ⟨t159, A70, H⟩ := H
    replace H : (if a0.size + t159.size ≤ 9223372036854775807 then (some (a0 ++ t159)) else (none)) = some r := H
    have A7 := Aside0.mk A70
    clear A70
    by_cases c8 : a0.size + t159.size ≤ 9223372036854775807
    · rw [if_pos c8] at H
      have c8b0 := eq_true c8
      have c8b1 : decide (a0.size + t159.size ≤ 9223372036854775807) = true := decide_eq_true c8
      try have c8b2 : (9223372036854775807 < a0.size + t159.size) = False := eq_false (Nat.not_lt.2 c8)
      clear c8
      obtain rfl := Option.some.inj H
      go_enter Try.func22, Try.ntmps22
      go_wp2_with (first | ((with_reducible refine gate_callee (f := 29) rfl ?_); refine goesL_ (some 19) rfl rfl Try.func29 (by kernel_rfl) rfl #[.string (⟨#[0]⟩ : ByteArray), .int .i64 (wrap64 ((ji3) - (a0.size : Int)))] rfl (by (try simp only [List.map_toArray, List.map_cons, List.map_nil]); first | done | (simp only [hji3]; rfl) | rfl | (simp only [List.length_drop, List.length_take]; rfl)) ?_; (with_reducible refine (strings_Repeat.calls (⟨#[0]⟩ : ByteArray) (wrap64 ((ji3) - (a0.size : Int))) t159 _ A7.out).mono ?_); rintro e w9 ⟨rfl, hb⟩; refine ⟨_, rfl, ?_⟩; have n0_ := Aside0.mk (below_step (by repeat (first | (with_reducible first | exact HB.out | apply below_alloc | apply pw_below_drewN | apply below_drew1) | exact HB.out)) hb); clear HB; have HB := n0_; clear n0_; (try clear hb); (try clear hb2); (try clear hk); (try clear hi)))
      go_ret
      exact ⟨by first | rfl | (simp [errW_none, errW_some] <;> rfl) | (simp only [← hji3]; first | rfl | (simp [errW_none, errW_some] <;> rfl)) | (simp [*, errW_none, errW_some] <;> rfl), by repeat (first | (with_reducible first | exact HB.out | apply below_alloc | apply pw_below_drewN | apply below_drew1) | exact HB.out)⟩
    · rw [if_neg c8] at H
      exact absurd H (by simp)

/-! ### flyleaflaw01_OctetTexts: function 8 -/
def flyleaflaw01_OctetTexts.l0 : Nat → ByteArray → Bool → ByteArray → ByteArray → Int → Option (Bool)
  | 0, _, _, _, _, _ => none
  | k + 1, x2, x7, x8, x9, x10 => if x10 > 0 then ((some (([(wrap64 (97 + (Int.tmod x10 8))) % 256] : List Int) : List Int)).bind fun y162 => (if x9.size + (strOfNums y162).size ≤ 9223372036854775807 then (flyleaflaw01_OctetTexts.l0 k x2 x7 x8 (x9 ++ (strOfNums y162)) (wrap64 (Int.tdiv x10 8))) else (none))) else (if x8.size + x9.size ≤ 9223372036854775807 then (if x8.size + x9.size + 1 ≤ 9223372036854775807 then ((flyleaflaw01_short.f x2 20).bind fun t165 => (if x8.size + x9.size + 1 + t165.size ≤ 9223372036854775807 then ((octet_Text.f k (((x8 ++ x9) ++ (⟨#[0]⟩ : ByteArray)) ++ t165) (x8.size : Int) 20).bind fun bt166 => ((octet_Text.f k (((x8 ++ x9) ++ (⟨#[0]⟩ : ByteArray)) ++ t165) (x8.size : Int) (x9.size : Int)).bind fun bt168 => ((octet_Text.f k (((x8 ++ x9) ++ (⟨#[0]⟩ : ByteArray)) ++ t165) (x8.size : Int) (wrap64 ((x9.size : Int) - 1))).bind fun bt170 => ((octet_Text.f k (((x8 ++ x9) ++ (⟨#[0]⟩ : ByteArray)) ++ t165) ((x8.size : Int) + (x9.size : Int) + 1 + (t165.size : Int)) 20).bind fun bt172 => (if x7 = true then (if bt166.1.toList = x9.toList then (if bt166.2 = true then (if bt168.1.toList = x9.toList then (if bt168.2 = true then (if bt170.2 = true then (some false) else (if bt172.2 = true then (some false) else ((octet_Fill.f x9 (wrap64 ((x9.size : Int) + 1))).bind fun t174 => (if x9.size + 1 ≤ 9223372036854775807 then (some (t174.toList == (x9 ++ (⟨#[0]⟩ : ByteArray)).toList)) else (none))))) else (some false)) else (some false)) else (some false)) else (some false)) else (some false)))))) else (none))) else (none)) else (none))
def flyleaflaw01_OctetTexts.f (k : Nat) (a0 : ByteArray) (a1 : Int) (a2 : ByteArray) : Option (Bool) := (flyleaflaw01_awake.f k).bind fun t160 => ((flyleaflaw01_short.f a0 20).bind fun t161 => (flyleaflaw01_OctetTexts.l0 k a2 t160 t161 (⟨#[]⟩ : ByteArray) (Go.bits .and .i64 a1 4095)))
theorem flyleaflaw01_OctetTexts.mono_l : ∀ k, (∀ y0 y1 y2 y3 y4, LeO (flyleaflaw01_OctetTexts.l0 k y0 y1 y2 y3 y4) (flyleaflaw01_OctetTexts.l0 (k + 1) y0 y1 y2 y3 y4))
  | 0 => fun _ _ _ _ _ r h => by simp [flyleaflaw01_OctetTexts.l0] at h
  | k + 1 => by
    have ih0 := flyleaflaw01_OctetTexts.mono_l k
    · intro y0 y1 y2 y3 y4
      unfold flyleaflaw01_OctetTexts.l0
      repeat' first
      | (with_reducible exact ih0 _ _ _ _ _)
      | (with_reducible exact flyleaflaw01_awake.mono _)
      | (with_reducible exact octet_Text.mono _ _ _ _)
      | (with_reducible exact LeO.refl _)
      | (with_reducible exact LeO.none _)
      | (with_reducible refine LeO.ite ?_ ?_)
      | (with_reducible refine LeO.bind ?_ (fun _ => ?_))
      | exact ih0 _ _ _ _ _
      | exact flyleaflaw01_awake.mono _
      | exact octet_Text.mono _ _ _ _
      | exact LeO.none _
      | refine LeO.ite ?_ ?_
      | refine LeO.bind ?_ (fun _ => ?_)
theorem flyleaflaw01_OctetTexts.mono : ∀ a0 a1 a2 k, LeO (flyleaflaw01_OctetTexts.f k a0 a1 a2) (flyleaflaw01_OctetTexts.f (k + 1) a0 a1 a2) := by
  intro a0 a1 a2 k
  have ih0 := flyleaflaw01_OctetTexts.mono_l k
  unfold flyleaflaw01_OctetTexts.f
  repeat' first
      | (with_reducible exact ih0 _ _ _ _ _)
      | (with_reducible exact flyleaflaw01_awake.mono _)
      | (with_reducible exact octet_Text.mono _ _ _ _)
      | (with_reducible exact LeO.refl _)
      | (with_reducible exact LeO.none _)
      | (with_reducible refine LeO.ite ?_ ?_)
      | (with_reducible refine LeO.bind ?_ (fun _ => ?_))
      | exact ih0 _ _ _ _ _
      | exact flyleaflaw01_awake.mono _
      | exact octet_Text.mono _ _ _ _
      | exact LeO.none _
      | refine LeO.ite ?_ ?_
      | refine LeO.bind ?_ (fun _ => ?_)
set_option maxHeartbeats 8000000 in
set_option maxRecDepth 100000 in
theorem flyleaflaw01_OctetTexts.calls (k : Nat) (a0 : ByteArray) (a1 : Int) (a2 : ByteArray) (w : World) (h : flyleaflaw01_OctetTexts.f k a0 a1 a2 = some true) :
    Calls Try.prog 8 #[.string a0, .int .i64 a1, .string a2] w fun e w' => e = .returned (.bool true) ∧ Below w.heap.size w w' := by
  have HB := Aside0.mk (Below.refl w.heap.size w)
  have H : ((flyleaflaw01_awake.f k).bind fun t160 => ((flyleaflaw01_short.f a0 20).bind fun t161 => (flyleaflaw01_OctetTexts.l0 k a2 t160 t161 (⟨#[]⟩ : ByteArray) (Go.bits .and .i64 a1 4095)))) = some true := h
  clear h
  replace H := Option.bind_eq_some_iff.mp H
  obtain ⟨t160, A40, H⟩ := H
  replace H : ((flyleaflaw01_short.f a0 20).bind fun t161 => (flyleaflaw01_OctetTexts.l0 k a2 t160 t161 (⟨#[]⟩ : ByteArray) (Go.bits .and .i64 a1 4095))) = some true := H
  have A4 := Aside0.mk A40
  clear A40
  replace H := Option.bind_eq_some_iff.mp H
  obtain ⟨t161, A50, H⟩ := H
  replace H : (flyleaflaw01_OctetTexts.l0 k a2 t160 t161 (⟨#[]⟩ : ByteArray) (Go.bits .and .i64 a1 4095)) = some true := H
  have A5 := Aside0.mk A50
  clear A50
  have H' := Aside0.mk H
  clear H
  go_enter Try.func8, Try.ntmps8
  go_wp2_with (first | ((with_reducible refine gate_callee (f := 10) rfl ?_); refine goesL_ (some 20) rfl rfl Try.func10 (by kernel_rfl) rfl #[] rfl (by (try simp only [List.map_toArray, List.map_cons, List.map_nil]); first | done | rfl | (simp only [List.length_drop, List.length_take]; rfl) | (simp only [ByteArray.size_append, Int.natCast_add]; rfl)) ?_; (with_reducible refine (flyleaflaw01_awake.calls k  t160 _ A4.out).mono ?_); rintro e w6 ⟨rfl, hb⟩; refine ⟨_, rfl, ?_⟩; have n0_ := Aside0.mk (below_step (by repeat (first | (with_reducible first | exact HB.out | apply below_alloc | apply pw_below_drewN | apply below_drew1) | exact HB.out)) hb); clear HB; have HB := n0_; clear n0_; (try clear hb); (try clear hb2); (try clear hk); (try clear hi)) | ((with_reducible refine gate_callee (f := 14) rfl ?_); refine goesL_ (some 22) rfl rfl Try.func14 (by kernel_rfl) rfl #[.string a0, .int .i64 20] rfl (by (try simp only [List.map_toArray, List.map_cons, List.map_nil]); first | done | rfl | (simp only [List.length_drop, List.length_take]; rfl) | (simp only [ByteArray.size_append, Int.natCast_add]; rfl)) ?_; (with_reducible refine (flyleaflaw01_short.calls a0 20 t161 _ A5.out).mono ?_); rintro e w' ⟨rfl, ⟨nd, rfl⟩⟩; refine ⟨_, rfl, ?_⟩))
  go_loopg [9, 10] k (fun kq v9 v10 w' => ∃ (x9_1 : ByteArray) (x10_1 : Int), v9 = .string x9_1 ∧ v10 = .int .i64 x10_1 ∧ Aside0 (flyleaflaw01_OctetTexts.l0 kq a2 t160 t161 x9_1 x10_1 = some true) ∧ Aside0 (kq ≤ k) ∧ Aside0 (Below w.heap.size w w'))
  case atStart => exact ⟨((⟨#[]⟩ : ByteArray)), (Go.bits .and .i64 a1 4095), (by first | rfl | (simp; done) | (simp [*]; done)), (by first | rfl | (simp; done) | (simp [*]; done)), H', ⟨Nat.le_refl _⟩, ⟨by repeat (first | (with_reducible first | exact HB.out | apply below_alloc | apply pw_below_drewN | apply below_drew1) | exact HB.out)⟩⟩
  case round =>
    clear H'
    try clear c1
    try clear p2
    obtain ⟨x9_1, x10_1, rfl, rfl, HA, HK1, HB⟩ := hrel
    cases gk with
    | zero => exact absurd HA.out (by simp [flyleaflaw01_OctetTexts.l0])
    | succ k1 =>
      have H := HA.out
      clear HA
      simp only [flyleaflaw01_OctetTexts.l0] at H
      by_cases c7 : x10_1 > 0
      · rw [if_pos c7] at H
        have c7b0 : decide (0 < x10_1) = true := decide_eq_true c7
        clear c7
        obtain ⟨y162, hy162⟩ : ∃ y_ : List Int, y_ = (([(wrap64 (97 + (Int.tmod x10_1 8))) % 256] : List Int)) := ⟨_, rfl⟩
        replace H : (if x9_1.size + (strOfNums y162).size ≤ 9223372036854775807 then (flyleaflaw01_OctetTexts.l0 k1 a2 t160 t161 (x9_1 ++ (strOfNums y162)) (wrap64 (Int.tdiv x10_1 8))) else (none)) = some true := by first | (rw [hy162]; with_reducible exact H) | (have H2_ := (Option.bind_some _ _).symm.trans H; rw [hy162]; with_reducible exact H2_) | (have H2_ := (Option.bind_some _ _).symm.trans H; with_reducible exact H2_) | with_reducible exact H | (rw [hy162]; exact H) | exact H
        have Ny162 := Aside0.mk hy162
        clear hy162
        by_cases c8 : x9_1.size + (strOfNums y162).size ≤ 9223372036854775807
        · rw [if_pos c8] at H
          have c8b0 := eq_true c8
          have c8b1 : decide (x9_1.size + (strOfNums y162).size ≤ 9223372036854775807) = true := decide_eq_true c8
          try have c8b2 : (9223372036854775807 < x9_1.size + (strOfNums y162).size) = False := eq_false (Nat.not_lt.2 c8)
          clear c8
          have H' := Aside0.mk H
          clear H
          go_wp2_with (first | ((with_reducible refine gate_dst (N := 34) rfl ?_); (try (refine gate_guard (by rfl) ?_; dsimp only)); refine Kd.R_lit (Kd.int .u8) _ 5 ?hg (N := 34) ?hd (xs := ([(wrap64 (97 + (Int.tmod x10_1 8))) % 256] : List Int)) (inner := [.int .u8 ((wrap64 (97 + (Int.tmod x10_1 8))) % 256)]) (ok := fun _ => True) (okp := fun _ => True) ?hr ?hp (fun _ hk => hk) trivial (Below.refl _ _) (Nat.le_refl _) (by simp) ?_; (case hd => rfl); (case hg => rfl); (case hr => first | (go_simp; done) | (go_simp; rfl)); (case hp => exact (Reps.one (show Kd.M (Kd.int .u8) _ _ _ ((wrap64 (97 + (Int.tmod x10_1 8))) % 256) [.int .u8 ((wrap64 (97 + (Int.tmod x10_1 8))) % 256)] from rfl) (Reps.none _ _))); intro v163 w9 ho10 hb hg_ hnew_; clear hg_ hnew_; (first | rw [← Ny162.out] at ho10 | (simp only [Int.reduceToNat] at ho10; rw [← Ny162.out] at ho10)); have n0_ := Aside0.mk (Kd.R_lower ho10 (below_size (by repeat (first | (with_reducible first | exact HB.out | apply below_alloc | apply pw_below_drewN | apply below_drew1) | exact HB.out)))); have n1_ := Aside0.mk (below_step (by repeat (first | (with_reducible first | exact HB.out | apply below_alloc | apply pw_below_drewN | apply below_drew1) | exact HB.out)) hb); clear HB; have HO164 := n0_; have HB := n1_; clear n0_ n1_; clear hb ho10; have hcv11 := own_string (P := Try.prog) Try.underlying41 Try.underlying5 Try.underlying9 (Kd.own_of_R HO164.out)))
          go_roundg k1
          case measure => have := HK1.out; omega
          case rel => exact ⟨(x9_1 ++ (strOfNums y162)), (wrap64 (Int.tdiv x10_1 8)), (by first | rfl | (simp; done) | (simp [*]; done)), (by first | rfl | (simp; done) | (simp [*]; done)), H', ⟨by have := HK1.out; omega⟩, ⟨by repeat (first | (with_reducible first | exact HB.out | apply below_alloc | apply pw_below_drewN | apply below_drew1) | exact HB.out)⟩⟩
        · rw [if_neg c8] at H
          exact absurd H (by simp)
      · rw [if_neg c7] at H
        have c7b0 : decide (0 < x10_1) = false := decide_eq_false c7
        clear c7
        by_cases c12 : t161.size + x9_1.size ≤ 9223372036854775807
        · rw [if_pos c12] at H
          have c12b0 := eq_true c12
          have c12b1 : decide (t161.size + x9_1.size ≤ 9223372036854775807) = true := decide_eq_true c12
          try have c12b2 : (9223372036854775807 < t161.size + x9_1.size) = False := eq_false (Nat.not_lt.2 c12)
          clear c12
          by_cases c13 : t161.size + x9_1.size + 1 ≤ 9223372036854775807
          · rw [if_pos c13] at H
            have c13b0 := eq_true c13
            have c13b1 : decide (t161.size + x9_1.size + 1 ≤ 9223372036854775807) = true := decide_eq_true c13
            try have c13b2 : (9223372036854775807 < t161.size + x9_1.size + 1) = False := eq_false (Nat.not_lt.2 c13)
            clear c13
            replace H := Option.bind_eq_some_iff.mp H
            obtain ⟨t165, A140, H⟩ := H
            replace H : (if t161.size + x9_1.size + 1 + t165.size ≤ 9223372036854775807 then ((octet_Text.f k1 (((t161 ++ x9_1) ++ (⟨#[0]⟩ : ByteArray)) ++ t165) (t161.size : Int) 20).bind fun bt166 => ((octet_Text.f k1 (((t161 ++ x9_1) ++ (⟨#[0]⟩ : ByteArray)) ++ t165) (t161.size : Int) (x9_1.size : Int)).bind fun bt168 => ((octet_Text.f k1 (((t161 ++ x9_1) ++ (⟨#[0]⟩ : ByteArray)) ++ t165) (t161.size : Int) (wrap64 ((x9_1.size : Int) - 1))).bind fun bt170 => ((octet_Text.f k1 (((t161 ++ x9_1) ++ (⟨#[0]⟩ : ByteArray)) ++ t165) ((t161.size : Int) + (x9_1.size : Int) + 1 + (t165.size : Int)) 20).bind fun bt172 => (if t160 = true then (if bt166.1.toList = x9_1.toList then (if bt166.2 = true then (if bt168.1.toList = x9_1.toList then (if bt168.2 = true then (if bt170.2 = true then (some false) else (if bt172.2 = true then (some false) else ((octet_Fill.f x9_1 (wrap64 ((x9_1.size : Int) + 1))).bind fun t174 => (if x9_1.size + 1 ≤ 9223372036854775807 then (some (t174.toList == (x9_1 ++ (⟨#[0]⟩ : ByteArray)).toList)) else (none))))) else (some false)) else (some false)) else (some false)) else (some false)) else (some false)))))) else (none)) = some true := H
            have A14 := Aside0.mk A140
            clear A140
            by_cases c15 : t161.size + x9_1.size + 1 + t165.size ≤ 9223372036854775807
            · rw [if_pos c15] at H
              have c15b0 := eq_true c15
              have c15b1 : decide (t161.size + x9_1.size + 1 + t165.size ≤ 9223372036854775807) = true := decide_eq_true c15
              try have c15b2 : (9223372036854775807 < t161.size + x9_1.size + 1 + t165.size) = False := eq_false (Nat.not_lt.2 c15)
              clear c15
              replace H := Option.bind_eq_some_iff.mp H
              obtain ⟨⟨t166, t167⟩, A160, H⟩ := H
              replace H : ((octet_Text.f k1 (((t161 ++ x9_1) ++ (⟨#[0]⟩ : ByteArray)) ++ t165) (t161.size : Int) (x9_1.size : Int)).bind fun bt168 => ((octet_Text.f k1 (((t161 ++ x9_1) ++ (⟨#[0]⟩ : ByteArray)) ++ t165) (t161.size : Int) (wrap64 ((x9_1.size : Int) - 1))).bind fun bt170 => ((octet_Text.f k1 (((t161 ++ x9_1) ++ (⟨#[0]⟩ : ByteArray)) ++ t165) ((t161.size : Int) + (x9_1.size : Int) + 1 + (t165.size : Int)) 20).bind fun bt172 => (if t160 = true then (if t166.toList = x9_1.toList then (if t167 = true then (if bt168.1.toList = x9_1.toList then (if bt168.2 = true then (if bt170.2 = true then (some false) else (if bt172.2 = true then (some false) else ((octet_Fill.f x9_1 (wrap64 ((x9_1.size : Int) + 1))).bind fun t174 => (if x9_1.size + 1 ≤ 9223372036854775807 then (some (t174.toList == (x9_1 ++ (⟨#[0]⟩ : ByteArray)).toList)) else (none))))) else (some false)) else (some false)) else (some false)) else (some false)) else (some false))))) = some true := H
              have A16 := Aside0.mk A160
              clear A160
              replace H := Option.bind_eq_some_iff.mp H
              obtain ⟨⟨t168, t169⟩, A170, H⟩ := H
              replace H : ((octet_Text.f k1 (((t161 ++ x9_1) ++ (⟨#[0]⟩ : ByteArray)) ++ t165) (t161.size : Int) (wrap64 ((x9_1.size : Int) - 1))).bind fun bt170 => ((octet_Text.f k1 (((t161 ++ x9_1) ++ (⟨#[0]⟩ : ByteArray)) ++ t165) ((t161.size : Int) + (x9_1.size : Int) + 1 + (t165.size : Int)) 20).bind fun bt172 => (if t160 = true then (if t166.toList = x9_1.toList then (if t167 = true then (if t168.toList = x9_1.toList then (if t169 = true then (if bt170.2 = true then (some false) else (if bt172.2 = true then (some false) else ((octet_Fill.f x9_1 (wrap64 ((x9_1.size : Int) + 1))).bind fun t174 => (if x9_1.size + 1 ≤ 9223372036854775807 then (some (t174.toList == (x9_1 ++ (⟨#[0]⟩ : ByteArray)).toList)) else (none))))) else (some false)) else (some false)) else (some false)) else (some false)) else (some false)))) = some true := H
              have A17 := Aside0.mk A170
              clear A170
              replace H := Option.bind_eq_some_iff.mp H
              obtain ⟨⟨t170, t171⟩, A180, H⟩ := H
              replace H : ((octet_Text.f k1 (((t161 ++ x9_1) ++ (⟨#[0]⟩ : ByteArray)) ++ t165) ((t161.size : Int) + (x9_1.size : Int) + 1 + (t165.size : Int)) 20).bind fun bt172 => (if t160 = true then (if t166.toList = x9_1.toList then (if t167 = true then (if t168.toList = x9_1.toList then (if t169 = true then (if t171 = true then (some false) else (if bt172.2 = true then (some false) else ((octet_Fill.f x9_1 (wrap64 ((x9_1.size : Int) + 1))).bind fun t174 => (if x9_1.size + 1 ≤ 9223372036854775807 then (some (t174.toList == (x9_1 ++ (⟨#[0]⟩ : ByteArray)).toList)) else (none))))) else (some false)) else (some false)) else (some false)) else (some false)) else (some false))) = some true := H
              have A18 := Aside0.mk A180
              clear A180
              replace H := Option.bind_eq_some_iff.mp H
              obtain ⟨⟨t172, t173⟩, A190, H⟩ := H
              replace H : (if t160 = true then (if t166.toList = x9_1.toList then (if t167 = true then (if t168.toList = x9_1.toList then (if t169 = true then (if t171 = true then (some false) else (if t173 = true then (some false) else ((octet_Fill.f x9_1 (wrap64 ((x9_1.size : Int) + 1))).bind fun t174 => (if x9_1.size + 1 ≤ 9223372036854775807 then (some (t174.toList == (x9_1 ++ (⟨#[0]⟩ : ByteArray)).toList)) else (none))))) else (some false)) else (some false)) else (some false)) else (some false)) else (some false)) = some true := H
              have A19 := Aside0.mk A190
              clear A190
              by_cases c20 : t160 = true
              · subst c20
                have H1 : (if t166.toList = x9_1.toList then (if t167 = true then (if t168.toList = x9_1.toList then (if t169 = true then (if t171 = true then (some false) else (if t173 = true then (some false) else ((octet_Fill.f x9_1 (wrap64 ((x9_1.size : Int) + 1))).bind fun t174 => (if x9_1.size + 1 ≤ 9223372036854775807 then (some (t174.toList == (x9_1 ++ (⟨#[0]⟩ : ByteArray)).toList)) else (none))))) else (some false)) else (some false)) else (some false)) else (some false)) = some true := by rw [if_pos rfl] at H; exact H
                clear H
                have H := H1
                clear H1
                by_cases c21 : t166.toList = x9_1.toList
                · rw [if_pos c21] at H
                  have c21b0 : (t166.toList == x9_1.toList) = true := beq_iff_eq.mpr c21
                  have c21b1 : (t166.toList != x9_1.toList) = false := bne_eq_false_iff_eq.mpr c21
                  clear c21
                  by_cases c22 : t167 = true
                  · subst c22
                    have H1 : (if t168.toList = x9_1.toList then (if t169 = true then (if t171 = true then (some false) else (if t173 = true then (some false) else ((octet_Fill.f x9_1 (wrap64 ((x9_1.size : Int) + 1))).bind fun t174 => (if x9_1.size + 1 ≤ 9223372036854775807 then (some (t174.toList == (x9_1 ++ (⟨#[0]⟩ : ByteArray)).toList)) else (none))))) else (some false)) else (some false)) = some true := by rw [if_pos rfl] at H; exact H
                    clear H
                    have H := H1
                    clear H1
                    by_cases c23 : t168.toList = x9_1.toList
                    · rw [if_pos c23] at H
                      have c23b0 : (t168.toList == x9_1.toList) = true := beq_iff_eq.mpr c23
                      have c23b1 : (t168.toList != x9_1.toList) = false := bne_eq_false_iff_eq.mpr c23
                      clear c23
                      by_cases c24 : t169 = true
                      · subst c24
                        have H1 : (if t171 = true then (some false) else (if t173 = true then (some false) else ((octet_Fill.f x9_1 (wrap64 ((x9_1.size : Int) + 1))).bind fun t174 => (if x9_1.size + 1 ≤ 9223372036854775807 then (some (t174.toList == (x9_1 ++ (⟨#[0]⟩ : ByteArray)).toList)) else (none))))) = some true := by rw [if_pos rfl] at H; exact H
                        clear H
                        have H := H1
                        clear H1
                        by_cases c25 : t171 = true
                        · subst c25
                          have H1 : (some false) = some true := by rw [if_pos rfl] at H; exact H
                          clear H
                          have H := H1
                          clear H1
                          exact absurd H (by simp)
                        · replace c25 := Bool.eq_false_iff.mpr c25
                          subst c25
                          have H1 : (if t173 = true then (some false) else ((octet_Fill.f x9_1 (wrap64 ((x9_1.size : Int) + 1))).bind fun t174 => (if x9_1.size + 1 ≤ 9223372036854775807 then (some (t174.toList == (x9_1 ++ (⟨#[0]⟩ : ByteArray)).toList)) else (none)))) = some true := by rw [if_neg (show ¬ (false = true) by decide)] at H; exact H
                          clear H
                          have H := H1
                          clear H1
                          by_cases c26 : t173 = true
                          · subst c26
                            have H1 : (some false) = some true := by rw [if_pos rfl] at H; exact H
                            clear H
                            have H := H1
                            clear H1
                            exact absurd H (by simp)
                          · replace c26 := Bool.eq_false_iff.mpr c26
                            subst c26
                            have H1 : ((octet_Fill.f x9_1 (wrap64 ((x9_1.size : Int) + 1))).bind fun t174 => (if x9_1.size + 1 ≤ 9223372036854775807 then (some (t174.toList == (x9_1 ++ (⟨#[0]⟩ : ByteArray)).toList)) else (none))) = some true := by rw [if_neg (show ¬ (false = true) by decide)] at H; exact H
                            clear H
                            have H := H1
                            clear H1
                            replace H := Option.bind_eq_some_iff.mp H
                            obtain ⟨t174, A270, H⟩ := H
                            replace H : (if x9_1.size + 1 ≤ 9223372036854775807 then (some (t174.toList == (x9_1 ++ (⟨#[0]⟩ : ByteArray)).toList)) else (none)) = some true := H
                            have A27 := Aside0.mk A270
                            clear A270
                            by_cases c28 : x9_1.size + 1 ≤ 9223372036854775807
                            · rw [if_pos c28] at H
                              have c28b0 := eq_true c28
                              have c28b1 : decide (x9_1.size + 1 ≤ 9223372036854775807) = true := decide_eq_true c28
                              try have c28b2 : (9223372036854775807 < x9_1.size + 1) = False := eq_false (Nat.not_lt.2 c28)
                              clear c28
                              have HR_ := Aside0.mk (Option.some.inj H)
                              clear H
                              go_wp2_with (first | ((with_reducible refine gate_callee (f := 14) rfl ?_); refine goesL_ (some 42) rfl rfl Try.func14 (by kernel_rfl) rfl #[.string a2, .int .i64 20] rfl (by (try simp only [List.map_toArray, List.map_cons, List.map_nil]); first | done | rfl | (simp only [List.length_drop, List.length_take]; rfl) | (simp only [ByteArray.size_append, Int.natCast_add]; rfl)) ?_; (with_reducible refine (flyleaflaw01_short.calls a2 20 t165 _ A14.out).mono ?_); rintro e w' ⟨rfl, ⟨nd, rfl⟩⟩; refine ⟨_, rfl, ?_⟩) | ((with_reducible refine gate_callee (f := 21) rfl ?_); refine goesL_ (some 48) rfl rfl Try.func21 (by kernel_rfl) rfl #[.string (((t161 ++ x9_1) ++ (⟨#[0]⟩ : ByteArray)) ++ t165), .int .i64 (t161.size : Int), .int .i64 20] rfl (by (try simp only [List.map_toArray, List.map_cons, List.map_nil]); first | done | rfl | (simp only [List.length_drop, List.length_take]; rfl) | (simp only [ByteArray.size_append, Int.natCast_add]; rfl)) ?_; (with_reducible refine (octet_Text.calls k1 (((t161 ++ x9_1) ++ (⟨#[0]⟩ : ByteArray)) ++ t165) (t161.size : Int) 20 t166 true _ A16.out).mono ?_); rintro e w' ⟨rfl, ⟨nd, rfl⟩⟩; refine ⟨_, rfl, ?_⟩) | ((with_reducible refine gate_callee (f := 21) rfl ?_); refine goesL_ (some 57) rfl rfl Try.func21 (by kernel_rfl) rfl #[.string (((t161 ++ x9_1) ++ (⟨#[0]⟩ : ByteArray)) ++ t165), .int .i64 (t161.size : Int), .int .i64 (x9_1.size : Int)] rfl (by (try simp only [List.map_toArray, List.map_cons, List.map_nil]); first | done | rfl | (simp only [List.length_drop, List.length_take]; rfl) | (simp only [ByteArray.size_append, Int.natCast_add]; rfl)) ?_; (with_reducible refine (octet_Text.calls k1 (((t161 ++ x9_1) ++ (⟨#[0]⟩ : ByteArray)) ++ t165) (t161.size : Int) (x9_1.size : Int) t168 true _ A17.out).mono ?_); rintro e w' ⟨rfl, ⟨nd, rfl⟩⟩; refine ⟨_, rfl, ?_⟩) | ((with_reducible refine gate_callee (f := 21) rfl ?_); refine goesL_ (some 67) rfl rfl Try.func21 (by kernel_rfl) rfl #[.string (((t161 ++ x9_1) ++ (⟨#[0]⟩ : ByteArray)) ++ t165), .int .i64 (t161.size : Int), .int .i64 (wrap64 ((x9_1.size : Int) - 1))] rfl (by (try simp only [List.map_toArray, List.map_cons, List.map_nil]); first | done | rfl | (simp only [List.length_drop, List.length_take]; rfl) | (simp only [ByteArray.size_append, Int.natCast_add]; rfl)) ?_; (with_reducible refine (octet_Text.calls k1 (((t161 ++ x9_1) ++ (⟨#[0]⟩ : ByteArray)) ++ t165) (t161.size : Int) (wrap64 ((x9_1.size : Int) - 1)) t170 false _ A18.out).mono ?_); rintro e w' ⟨rfl, ⟨nd, rfl⟩⟩; refine ⟨_, rfl, ?_⟩) | ((with_reducible refine gate_callee (f := 21) rfl ?_); refine goesL_ (some 74) rfl rfl Try.func21 (by kernel_rfl) rfl #[.string (((t161 ++ x9_1) ++ (⟨#[0]⟩ : ByteArray)) ++ t165), .int .i64 ((t161.size : Int) + (x9_1.size : Int) + 1 + (t165.size : Int)), .int .i64 20] rfl (by (try simp only [List.map_toArray, List.map_cons, List.map_nil]); first | done | rfl | (simp only [List.length_drop, List.length_take]; rfl) | (simp only [ByteArray.size_append, Int.natCast_add]; rfl)) ?_; (with_reducible refine (octet_Text.calls k1 (((t161 ++ x9_1) ++ (⟨#[0]⟩ : ByteArray)) ++ t165) ((t161.size : Int) + (x9_1.size : Int) + 1 + (t165.size : Int)) 20 t172 false _ A19.out).mono ?_); rintro e w' ⟨rfl, ⟨nd, rfl⟩⟩; refine ⟨_, rfl, ?_⟩) | (go_at_call 22; (with_reducible refine (octet_Fill.calls x9_1 (wrap64 ((x9_1.size : Int) + 1)) t174 _ A27.out).mono ?_); rintro e w29 ⟨rfl, hb⟩; have n0_ := Aside0.mk (below_step (by repeat (first | (with_reducible first | exact HB.out | apply below_alloc | apply pw_below_drewN | apply below_drew1) | exact HB.out)) hb); clear HB; have HB := n0_; clear n0_; (try clear hb); (try clear hb2); (try clear hk); (try clear hi)))
                              go_ret
                              exact ⟨by first | rfl | (simp [errW_none, errW_some] <;> rfl) | (rw [HR_.out]; done) | (rw [← HR_.out]; done) | (have hR_ := HR_.out; simp only [hR_]; done) | (have hR_ := HR_.out; simp only [ByteArray.size_append] at hR_; exact congrArg (fun b_ => Ending.returned (.bool b_)) hR_) | (have hR_ := HR_.out; simp_all; done) | (simp [*, errW_none, errW_some] <;> rfl), by repeat (first | (with_reducible first | exact HB.out | apply below_alloc | apply pw_below_drewN | apply below_drew1) | exact HB.out)⟩
                            · rw [if_neg c28] at H
                              exact absurd H (by simp)
                      · replace c24 := Bool.eq_false_iff.mpr c24
                        subst c24
                        have H1 : (some false) = some true := by rw [if_neg (show ¬ (false = true) by decide)] at H; exact H
                        clear H
                        have H := H1
                        clear H1
                        exact absurd H (by simp)
                    · rw [if_neg c23] at H
                      have c23b0 : (t168.toList == x9_1.toList) = false := beq_eq_false_iff_ne.mpr c23
                      have c23b1 : (t168.toList != x9_1.toList) = true := bne_iff_ne.mpr c23
                      exact absurd H (by simp)
                  · replace c22 := Bool.eq_false_iff.mpr c22
                    subst c22
                    have H1 : (some false) = some true := by rw [if_neg (show ¬ (false = true) by decide)] at H; exact H
                    clear H
                    have H := H1
                    clear H1
                    exact absurd H (by simp)
                · rw [if_neg c21] at H
                  have c21b0 : (t166.toList == x9_1.toList) = false := beq_eq_false_iff_ne.mpr c21
                  have c21b1 : (t166.toList != x9_1.toList) = true := bne_iff_ne.mpr c21
                  exact absurd H (by simp)
              · replace c20 := Bool.eq_false_iff.mpr c20
                subst c20
                have H1 : (some false) = some true := by rw [if_neg (show ¬ (false = true) by decide)] at H; exact H
                clear H
                have H := H1
                clear H1
                exact absurd H (by simp)
            · rw [if_neg c15] at H
              exact absurd H (by simp)
          · rw [if_neg c13] at H
            exact absurd H (by simp)
        · rw [if_neg c12] at H
          exact absurd H (by simp)

/-! ### flyleafref01_Part: function 23 -/
def flyleafref01_Part.f (a0 : ByteArray) (a1 : Int) (a2 : Int) : Option (ByteArray × Bool) := (flyleafref01_Within.f a1 a2 (a0.size : Int)).bind fun t175 => (if t175 = true then (if 0 ≤ a1 then (if a1 ≤ (wrap64 (a1 + a2)) then (if (wrap64 (a1 + a2)) ≤ (a0.size : Int) then (some (a0.extract (a1 : Int).toNat ((wrap64 (a1 + a2)) : Int).toNat, true)) else (none)) else (none)) else (none)) else (some ((⟨#[]⟩ : ByteArray), false)))
set_option maxHeartbeats 8000000 in
set_option maxRecDepth 100000 in
theorem flyleafref01_Part.calls (a0 : ByteArray) (a1 : Int) (a2 : Int) (r1 : ByteArray) (r2 : Bool) (w : World) (h : flyleafref01_Part.f a0 a1 a2 = some (r1, r2)) :
    Calls Try.prog 23 #[.string a0, .int .i64 a1, .int .i64 a2] w fun e w' => e = .returned (.tuple #[.string r1, .bool r2]) ∧ Drawn0 w w' := by
  have H : ((flyleafref01_Within.f a1 a2 (a0.size : Int)).bind fun t175 => (if t175 = true then (if 0 ≤ a1 then (if a1 ≤ (wrap64 (a1 + a2)) then (if (wrap64 (a1 + a2)) ≤ (a0.size : Int) then (some (a0.extract (a1 : Int).toNat ((wrap64 (a1 + a2)) : Int).toNat, true)) else (none)) else (none)) else (none)) else (some ((⟨#[]⟩ : ByteArray), false)))) = some (r1, r2) := h
  clear h
  replace H := Option.bind_eq_some_iff.mp H
  obtain ⟨t175, A40, H⟩ := H
  replace H : (if t175 = true then (if 0 ≤ a1 then (if a1 ≤ (wrap64 (a1 + a2)) then (if (wrap64 (a1 + a2)) ≤ (a0.size : Int) then (some (a0.extract (a1 : Int).toNat ((wrap64 (a1 + a2)) : Int).toNat, true)) else (none)) else (none)) else (none)) else (some ((⟨#[]⟩ : ByteArray), false))) = some (r1, r2) := H
  have A4 := Aside0.mk A40
  clear A40
  by_cases c5 : t175 = true
  · subst c5
    have H1 : (if 0 ≤ a1 then (if a1 ≤ (wrap64 (a1 + a2)) then (if (wrap64 (a1 + a2)) ≤ (a0.size : Int) then (some (a0.extract (a1 : Int).toNat ((wrap64 (a1 + a2)) : Int).toNat, true)) else (none)) else (none)) else (none)) = some (r1, r2) := by rw [if_pos rfl] at H; exact H
    clear H
    have H := H1
    clear H1
    by_cases c6 : 0 ≤ a1
    · rw [if_pos c6] at H
      have c6b0 := eq_true c6
      have c6b1 : decide (0 ≤ a1) = true := decide_eq_true c6
      clear c6
      by_cases c7 : a1 ≤ (wrap64 (a1 + a2))
      · rw [if_pos c7] at H
        have c7b0 := eq_true c7
        have c7b1 : decide (a1 ≤ (wrap64 (a1 + a2))) = true := decide_eq_true c7
        by_cases c8 : (wrap64 (a1 + a2)) ≤ (a0.size : Int)
        · rw [if_pos c8] at H
          have c8b0 := eq_true c8
          have c8b1 : decide ((wrap64 (a1 + a2)) ≤ (a0.size : Int)) = true := decide_eq_true c8
          simp only [Option.some.injEq, Prod.mk.injEq] at H
          obtain ⟨rfl, rfl⟩ := H
          go_enter Try.func23, Try.ntmps23
          go_wp2_with (first | ((with_reducible refine gate_callee (f := 27) rfl ?_); refine goesL_ (some 13) rfl rfl Try.func27 (by kernel_rfl) rfl #[.int .i64 a1, .int .i64 a2, .int .i64 (a0.size : Int)] rfl (by (try simp only [List.map_toArray, List.map_cons, List.map_nil]); first | done | rfl | (simp only [List.length_drop, List.length_take]; rfl) | (simp only [ByteArray.size_append, Int.natCast_add]; rfl)) ?_; (with_reducible refine (flyleafref01_Within.calls a1 a2 (a0.size : Int) true _ A4.out).mono ?_); rintro e w' ⟨rfl, ⟨nd, rfl⟩⟩; refine ⟨_, rfl, ?_⟩))
          go_ret2
          exact ⟨by first | rfl | (simp; done) | (simp [*]; done), by repeat (first | exact Drawn0.refl _ | apply Drawn0.step)⟩
        · rw [if_neg c8] at H
          exact absurd H (by simp)
      · rw [if_neg c7] at H
        exact absurd H (by simp)
    · rw [if_neg c6] at H
      exact absurd H (by simp)
  · replace c5 := Bool.eq_false_iff.mpr c5
    subst c5
    have H1 : (some ((⟨#[]⟩ : ByteArray), false)) = some (r1, r2) := by rw [if_neg (show ¬ (false = true) by decide)] at H; exact H
    clear H
    have H := H1
    clear H1
    simp only [Option.some.injEq, Prod.mk.injEq] at H
    obtain ⟨rfl, rfl⟩ := H
    go_enter Try.func23, Try.ntmps23
    go_wp2_with (first | ((with_reducible refine gate_callee (f := 27) rfl ?_); refine goesL_ (some 13) rfl rfl Try.func27 (by kernel_rfl) rfl #[.int .i64 a1, .int .i64 a2, .int .i64 (a0.size : Int)] rfl (by (try simp only [List.map_toArray, List.map_cons, List.map_nil]); first | done | rfl | (simp only [List.length_drop, List.length_take]; rfl) | (simp only [ByteArray.size_append, Int.natCast_add]; rfl)) ?_; (with_reducible refine (flyleafref01_Within.calls a1 a2 (a0.size : Int) false _ A4.out).mono ?_); rintro e w' ⟨rfl, ⟨nd, rfl⟩⟩; refine ⟨_, rfl, ?_⟩))
    go_ret2
    exact ⟨by first | rfl | (simp; done) | (simp [*]; done), by repeat (first | exact Drawn0.refl _ | apply Drawn0.step)⟩

end Go.Proofs.Ytopbkfgeidnleaa.X
