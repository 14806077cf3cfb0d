/- Walks of Go functions of this seat: each calls-theorem says that the Go function, called at values of its kinds, returns what the Lean function of its name tells, where that tells something; what was in memory stays. Written by our own program xprint.py. -/
import Derived.Test.YtoknnbjkjhigbaaX0
import Derived.Test.YtoknnbjkjhigbaaX2
namespace Go.Proofs.Ytoknnbjkjhigbaa.X
open Go.RowKit Go.Proofs.YtoknnbjkjhigbaaW.PrintWords Go.Proofs.YtoknnbjkjhigbaaW.PrintLast Go.Proofs.YtoknnbjkjhigbaaW.PrintMore
attribute [local go_sem] max2_int min2_int max_two min_two max_three min_three max_four min_four   -- for this text's walks alone
set_option linter.unusedVariables false
set_option linter.unusedSimpArgs false

/-! ### flyleafref10_Table: function 15 -/
mutual
def flyleafref10_Table.j0 : Nat → List ByteArray → Int → Int → Option (ByteArray × Int)
  | 0, _, _, _ => none
  | k + 1, x0, x4, x5 => if 0 ≤ x5 then (if (x5 : Int).toNat ≤ 35184372088832 then (if 0 ≤ x4 then (if (x4 : Int).toNat ≤ 35184372088832 then (flyleafref10_Table.l0 k x0 x4 x5 (List.replicate (x5 : Int).toNat 0) (List.replicate (x4 : Int).toNat 0) 1) else (none)) else (none)) else (none)) else (none)
def flyleafref10_Table.l0 : Nat → List ByteArray → Int → Int → List Int → List Int → Int → Option (ByteArray × Int)
  | 0, _, _, _, _, _, _ => none
  | k + 1, x0, x4, x5, x6, x7, x8 => if x8 < x4 then (if 0 ≤ x8 then (if x8 < (x0.length : Int) then (if (rdOf ByteArray.empty x0 x8).toList = ([] : List UInt8) then (flyleafref10_Table.l0 k x0 x4 x5 x6 x7 (wrap64 (x8 + 1))) else ((flyleafref10_Hash.f k (rdOf ByteArray.empty x0 x8)).bind fun t120 => (if x5 = 0 then (none) else (if 0 ≤ (Int.tmod (wrap64 (t120)) x5) then (if (Int.tmod (wrap64 (t120)) x5) < (x6.length : Int) then (if x8 < (x7.length : Int) then (flyleafref10_Table.l0 k x0 x4 x5 (x6.set ((Int.tmod (wrap64 (t120)) x5) : Int).toNat x8) (x7.set (x8 : Int).toNat (rd x6 (Int.tmod (wrap64 (t120)) x5))) (wrap64 (x8 + 1))) else (none)) else (none)) else (none))))) else (none)) else (none)) else ((flyleafref10_put.f k x5 4).bind fun t124 => ((flyleafref10_put.f k x4 4).bind fun t125 => (if t124.size + t125.size ≤ 9223372036854775807 then (flyleafref10_Table.l1 k x4 x5 x6 x7 (t124 ++ t125) 0) else (none))))
def flyleafref10_Table.l1 : Nat → Int → Int → List Int → List Int → ByteArray → Int → Option (ByteArray × Int)
  | 0, _, _, _, _, _, _ => none
  | k + 1, x4, x5, x6, x7, x10, x11 => if x11 < x5 then (if 0 ≤ x11 then (if x11 < (x6.length : Int) then ((flyleafref10_put.f k (rd x6 x11) 4).bind fun t127 => (if x10.size + t127.size ≤ 9223372036854775807 then (flyleafref10_Table.l1 k x4 x5 x6 x7 (x10 ++ t127) (wrap64 (x11 + 1))) else (none))) else (none)) else (none)) else (flyleafref10_Table.l2 k x4 x7 x10 0)
def flyleafref10_Table.l2 : Nat → Int → List Int → ByteArray → Int → Option (ByteArray × Int)
  | 0, _, _, _, _ => none
  | k + 1, x4, x7, x10, x12 => if x12 < x4 then (if 0 ≤ x12 then (if x12 < (x7.length : Int) then ((flyleafref10_put.f k (rd x7 x12) 4).bind fun t129 => (if x10.size + t129.size ≤ 9223372036854775807 then (flyleafref10_Table.l2 k x4 x7 (x10 ++ t129) (wrap64 (x12 + 1))) else (none))) else (none)) else (none)) else (some (x10, 0))
end
def flyleafref10_Table.f (k : Nat) (l0 : List ByteArray) : Option (ByteArray × Int) := if (l0.length : Int) > 4096 then (some ((⟨#[]⟩ : ByteArray), 11)) else (if (l0.length : Int) < 1 then (flyleafref10_Table.j0 k l0 (l0.length : Int) 1) else (flyleafref10_Table.j0 k l0 (l0.length : Int) (l0.length : Int)))
theorem flyleafref10_Table.mono_l : ∀ k, (∀ y0 y1 y2, LeO (flyleafref10_Table.j0 k y0 y1 y2) (flyleafref10_Table.j0 (k + 1) y0 y1 y2)) ∧ (∀ y0 y1 y2 y3 y4 y5, LeO (flyleafref10_Table.l0 k y0 y1 y2 y3 y4 y5) (flyleafref10_Table.l0 (k + 1) y0 y1 y2 y3 y4 y5)) ∧ (∀ y0 y1 y2 y3 y4 y5, LeO (flyleafref10_Table.l1 k y0 y1 y2 y3 y4 y5) (flyleafref10_Table.l1 (k + 1) y0 y1 y2 y3 y4 y5)) ∧ (∀ y0 y1 y2 y3, LeO (flyleafref10_Table.l2 k y0 y1 y2 y3) (flyleafref10_Table.l2 (k + 1) y0 y1 y2 y3))
  | 0 => ⟨fun _ _ _ r h => by simp [flyleafref10_Table.j0] at h, fun _ _ _ _ _ _ r h => by simp [flyleafref10_Table.l0] at h, fun _ _ _ _ _ _ r h => by simp [flyleafref10_Table.l1] at h, fun _ _ _ _ r h => by simp [flyleafref10_Table.l2] at h⟩
  | k + 1 => by
    obtain ⟨ih0, ih1, ih2, ih3⟩ := flyleafref10_Table.mono_l k
    refine ⟨?_, ?_, ?_, ?_⟩
    · intro y0 y1 y2
      unfold flyleafref10_Table.j0
      repeat' first
      | (with_reducible exact ih0 _ _ _)
      | (with_reducible exact ih1 _ _ _ _ _ _)
      | (with_reducible exact ih2 _ _ _ _ _ _)
      | (with_reducible exact ih3 _ _ _ _)
      | (with_reducible exact flyleafref10_Hash.mono _ _)
      | (with_reducible exact flyleafref10_put.mono _ _ _)
      | (with_reducible exact LeO.refl _)
      | (with_reducible exact LeO.none _)
      | (with_reducible refine LeO.ite ?_ ?_)
      | (with_reducible refine LeO.bind ?_ (fun _ => ?_))
      | exact ih0 _ _ _
      | exact ih1 _ _ _ _ _ _
      | exact ih2 _ _ _ _ _ _
      | exact ih3 _ _ _ _
      | exact flyleafref10_Hash.mono _ _
      | exact flyleafref10_put.mono _ _ _
      | exact LeO.none _
      | refine LeO.ite ?_ ?_
      | refine LeO.bind ?_ (fun _ => ?_)
    · intro y0 y1 y2 y3 y4 y5
      unfold flyleafref10_Table.l0
      repeat' first
      | (with_reducible exact ih0 _ _ _)
      | (with_reducible exact ih1 _ _ _ _ _ _)
      | (with_reducible exact ih2 _ _ _ _ _ _)
      | (with_reducible exact ih3 _ _ _ _)
      | (with_reducible exact flyleafref10_Hash.mono _ _)
      | (with_reducible exact flyleafref10_put.mono _ _ _)
      | (with_reducible exact LeO.refl _)
      | (with_reducible exact LeO.none _)
      | (with_reducible refine LeO.ite ?_ ?_)
      | (with_reducible refine LeO.bind ?_ (fun _ => ?_))
      | exact ih0 _ _ _
      | exact ih1 _ _ _ _ _ _
      | exact ih2 _ _ _ _ _ _
      | exact ih3 _ _ _ _
      | exact flyleafref10_Hash.mono _ _
      | exact flyleafref10_put.mono _ _ _
      | exact LeO.none _
      | refine LeO.ite ?_ ?_
      | refine LeO.bind ?_ (fun _ => ?_)
    · intro y0 y1 y2 y3 y4 y5
      unfold flyleafref10_Table.l1
      repeat' first
      | (with_reducible exact ih0 _ _ _)
      | (with_reducible exact ih1 _ _ _ _ _ _)
      | (with_reducible exact ih2 _ _ _ _ _ _)
      | (with_reducible exact ih3 _ _ _ _)
      | (with_reducible exact flyleafref10_Hash.mono _ _)
      | (with_reducible exact flyleafref10_put.mono _ _ _)
      | (with_reducible exact LeO.refl _)
      | (with_reducible exact LeO.none _)
      | (with_reducible refine LeO.ite ?_ ?_)
      | (with_reducible refine LeO.bind ?_ (fun _ => ?_))
      | exact ih0 _ _ _
      | exact ih1 _ _ _ _ _ _
      | exact ih2 _ _ _ _ _ _
      | exact ih3 _ _ _ _
      | exact flyleafref10_Hash.mono _ _
      | exact flyleafref10_put.mono _ _ _
      | exact LeO.none _
      | refine LeO.ite ?_ ?_
      | refine LeO.bind ?_ (fun _ => ?_)
    · intro y0 y1 y2 y3
      unfold flyleafref10_Table.l2
      repeat' first
      | (with_reducible exact ih0 _ _ _)
      | (with_reducible exact ih1 _ _ _ _ _ _)
      | (with_reducible exact ih2 _ _ _ _ _ _)
      | (with_reducible exact ih3 _ _ _ _)
      | (with_reducible exact flyleafref10_Hash.mono _ _)
      | (with_reducible exact flyleafref10_put.mono _ _ _)
      | (with_reducible exact LeO.refl _)
      | (with_reducible exact LeO.none _)
      | (with_reducible refine LeO.ite ?_ ?_)
      | (with_reducible refine LeO.bind ?_ (fun _ => ?_))
      | exact ih0 _ _ _
      | exact ih1 _ _ _ _ _ _
      | exact ih2 _ _ _ _ _ _
      | exact ih3 _ _ _ _
      | exact flyleafref10_Hash.mono _ _
      | exact flyleafref10_put.mono _ _ _
      | exact LeO.none _
      | refine LeO.ite ?_ ?_
      | refine LeO.bind ?_ (fun _ => ?_)
theorem flyleafref10_Table.mono : ∀ a0 k, LeO (flyleafref10_Table.f k a0) (flyleafref10_Table.f (k + 1) a0) := by
  intro a0 k
  obtain ⟨ih0, ih1, ih2, ih3⟩ := flyleafref10_Table.mono_l k
  unfold flyleafref10_Table.f
  repeat' first
      | (with_reducible exact ih0 _ _ _)
      | (with_reducible exact ih1 _ _ _ _ _ _)
      | (with_reducible exact ih2 _ _ _ _ _ _)
      | (with_reducible exact ih3 _ _ _ _)
      | (with_reducible exact flyleafref10_Hash.mono _ _)
      | (with_reducible exact flyleafref10_put.mono _ _ _)
      | (with_reducible exact LeO.refl _)
      | (with_reducible exact LeO.none _)
      | (with_reducible refine LeO.ite ?_ ?_)
      | (with_reducible refine LeO.bind ?_ (fun _ => ?_))
      | exact ih0 _ _ _
      | exact ih1 _ _ _ _ _ _
      | exact ih2 _ _ _ _ _ _
      | exact ih3 _ _ _ _
      | exact flyleafref10_Hash.mono _ _
      | exact flyleafref10_put.mono _ _ _
      | exact LeO.none _
      | refine LeO.ite ?_ ?_
      | refine LeO.bind ?_ (fun _ => ?_)
set_option maxHeartbeats 8000000 in
set_option maxRecDepth 100000 in
theorem flyleafref10_Table.calls (k : Nat) (A0 : Option Addr) (c0 : Nat) (l0 : List ByteArray) (r1 : ByteArray) (r2 : Int) (w : World) (hr0 : Kd.C Kd.string w A0 l0.length l0) (hc0 : l0.length ≤ c0) (h : flyleafref10_Table.f k l0 = some (r1, r2)) :
    Calls Try.prog 15 #[.slice A0 l0.length c0] w fun e w' => e = .returned (.tuple #[.string r1, .int .i64 r2]) ∧ Below w.heap.size w w' := by
  have HR0 := Aside0.mk hr0
  have HC0 := Aside0.mk hc0
  clear hr0 hc0
  have HB := Aside0.mk (Below.refl w.heap.size w)
  have H : (if (l0.length : Int) > 4096 then (some ((⟨#[]⟩ : ByteArray), 11)) else (if (l0.length : Int) < 1 then (flyleafref10_Table.j0 k l0 (l0.length : Int) 1) else (flyleafref10_Table.j0 k l0 (l0.length : Int) (l0.length : Int)))) = some (r1, r2) := h
  clear h
  by_cases c2 : (l0.length : Int) > 4096
  · rw [if_pos c2] at H
    have c2b0 : decide (4096 < (l0.length : Int)) = true := decide_eq_true c2
    have c2b1 : decide (4096 < l0.length) = true := decide_eq_true (by omega)
    clear c2
    simp only [Option.some.injEq, Prod.mk.injEq] at H
    obtain ⟨rfl, rfl⟩ := H
    go_enter Try.func15, Try.ntmps15
    go_wp2
    go_ret2
    exact ⟨by first | rfl | (simp [errW_none, errW_some] <;> rfl) | (simp [*, errW_none, errW_some] <;> rfl), by repeat (first | (with_reducible first | exact HB.out | apply below_alloc | apply pw_below_drewN | apply below_drew1) | exact HB.out)⟩
  · rw [if_neg c2] at H
    have c2b0 : decide (4096 < (l0.length : Int)) = false := decide_eq_false c2
    have c2b1 : decide (4096 < l0.length) = false := decide_eq_false (by omega)
    clear c2
    have HC3 := Aside0.mk H
    clear H
    go_enter Try.func15, Try.ntmps15
    go_upto_if 19 with (fail)
    go_cut [5] (fun v5 wc => ∃ (kq : Nat) (x5_2 : Int), v5 = .int .i64 x5_2 ∧ Aside0 (flyleafref10_Table.j0 kq l0 (l0.length : Int) x5_2 = some (r1, r2)) ∧ Aside0 (kq ≤ k) ∧ Aside0 (Below w.heap.size w wc))
    case first =>
      have H := HC3.out
      clear HC3
      by_cases c4 : (l0.length : Int) < 1
      · rw [if_pos c4] at H
        have c4b0 : decide ((l0.length : Int) < 1) = true := decide_eq_true c4
        have c4b1 : decide (l0.length < 1) = true := decide_eq_true (by omega)
        clear c4
        (first | rw [c4b0] | (simp only [i64_w, i32_w]; rw [c4b0]) | skip)
        have H' := Aside0.mk H
        clear H
        go_wp2
        go_meet
        case rel => exact ⟨_, (1), (by first | rfl | (simp; done) | (simp [*]; done)), H', ⟨by first | omega | exact Nat.le_refl _⟩, ⟨by repeat (first | (with_reducible first | exact HB.out | apply below_alloc | apply pw_below_drewN | apply below_drew1) | exact HB.out)⟩⟩
      · rw [if_neg c4] at H
        have c4b0 : decide ((l0.length : Int) < 1) = false := decide_eq_false c4
        have c4b1 : decide (l0.length < 1) = false := decide_eq_false (by omega)
        clear c4
        (first | rw [c4b0] | (simp only [i64_w, i32_w]; rw [c4b0]) | skip)
        have H' := Aside0.mk H
        clear H
        go_wp2
        go_meet
        case rel => exact ⟨_, ((l0.length : Int)), (by first | rfl | (simp; done) | (simp [*]; done)), H', ⟨by first | omega | exact Nat.le_refl _⟩, ⟨by repeat (first | (with_reducible first | exact HB.out | apply below_alloc | apply pw_below_drewN | apply below_drew1) | exact HB.out)⟩⟩
    case rest =>
      clear HC3
      try clear c1
      try clear c2
      try clear c2b0
      try clear c2b1
      try clear p2
      try clear c4
      try clear c4b0
      try clear c4b1
      obtain ⟨kq, x5_2, rfl, HA, HJ2, HB⟩ := hcut
      cases kq with
      | zero => exact absurd HA.out (by simp [flyleafref10_Table.j0])
      | succ kj2 =>
        have H := HA.out
        clear HA
        simp only [flyleafref10_Table.j0] at H
        by_cases c5 : 0 ≤ x5_2
        · rw [if_pos c5] at H
          have c5b0 := eq_true c5
          have c5b1 : decide (0 ≤ x5_2) = true := decide_eq_true c5
          clear c5
          by_cases c6 : (x5_2 : Int).toNat ≤ 35184372088832
          · rw [if_pos c6] at H
            have c6b0 := eq_true c6
            have c6b1 : decide ((x5_2 : Int).toNat ≤ 35184372088832) = true := decide_eq_true c6
            clear c6
            obtain ⟨y112, hy112⟩ : ∃ y_ : List Int, y_ = (List.replicate (x5_2 : Int).toNat 0) := ⟨_, rfl⟩
            replace H : (if 0 ≤ (l0.length : Int) then (if ((l0.length : Int) : Int).toNat ≤ 35184372088832 then (flyleafref10_Table.l0 kj2 l0 (l0.length : Int) x5_2 y112 (List.replicate ((l0.length : Int) : Int).toNat 0) 1) else (none)) else (none)) = some (r1, r2) := by first | (rw [hy112]; with_reducible exact H) | (have H2_ := (Option.bind_some _ _).symm.trans H; rw [hy112]; with_reducible exact H2_) | (have H2_ := (Option.bind_some _ _).symm.trans H; with_reducible exact H2_) | with_reducible exact H | (rw [hy112]; exact H) | exact H
            have Ny112 := Aside0.mk hy112
            clear hy112
            by_cases c7 : 0 ≤ (l0.length : Int)
            · rw [if_pos c7] at H
              have c7b0 := eq_true c7
              have c7b1 : decide (0 ≤ (l0.length : Int)) = true := decide_eq_true c7
              clear c7
              by_cases c8 : ((l0.length : Int) : Int).toNat ≤ 35184372088832
              · rw [if_pos c8] at H
                have c8b0 := eq_true c8
                have c8b1 : decide (((l0.length : Int) : Int).toNat ≤ 35184372088832) = true := decide_eq_true c8
                clear c8
                obtain ⟨y115, hy115⟩ : ∃ y_ : List Int, y_ = (List.replicate ((l0.length : Int) : Int).toNat 0) := ⟨_, rfl⟩
                replace H : (flyleafref10_Table.l0 kj2 l0 (l0.length : Int) x5_2 y112 y115 1) = some (r1, r2) := by first | (rw [hy115]; with_reducible exact H) | (have H2_ := (Option.bind_some _ _).symm.trans H; rw [hy115]; with_reducible exact H2_) | (have H2_ := (Option.bind_some _ _).symm.trans H; with_reducible exact H2_) | with_reducible exact H | (rw [hy115]; exact H) | exact H
                have Ny115 := Aside0.mk hy115
                clear hy115
                have H' := Aside0.mk H
                clear H
                go_wp2_with (first | ((with_reducible refine gate_dst (N := 21) rfl ?_); refine Kd.R_make (Kd.int .i64) _ 3 rfl (N := 21) rfl 28 _ _ rfl x5_2 rfl rfl Try.underlying28 (.int .i64 0) 8 info3 rfl (by decide) (by omega) 0 (ok := fun _ => True) (okp := fun _ => True) rfl (fun _ hk => hk) trivial (of_decide_eq_true (by first | (with_reducible assumption) | assumption)) (Nat.le_trans (Nat.mul_le_mul_right _ (of_decide_eq_true (by first | (with_reducible assumption) | assumption) : x5_2.toNat ≤ 35184372088832)) (by omega)) (Below.refl _ _) (Nat.le_refl _) ?_; intro v113 w9 ho10 hb hg_ hnew_; clear hg_ hnew_; (first | rw [← Ny112.out] at ho10 | (simp only [Int.reduceToNat] at ho10; rw [← Ny112.out] at ho10)); have n0_ := Aside0.mk (Kd.R_lower ho10 (below_size (by repeat (first | (with_reducible first | exact HB.out | apply below_alloc | apply pw_below_drewN | apply below_drew1) | exact HB.out)))); have n1_ := Aside0.mk (below_step (by repeat (first | (with_reducible first | exact HB.out | apply below_alloc | apply pw_below_drewN | apply below_drew1) | exact HB.out)) hb); clear HB; have HO114 := n0_; have HB := n1_; clear n0_ n1_; clear hb ho10) | ((with_reducible refine gate_dst (N := 23) rfl ?_); refine Kd.R_make (Kd.int .i64) _ 3 rfl (N := 23) rfl 28 _ _ rfl (l0.length : Int) rfl rfl Try.underlying28 (.int .i64 0) 8 info3 rfl (by decide) (by omega) 0 (ok := fun _ => True) (okp := fun _ => True) rfl (fun _ hk => hk) trivial (of_decide_eq_true (by first | (with_reducible assumption) | assumption)) (Nat.le_trans (Nat.mul_le_mul_right _ (of_decide_eq_true (by first | (with_reducible assumption) | assumption) : (l0.length : Int).toNat ≤ 35184372088832)) (by omega)) (Below.refl _ _) (Nat.le_refl _) ?_; intro v116 w11 ho12 hb hg_ hnew_; clear hg_ hnew_; (first | rw [← Ny115.out] at ho12 | (simp only [Int.reduceToNat] at ho12; rw [← Ny115.out] at ho12)); have n0_ := Aside0.mk (Kd.R_elder' (by (with_reducible repeat (first | apply Kd.R_alloc | apply Kd.R_drewN | apply Kd.R_drew)); exact HO114.out) (Kd.R_base ho12) hb); have n1_ := Aside0.mk (Kd.R_lower (Kd.R_new' ho12 (Kd.R_lt (by (with_reducible repeat (first | apply Kd.R_alloc | apply Kd.R_drewN | apply Kd.R_drew)); exact HO114.out))) (below_size (by repeat (first | (with_reducible first | exact HB.out | apply below_alloc | apply pw_below_drewN | apply below_drew1) | exact HB.out)))); have n2_ := Aside0.mk (below_step (by repeat (first | (with_reducible first | exact HB.out | apply below_alloc | apply pw_below_drewN | apply below_drew1) | exact HB.out)) hb); clear HO114; clear HB; have HO114 := n0_; have HO117 := n1_; have HB := n2_; clear n0_ n1_ n2_; clear hb ho12))
                go_loopg [8] kj2 (fun kq v8 w' => ∃ (x6_2 : List Int) (x7_2 : List Int) (x8_2 : Int), v8 = .int .i64 x8_2 ∧ Aside0 (flyleafref10_Table.l0 kq l0 (l0.length : Int) x5_2 x6_2 x7_2 x8_2 = some (r1, r2)) ∧ Aside0 (kq ≤ kj2) ∧ Aside0 (Kd.R (Kd.int .i64) 3 w' w.heap.size (fun k_ => some k_ ≠ (v116 : Value).ownBlock) v113 x6_2) ∧ Aside0 (Kd.R (Kd.int .i64) 3 w' w.heap.size (fun k_ => some k_ ≠ (v113 : Value).ownBlock) v116 x7_2) ∧ Aside0 (Below w.heap.size w w'))
                case atStart => exact ⟨(y112), (y115), (1), (by first | rfl | (simp; done) | (simp [*]; done)), H', ⟨Nat.le_refl _⟩, ⟨by (with_reducible repeat (first | apply Kd.R_alloc | apply Kd.R_drewN | apply Kd.R_drew)); exact Kd.R_mono HO114.out (fun _ hk => hk.2)⟩, ⟨by (with_reducible repeat (first | apply Kd.R_alloc | apply Kd.R_drewN | apply Kd.R_drew)); exact Kd.R_mono HO117.out (fun _ hk => hk.2)⟩, ⟨by repeat (first | (with_reducible first | exact HB.out | apply below_alloc | apply pw_below_drewN | apply below_drew1) | exact HB.out)⟩⟩
                case round =>
                  clear H'
                  try clear c1
                  try clear c2
                  try clear c2b0
                  try clear c2b1
                  try clear p2
                  try clear c4
                  try clear c4b0
                  try clear c4b1
                  try clear c5
                  try clear c5b0
                  try clear c5b1
                  try clear c6
                  try clear c6b0
                  try clear c6b1
                  try clear c7
                  try clear c7b0
                  try clear c7b1
                  try clear c8
                  try clear c8b0
                  try clear c8b1
                  try clear p2
                  obtain ⟨x6_2, x7_2, x8_2, rfl, HA, HK2, HO_6, HO_7, HB⟩ := hrel
                  cases gk with
                  | zero => exact absurd HA.out (by simp [flyleafref10_Table.l0])
                  | succ k2 =>
                    have H := HA.out
                    clear HA
                    simp only [flyleafref10_Table.l0] at H
                    by_cases c13 : x8_2 < (l0.length : Int)
                    · rw [if_pos c13] at H
                      have c13b0 : decide (x8_2 < (l0.length : Int)) = true := decide_eq_true c13
                      clear c13
                      by_cases c14 : 0 ≤ x8_2
                      · rw [if_pos c14] at H
                        have c14b0 : decide (0 ≤ x8_2) = true := decide_eq_true c14
                        clear c14
                        by_cases c15 : x8_2 < (l0.length : Int)
                        · rw [if_pos c15] at H
                          have c15b0 : decide (x8_2 < (l0.length : Int)) = true := decide_eq_true c15
                          clear c15
                          by_cases c16 : (rdOf ByteArray.empty l0 x8_2).toList = ([] : List UInt8)
                          · rw [if_pos c16] at H
                            have c16b0 : ((rdOf ByteArray.empty l0 x8_2).toList == ([] : List UInt8)) = true := beq_iff_eq.mpr c16
                            have c16b1 : ((rdOf ByteArray.empty l0 x8_2).toList != ([] : List UInt8)) = false := bne_eq_false_iff_eq.mpr c16
                            clear c16
                            have H' := Aside0.mk H
                            clear H
                            have p118 : 0 ≤ (x8_2 : Int) := of_decide_eq_true (by first | (with_reducible assumption) | assumption)
                            have q118 : x8_2 < (l0.length : Int) := of_decide_eq_true (by first | (with_reducible assumption) | assumption)
                            obtain ⟨ad118, e118, hx118_0⟩ := Kd.at_string HR0.out x8_2 p118 q118
                            cases e118
                            replace hx118_0 := (HB.out.cell (World.block_lt_of_cell? w _ hx118_0)).trans hx118_0
                            replace p118 := eq_true p118
                            replace q118 := eq_true q118
                            go_wp2
                            go_roundg k2
                            case measure => have := HJ2.out; have := HK2.out; omega
                            case rel => exact ⟨(x6_2), (x7_2), (wrap64 (x8_2 + 1)), (by first | rfl | (simp; done) | (simp [*]; done)), H', ⟨by have := HJ2.out; have := HK2.out; omega⟩, ⟨by (with_reducible repeat (first | apply Kd.R_alloc | apply Kd.R_drewN | apply Kd.R_drew)); exact HO_6.out⟩, ⟨by (with_reducible repeat (first | apply Kd.R_alloc | apply Kd.R_drewN | apply Kd.R_drew)); exact HO_7.out⟩, ⟨by repeat (first | (with_reducible first | exact HB.out | apply below_alloc | apply pw_below_drewN | apply below_drew1) | exact HB.out)⟩⟩
                          · rw [if_neg c16] at H
                            have c16b0 : ((rdOf ByteArray.empty l0 x8_2).toList == ([] : List UInt8)) = false := beq_eq_false_iff_ne.mpr c16
                            have c16b1 : ((rdOf ByteArray.empty l0 x8_2).toList != ([] : List UInt8)) = true := bne_iff_ne.mpr c16
                            replace H := Option.bind_eq_some_iff.mp H
                            obtain ⟨t120, A170, H⟩ := H
                            replace H : (if x5_2 = 0 then (none) else (if 0 ≤ (Int.tmod (wrap64 (t120)) x5_2) then (if (Int.tmod (wrap64 (t120)) x5_2) < (x6_2.length : Int) then (if x8_2 < (x7_2.length : Int) then (flyleafref10_Table.l0 k2 l0 (l0.length : Int) x5_2 (x6_2.set ((Int.tmod (wrap64 (t120)) x5_2) : Int).toNat x8_2) (x7_2.set (x8_2 : Int).toNat (rd x6_2 (Int.tmod (wrap64 (t120)) x5_2))) (wrap64 (x8_2 + 1))) else (none)) else (none)) else (none))) = some (r1, r2) := H
                            have A17 := Aside0.mk A170
                            clear A170
                            by_cases c18 : x5_2 = 0
                            · rw [if_pos c18] at H
                              exact absurd H (by simp)
                            · rw [if_neg c18] at H
                              have c18b0 : (x5_2 == 0) = false := beq_eq_false_iff_ne.mpr c18
                              have c18b1 : (x5_2 != 0) = true := bne_iff_ne.mpr c18
                              obtain ⟨ji19, hji19⟩ : ∃ j_ : Int, (Int.tmod (wrap64 (t120)) x5_2) = j_ := ⟨_, rfl⟩
                              replace H : (if 0 ≤ (ji19) then (if (ji19) < (x6_2.length : Int) then (if x8_2 < (x7_2.length : Int) then (flyleafref10_Table.l0 k2 l0 (l0.length : Int) x5_2 (x6_2.set ((ji19) : Int).toNat x8_2) (x7_2.set (x8_2 : Int).toNat (rd x6_2 (ji19))) (wrap64 (x8_2 + 1))) else (none)) else (none)) else (none)) = some (r1, r2) := by first | (rw [hji19] at H; exact H) | (simp only [hji19] at H ⊢; exact H)
                              (try rw [hji19] at A17)
                              by_cases c20 : 0 ≤ (ji19)
                              · rw [if_pos c20] at H
                                have c20b0 : decide (0 ≤ (ji19)) = true := decide_eq_true c20
                                clear c20
                                by_cases c21 : (ji19) < (x6_2.length : Int)
                                · rw [if_pos c21] at H
                                  have c21b0 : decide ((ji19) < (x6_2.length : Int)) = true := decide_eq_true c21
                                  clear c21
                                  by_cases c22 : x8_2 < (x7_2.length : Int)
                                  · rw [if_pos c22] at H
                                    have c22b0 : decide (x8_2 < (x7_2.length : Int)) = true := decide_eq_true c22
                                    clear c22
                                    obtain ⟨y122, hy122⟩ : ∃ y_ : List Int, y_ = (x7_2.set (x8_2 : Int).toNat (rd x6_2 (ji19))) := ⟨_, rfl⟩
                                    replace H : (flyleafref10_Table.l0 k2 l0 (l0.length : Int) x5_2 (x6_2.set ((ji19) : Int).toNat x8_2) y122 (wrap64 (x8_2 + 1))) = some (r1, r2) := by first | (rw [hy122]; with_reducible exact H) | (have H2_ := (Option.bind_some _ _).symm.trans H; rw [hy122]; with_reducible exact H2_) | (have H2_ := (Option.bind_some _ _).symm.trans H; with_reducible exact H2_) | with_reducible exact H | (rw [hy122]; exact H) | exact H
                                    have Ny122 := Aside0.mk hy122
                                    clear hy122
                                    obtain ⟨y123, hy123⟩ : ∃ y_ : List Int, y_ = (x6_2.set ((ji19) : Int).toNat x8_2) := ⟨_, rfl⟩
                                    replace H : (flyleafref10_Table.l0 k2 l0 (l0.length : Int) x5_2 y123 y122 (wrap64 (x8_2 + 1))) = some (r1, r2) := by first | (rw [hy123]; with_reducible exact H) | (have H2_ := (Option.bind_some _ _).symm.trans H; rw [hy123]; with_reducible exact H2_) | (have H2_ := (Option.bind_some _ _).symm.trans H; with_reducible exact H2_) | with_reducible exact H | (rw [hy123]; exact H) | exact H
                                    have Ny123 := Aside0.mk hy123
                                    clear hy123
                                    have H' := Aside0.mk H
                                    clear H
                                    have p118 : 0 ≤ (x8_2 : Int) := of_decide_eq_true (by first | (with_reducible assumption) | assumption)
                                    have q118 : x8_2 < (l0.length : Int) := of_decide_eq_true (by first | (with_reducible assumption) | assumption)
                                    obtain ⟨ad118, e118, hx118_0⟩ := Kd.at_string HR0.out x8_2 p118 q118
                                    cases e118
                                    replace hx118_0 := (HB.out.cell (World.block_lt_of_cell? w _ hx118_0)).trans hx118_0
                                    replace p118 := eq_true p118
                                    replace q118 := eq_true q118
                                    have p119 : 0 ≤ (x8_2 : Int) := of_decide_eq_true (by first | (with_reducible assumption) | assumption)
                                    have q119 : x8_2 < (l0.length : Int) := of_decide_eq_true (by first | (with_reducible assumption) | assumption)
                                    obtain ⟨ad119, e119, hx119_0⟩ := Kd.at_string HR0.out x8_2 p119 q119
                                    obtain rfl : ad118 = ad119 := (by injection e119)
                                    replace hx119_0 := (HB.out.cell (World.block_lt_of_cell? w _ hx119_0)).trans hx119_0
                                    replace p119 := eq_true p119
                                    replace q119 := eq_true q119
                                    go_wp2_with (first | ((with_reducible refine gate_callee (f := 16) rfl ?_); refine goesL_ (some 38) rfl rfl Try.func16 (by kernel_rfl) rfl #[.string (rdOf ByteArray.empty l0 x8_2)] rfl (by (try simp only [List.map_toArray, List.map_cons, List.map_nil]); first | done | rfl | (simp only [List.length_drop, List.length_take]; rfl) | (simp only [ByteArray.size_append, Int.natCast_add]; rfl)) ?_; (with_reducible refine (flyleafref10_Hash.calls k2 (rdOf ByteArray.empty l0 x8_2) t120 _ A17.out).mono ?_); rintro e w' ⟨rfl, ⟨nd, rfl⟩⟩; refine ⟨_, rfl, ?_⟩; (try (rw [drewN_self wr]; generalize hq_ : World.drewN wr _ = wr; have n0_ : Aside0 (Kd.R (Kd.int .i64) 3 wr w.heap.size (fun k_ => some k_ ≠ (v116 : Value).ownBlock) v113 x6_2) := ⟨by rw [← hq_]; exact (by (with_reducible repeat (first | apply Kd.R_alloc | apply Kd.R_drewN | apply Kd.R_drew)); exact HO_6.out)⟩; have n1_ : Aside0 (Kd.R (Kd.int .i64) 3 wr w.heap.size (fun k_ => some k_ ≠ (v113 : Value).ownBlock) v116 x7_2) := ⟨by rw [← hq_]; exact (by (with_reducible repeat (first | apply Kd.R_alloc | apply Kd.R_drewN | apply Kd.R_drew)); exact HO_7.out)⟩; have n2_ : Aside0 (Below w.heap.size w wr) := ⟨by rw [← hq_]; exact (by repeat (first | (with_reducible first | exact HB.out | apply below_alloc | apply pw_below_drewN | apply below_drew1) | exact HB.out))⟩; clear HO_6 HO_7 HB hq_; have HO_6 := n0_; have HO_7 := n1_; have HB := n2_; clear n0_ n1_ n2_)); obtain ⟨Ao25, co25, eo25⟩ := Kd.R_slice HO_6.out; subst eo25; have p121 : 0 ≤ ((ji19) : Int) := of_decide_eq_true (by first | (with_reducible assumption) | assumption); have q121 : (ji19) < (x6_2.length : Int) := of_decide_eq_true (by first | (with_reducible assumption) | assumption); obtain ⟨ad121, e121, hx121_0⟩ := Kd.at_int (Kd.R_reads' HO_6.out).2.2 (ji19) p121 q121; cases e121; replace p121 := eq_true p121; replace q121 := eq_true q121; have p23 : 0 ≤ (x8_2 : Int) := of_decide_eq_true (by first | (with_reducible assumption) | assumption); have q23 : (x8_2 : Int) < ((x7_2.length : Int) : Int) := of_decide_eq_true (by first | (with_reducible assumption) | assumption); obtain ⟨go23, co23, eo23, gb23, gl23, cl23, HG23⟩ := Kd.R_form HO_7.out (by omega); (first | cases eo23 | (injection eo23 with ea_ en_ ec_; (first | subst ea_ | (injection ea_ with ea_; subst ea_)); subst ec_; clear en_)); have GB23 := Aside0.mk gb23; have GG23 := Aside0.mk HG23; clear gb23 gl23 HG23; obtain ⟨hx23_0, hf23_0⟩ := Kd.R_celln 0 HO_7.out (x8_2 : Int) p23 q23; replace p23 := eq_true p23; replace q23 := eq_true q23; obtain ⟨hy26_, hz26_⟩ := Kd.R_celln 0 HO_7.out (x8_2 : Int) (of_decide_eq_true (by first | (with_reducible assumption) | assumption)) (of_decide_eq_true (by first | (with_reducible assumption) | assumption)); have HP26 := Kd.R_putg HO_7.out (x8_2 : Int) (rd x6_2 (ji19))) | ((with_reducible refine gate_store (t := 3) (p := 48) rfl ?_); refine store_event (t := 3) (p := 48) (v := ?vo_w27) (w1 := (wr.setCell ⟨go23, (x8_2 : Int).toNat, none⟩ (.int .i64 (rd x6_2 (ji19))))) ?hg ?ho ?hn ?hr ?_; (case ho => rfl); (case hg => rfl); (case hn => rfl); (case hr => first | (go_simp; done) | (go_simp; rfl)); intro w27 hw; have hg : wr.grownBy w27 (some go23) := (by rw [hw]; exact HP26.2); have hp_ : Kd.R (Kd.int .i64) 3 w27 w.heap.size (fun k_ => some k_ ≠ (.slice (some ad121) x6_2.length co25 : Value).ownBlock) (.slice (some ⟨go23, 0, none⟩) x7_2.length co23) y122 := (by rw [hw, Ny122.out]; exact HP26.1); clear HP26; have n0_ := Aside0.mk (Kd.R_after (v := (.slice (some ⟨go23, 0, none⟩) x7_2.length co23)) (v1 := (.slice (some ⟨go23, 0, none⟩) x7_2.length co23)) (ok := (fun _ => True)) (by (with_reducible repeat (first | apply Kd.R_alloc | apply Kd.R_drewN | apply Kd.R_drew)); exact Kd.R_mono HO_6.out (fun _ hk => ⟨trivial, hk⟩)) hg (.inl rfl)); have n1_ := Aside0.mk (hp_); have n2_ := Aside0.mk ((by rw [hw]; exact below_set (HB.out) GB23.out : Below w.heap.size w w27)); clear HO_6; clear HO_7; clear HB; have HO_6 := n0_; have HO_7 := n1_; have HB := n2_; clear n0_ n1_ n2_; clear hg hw hp_; have p24 : 0 ≤ ((ji19) : Int) := of_decide_eq_true (by first | (with_reducible assumption) | assumption); have q24 : ((ji19) : Int) < ((x6_2.length : Int) : Int) := of_decide_eq_true (by first | (with_reducible assumption) | assumption); obtain ⟨go24, co24, eo24, gb24, gl24, cl24, HG24⟩ := Kd.R_form HO_6.out (by omega); (first | cases eo24 | (injection eo24 with ea_ en_ ec_; (first | subst ea_ | (injection ea_ with ea_; subst ea_)); subst ec_; clear en_)); have GB24 := Aside0.mk gb24; have GG24 := Aside0.mk HG24; clear gb24 gl24 HG24; (first | simp only [add_plain] at hx121_0 | skip); obtain ⟨hx24_0, hf24_0⟩ := Kd.R_celln 0 HO_6.out ((ji19) : Int) p24 q24; replace p24 := eq_true p24; replace q24 := eq_true q24; have n_ := Aside0.mk (Kd.R_mono (ok' := (fun k_ => some k_ ≠ (.slice (some ⟨go23, 0, none⟩) x7_2.length co23 : Value).ownBlock)) HO_6.out (fun k_ hk => hk.2)); clear HO_6; have HO_6 := n_; clear n_; obtain ⟨hy28_, hz28_⟩ := Kd.R_celln 0 HO_6.out ((ji19) : Int) (of_decide_eq_true (by first | (with_reducible assumption) | assumption)) (of_decide_eq_true (by first | (with_reducible assumption) | assumption)); have HP28 := Kd.R_putg HO_6.out ((ji19) : Int) x8_2) | ((with_reducible refine gate_store (t := 3) (p := 52) rfl ?_); refine store_event (t := 3) (p := 52) (v := ?vo_w29) (w1 := (w27.setCell ⟨go24, ((ji19) : Int).toNat, none⟩ (.int .i64 x8_2))) ?hg ?ho ?hn ?hr ?_; (case ho => rfl); (case hg => rfl); (case hn => rfl); (case hr => first | (go_simp; done) | (go_simp; rfl)); intro w29 hw; have hg : w27.grownBy w29 (some go24) := (by rw [hw]; exact HP28.2); have hp_ : Kd.R (Kd.int .i64) 3 w29 w.heap.size (fun k_ => some k_ ≠ (.slice (some ⟨go23, 0, none⟩) x7_2.length co23 : Value).ownBlock) (.slice (some ⟨go24, 0, none⟩) x6_2.length co25) y123 := (by rw [hw, Ny123.out]; exact HP28.1); clear HP28; have n0_ := Aside0.mk (hp_); have n1_ := Aside0.mk (Kd.R_after (v := (.slice (some ⟨go24, 0, none⟩) x6_2.length co25)) (v1 := (.slice (some ⟨go24, 0, none⟩) x6_2.length co25)) (ok := (fun _ => True)) (by (with_reducible repeat (first | apply Kd.R_alloc | apply Kd.R_drewN | apply Kd.R_drew)); exact Kd.R_mono HO_7.out (fun _ hk => ⟨trivial, hk⟩)) hg (.inl rfl)); have n2_ := Aside0.mk ((by rw [hw]; exact below_set (HB.out) GB24.out : Below w.heap.size w w29)); clear HO_6; clear HO_7; clear HB; have HO_6 := n0_; have HO_7 := n1_; have HB := n2_; clear n0_ n1_ n2_; clear hg hw hp_))
                                    go_roundg k2
                                    case measure => have := HJ2.out; have := HK2.out; omega
                                    case rel => exact ⟨(y123), (y122), (wrap64 (x8_2 + 1)), (by first | rfl | (simp; done) | (simp [*]; done)), H', ⟨by have := HJ2.out; have := HK2.out; omega⟩, ⟨by (with_reducible repeat (first | apply Kd.R_alloc | apply Kd.R_drewN | apply Kd.R_drew)); exact HO_6.out⟩, ⟨by (with_reducible repeat (first | apply Kd.R_alloc | apply Kd.R_drewN | apply Kd.R_drew)); exact Kd.R_mono HO_7.out (fun _ hk => hk.2)⟩, ⟨by repeat (first | (with_reducible first | exact HB.out | apply below_alloc | apply pw_below_drewN | apply below_drew1) | exact HB.out)⟩⟩
                                  · rw [if_neg c22] at H
                                    exact absurd H (by simp)
                                · rw [if_neg c21] at H
                                  exact absurd H (by simp)
                              · rw [if_neg c20] at H
                                exact absurd H (by simp)
                        · rw [if_neg c15] at H
                          exact absurd H (by simp)
                      · rw [if_neg c14] at H
                        exact absurd H (by simp)
                    · rw [if_neg c13] at H
                      have c13b0 : decide (x8_2 < (l0.length : Int)) = false := decide_eq_false c13
                      clear c13
                      replace H := Option.bind_eq_some_iff.mp H
                      obtain ⟨t124, A300, H⟩ := H
                      replace H : ((flyleafref10_put.f k2 (l0.length : Int) 4).bind fun t125 => (if t124.size + t125.size ≤ 9223372036854775807 then (flyleafref10_Table.l1 k2 (l0.length : Int) x5_2 x6_2 x7_2 (t124 ++ t125) 0) else (none))) = some (r1, r2) := H
                      have A30 := Aside0.mk A300
                      clear A300
                      replace H := Option.bind_eq_some_iff.mp H
                      obtain ⟨t125, A310, H⟩ := H
                      replace H : (if t124.size + t125.size ≤ 9223372036854775807 then (flyleafref10_Table.l1 k2 (l0.length : Int) x5_2 x6_2 x7_2 (t124 ++ t125) 0) else (none)) = some (r1, r2) := H
                      have A31 := Aside0.mk A310
                      clear A310
                      by_cases c32 : t124.size + t125.size ≤ 9223372036854775807
                      · rw [if_pos c32] at H
                        have c32b0 := eq_true c32
                        have c32b1 : decide (t124.size + t125.size ≤ 9223372036854775807) = true := decide_eq_true c32
                        try have c32b2 : (9223372036854775807 < t124.size + t125.size) = False := eq_false (Nat.not_lt.2 c32)
                        clear c32
                        have H' := Aside0.mk H
                        clear H
                        go_wp2_with (first | ((with_reducible refine gate_callee (f := 29) rfl ?_); refine goesL_ (some 54) rfl rfl Try.func29 (by kernel_rfl) rfl #[.int .i64 x5_2, .int .i64 4] rfl (by (try simp only [List.map_toArray, List.map_cons, List.map_nil]); first | done | rfl | (simp only [List.length_drop, List.length_take]; rfl) | (simp only [ByteArray.size_append, Int.natCast_add]; rfl)) ?_; (with_reducible refine (flyleafref10_put.calls k2 x5_2 4 t124 _ A30.out).mono ?_); rintro e w33 ⟨rfl, hb⟩; refine ⟨_, rfl, ?_⟩; have n0_ := Aside0.mk (Kd.R_below (by (with_reducible repeat (first | apply Kd.R_alloc | apply Kd.R_drewN | apply Kd.R_drew)); exact HO_6.out) hb); have n1_ := Aside0.mk (Kd.R_below (by (with_reducible repeat (first | apply Kd.R_alloc | apply Kd.R_drewN | apply Kd.R_drew)); exact HO_7.out) hb); have n2_ := Aside0.mk (below_step (by repeat (first | (with_reducible first | exact HB.out | apply below_alloc | apply pw_below_drewN | apply below_drew1) | exact HB.out)) hb); clear HO_6; clear HO_7; clear HB; have HO_6 := n0_; have HO_7 := n1_; have HB := n2_; clear n0_ n1_ n2_; (try clear hb); (try clear hb2); (try clear hk); (try clear hi)) | ((with_reducible refine gate_callee (f := 29) rfl ?_); refine goesL_ (some 56) rfl rfl Try.func29 (by kernel_rfl) rfl #[.int .i64 (l0.length : Int), .int .i64 4] rfl (by (try simp only [List.map_toArray, List.map_cons, List.map_nil]); first | done | rfl | (simp only [List.length_drop, List.length_take]; rfl) | (simp only [ByteArray.size_append, Int.natCast_add]; rfl)) ?_; (with_reducible refine (flyleafref10_put.calls k2 (l0.length : Int) 4 t125 _ A31.out).mono ?_); rintro e w34 ⟨rfl, hb⟩; refine ⟨_, rfl, ?_⟩; have n0_ := Aside0.mk (Kd.R_below (by (with_reducible repeat (first | apply Kd.R_alloc | apply Kd.R_drewN | apply Kd.R_drew)); exact HO_6.out) hb); have n1_ := Aside0.mk (Kd.R_below (by (with_reducible repeat (first | apply Kd.R_alloc | apply Kd.R_drewN | apply Kd.R_drew)); exact HO_7.out) hb); have n2_ := Aside0.mk (below_step (by repeat (first | (with_reducible first | exact HB.out | apply below_alloc | apply pw_below_drewN | apply below_drew1) | exact HB.out)) hb); clear HO_6; clear HO_7; clear HB; have HO_6 := n0_; have HO_7 := n1_; have HB := n2_; clear n0_ n1_ n2_; (try clear hb); (try clear hb2); (try clear hk); (try clear hi)))
                        go_loopg [10, 11] k2 (fun kq v10 v11 w' => ∃ (x10_3 : ByteArray) (x11_3 : Int), v10 = .string x10_3 ∧ v11 = .int .i64 x11_3 ∧ Aside0 (flyleafref10_Table.l1 kq (l0.length : Int) x5_2 x6_2 x7_2 x10_3 x11_3 = some (r1, r2)) ∧ Aside0 (kq ≤ k2) ∧ Aside0 (Kd.R (Kd.int .i64) 3 w' w.heap.size (fun k_ => some k_ ≠ (v116 : Value).ownBlock) v113 x6_2) ∧ Aside0 (Kd.R (Kd.int .i64) 3 w' w.heap.size (fun k_ => some k_ ≠ (v113 : Value).ownBlock) v116 x7_2) ∧ Aside0 (Below w.heap.size w w'))
                        case atStart => exact ⟨(t124 ++ t125), (0), (by first | rfl | (simp; done) | (simp [*]; done)), (by first | rfl | (simp; done) | (simp [*]; done)), H', ⟨Nat.le_refl _⟩, ⟨by (with_reducible repeat (first | apply Kd.R_alloc | apply Kd.R_drewN | apply Kd.R_drew)); exact HO_6.out⟩, ⟨by (with_reducible repeat (first | apply Kd.R_alloc | apply Kd.R_drewN | apply Kd.R_drew)); exact HO_7.out⟩, ⟨by repeat (first | (with_reducible first | exact HB.out | apply below_alloc | apply pw_below_drewN | apply below_drew1) | exact HB.out)⟩⟩
                        case round =>
                          clear H'
                          try clear c1
                          try clear p1
                          try clear q1
                          try clear hx1
                          try clear c2
                          try clear c2b0
                          try clear c2b1
                          try clear p2
                          try clear q2
                          try clear hx2
                          try clear hf2
                          try clear c3
                          try clear c4
                          try clear c4b0
                          try clear c4b1
                          try clear c5
                          try clear c5b0
                          try clear c5b1
                          try clear c6
                          try clear c6b0
                          try clear c6b1
                          try clear p6
                          try clear c7
                          try clear c7b0
                          try clear c7b1
                          try clear c8
                          try clear c8b0
                          try clear c8b1
                          try clear p11
                          try clear q11
                          try clear hx11
                          try clear p12
                          try clear q12
                          try clear hx12
                          try clear c13
                          try clear c13b0
                          try clear c14
                          try clear c14b0
                          try clear c15
                          try clear c15b0
                          try clear c16
                          try clear c16b0
                          try clear c16b1
                          try clear c18
                          try clear c18b0
                          try clear c18b1
                          try clear c20
                          try clear c20b0
                          try clear c21
                          try clear c21b0
                          try clear c22
                          try clear c22b0
                          try clear p23
                          try clear q23
                          try clear hx23
                          try clear hf23
                          try clear p24
                          try clear q24
                          try clear hx24
                          try clear hf24
                          try clear c29
                          try clear c32
                          try clear c32b0
                          try clear c32b1
                          try clear c32b2
                          try clear hx118_0
                          try clear hx119_0
                          try clear hx121_0
                          try clear hx23_0
                          try clear hx24_0
                          try clear p118
                          try clear p119
                          try clear p121
                          try clear p2
                          try clear p23
                          try clear p24
                          try clear q118
                          try clear q119
                          try clear q121
                          try clear q23
                          try clear q24
                          obtain ⟨x10_3, x11_3, rfl, rfl, HA, HK3, HO_6, HO_7, HB⟩ := hrel
                          cases gk with
                          | zero => exact absurd HA.out (by simp [flyleafref10_Table.l1])
                          | succ k3 =>
                            have H := HA.out
                            clear HA
                            simp only [flyleafref10_Table.l1] at H
                            by_cases c35 : x11_3 < x5_2
                            · rw [if_pos c35] at H
                              have c35b0 : decide (x11_3 < x5_2) = true := decide_eq_true c35
                              clear c35
                              by_cases c36 : 0 ≤ x11_3
                              · rw [if_pos c36] at H
                                have c36b0 : decide (0 ≤ x11_3) = true := decide_eq_true c36
                                clear c36
                                by_cases c37 : x11_3 < (x6_2.length : Int)
                                · rw [if_pos c37] at H
                                  have c37b0 : decide (x11_3 < (x6_2.length : Int)) = true := decide_eq_true c37
                                  clear c37
                                  replace H := Option.bind_eq_some_iff.mp H
                                  obtain ⟨t127, A380, H⟩ := H
                                  replace H : (if x10_3.size + t127.size ≤ 9223372036854775807 then (flyleafref10_Table.l1 k3 (l0.length : Int) x5_2 x6_2 x7_2 (x10_3 ++ t127) (wrap64 (x11_3 + 1))) else (none)) = some (r1, r2) := H
                                  have A38 := Aside0.mk A380
                                  clear A380
                                  by_cases c39 : x10_3.size + t127.size ≤ 9223372036854775807
                                  · rw [if_pos c39] at H
                                    have c39b0 := eq_true c39
                                    have c39b1 : decide (x10_3.size + t127.size ≤ 9223372036854775807) = true := decide_eq_true c39
                                    try have c39b2 : (9223372036854775807 < x10_3.size + t127.size) = False := eq_false (Nat.not_lt.2 c39)
                                    clear c39
                                    have H' := Aside0.mk H
                                    clear H
                                    obtain ⟨Ao40, co40, eo40⟩ := Kd.R_slice HO_6.out
                                    subst eo40
                                    have p126 : 0 ≤ (x11_3 : Int) := of_decide_eq_true (by first | (with_reducible assumption) | assumption)
                                    have q126 : x11_3 < (x6_2.length : Int) := of_decide_eq_true (by first | (with_reducible assumption) | assumption)
                                    obtain ⟨ad126, e126, hx126_0⟩ := Kd.at_int (Kd.R_reads' HO_6.out).2.2 x11_3 p126 q126
                                    cases e126
                                    replace p126 := eq_true p126
                                    replace q126 := eq_true q126
                                    go_wp2_with (first | ((with_reducible refine gate_callee (f := 29) rfl ?_); refine goesL_ (some 68) rfl rfl Try.func29 (by kernel_rfl) rfl #[.int .i64 (rd x6_2 x11_3), .int .i64 4] rfl (by (try simp only [List.map_toArray, List.map_cons, List.map_nil]); first | done | rfl | (simp only [List.length_drop, List.length_take]; rfl) | (simp only [ByteArray.size_append, Int.natCast_add]; rfl)) ?_; (with_reducible refine (flyleafref10_put.calls k3 (rd x6_2 x11_3) 4 t127 _ A38.out).mono ?_); rintro e w41 ⟨rfl, hb⟩; refine ⟨_, rfl, ?_⟩; have n0_ := Aside0.mk (Kd.R_below (by (with_reducible repeat (first | apply Kd.R_alloc | apply Kd.R_drewN | apply Kd.R_drew)); exact HO_6.out) hb); have n1_ := Aside0.mk (Kd.R_below (by (with_reducible repeat (first | apply Kd.R_alloc | apply Kd.R_drewN | apply Kd.R_drew)); exact HO_7.out) hb); have n2_ := Aside0.mk (below_step (by repeat (first | (with_reducible first | exact HB.out | apply below_alloc | apply pw_below_drewN | apply below_drew1) | exact HB.out)) hb); clear HO_6; clear HO_7; clear HB; have HO_6 := n0_; have HO_7 := n1_; have HB := n2_; clear n0_ n1_ n2_; (try clear hb); (try clear hb2); (try clear hk); (try clear hi)))
                                    go_roundg k3
                                    case measure => have := HJ2.out; have := HK2.out; have := HK3.out; omega
                                    case rel => exact ⟨(x10_3 ++ t127), (wrap64 (x11_3 + 1)), (by first | rfl | (simp; done) | (simp [*]; done)), (by first | rfl | (simp; done) | (simp [*]; done)), H', ⟨by have := HJ2.out; have := HK2.out; have := HK3.out; omega⟩, ⟨by (with_reducible repeat (first | apply Kd.R_alloc | apply Kd.R_drewN | apply Kd.R_drew)); exact HO_6.out⟩, ⟨by (with_reducible repeat (first | apply Kd.R_alloc | apply Kd.R_drewN | apply Kd.R_drew)); exact HO_7.out⟩, ⟨by repeat (first | (with_reducible first | exact HB.out | apply below_alloc | apply pw_below_drewN | apply below_drew1) | exact HB.out)⟩⟩
                                  · rw [if_neg c39] at H
                                    exact absurd H (by simp)
                                · rw [if_neg c37] at H
                                  exact absurd H (by simp)
                              · rw [if_neg c36] at H
                                exact absurd H (by simp)
                            · rw [if_neg c35] at H
                              have c35b0 : decide (x11_3 < x5_2) = false := decide_eq_false c35
                              clear c35
                              have H' := Aside0.mk H
                              clear H
                              go_wp2
                              go_loopg [10, 12] k3 (fun kq v10 v12 w' => ∃ (x10_4 : ByteArray) (x12_4 : Int), v10 = .string x10_4 ∧ v12 = .int .i64 x12_4 ∧ Aside0 (flyleafref10_Table.l2 kq (l0.length : Int) x7_2 x10_4 x12_4 = some (r1, r2)) ∧ Aside0 (kq ≤ k3) ∧ Aside0 (Kd.R (Kd.int .i64) 3 w' w.heap.size (fun _ => True) v116 x7_2) ∧ Aside0 (Below w.heap.size w w'))
                              case atStart => exact ⟨(x10_3), (0), (by first | rfl | (simp; done) | (simp [*]; done)), (by first | rfl | (simp; done) | (simp [*]; done)), H', ⟨Nat.le_refl _⟩, ⟨by (with_reducible repeat (first | apply Kd.R_alloc | apply Kd.R_drewN | apply Kd.R_drew)); exact Kd.R_mono HO_7.out (fun _ hk => trivial)⟩, ⟨by repeat (first | (with_reducible first | exact HB.out | apply below_alloc | apply pw_below_drewN | apply below_drew1) | exact HB.out)⟩⟩
                              case round =>
                                clear H'
                                try clear c1
                                try clear p1
                                try clear q1
                                try clear hx1
                                try clear c2
                                try clear c2b0
                                try clear c2b1
                                try clear p2
                                try clear q2
                                try clear hx2
                                try clear hf2
                                try clear c3
                                try clear c4
                                try clear c4b0
                                try clear c4b1
                                try clear c5
                                try clear c5b0
                                try clear c5b1
                                try clear c6
                                try clear c6b0
                                try clear c6b1
                                try clear p6
                                try clear c7
                                try clear c7b0
                                try clear c7b1
                                try clear c8
                                try clear c8b0
                                try clear c8b1
                                try clear p11
                                try clear q11
                                try clear hx11
                                try clear p12
                                try clear q12
                                try clear hx12
                                try clear c13
                                try clear c13b0
                                try clear c14
                                try clear c14b0
                                try clear c15
                                try clear c15b0
                                try clear c16
                                try clear c16b0
                                try clear c16b1
                                try clear c18
                                try clear c18b0
                                try clear c18b1
                                try clear c20
                                try clear c20b0
                                try clear c21
                                try clear c21b0
                                try clear c22
                                try clear c22b0
                                try clear p23
                                try clear q23
                                try clear hx23
                                try clear hf23
                                try clear p24
                                try clear q24
                                try clear hx24
                                try clear hf24
                                try clear c29
                                try clear c32
                                try clear c32b0
                                try clear c32b1
                                try clear c32b2
                                try clear c35
                                try clear c35b0
                                try clear c36
                                try clear c36b0
                                try clear c37
                                try clear c37b0
                                try clear c39
                                try clear c39b0
                                try clear c39b1
                                try clear c39b2
                                try clear hx118_0
                                try clear hx119_0
                                try clear hx121_0
                                try clear hx126_0
                                try clear hx23_0
                                try clear hx24_0
                                try clear p1
                                try clear p11
                                try clear p118
                                try clear p119
                                try clear p12
                                try clear p121
                                try clear p126
                                try clear p2
                                try clear p23
                                try clear p24
                                try clear p6
                                try clear q1
                                try clear q11
                                try clear q118
                                try clear q119
                                try clear q12
                                try clear q121
                                try clear q126
                                try clear q2
                                try clear q23
                                try clear q24
                                obtain ⟨x10_4, x12_4, rfl, rfl, HA, HK4, HO_7, HB⟩ := hrel
                                cases gk with
                                | zero => exact absurd HA.out (by simp [flyleafref10_Table.l2])
                                | succ k4 =>
                                  have H := HA.out
                                  clear HA
                                  simp only [flyleafref10_Table.l2] at H
                                  by_cases c42 : x12_4 < (l0.length : Int)
                                  · rw [if_pos c42] at H
                                    have c42b0 : decide (x12_4 < (l0.length : Int)) = true := decide_eq_true c42
                                    clear c42
                                    by_cases c43 : 0 ≤ x12_4
                                    · rw [if_pos c43] at H
                                      have c43b0 : decide (0 ≤ x12_4) = true := decide_eq_true c43
                                      clear c43
                                      by_cases c44 : x12_4 < (x7_2.length : Int)
                                      · rw [if_pos c44] at H
                                        have c44b0 : decide (x12_4 < (x7_2.length : Int)) = true := decide_eq_true c44
                                        clear c44
                                        replace H := Option.bind_eq_some_iff.mp H
                                        obtain ⟨t129, A450, H⟩ := H
                                        replace H : (if x10_4.size + t129.size ≤ 9223372036854775807 then (flyleafref10_Table.l2 k4 (l0.length : Int) x7_2 (x10_4 ++ t129) (wrap64 (x12_4 + 1))) else (none)) = some (r1, r2) := H
                                        have A45 := Aside0.mk A450
                                        clear A450
                                        by_cases c46 : x10_4.size + t129.size ≤ 9223372036854775807
                                        · rw [if_pos c46] at H
                                          have c46b0 := eq_true c46
                                          have c46b1 : decide (x10_4.size + t129.size ≤ 9223372036854775807) = true := decide_eq_true c46
                                          try have c46b2 : (9223372036854775807 < x10_4.size + t129.size) = False := eq_false (Nat.not_lt.2 c46)
                                          clear c46
                                          have H' := Aside0.mk H
                                          clear H
                                          obtain ⟨Ao47, co47, eo47⟩ := Kd.R_slice HO_7.out
                                          subst eo47
                                          have p128 : 0 ≤ (x12_4 : Int) := of_decide_eq_true (by first | (with_reducible assumption) | assumption)
                                          have q128 : x12_4 < (x7_2.length : Int) := of_decide_eq_true (by first | (with_reducible assumption) | assumption)
                                          obtain ⟨ad128, e128, hx128_0⟩ := Kd.at_int (Kd.R_reads' HO_7.out).2.2 x12_4 p128 q128
                                          cases e128
                                          replace p128 := eq_true p128
                                          replace q128 := eq_true q128
                                          go_wp2_with (first | ((with_reducible refine gate_callee (f := 29) rfl ?_); refine goesL_ (some 80) rfl rfl Try.func29 (by kernel_rfl) rfl #[.int .i64 (rd x7_2 x12_4), .int .i64 4] rfl (by (try simp only [List.map_toArray, List.map_cons, List.map_nil]); first | done | rfl | (simp only [List.length_drop, List.length_take]; rfl) | (simp only [ByteArray.size_append, Int.natCast_add]; rfl)) ?_; (with_reducible refine (flyleafref10_put.calls k4 (rd x7_2 x12_4) 4 t129 _ A45.out).mono ?_); rintro e w48 ⟨rfl, hb⟩; refine ⟨_, rfl, ?_⟩; have n0_ := Aside0.mk (Kd.R_below (by (with_reducible repeat (first | apply Kd.R_alloc | apply Kd.R_drewN | apply Kd.R_drew)); exact HO_7.out) hb); have n1_ := Aside0.mk (below_step (by repeat (first | (with_reducible first | exact HB.out | apply below_alloc | apply pw_below_drewN | apply below_drew1) | exact HB.out)) hb); clear HO_7; clear HB; have HO_7 := n0_; have HB := n1_; clear n0_ n1_; (try clear hb); (try clear hb2); (try clear hk); (try clear hi)))
                                          go_roundg k4
                                          case measure => have := HJ2.out; have := HK2.out; have := HK3.out; have := HK4.out; omega
                                          case rel => exact ⟨(x10_4 ++ t129), (wrap64 (x12_4 + 1)), (by first | rfl | (simp; done) | (simp [*]; done)), (by first | rfl | (simp; done) | (simp [*]; done)), H', ⟨by have := HJ2.out; have := HK2.out; have := HK3.out; have := HK4.out; omega⟩, ⟨by (with_reducible repeat (first | apply Kd.R_alloc | apply Kd.R_drewN | apply Kd.R_drew)); exact HO_7.out⟩, ⟨by repeat (first | (with_reducible first | exact HB.out | apply below_alloc | apply pw_below_drewN | apply below_drew1) | exact HB.out)⟩⟩
                                        · rw [if_neg c46] at H
                                          exact absurd H (by simp)
                                      · rw [if_neg c44] at H
                                        exact absurd H (by simp)
                                    · rw [if_neg c43] at H
                                      exact absurd H (by simp)
                                  · rw [if_neg c42] at H
                                    have c42b0 : decide (x12_4 < (l0.length : Int)) = false := decide_eq_false c42
                                    clear c42
                                    simp only [Option.some.injEq, Prod.mk.injEq] at H
                                    obtain ⟨rfl, rfl⟩ := H
                                    go_wp2
                                    go_ret2
                                    exact ⟨by first | rfl | (simp [errW_none, errW_some] <;> rfl) | (simp [*, errW_none, errW_some] <;> rfl), by repeat (first | (with_reducible first | exact HB.out | apply below_alloc | apply pw_below_drewN | apply below_drew1) | exact HB.out)⟩
                      · rw [if_neg c32] at H
                        exact absurd H (by simp)
              · rw [if_neg c8] at H
                exact absurd H (by simp)
            · rw [if_neg c7] at H
              exact absurd H (by simp)
          · rw [if_neg c6] at H
            exact absurd H (by simp)
        · rw [if_neg c5] at H
          exact absurd H (by simp)

end Go.Proofs.Ytoknnbjkjhigbaa.X
