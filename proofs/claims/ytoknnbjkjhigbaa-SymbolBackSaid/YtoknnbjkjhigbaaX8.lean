/- Walks of Go functions of this seat: each calls-theorem says that the Go function, called at values of its kinds, returns what the Lean function of its name tells, where that tells something; what was in memory stays. Written by our own program xprint.py. -/
import Derived.Test.YtoknnbjkjhigbaaX0
import Derived.Test.YtoknnbjkjhigbaaX1
import Derived.Test.YtoknnbjkjhigbaaX2
import Derived.Test.YtoknnbjkjhigbaaX4
import Derived.Test.YtoknnbjkjhigbaaX6
import Derived.Test.YtoknnbjkjhigbaaX7
namespace Go.Proofs.Ytoknnbjkjhigbaa.X
open Go.RowKit Go.Proofs.YtoknnbjkjhigbaaW.PrintWords Go.Proofs.YtoknnbjkjhigbaaW.PrintLast Go.Proofs.YtoknnbjkjhigbaaW.PrintMore
attribute [local go_sem] max2_int min2_int max_two min_two max_three min_three max_four min_four   -- for this text's walks alone
set_option linter.unusedVariables false
set_option linter.unusedSimpArgs false

attribute [local go_sem high] eqA37
/-! ### symbol_Bytes: function 17 -/
def symbol_Bytes.j0 : Nat → Int → Int → Bool → Int → Option (ByteArray)
  | 0, _, _, _, _ => none
  | k + 1, x3, x228000, x228001, x228002 => (symbol_put.f k x228000 4).bind fun t228 => (if t228.size + 2 ≤ 9223372036854775807 then ((symbol_put.f k x3 2).bind fun t229 => (if t228.size + 2 + t229.size ≤ 9223372036854775807 then ((symbol_put.f k x228002 8).bind fun t230 => (if t228.size + 2 + t229.size + t230.size ≤ 9223372036854775807 then ((octet_Fill.f (((t228 ++ (⟨#[18, 0]⟩ : ByteArray)) ++ t229) ++ t230) 24).bind fun t231 => (some t231)) else (none))) else (none))) else (none))
def symbol_Bytes.f (k : Nat) (a0_0 : Int) (a0_1 : Bool) (a0_2 : Int) : Option (ByteArray) := if a0_1 = true then (symbol_Bytes.j0 k 1 a0_0 a0_1 a0_2) else (symbol_Bytes.j0 k 0 a0_0 a0_1 a0_2)
theorem symbol_Bytes.mono_l : ∀ k, (∀ y0 y1 y2 y3, LeO (symbol_Bytes.j0 k y0 y1 y2 y3) (symbol_Bytes.j0 (k + 1) y0 y1 y2 y3))
  | 0 => fun _ _ _ _ r h => by simp [symbol_Bytes.j0] at h
  | k + 1 => by
    have ih0 := symbol_Bytes.mono_l k
    · intro y0 y1 y2 y3
      unfold symbol_Bytes.j0
      repeat' first
      | (with_reducible exact ih0 _ _ _ _)
      | (with_reducible exact symbol_put.mono _ _ _)
      | (with_reducible exact LeO.refl _)
      | (with_reducible exact LeO.none _)
      | (with_reducible refine LeO.ite ?_ ?_)
      | (with_reducible refine LeO.bind ?_ (fun _ => ?_))
      | exact ih0 _ _ _ _
      | exact symbol_put.mono _ _ _
      | exact LeO.none _
      | refine LeO.ite ?_ ?_
      | refine LeO.bind ?_ (fun _ => ?_)
theorem symbol_Bytes.mono : ∀ a0 a1 a2 k, LeO (symbol_Bytes.f k a0 a1 a2) (symbol_Bytes.f (k + 1) a0 a1 a2) := by
  intro a0 a1 a2 k
  have ih0 := symbol_Bytes.mono_l k
  unfold symbol_Bytes.f
  repeat' first
      | (with_reducible exact ih0 _ _ _ _)
      | (with_reducible exact symbol_put.mono _ _ _)
      | (with_reducible exact LeO.refl _)
      | (with_reducible exact LeO.none _)
      | (with_reducible refine LeO.ite ?_ ?_)
      | (with_reducible refine LeO.bind ?_ (fun _ => ?_))
      | exact ih0 _ _ _ _
      | exact symbol_put.mono _ _ _
      | exact LeO.none _
      | refine LeO.ite ?_ ?_
      | refine LeO.bind ?_ (fun _ => ?_)
def symbol_Bytes.T4 : Bool × List (List Nat × List Nat) := (true, [([], []), ([0], [0]), ([1], [1]), ([2], [2]), ([], []), ([4, 2], [4]), ([3, 5], [3, 5]), ([], []), ([7], [7]), ([8, 5], [8]), ([6, 9], [6, 9]), ([10, 9], [10]), ([11, 11, 0, 1, 2, 3, 4, 5, 6, 7, 8, 9, 10, 11], [11])])
def symbol_Bytes.B4 : List Nat := [0, 1, 3, 7, 0, 23, 63, 0, 128, 439, 1023, 2047, 4095]
theorem symbol_Bytes.tab4 : rtab .any (opsOf Try.f17 4) = symbol_Bytes.T4 := by kernel_rfl
theorem symbol_Bytes.bits4 : waitsOk symbol_Bytes.T4.2 symbol_Bytes.B4 = true := by kernel_rfl
set_option maxHeartbeats 8000000 in
set_option maxRecDepth 100000 in
theorem symbol_Bytes.calls (k : Nat) (a0_0 : Int) (a0_1 : Bool) (a0_2 : Int) (r : ByteArray) (w : World) (h : symbol_Bytes.f k a0_0 a0_1 a0_2 = some r) :
    Calls Try.prog 17 #[.agg #[.int .i64 a0_0, .bool a0_1, .int .i64 a0_2]] w fun e w' => e = .returned (.string r) ∧ Below w.heap.size w w' := by
  have hu37 := Try.underlying37
  have HB := Aside0.mk (Below.refl w.heap.size w)
  have H : (if a0_1 = true then (symbol_Bytes.j0 k 1 a0_0 a0_1 a0_2) else (symbol_Bytes.j0 k 0 a0_0 a0_1 a0_2)) = some r := h
  clear h
  have HC2 := Aside0.mk H
  clear H
  go_enter Try.func17, Try.ntmps17
  go_upto_if 5 with (first | ((with_reducible refine gate_dst (N := 1) rfl ?_); refine box_event ?hg (N := 1) ?hd (cs := #[.int .i64 a0_0, .bool a0_1, .int .i64 a0_2]) (t := 37) ?hr ?_; (case hd => rfl); (case hg => rfl); (case hr => first | (go_simp; done) | (go_simp; rfl)); intro gb227 hg w3 hbox hb; have n0_ := Aside0.mk (below_step (by repeat (first | (with_reducible first | exact HB.out | apply below_alloc | apply pw_below_drewN | apply below_drew1) | exact HB.out)) hb); have n1_ := Aside0.mk (hbox); have n2_ := Aside0.mk ((by rw [hg]; exact (below_size (by repeat (first | (with_reducible first | exact HB.out | apply below_alloc | apply pw_below_drewN | apply below_drew1) | exact HB.out))) : w.heap.size ≤ gb227)); have n3_ := Aside0.mk ((by rw [hg]; exact (below_size (by repeat (first | (with_reducible first | exact HB.out | apply below_alloc | apply pw_below_drewN | apply below_drew1) | exact HB.out))) : w.heap.size ≤ gb227)); clear HB; have HB := n0_; have BK227 := n1_; have GW227 := n2_; have GE227 := n3_; clear n0_ n1_ n2_ n3_; clear hb hbox hg; have hcz4_0 : w3.cell? ⟨gb227, 0, none⟩ = some (.int .i64 a0_0) := (blk_cell BK227.out 0).trans rfl; have hcz4_1 : w3.cell? ⟨gb227, 1, none⟩ = some (.bool a0_1) := (blk_cell BK227.out 1).trans rfl; have hcz4_2 : w3.cell? ⟨gb227, 2, none⟩ = some (.int .i64 a0_2) := (blk_cell BK227.out 2).trans rfl; have hfz4_0 := blk_frozen BK227.out 0; have hfz4_1 := blk_frozen BK227.out 1; have hfz4_2 := blk_frozen BK227.out 2))
  (try simp only [Act.put, List.setIfInBounds_toArray, List.set_cons_zero, List.set_cons_succ])
  go_cut [3] (fun v3 wc => ∃ (kq : Nat) (x3_1 : Int), v3 = .int .i64 x3_1 ∧ Aside0 (symbol_Bytes.j0 kq x3_1 a0_0 a0_1 a0_2 = some r) ∧ Aside0 (kq ≤ k) ∧ Aside0 (wc.heap[gb227]? = some (.cells #[.int .i64 a0_0, .bool a0_1, .int .i64 a0_2] 37 (0, 0))) ∧ Aside0 (Below w.heap.size w wc))
  case first =>
    have H := HC2.out
    clear HC2
    by_cases c5 : a0_1 = true
    · subst c5
      have H1 : (symbol_Bytes.j0 k 1 a0_0 true a0_2) = some r := by rw [if_pos rfl] at H; exact H
      clear H
      have H := H1
      clear H1
      have H' := Aside0.mk H
      clear H
      go_wp2
      go_meet
      case rel => exact ⟨_, (1), (by first | rfl | (simp; done) | (simp [*]; done)), H', ⟨by first | omega | exact Nat.le_refl _⟩, ⟨by (with_reducible repeat (first | refine blk_drewN ?_ _ | refine blk_drew ?_ | refine blk_alloc ?_ _)); exact BK227.out⟩, ⟨by repeat (first | (with_reducible first | exact HB.out | apply below_alloc | apply pw_below_drewN | apply below_drew1 | refine below_set ?_ GE227.out) | exact HB.out)⟩⟩
    · replace c5 := Bool.eq_false_iff.mpr c5
      subst c5
      have H1 : (symbol_Bytes.j0 k 0 a0_0 false a0_2) = some r := by rw [if_neg (show ¬ (false = true) by decide)] at H; exact H
      clear H
      have H := H1
      clear H1
      have H' := Aside0.mk H
      clear H
      go_wp2
      go_meet
      case rel => exact ⟨_, (0), (by first | rfl | (simp; done) | (simp [*]; done)), H', ⟨by first | omega | exact Nat.le_refl _⟩, ⟨by (with_reducible repeat (first | refine blk_drewN ?_ _ | refine blk_drew ?_ | refine blk_alloc ?_ _)); exact BK227.out⟩, ⟨by repeat (first | (with_reducible first | exact HB.out | apply below_alloc | apply pw_below_drewN | apply below_drew1 | refine below_set ?_ GE227.out) | exact HB.out)⟩⟩
  case rest =>
    clear HC2
    try clear c1
    try clear p2
    try clear c5
    try clear hcz4_0
    try clear hcz4_1
    try clear hcz4_2
    try clear hfz4_0
    try clear hfz4_1
    try clear hfz4_2
    obtain ⟨kq, x3_1, rfl, HA, HJ1, BK227, HB⟩ := hcut
    cases kq with
    | zero => exact absurd HA.out (by simp [symbol_Bytes.j0])
    | succ kj1 =>
      have H := HA.out
      clear HA
      simp only [symbol_Bytes.j0] at H
      replace H := Option.bind_eq_some_iff.mp H
      obtain ⟨t228, A60, H⟩ := H
      replace H : (if t228.size + 2 ≤ 9223372036854775807 then ((symbol_put.f kj1 x3_1 2).bind fun t229 => (if t228.size + 2 + t229.size ≤ 9223372036854775807 then ((symbol_put.f kj1 a0_2 8).bind fun t230 => (if t228.size + 2 + t229.size + t230.size ≤ 9223372036854775807 then ((octet_Fill.f (((t228 ++ (⟨#[18, 0]⟩ : ByteArray)) ++ t229) ++ t230) 24).bind fun t231 => (some t231)) else (none))) else (none))) else (none)) = some r := H
      have A6 := Aside0.mk A60
      clear A60
      by_cases c7 : t228.size + 2 ≤ 9223372036854775807
      · rw [if_pos c7] at H
        have c7b0 := eq_true c7
        have c7b1 : decide (t228.size + 2 ≤ 9223372036854775807) = true := decide_eq_true c7
        try have c7b2 : (9223372036854775807 < t228.size + 2) = False := eq_false (Nat.not_lt.2 c7)
        clear c7
        replace H := Option.bind_eq_some_iff.mp H
        obtain ⟨t229, A80, H⟩ := H
        replace H : (if t228.size + 2 + t229.size ≤ 9223372036854775807 then ((symbol_put.f kj1 a0_2 8).bind fun t230 => (if t228.size + 2 + t229.size + t230.size ≤ 9223372036854775807 then ((octet_Fill.f (((t228 ++ (⟨#[18, 0]⟩ : ByteArray)) ++ t229) ++ t230) 24).bind fun t231 => (some t231)) else (none))) else (none)) = some r := H
        have A8 := Aside0.mk A80
        clear A80
        by_cases c9 : t228.size + 2 + t229.size ≤ 9223372036854775807
        · rw [if_pos c9] at H
          have c9b0 := eq_true c9
          have c9b1 : decide (t228.size + 2 + t229.size ≤ 9223372036854775807) = true := decide_eq_true c9
          try have c9b2 : (9223372036854775807 < t228.size + 2 + t229.size) = False := eq_false (Nat.not_lt.2 c9)
          clear c9
          replace H := Option.bind_eq_some_iff.mp H
          obtain ⟨t230, A100, H⟩ := H
          replace H : (if t228.size + 2 + t229.size + t230.size ≤ 9223372036854775807 then ((octet_Fill.f (((t228 ++ (⟨#[18, 0]⟩ : ByteArray)) ++ t229) ++ t230) 24).bind fun t231 => (some t231)) else (none)) = some r := H
          have A10 := Aside0.mk A100
          clear A100
          by_cases c11 : t228.size + 2 + t229.size + t230.size ≤ 9223372036854775807
          · rw [if_pos c11] at H
            have c11b0 := eq_true c11
            have c11b1 : decide (t228.size + 2 + t229.size + t230.size ≤ 9223372036854775807) = true := decide_eq_true c11
            try have c11b2 : (9223372036854775807 < t228.size + 2 + t229.size + t230.size) = False := eq_false (Nat.not_lt.2 c11)
            clear c11
            replace H := Option.bind_eq_some_iff.mp H
            obtain ⟨t231, A120, H⟩ := H
            replace H : (some t231) = some r := H
            have A12 := Aside0.mk A120
            clear A120
            obtain rfl := Option.some.inj H
            try go_wp2
            have n0_ := Aside0.mk (blk_drew BK227.out)
            have n1_ := Aside0.mk (below_drew1 HB.out)
            clear BK227
            clear HB
            have BK227 := n0_
            have HB := n1_
            clear n0_ n1_
            refine start_ (n := 13) (S := fun w' => w'.cell? ⟨gb227, 0, none⟩ = some (.int .i64 a0_0) ∧ w'.cell? ⟨gb227, 1, none⟩ = some (.bool a0_1) ∧ w'.cell? ⟨gb227, 2, none⟩ = some (.int .i64 a0_2)) (ds := []) #[false, false, false, false, false, false, false, false, false, false, false, false, false] (by kernel_rfl) rfl rfl ⟨(blk_cell BK227.out 0).trans rfl, (blk_cell BK227.out 1).trans rfl, (blk_cell BK227.out 2).trans rfl⟩ (fun hHeld => ?_); refine with_tabW symbol_Bytes.tab4 symbol_Bytes.bits4 (fun HT_ HW_ => ?_)
            generalize wc.drew = w13 at BK227 HB hHeld ⊢
            refine pure_ (i := 0) (N := some 6) (v := ?_) (a' := ?_) #[true, false, false, false, false, false, false, false, false, false, false, false, false] rfl rfl (any_of HT_.out (by kernel_rfl)) (fun _ _ _ h => h) (Or.inl ⟨by rfl, ?_⟩) ?_ ?_
            rotate_left
            · intro w'
              go_simp
              with_reducible rfl
            rotate_left
            · simp only [Act.put, List.setIfInBounds_toArray, List.set_cons_zero, List.set_cons_succ, i64_w, i32_w]
              rfl
            refine pure_ (i := 4) (N := some 10) (v := ?_) (a' := ?_) #[true, false, false, false, true, false, false, false, false, false, false, false, false] rfl rfl (any_of HT_.out (by kernel_rfl)) (fun _ _ _ h => h) (Or.inl ⟨by rfl, ?_⟩) ?_ ?_
            rotate_left
            · intro w'
              go_simp
              with_reducible rfl
            rotate_left
            · simp only [Act.put, List.setIfInBounds_toArray, List.set_cons_zero, List.set_cons_succ, i64_w, i32_w]
              rfl
            refine pure_ (i := 7) (N := some 13) (v := ?_) (a' := ?_) #[true, false, false, false, true, false, false, true, false, false, false, false, false] rfl rfl (any_of HT_.out (by kernel_rfl)) (fun _ _ _ h => h) (Or.inl ⟨by rfl, ?_⟩) ?_ ?_
            rotate_left
            · intro w'
              go_simp
              with_reducible rfl
            rotate_left
            · simp only [Act.put, List.setIfInBounds_toArray, List.set_cons_zero, List.set_cons_succ, i64_w, i32_w]
              rfl
            refine take_ (i := 1) (N := some 7) (v := ?_) (a' := ?_) #[true, true, false, false, true, false, false, true, false, false, false, false, false] rfl rfl (take_ofW HT_.out HW_.out (by kernel_rfl)) (fun _ _ _ h => h) (Or.inl ⟨by rfl, ?_⟩) hHeld ?_ ?_
            rotate_left
            · rintro w' ⟨s0, s1, s2⟩
              go_simp
              with_reducible rfl
            rotate_left
            · simp only [Act.put, List.setIfInBounds_toArray, List.set_cons_zero, List.set_cons_succ, i64_w, i32_w]
              rfl
            refine take_ (i := 8) (N := some 14) (v := ?_) (a' := ?_) #[true, true, false, false, true, false, false, true, true, false, false, false, false] rfl rfl (take_ofW HT_.out HW_.out (by kernel_rfl)) (fun _ _ _ h => h) (Or.inl ⟨by rfl, ?_⟩) hHeld ?_ ?_
            rotate_left
            · rintro w' ⟨s0, s1, s2⟩
              go_simp
              with_reducible rfl
            rotate_left
            · simp only [Act.put, List.setIfInBounds_toArray, List.set_cons_zero, List.set_cons_succ, i64_w, i32_w]
              rfl
            refine one_ (i := 2) (N := some 8) #[true, true, true, false, true, false, false, true, true, false, false, false, false] rfl rfl (one_of HT_.out (by kernel_rfl)) (by decide) (fun K hK => ?_)
            refine goes_ Try.func27 (by kernel_rfl) rfl #[.int .i64 a0_0, .int .i64 4] (by rfl) rfl rfl (by (try simp only [List.map_toArray, List.map_cons, List.map_nil]); first | done | rfl | (simp only [List.length_drop, List.length_take]; rfl) | (simp only [ByteArray.size_append, Int.natCast_add]; rfl)) ?_
            with_reducible refine (symbol_put.calls kj1 a0_0 4 t228 _ A6.out).mono ?_
            rintro e w14 ⟨rfl, hb⟩
            refine ⟨_, rfl, ?_⟩
            have n0_ := Aside0.mk (blk_below (g := gb227) (o := .cells #[.int .i64 a0_0, .bool a0_1, .int .i64 a0_2] 37 (0, 0)) (by (with_reducible repeat (first | refine blk_drewN ?_ _ | refine blk_drew ?_ | refine blk_alloc ?_ _)); exact BK227.out) hb)
            have n1_ := Aside0.mk (below_step (by repeat (first | (with_reducible first | exact HB.out | apply below_alloc | apply pw_below_drewN | apply below_drew1 | refine below_set ?_ GE227.out) | exact HB.out)) hb)
            clear BK227
            clear HB
            have BK227 := n0_
            have HB := n1_
            clear n0_ n1_
            (try clear hb)
            (try clear hb2)
            (try clear hk)
            (try clear hi)
            refine hK.out _ _ ⟨(blk_cell BK227.out 0).trans rfl, (blk_cell BK227.out 1).trans rfl, (blk_cell BK227.out 2).trans rfl⟩ (fun hHeld => ?_)
            clear hK K
            refine norm_ (a' := ?_) ?_ ?_
            rotate_left
            · show Act.put _ (some 8) _ = _
              simp only [Act.put, List.setIfInBounds_toArray, List.set_cons_zero, List.set_cons_succ, i64_w, i32_w]
              rfl
            refine pure_ (i := 3) (N := some 9) (v := ?_) (a' := ?_) #[true, true, true, true, true, false, false, true, true, false, false, false, false] rfl rfl (any_of HT_.out (by kernel_rfl)) (fun _ _ _ h => h) (Or.inl ⟨by rfl, ?_⟩) ?_ ?_
            rotate_left
            · intro w'
              go_simp
              with_reducible rfl
            rotate_left
            · simp only [Act.put, List.setIfInBounds_toArray, List.set_cons_zero, List.set_cons_succ, i64_w, i32_w]
              rfl
            refine one_ (i := 5) (N := some 11) #[true, true, true, true, true, true, false, true, true, false, false, false, false] rfl rfl (one_of HT_.out (by kernel_rfl)) (by decide) (fun K hK => ?_)
            refine goes_ Try.func27 (by kernel_rfl) rfl #[.int .i64 x3_1, .int .i64 2] (by rfl) rfl rfl (by (try simp only [List.map_toArray, List.map_cons, List.map_nil]); first | done | rfl | (simp only [List.length_drop, List.length_take]; rfl) | (simp only [ByteArray.size_append, Int.natCast_add]; rfl)) ?_
            with_reducible refine (symbol_put.calls kj1 x3_1 2 t229 _ A8.out).mono ?_
            rintro e w15 ⟨rfl, hb⟩
            refine ⟨_, rfl, ?_⟩
            have n0_ := Aside0.mk (blk_below (g := gb227) (o := .cells #[.int .i64 a0_0, .bool a0_1, .int .i64 a0_2] 37 (0, 0)) (by (with_reducible repeat (first | refine blk_drewN ?_ _ | refine blk_drew ?_ | refine blk_alloc ?_ _)); exact BK227.out) hb)
            have n1_ := Aside0.mk (below_step (by repeat (first | (with_reducible first | exact HB.out | apply below_alloc | apply pw_below_drewN | apply below_drew1 | refine below_set ?_ GE227.out) | exact HB.out)) hb)
            clear BK227
            clear HB
            have BK227 := n0_
            have HB := n1_
            clear n0_ n1_
            (try clear hb)
            (try clear hb2)
            (try clear hk)
            (try clear hi)
            refine hK.out _ _ ⟨(blk_cell BK227.out 0).trans rfl, (blk_cell BK227.out 1).trans rfl, (blk_cell BK227.out 2).trans rfl⟩ (fun hHeld => ?_)
            clear hK K
            refine norm_ (a' := ?_) ?_ ?_
            rotate_left
            · show Act.put _ (some 11) _ = _
              simp only [Act.put, List.setIfInBounds_toArray, List.set_cons_zero, List.set_cons_succ, i64_w, i32_w]
              rfl
            refine pure_ (i := 6) (N := some 12) (v := ?_) (a' := ?_) #[true, true, true, true, true, true, true, true, true, false, false, false, false] rfl rfl (any_of HT_.out (by kernel_rfl)) (fun _ _ _ h => h) (Or.inl ⟨by rfl, ?_⟩) ?_ ?_
            rotate_left
            · intro w'
              go_simp
              with_reducible rfl
            rotate_left
            · simp only [Act.put, List.setIfInBounds_toArray, List.set_cons_zero, List.set_cons_succ, i64_w, i32_w]
              rfl
            refine one_ (i := 9) (N := some 15) #[true, true, true, true, true, true, true, true, true, true, false, false, false] rfl rfl (one_of HT_.out (by kernel_rfl)) (by decide) (fun K hK => ?_)
            refine goes_ Try.func27 (by kernel_rfl) rfl #[.int .i64 a0_2, .int .i64 8] (by rfl) rfl rfl (by (try simp only [List.map_toArray, List.map_cons, List.map_nil]); first | done | rfl | (simp only [List.length_drop, List.length_take]; rfl) | (simp only [ByteArray.size_append, Int.natCast_add]; rfl)) ?_
            with_reducible refine (symbol_put.calls kj1 a0_2 8 t230 _ A10.out).mono ?_
            rintro e w16 ⟨rfl, hb⟩
            refine ⟨_, rfl, ?_⟩
            have n0_ := Aside0.mk (blk_below (g := gb227) (o := .cells #[.int .i64 a0_0, .bool a0_1, .int .i64 a0_2] 37 (0, 0)) (by (with_reducible repeat (first | refine blk_drewN ?_ _ | refine blk_drew ?_ | refine blk_alloc ?_ _)); exact BK227.out) hb)
            have n1_ := Aside0.mk (below_step (by repeat (first | (with_reducible first | exact HB.out | apply below_alloc | apply pw_below_drewN | apply below_drew1 | refine below_set ?_ GE227.out) | exact HB.out)) hb)
            clear BK227
            clear HB
            have BK227 := n0_
            have HB := n1_
            clear n0_ n1_
            (try clear hb)
            (try clear hb2)
            (try clear hk)
            (try clear hi)
            refine hK.out _ _ ⟨(blk_cell BK227.out 0).trans rfl, (blk_cell BK227.out 1).trans rfl, (blk_cell BK227.out 2).trans rfl⟩ (fun hHeld => ?_)
            clear hK K
            refine norm_ (a' := ?_) ?_ ?_
            rotate_left
            · show Act.put _ (some 15) _ = _
              simp only [Act.put, List.setIfInBounds_toArray, List.set_cons_zero, List.set_cons_succ, i64_w, i32_w]
              rfl
            refine pure_ (i := 10) (N := some 16) (v := ?_) (a' := ?_) #[true, true, true, true, true, true, true, true, true, true, true, false, false] rfl rfl (any_of HT_.out (by kernel_rfl)) (fun _ _ _ h => h) (Or.inl ⟨by rfl, ?_⟩) ?_ ?_
            rotate_left
            · intro w'
              go_simp
              with_reducible rfl
            rotate_left
            · simp only [Act.put, List.setIfInBounds_toArray, List.set_cons_zero, List.set_cons_succ, i64_w, i32_w]
              rfl
            refine one_ (i := 11) (N := some 17) #[true, true, true, true, true, true, true, true, true, true, true, true, false] rfl rfl (one_of HT_.out (by kernel_rfl)) (by decide) (fun K hK => ?_)
            refine goes_ Try.func30 (by kernel_rfl) rfl #[.string (((t228 ++ (⟨#[18, 0]⟩ : ByteArray)) ++ t229) ++ t230), .int .i64 24] (by rfl) rfl rfl (by (try simp only [List.map_toArray, List.map_cons, List.map_nil]); first | done | rfl | (simp only [List.length_drop, List.length_take]; rfl) | (simp only [ByteArray.size_append, Int.natCast_add]; rfl)) ?_
            with_reducible refine (octet_Fill.calls (((t228 ++ (⟨#[18, 0]⟩ : ByteArray)) ++ t229) ++ t230) 24 t231 _ A12.out).mono ?_
            rintro e w17 ⟨rfl, hb⟩
            refine ⟨_, rfl, ?_⟩
            have n0_ := Aside0.mk (blk_below (g := gb227) (o := .cells #[.int .i64 a0_0, .bool a0_1, .int .i64 a0_2] 37 (0, 0)) (by (with_reducible repeat (first | refine blk_drewN ?_ _ | refine blk_drew ?_ | refine blk_alloc ?_ _)); exact BK227.out) hb)
            have n1_ := Aside0.mk (below_step (by repeat (first | (with_reducible first | exact HB.out | apply below_alloc | apply pw_below_drewN | apply below_drew1 | refine below_set ?_ GE227.out) | exact HB.out)) hb)
            clear BK227
            clear HB
            have BK227 := n0_
            have HB := n1_
            clear n0_ n1_
            (try clear hb)
            (try clear hb2)
            (try clear hk)
            (try clear hi)
            refine hK.out _ _ ⟨(blk_cell BK227.out 0).trans rfl, (blk_cell BK227.out 1).trans rfl, (blk_cell BK227.out 2).trans rfl⟩ (fun hHeld => ?_)
            clear hK K
            refine norm_ (a' := ?_) ?_ ?_
            rotate_left
            · show Act.put _ (some 17) _ = _
              simp only [Act.put, List.setIfInBounds_toArray, List.set_cons_zero, List.set_cons_succ, i64_w, i32_w]
              rfl
            refine pure_ (i := 12) (N := some 2) (v := ?_) (a' := ?_) #[true, true, true, true, true, true, true, true, true, true, true, true, true] rfl rfl (any_of HT_.out (by kernel_rfl)) (fun _ _ _ h => h) (Or.inl ⟨by rfl, ?_⟩) ?_ ?_
            rotate_left
            · intro w'
              go_simp
              with_reducible rfl
            rotate_left
            · simp only [Act.put, List.setIfInBounds_toArray, List.set_cons_zero, List.set_cons_succ, i64_w, i32_w]
              rfl
            refine done_ (done_of HT_.out (by kernel_rfl)) ?_
            try go_wp2
            go_ret
            exact ⟨by first | rfl | (simp [errW_none, errW_some] <;> rfl) | (simp [*, errW_none, errW_some] <;> rfl), by repeat (first | (with_reducible first | exact HB.out | apply below_alloc | apply pw_below_drewN | apply below_drew1 | refine below_set ?_ GE227.out) | exact HB.out)⟩
          · rw [if_neg c11] at H
            exact absurd H (by simp)
        · rw [if_neg c9] at H
          exact absurd H (by simp)
      · rw [if_neg c7] at H
        exact absurd H (by simp)

-- NOT PRINTED: function 5 (flyleaflaw10_SymbolBytes)

/-! ### flyleaflaw10_SymbolBack: function 6 -/
def flyleaflaw10_SymbolBack.f (k : Nat) (a0_0 : Int) (a0_1 : Bool) (a0_2 : Int) (a1 : Int) : Option (Bool) := (flyleaflaw10_awake.f k).bind fun t241 => ((symbol_Bytes.f k (Go.bits .and .i64 a0_0 4294967295) a0_1 (Go.bits .and .i64 a0_2 1099511627775)).bind fun t242 => ((flyleafref01_Fill.f (⟨#[]⟩ : ByteArray) (wrap64 (8 + (wrap64 (24 * (Int.tmod (wrap64 ((Int.tmod a1 9) + 9)) 9)))))).bind fun t243 => (if t243.size + t242.size ≤ 9223372036854775807 then ((flyleafref01_Fill.f (⟨#[]⟩ : ByteArray) 40).bind fun t244 => (if t243.size + t242.size + t244.size ≤ 9223372036854775807 then ((symbol_Read.f k ((t243 ++ t242) ++ t244) ([] : List Int) 0 0 8 0 0 0 0 0 (Int.tmod (wrap64 ((Int.tmod a1 9) + 9)) 9)).bind fun bt246 => ((symbol_Read.f k ((t243 ++ t242) ++ t244) ([] : List Int) 0 0 8 0 0 0 0 0 (wrap64 ((Int.tmod (wrap64 ((Int.tmod a1 9) + 9)) 9) + 3))).bind fun bt251 => ((symbol_Read.f k ((t243 ++ t242) ++ t244) ([] : List Int) 0 0 0 0 0 0 0 0 0).bind fun bt256 => (if t241 = true then (if (t242.size : Int) = 24 then (if bt246.2.2.2 = true then (if (bt246.1 == (Go.bits .and .i64 a0_0 4294967295) && (bt246.2.1 == a0_1 && (bt246.2.2.1 == (Go.bits .and .i64 a0_2 1099511627775)))) = true then (if bt251.2.2.2 = true then (some false) else (if bt256.2.2.2 = true then (some false) else (some (bt256.1 == 0)))) else (some false)) else (some false)) else (some false)) else (some false))))) else (none))) else (none))))
theorem flyleaflaw10_SymbolBack.mono : ∀ a0 a1 a2 a3 k, LeO (flyleaflaw10_SymbolBack.f k a0 a1 a2 a3) (flyleaflaw10_SymbolBack.f (k + 1) a0 a1 a2 a3) := by
  intro a0 a1 a2 a3 k
  unfold flyleaflaw10_SymbolBack.f
  repeat' first
      | (with_reducible exact flyleaflaw10_awake.mono _)
      | (with_reducible exact symbol_Bytes.mono _ _ _ _)
      | (with_reducible exact symbol_Read.mono _ _ _ _ _ _ _ _ _ _ _ _)
      | (with_reducible exact LeO.refl _)
      | (with_reducible exact LeO.none _)
      | (with_reducible refine LeO.ite ?_ ?_)
      | (with_reducible refine LeO.bind ?_ (fun _ => ?_))
      | exact flyleaflaw10_awake.mono _
      | exact symbol_Bytes.mono _ _ _ _
      | exact symbol_Read.mono _ _ _ _ _ _ _ _ _ _ _ _
      | exact LeO.none _
      | refine LeO.ite ?_ ?_
      | refine LeO.bind ?_ (fun _ => ?_)
set_option maxHeartbeats 8000000 in
set_option maxRecDepth 100000 in
theorem flyleaflaw10_SymbolBack.calls (k : Nat) (a0_0 : Int) (a0_1 : Bool) (a0_2 : Int) (a1 : Int) (w : World) (h : flyleaflaw10_SymbolBack.f k a0_0 a0_1 a0_2 a1 = some true) :
    Calls Try.prog 6 #[.agg #[.int .i64 a0_0, .bool a0_1, .int .i64 a0_2], .int .i64 a1] w fun e w' => e = .returned (.bool true) ∧ Below w.heap.size w w' := by
  have hu37 := Try.underlying37
  have hu32 := Try.underlying32
  have HB := Aside0.mk (Below.refl w.heap.size w)
  have H : ((flyleaflaw10_awake.f k).bind fun t241 => ((symbol_Bytes.f k (Go.bits .and .i64 a0_0 4294967295) a0_1 (Go.bits .and .i64 a0_2 1099511627775)).bind fun t242 => ((flyleafref01_Fill.f (⟨#[]⟩ : ByteArray) (wrap64 (8 + (wrap64 (24 * (Int.tmod (wrap64 ((Int.tmod a1 9) + 9)) 9)))))).bind fun t243 => (if t243.size + t242.size ≤ 9223372036854775807 then ((flyleafref01_Fill.f (⟨#[]⟩ : ByteArray) 40).bind fun t244 => (if t243.size + t242.size + t244.size ≤ 9223372036854775807 then ((symbol_Read.f k ((t243 ++ t242) ++ t244) ([] : List Int) 0 0 8 0 0 0 0 0 (Int.tmod (wrap64 ((Int.tmod a1 9) + 9)) 9)).bind fun bt246 => ((symbol_Read.f k ((t243 ++ t242) ++ t244) ([] : List Int) 0 0 8 0 0 0 0 0 (wrap64 ((Int.tmod (wrap64 ((Int.tmod a1 9) + 9)) 9) + 3))).bind fun bt251 => ((symbol_Read.f k ((t243 ++ t242) ++ t244) ([] : List Int) 0 0 0 0 0 0 0 0 0).bind fun bt256 => (if t241 = true then (if (t242.size : Int) = 24 then (if bt246.2.2.2 = true then (if (bt246.1 == (Go.bits .and .i64 a0_0 4294967295) && (bt246.2.1 == a0_1 && (bt246.2.2.1 == (Go.bits .and .i64 a0_2 1099511627775)))) = true then (if bt251.2.2.2 = true then (some false) else (if bt256.2.2.2 = true then (some false) else (some (bt256.1 == 0)))) else (some false)) else (some false)) else (some false)) else (some false))))) else (none))) else (none))))) = some true := h
  clear h
  replace H := Option.bind_eq_some_iff.mp H
  obtain ⟨t241, A30, H⟩ := H
  replace H : ((symbol_Bytes.f k (Go.bits .and .i64 a0_0 4294967295) a0_1 (Go.bits .and .i64 a0_2 1099511627775)).bind fun t242 => ((flyleafref01_Fill.f (⟨#[]⟩ : ByteArray) (wrap64 (8 + (wrap64 (24 * (Int.tmod (wrap64 ((Int.tmod a1 9) + 9)) 9)))))).bind fun t243 => (if t243.size + t242.size ≤ 9223372036854775807 then ((flyleafref01_Fill.f (⟨#[]⟩ : ByteArray) 40).bind fun t244 => (if t243.size + t242.size + t244.size ≤ 9223372036854775807 then ((symbol_Read.f k ((t243 ++ t242) ++ t244) ([] : List Int) 0 0 8 0 0 0 0 0 (Int.tmod (wrap64 ((Int.tmod a1 9) + 9)) 9)).bind fun bt246 => ((symbol_Read.f k ((t243 ++ t242) ++ t244) ([] : List Int) 0 0 8 0 0 0 0 0 (wrap64 ((Int.tmod (wrap64 ((Int.tmod a1 9) + 9)) 9) + 3))).bind fun bt251 => ((symbol_Read.f k ((t243 ++ t242) ++ t244) ([] : List Int) 0 0 0 0 0 0 0 0 0).bind fun bt256 => (if t241 = true then (if (t242.size : Int) = 24 then (if bt246.2.2.2 = true then (if (bt246.1 == (Go.bits .and .i64 a0_0 4294967295) && (bt246.2.1 == a0_1 && (bt246.2.2.1 == (Go.bits .and .i64 a0_2 1099511627775)))) = true then (if bt251.2.2.2 = true then (some false) else (if bt256.2.2.2 = true then (some false) else (some (bt256.1 == 0)))) else (some false)) else (some false)) else (some false)) else (some false))))) else (none))) else (none)))) = some true := H
  have A3 := Aside0.mk A30
  clear A30
  replace H := Option.bind_eq_some_iff.mp H
  obtain ⟨t242, A40, H⟩ := H
  replace H : ((flyleafref01_Fill.f (⟨#[]⟩ : ByteArray) (wrap64 (8 + (wrap64 (24 * (Int.tmod (wrap64 ((Int.tmod a1 9) + 9)) 9)))))).bind fun t243 => (if t243.size + t242.size ≤ 9223372036854775807 then ((flyleafref01_Fill.f (⟨#[]⟩ : ByteArray) 40).bind fun t244 => (if t243.size + t242.size + t244.size ≤ 9223372036854775807 then ((symbol_Read.f k ((t243 ++ t242) ++ t244) ([] : List Int) 0 0 8 0 0 0 0 0 (Int.tmod (wrap64 ((Int.tmod a1 9) + 9)) 9)).bind fun bt246 => ((symbol_Read.f k ((t243 ++ t242) ++ t244) ([] : List Int) 0 0 8 0 0 0 0 0 (wrap64 ((Int.tmod (wrap64 ((Int.tmod a1 9) + 9)) 9) + 3))).bind fun bt251 => ((symbol_Read.f k ((t243 ++ t242) ++ t244) ([] : List Int) 0 0 0 0 0 0 0 0 0).bind fun bt256 => (if t241 = true then (if (t242.size : Int) = 24 then (if bt246.2.2.2 = true then (if (bt246.1 == (Go.bits .and .i64 a0_0 4294967295) && (bt246.2.1 == a0_1 && (bt246.2.2.1 == (Go.bits .and .i64 a0_2 1099511627775)))) = true then (if bt251.2.2.2 = true then (some false) else (if bt256.2.2.2 = true then (some false) else (some (bt256.1 == 0)))) else (some false)) else (some false)) else (some false)) else (some false))))) else (none))) else (none))) = some true := H
  have A4 := Aside0.mk A40
  clear A40
  replace H := Option.bind_eq_some_iff.mp H
  obtain ⟨t243, A50, H⟩ := H
  replace H : (if t243.size + t242.size ≤ 9223372036854775807 then ((flyleafref01_Fill.f (⟨#[]⟩ : ByteArray) 40).bind fun t244 => (if t243.size + t242.size + t244.size ≤ 9223372036854775807 then ((symbol_Read.f k ((t243 ++ t242) ++ t244) ([] : List Int) 0 0 8 0 0 0 0 0 (Int.tmod (wrap64 ((Int.tmod a1 9) + 9)) 9)).bind fun bt246 => ((symbol_Read.f k ((t243 ++ t242) ++ t244) ([] : List Int) 0 0 8 0 0 0 0 0 (wrap64 ((Int.tmod (wrap64 ((Int.tmod a1 9) + 9)) 9) + 3))).bind fun bt251 => ((symbol_Read.f k ((t243 ++ t242) ++ t244) ([] : List Int) 0 0 0 0 0 0 0 0 0).bind fun bt256 => (if t241 = true then (if (t242.size : Int) = 24 then (if bt246.2.2.2 = true then (if (bt246.1 == (Go.bits .and .i64 a0_0 4294967295) && (bt246.2.1 == a0_1 && (bt246.2.2.1 == (Go.bits .and .i64 a0_2 1099511627775)))) = true then (if bt251.2.2.2 = true then (some false) else (if bt256.2.2.2 = true then (some false) else (some (bt256.1 == 0)))) else (some false)) else (some false)) else (some false)) else (some false))))) else (none))) else (none)) = some true := H
  have A5 := Aside0.mk A50
  clear A50
  by_cases c6 : t243.size + t242.size ≤ 9223372036854775807
  · rw [if_pos c6] at H
    have c6b0 := eq_true c6
    have c6b1 : decide (t243.size + t242.size ≤ 9223372036854775807) = true := decide_eq_true c6
    try have c6b2 : (9223372036854775807 < t243.size + t242.size) = False := eq_false (Nat.not_lt.2 c6)
    clear c6
    replace H := Option.bind_eq_some_iff.mp H
    obtain ⟨t244, A70, H⟩ := H
    replace H : (if t243.size + t242.size + t244.size ≤ 9223372036854775807 then ((symbol_Read.f k ((t243 ++ t242) ++ t244) ([] : List Int) 0 0 8 0 0 0 0 0 (Int.tmod (wrap64 ((Int.tmod a1 9) + 9)) 9)).bind fun bt246 => ((symbol_Read.f k ((t243 ++ t242) ++ t244) ([] : List Int) 0 0 8 0 0 0 0 0 (wrap64 ((Int.tmod (wrap64 ((Int.tmod a1 9) + 9)) 9) + 3))).bind fun bt251 => ((symbol_Read.f k ((t243 ++ t242) ++ t244) ([] : List Int) 0 0 0 0 0 0 0 0 0).bind fun bt256 => (if t241 = true then (if (t242.size : Int) = 24 then (if bt246.2.2.2 = true then (if (bt246.1 == (Go.bits .and .i64 a0_0 4294967295) && (bt246.2.1 == a0_1 && (bt246.2.2.1 == (Go.bits .and .i64 a0_2 1099511627775)))) = true then (if bt251.2.2.2 = true then (some false) else (if bt256.2.2.2 = true then (some false) else (some (bt256.1 == 0)))) else (some false)) else (some false)) else (some false)) else (some false))))) else (none)) = some true := H
    have A7 := Aside0.mk A70
    clear A70
    by_cases c8 : t243.size + t242.size + t244.size ≤ 9223372036854775807
    · rw [if_pos c8] at H
      have c8b0 := eq_true c8
      have c8b1 : decide (t243.size + t242.size + t244.size ≤ 9223372036854775807) = true := decide_eq_true c8
      try have c8b2 : (9223372036854775807 < t243.size + t242.size + t244.size) = False := eq_false (Nat.not_lt.2 c8)
      clear c8
      replace H := Option.bind_eq_some_iff.mp H
      obtain ⟨⟨t246, t247, t248, t249⟩, A90, H⟩ := H
      replace H : ((symbol_Read.f k ((t243 ++ t242) ++ t244) ([] : List Int) 0 0 8 0 0 0 0 0 (wrap64 ((Int.tmod (wrap64 ((Int.tmod a1 9) + 9)) 9) + 3))).bind fun bt251 => ((symbol_Read.f k ((t243 ++ t242) ++ t244) ([] : List Int) 0 0 0 0 0 0 0 0 0).bind fun bt256 => (if t241 = true then (if (t242.size : Int) = 24 then (if t249 = true then (if (t246 == (Go.bits .and .i64 a0_0 4294967295) && (t247 == a0_1 && (t248 == (Go.bits .and .i64 a0_2 1099511627775)))) = true then (if bt251.2.2.2 = true then (some false) else (if bt256.2.2.2 = true then (some false) else (some (bt256.1 == 0)))) else (some false)) else (some false)) else (some false)) else (some false)))) = some true := H
      have A9 := Aside0.mk A90
      clear A90
      replace H := Option.bind_eq_some_iff.mp H
      obtain ⟨⟨t251, t252, t253, t254⟩, A100, H⟩ := H
      replace H : ((symbol_Read.f k ((t243 ++ t242) ++ t244) ([] : List Int) 0 0 0 0 0 0 0 0 0).bind fun bt256 => (if t241 = true then (if (t242.size : Int) = 24 then (if t249 = true then (if (t246 == (Go.bits .and .i64 a0_0 4294967295) && (t247 == a0_1 && (t248 == (Go.bits .and .i64 a0_2 1099511627775)))) = true then (if t254 = true then (some false) else (if bt256.2.2.2 = true then (some false) else (some (bt256.1 == 0)))) else (some false)) else (some false)) else (some false)) else (some false))) = some true := H
      have A10 := Aside0.mk A100
      clear A100
      replace H := Option.bind_eq_some_iff.mp H
      obtain ⟨⟨t256, t257, t258, t259⟩, A110, H⟩ := H
      replace H : (if t241 = true then (if (t242.size : Int) = 24 then (if t249 = true then (if (t246 == (Go.bits .and .i64 a0_0 4294967295) && (t247 == a0_1 && (t248 == (Go.bits .and .i64 a0_2 1099511627775)))) = true then (if t254 = true then (some false) else (if t259 = true then (some false) else (some (t256 == 0)))) else (some false)) else (some false)) else (some false)) else (some false)) = some true := H
      have A11 := Aside0.mk A110
      clear A110
      by_cases c12 : t241 = true
      · subst c12
        have H1 : (if (t242.size : Int) = 24 then (if t249 = true then (if (t246 == (Go.bits .and .i64 a0_0 4294967295) && (t247 == a0_1 && (t248 == (Go.bits .and .i64 a0_2 1099511627775)))) = true then (if t254 = true then (some false) else (if t259 = true then (some false) else (some (t256 == 0)))) else (some false)) else (some false)) else (some false)) = some true := by rw [if_pos rfl] at H; exact H
        clear H
        have H := H1
        clear H1
        by_cases c13 : (t242.size : Int) = 24
        · rw [if_pos c13] at H
          have c13b0 : ((t242.size : Int) == 24) = true := beq_iff_eq.mpr c13
          have c13b1 : ((t242.size : Int) != 24) = false := bne_eq_false_iff_eq.mpr c13
          clear c13
          by_cases c14 : t249 = true
          · subst c14
            have H1 : (if (t246 == (Go.bits .and .i64 a0_0 4294967295) && (t247 == a0_1 && (t248 == (Go.bits .and .i64 a0_2 1099511627775)))) = true then (if t254 = true then (some false) else (if t259 = true then (some false) else (some (t256 == 0)))) else (some false)) = some true := by rw [if_pos rfl] at H; exact H
            clear H
            have H := H1
            clear H1
            by_cases c15 : (t246 == (Go.bits .and .i64 a0_0 4294967295) && (t247 == a0_1 && (t248 == (Go.bits .and .i64 a0_2 1099511627775)))) = true
            · rw [if_pos c15] at H
              have c15b0 : (t246 == (Go.bits .and .i64 a0_0 4294967295) && (t247 == a0_1 && (t248 == (Go.bits .and .i64 a0_2 1099511627775)))) = true := c15
              (try (have c15b1 : decide (t246 = (Go.bits .and .i64 a0_0 4294967295) && (t247 == a0_1 && (t248 == (Go.bits .and .i64 a0_2 1099511627775)))) = true := by simpa using c15))
              (try (have c15b2 : (t246 == (Go.bits .and .i64 a0_0 4294967295) && (t247 == a0_1 && (t248 == (Go.bits .and .i64 a0_2 1099511627775)))) = true := by simpa using c15))
              clear c15
              by_cases c16 : t254 = true
              · subst c16
                have H1 : (some false) = some true := by rw [if_pos rfl] at H; exact H
                clear H
                have H := H1
                clear H1
                exact absurd H (by simp)
              · replace c16 := Bool.eq_false_iff.mpr c16
                subst c16
                have H1 : (if t259 = true then (some false) else (some (t256 == 0))) = some true := by rw [if_neg (show ¬ (false = true) by decide)] at H; exact H
                clear H
                have H := H1
                clear H1
                by_cases c17 : t259 = true
                · subst c17
                  have H1 : (some false) = some true := by rw [if_pos rfl] at H; exact H
                  clear H
                  have H := H1
                  clear H1
                  exact absurd H (by simp)
                · replace c17 := Bool.eq_false_iff.mpr c17
                  subst c17
                  have H1 : (some (t256 == 0)) = some true := by rw [if_neg (show ¬ (false = true) by decide)] at H; exact H
                  clear H
                  have H := H1
                  clear H1
                  have HR_ := Aside0.mk (Option.some.inj H)
                  clear H
                  go_enter Try.func6, Try.ntmps6
                  go_wp2_with (first | ((with_reducible refine gate_dst (N := 2) rfl ?_); (try (refine gate_guard (by rfl) ?_; dsimp only)); refine box_event ?hg (N := 2) ?hd (cs := #[.int .i64 a0_0, .bool a0_1, .int .i64 a0_2]) (t := 37) ?hr ?_; (case hd => rfl); (case hg => rfl); (case hr => first | (go_simp; done) | (go_simp; rfl)); intro gb240 hg w18 hbox hb; have n0_ := Aside0.mk (below_step (by repeat (first | (with_reducible first | exact HB.out | apply below_alloc | apply pw_below_drewN | apply below_drew1) | exact HB.out)) hb); have n1_ := Aside0.mk (hbox); have n2_ := Aside0.mk ((by rw [hg]; exact (below_size (by repeat (first | (with_reducible first | exact HB.out | apply below_alloc | apply pw_below_drewN | apply below_drew1) | exact HB.out))) : w.heap.size ≤ gb240)); have n3_ := Aside0.mk ((by rw [hg]; exact (below_size (by repeat (first | (with_reducible first | exact HB.out | apply below_alloc | apply pw_below_drewN | apply below_drew1) | exact HB.out))) : w.heap.size ≤ gb240)); clear HB; have HB := n0_; have BK240 := n1_; have GW240 := n2_; have GE240 := n3_; clear n0_ n1_ n2_ n3_; clear hb hbox hg) | ((with_reducible refine gate_callee (f := 7) rfl ?_); refine goesL_ (some 16) rfl rfl Try.func7 (by kernel_rfl) rfl #[] rfl (by (try simp only [List.map_toArray, List.map_cons, List.map_nil]); first | done | rfl | (simp only [List.length_drop, List.length_take]; rfl) | (simp only [ByteArray.size_append, Int.natCast_add]; rfl)) ?_; (with_reducible refine (flyleaflaw10_awake.calls k  true _ A3.out).mono ?_); rintro e w19 ⟨rfl, hb⟩; refine ⟨_, rfl, ?_⟩; have n0_ := Aside0.mk (blk_below (g := gb240) (o := .cells #[.int .i64 a0_0, .bool a0_1, .int .i64 a0_2] 37 (0, 0)) (by (with_reducible repeat (first | refine blk_drewN ?_ _ | refine blk_drew ?_ | refine blk_alloc ?_ _)); exact BK240.out) hb); have n1_ := Aside0.mk (below_step (by repeat (first | (with_reducible first | exact HB.out | apply below_alloc | apply pw_below_drewN | apply below_drew1 | refine below_set ?_ GE240.out) | exact HB.out)) hb); clear BK240; clear HB; have BK240 := n0_; have HB := n1_; clear n0_ n1_; (try clear hb); (try clear hb2); (try clear hk); (try clear hi); have hcz20_0 : w19.cell? ⟨gb240, 0, none⟩ = some (.int .i64 a0_0) := (blk_cell BK240.out 0).trans rfl; have hcz20_1 : w19.cell? ⟨gb240, 1, none⟩ = some (.bool a0_1) := (blk_cell BK240.out 1).trans rfl; have hcz20_2 : w19.cell? ⟨gb240, 2, none⟩ = some (.int .i64 a0_2) := (blk_cell BK240.out 2).trans rfl; have hfz20_0 := blk_frozen BK240.out 0; have hfz20_1 := blk_frozen BK240.out 1; have hfz20_2 := blk_frozen BK240.out 2) | ((with_reducible refine gate_callee (f := 17) rfl ?_); refine goesL_ (some 30) rfl rfl Try.func17 (by kernel_rfl) rfl #[.agg #[.int .i64 (Go.bits .and .i64 a0_0 4294967295), .bool a0_1, .int .i64 (Go.bits .and .i64 a0_2 1099511627775)]] rfl (by (try simp only [List.map_toArray, List.map_cons, List.map_nil]); first | done | rfl | (simp only [List.length_drop, List.length_take]; rfl) | (simp only [ByteArray.size_append, Int.natCast_add]; rfl)) ?_; (with_reducible refine (symbol_Bytes.calls k (Go.bits .and .i64 a0_0 4294967295) a0_1 (Go.bits .and .i64 a0_2 1099511627775) t242 _ A4.out).mono ?_); rintro e w21 ⟨rfl, hb⟩; refine ⟨_, rfl, ?_⟩; have n0_ := Aside0.mk (blk_below (g := gb240) (o := .cells #[.int .i64 (Go.bits .and .i64 a0_0 4294967295), .bool a0_1, .int .i64 (Go.bits .and .i64 a0_2 1099511627775)] 37 (0, 0)) (by (with_reducible repeat (first | refine blk_drewN ?_ _ | refine blk_drew ?_ | refine blk_alloc ?_ _)); refine blk_put (cs := #[.int .i64 (Go.bits .and .i64 a0_0 4294967295), .bool a0_1, .int .i64 a0_2]) ?_ 2 _ rfl; (with_reducible repeat (first | refine blk_drewN ?_ _ | refine blk_drew ?_ | refine blk_alloc ?_ _)); refine blk_put (cs := #[.int .i64 a0_0, .bool a0_1, .int .i64 a0_2]) ?_ 0 _ rfl; (with_reducible repeat (first | refine blk_drewN ?_ _ | refine blk_drew ?_ | refine blk_alloc ?_ _)); exact BK240.out) hb); have n1_ := Aside0.mk (below_step (by repeat (first | (with_reducible first | exact HB.out | apply below_alloc | apply pw_below_drewN | apply below_drew1 | refine below_set ?_ GE240.out) | exact HB.out)) hb); clear BK240; clear HB; have BK240 := n0_; have HB := n1_; clear n0_ n1_; (try clear hb); (try clear hb2); (try clear hk); (try clear hi)) | ((with_reducible refine gate_callee (f := 19) rfl ?_); refine goesL_ (some 34) rfl rfl Try.func19 (by kernel_rfl) rfl #[.string (⟨#[]⟩ : ByteArray), .int .i64 (wrap64 (8 + (wrap64 (24 * (Int.tmod (wrap64 ((Int.tmod a1 9) + 9)) 9)))))] rfl (by (try simp only [List.map_toArray, List.map_cons, List.map_nil]); first | done | rfl | (simp only [List.length_drop, List.length_take]; rfl) | (simp only [ByteArray.size_append, Int.natCast_add]; rfl)) ?_; (with_reducible refine (flyleafref01_Fill.calls (⟨#[]⟩ : ByteArray) (wrap64 (8 + (wrap64 (24 * (Int.tmod (wrap64 ((Int.tmod a1 9) + 9)) 9))))) t243 _ A5.out).mono ?_); rintro e w22 ⟨rfl, hb⟩; refine ⟨_, rfl, ?_⟩; have n0_ := Aside0.mk (blk_below (g := gb240) (o := .cells #[.int .i64 (Go.bits .and .i64 a0_0 4294967295), .bool a0_1, .int .i64 (Go.bits .and .i64 a0_2 1099511627775)] 37 (0, 0)) (by (with_reducible repeat (first | refine blk_drewN ?_ _ | refine blk_drew ?_ | refine blk_alloc ?_ _)); exact BK240.out) hb); have n1_ := Aside0.mk (below_step (by repeat (first | (with_reducible first | exact HB.out | apply below_alloc | apply pw_below_drewN | apply below_drew1 | refine below_set ?_ GE240.out) | exact HB.out)) hb); clear BK240; clear HB; have BK240 := n0_; have HB := n1_; clear n0_ n1_; (try clear hb); (try clear hb2); (try clear hk); (try clear hi)) | ((with_reducible refine gate_callee (f := 19) rfl ?_); refine goesL_ (some 37) rfl rfl Try.func19 (by kernel_rfl) rfl #[.string (⟨#[]⟩ : ByteArray), .int .i64 40] rfl (by (try simp only [List.map_toArray, List.map_cons, List.map_nil]); first | done | rfl | (simp only [List.length_drop, List.length_take]; rfl) | (simp only [ByteArray.size_append, Int.natCast_add]; rfl)) ?_; (with_reducible refine (flyleafref01_Fill.calls (⟨#[]⟩ : ByteArray) 40 t244 _ A7.out).mono ?_); rintro e w23 ⟨rfl, hb⟩; refine ⟨_, rfl, ?_⟩; have n0_ := Aside0.mk (blk_below (g := gb240) (o := .cells #[.int .i64 (Go.bits .and .i64 a0_0 4294967295), .bool a0_1, .int .i64 (Go.bits .and .i64 a0_2 1099511627775)] 37 (0, 0)) (by (with_reducible repeat (first | refine blk_drewN ?_ _ | refine blk_drew ?_ | refine blk_alloc ?_ _)); exact BK240.out) hb); have n1_ := Aside0.mk (below_step (by repeat (first | (with_reducible first | exact HB.out | apply below_alloc | apply pw_below_drewN | apply below_drew1 | refine below_set ?_ GE240.out) | exact HB.out)) hb); clear BK240; clear HB; have BK240 := n0_; have HB := n1_; clear n0_ n1_; (try clear hb); (try clear hb2); (try clear hk); (try clear hi)) | ((with_reducible refine gate_dst (N := 9) rfl ?_); (try (refine gate_guard (by rfl) ?_; dsimp only)); refine box_event ?hg (N := 9) ?hd (cs := #[.slice none 0 0, .int .i64 0, .int .i64 0, .int .i64 0, .int .i64 0, .int .i64 0, .int .i64 0, .int .i64 0, .int .i64 0]) (t := 32) ?hr ?_; (case hd => rfl); (case hg => rfl); (case hr => first | (go_simp; done) | (go_simp; rfl)); intro gb245 hg w24 hbox hb; have n0_ := Aside0.mk (blk_below (g := gb240) (o := .cells #[.int .i64 (Go.bits .and .i64 a0_0 4294967295), .bool a0_1, .int .i64 (Go.bits .and .i64 a0_2 1099511627775)] 37 (0, 0)) (by (with_reducible repeat (first | refine blk_drewN ?_ _ | refine blk_drew ?_ | refine blk_alloc ?_ _)); exact BK240.out) hb); have n1_ := Aside0.mk (below_step (by repeat (first | (with_reducible first | exact HB.out | apply below_alloc | apply pw_below_drewN | apply below_drew1 | refine below_set ?_ GE240.out) | exact HB.out)) hb); have n2_ := Aside0.mk (hbox); have n3_ := Aside0.mk ((by rw [hg]; exact (below_size (by repeat (first | (with_reducible first | exact HB.out | apply below_alloc | apply pw_below_drewN | apply below_drew1 | refine below_set ?_ GE240.out) | exact HB.out))) : w.heap.size ≤ gb245)); have n4_ := Aside0.mk ((by rw [hg]; exact (below_size (by repeat (first | (with_reducible first | exact HB.out | apply below_alloc | apply pw_below_drewN | apply below_drew1 | refine below_set ?_ GE240.out) | exact HB.out))) : w.heap.size ≤ gb245)); have n5_ := Aside0.mk ((by rw [hg]; exact Nat.ne_of_lt (blk_lt (g := gb240) (o := .cells #[.int .i64 (Go.bits .and .i64 a0_0 4294967295), .bool a0_1, .int .i64 (Go.bits .and .i64 a0_2 1099511627775)] 37 (0, 0)) (by (with_reducible repeat (first | refine blk_drewN ?_ _ | refine blk_drew ?_ | refine blk_alloc ?_ _)); exact BK240.out)) : gb240 ≠ gb245)); have n6_ := Aside0.mk ((by rw [hg]; exact Nat.ne_of_gt (blk_lt (g := gb240) (o := .cells #[.int .i64 (Go.bits .and .i64 a0_0 4294967295), .bool a0_1, .int .i64 (Go.bits .and .i64 a0_2 1099511627775)] 37 (0, 0)) (by (with_reducible repeat (first | refine blk_drewN ?_ _ | refine blk_drew ?_ | refine blk_alloc ?_ _)); exact BK240.out)) : gb245 ≠ gb240)); clear BK240; clear HB; have BK240 := n0_; have HB := n1_; have BK245 := n2_; have GW245 := n3_; have GE245 := n4_; have NB240_245 := n5_; have NB245_240 := n6_; clear n0_ n1_ n2_ n3_ n4_ n5_ n6_; clear hb hbox hg; have hnb25 := NB245_240.out; have hnc25 := NB240_245.out; have hcz26_0 : w24.cell? ⟨gb245, 0, none⟩ = some (.slice none 0 0) := (blk_cell BK245.out 0).trans rfl; have hcz26_1 : w24.cell? ⟨gb245, 1, none⟩ = some (.int .i64 0) := (blk_cell BK245.out 1).trans rfl; have hcz26_2 : w24.cell? ⟨gb245, 2, none⟩ = some (.int .i64 0) := (blk_cell BK245.out 2).trans rfl; have hcz26_3 : w24.cell? ⟨gb245, 3, none⟩ = some (.int .i64 0) := (blk_cell BK245.out 3).trans rfl; have hcz26_4 : w24.cell? ⟨gb245, 4, none⟩ = some (.int .i64 0) := (blk_cell BK245.out 4).trans rfl; have hcz26_5 : w24.cell? ⟨gb245, 5, none⟩ = some (.int .i64 0) := (blk_cell BK245.out 5).trans rfl; have hcz26_6 : w24.cell? ⟨gb245, 6, none⟩ = some (.int .i64 0) := (blk_cell BK245.out 6).trans rfl; have hcz26_7 : w24.cell? ⟨gb245, 7, none⟩ = some (.int .i64 0) := (blk_cell BK245.out 7).trans rfl; have hcz26_8 : w24.cell? ⟨gb245, 8, none⟩ = some (.int .i64 0) := (blk_cell BK245.out 8).trans rfl; have hfz26_0 := blk_frozen BK245.out 0; have hfz26_1 := blk_frozen BK245.out 1; have hfz26_2 := blk_frozen BK245.out 2; have hfz26_3 := blk_frozen BK245.out 3; have hfz26_4 := blk_frozen BK245.out 4; have hfz26_5 := blk_frozen BK245.out 5; have hfz26_6 := blk_frozen BK245.out 6; have hfz26_7 := blk_frozen BK245.out 7; have hfz26_8 := blk_frozen BK245.out 8) | ((with_reducible refine gate_callee (f := 11) rfl ?_); refine goesL_ (some 44) rfl rfl Try.func11 (by kernel_rfl) rfl #[.string ((t243 ++ t242) ++ t244), .agg #[.slice none 0 0, .int .i64 0, .int .i64 0, .int .i64 8, .int .i64 0, .int .i64 0, .int .i64 0, .int .i64 0, .int .i64 0], .int .i64 (Int.tmod (wrap64 ((Int.tmod a1 9) + 9)) 9)] rfl (by (try simp only [List.map_toArray, List.map_cons, List.map_nil]); first | done | rfl | (simp only [List.length_drop, List.length_take]; rfl) | (simp only [ByteArray.size_append, Int.natCast_add]; rfl)) ?_; (refine (symbol_Read.calls k ((t243 ++ t242) ++ t244) _ _ ([] : List Int) 0 0 8 0 0 0 0 0 (Int.tmod (wrap64 ((Int.tmod a1 9) + 9)) 9) t246 t247 t248 true _ ?side1 ?side2 A9.out).mono ?_); (case side1 => exact Kd.C_nil _ _); (case side2 => exact Nat.le_refl _); rintro e w27 ⟨rfl, hb⟩; refine ⟨_, rfl, ?_⟩; have n0_ := Aside0.mk (blk_below (g := gb240) (o := .cells #[.int .i64 (Go.bits .and .i64 a0_0 4294967295), .bool a0_1, .int .i64 (Go.bits .and .i64 a0_2 1099511627775)] 37 (0, 0)) (by (with_reducible repeat (first | refine blk_drewN ?_ _ | refine blk_drew ?_ | refine blk_alloc ?_ _)); refine blk_far ?_ NB240_245.out _; (with_reducible repeat (first | refine blk_drewN ?_ _ | refine blk_drew ?_ | refine blk_alloc ?_ _)); refine blk_far ?_ NB240_245.out _; (with_reducible repeat (first | refine blk_drewN ?_ _ | refine blk_drew ?_ | refine blk_alloc ?_ _)); refine blk_far ?_ NB240_245.out _; (with_reducible repeat (first | refine blk_drewN ?_ _ | refine blk_drew ?_ | refine blk_alloc ?_ _)); refine blk_far ?_ NB240_245.out _; (with_reducible repeat (first | refine blk_drewN ?_ _ | refine blk_drew ?_ | refine blk_alloc ?_ _)); refine blk_far ?_ NB240_245.out _; (with_reducible repeat (first | refine blk_drewN ?_ _ | refine blk_drew ?_ | refine blk_alloc ?_ _)); refine blk_far ?_ NB240_245.out _; (with_reducible repeat (first | refine blk_drewN ?_ _ | refine blk_drew ?_ | refine blk_alloc ?_ _)); refine blk_far ?_ NB240_245.out _; (with_reducible repeat (first | refine blk_drewN ?_ _ | refine blk_drew ?_ | refine blk_alloc ?_ _)); refine blk_far ?_ NB240_245.out _; (with_reducible repeat (first | refine blk_drewN ?_ _ | refine blk_drew ?_ | refine blk_alloc ?_ _)); refine blk_far ?_ NB240_245.out _; (with_reducible repeat (first | refine blk_drewN ?_ _ | refine blk_drew ?_ | refine blk_alloc ?_ _)); exact BK240.out) hb); have n1_ := Aside0.mk (blk_below (g := gb245) (o := .cells #[.slice none 0 0, .int .i64 0, .int .i64 0, .int .i64 8, .int .i64 0, .int .i64 0, .int .i64 0, .int .i64 0, .int .i64 0] 32 (0, 0)) (by (with_reducible repeat (first | refine blk_drewN ?_ _ | refine blk_drew ?_ | refine blk_alloc ?_ _)); refine blk_put (cs := #[.slice none 0 0, .int .i64 0, .int .i64 0, .int .i64 8, .int .i64 0, .int .i64 0, .int .i64 0, .int .i64 0, .int .i64 0]) ?_ 8 _ rfl; (with_reducible repeat (first | refine blk_drewN ?_ _ | refine blk_drew ?_ | refine blk_alloc ?_ _)); refine blk_put (cs := #[.slice none 0 0, .int .i64 0, .int .i64 0, .int .i64 8, .int .i64 0, .int .i64 0, .int .i64 0, .int .i64 0, .int .i64 0]) ?_ 7 _ rfl; (with_reducible repeat (first | refine blk_drewN ?_ _ | refine blk_drew ?_ | refine blk_alloc ?_ _)); refine blk_put (cs := #[.slice none 0 0, .int .i64 0, .int .i64 0, .int .i64 8, .int .i64 0, .int .i64 0, .int .i64 0, .int .i64 0, .int .i64 0]) ?_ 6 _ rfl; (with_reducible repeat (first | refine blk_drewN ?_ _ | refine blk_drew ?_ | refine blk_alloc ?_ _)); refine blk_put (cs := #[.slice none 0 0, .int .i64 0, .int .i64 0, .int .i64 8, .int .i64 0, .int .i64 0, .int .i64 0, .int .i64 0, .int .i64 0]) ?_ 5 _ rfl; (with_reducible repeat (first | refine blk_drewN ?_ _ | refine blk_drew ?_ | refine blk_alloc ?_ _)); refine blk_put (cs := #[.slice none 0 0, .int .i64 0, .int .i64 0, .int .i64 8, .int .i64 0, .int .i64 0, .int .i64 0, .int .i64 0, .int .i64 0]) ?_ 4 _ rfl; (with_reducible repeat (first | refine blk_drewN ?_ _ | refine blk_drew ?_ | refine blk_alloc ?_ _)); refine blk_put (cs := #[.slice none 0 0, .int .i64 0, .int .i64 0, .int .i64 0, .int .i64 0, .int .i64 0, .int .i64 0, .int .i64 0, .int .i64 0]) ?_ 3 _ rfl; (with_reducible repeat (first | refine blk_drewN ?_ _ | refine blk_drew ?_ | refine blk_alloc ?_ _)); refine blk_put (cs := #[.slice none 0 0, .int .i64 0, .int .i64 0, .int .i64 0, .int .i64 0, .int .i64 0, .int .i64 0, .int .i64 0, .int .i64 0]) ?_ 2 _ rfl; (with_reducible repeat (first | refine blk_drewN ?_ _ | refine blk_drew ?_ | refine blk_alloc ?_ _)); refine blk_put (cs := #[.slice none 0 0, .int .i64 0, .int .i64 0, .int .i64 0, .int .i64 0, .int .i64 0, .int .i64 0, .int .i64 0, .int .i64 0]) ?_ 1 _ rfl; (with_reducible repeat (first | refine blk_drewN ?_ _ | refine blk_drew ?_ | refine blk_alloc ?_ _)); refine blk_put (cs := #[.slice none 0 0, .int .i64 0, .int .i64 0, .int .i64 0, .int .i64 0, .int .i64 0, .int .i64 0, .int .i64 0, .int .i64 0]) ?_ 0 _ rfl; (with_reducible repeat (first | refine blk_drewN ?_ _ | refine blk_drew ?_ | refine blk_alloc ?_ _)); exact BK245.out) hb); have n2_ := Aside0.mk (below_step (by repeat (first | (with_reducible first | exact HB.out | apply below_alloc | apply pw_below_drewN | apply below_drew1 | refine below_set ?_ GE240.out | refine below_set ?_ GE245.out) | exact HB.out)) hb); clear BK240; clear BK245; clear HB; have BK240 := n0_; have BK245 := n1_; have HB := n2_; clear n0_ n1_ n2_; (try clear hb); (try clear hb2); (try clear hk); (try clear hi)) | ((with_reducible refine gate_dst (N := 10) rfl ?_); (try (refine gate_guard (by rfl) ?_; dsimp only)); refine box_event ?hg (N := 10) ?hd (cs := #[.int .i64 0, .bool false, .int .i64 0]) (t := 37) ?hr ?_; (case hd => rfl); (case hg => rfl); (case hr => first | (go_simp; done) | (go_simp; rfl)); intro gb250 hg w28 hbox hb; have n0_ := Aside0.mk (blk_below (g := gb240) (o := .cells #[.int .i64 (Go.bits .and .i64 a0_0 4294967295), .bool a0_1, .int .i64 (Go.bits .and .i64 a0_2 1099511627775)] 37 (0, 0)) (by (with_reducible repeat (first | refine blk_drewN ?_ _ | refine blk_drew ?_ | refine blk_alloc ?_ _)); exact BK240.out) hb); have n1_ := Aside0.mk (blk_below (g := gb245) (o := .cells #[.slice none 0 0, .int .i64 0, .int .i64 0, .int .i64 8, .int .i64 0, .int .i64 0, .int .i64 0, .int .i64 0, .int .i64 0] 32 (0, 0)) (by (with_reducible repeat (first | refine blk_drewN ?_ _ | refine blk_drew ?_ | refine blk_alloc ?_ _)); exact BK245.out) hb); have n2_ := Aside0.mk (below_step (by repeat (first | (with_reducible first | exact HB.out | apply below_alloc | apply pw_below_drewN | apply below_drew1 | refine below_set ?_ GE240.out | refine below_set ?_ GE245.out) | exact HB.out)) hb); have n3_ := Aside0.mk (hbox); have n4_ := Aside0.mk ((by rw [hg]; exact (below_size (by repeat (first | (with_reducible first | exact HB.out | apply below_alloc | apply pw_below_drewN | apply below_drew1 | refine below_set ?_ GE240.out | refine below_set ?_ GE245.out) | exact HB.out))) : w.heap.size ≤ gb250)); have n5_ := Aside0.mk ((by rw [hg]; exact (below_size (by repeat (first | (with_reducible first | exact HB.out | apply below_alloc | apply pw_below_drewN | apply below_drew1 | refine below_set ?_ GE240.out | refine below_set ?_ GE245.out) | exact HB.out))) : w.heap.size ≤ gb250)); have n6_ := Aside0.mk ((by rw [hg]; exact Nat.ne_of_lt (blk_lt (g := gb240) (o := .cells #[.int .i64 (Go.bits .and .i64 a0_0 4294967295), .bool a0_1, .int .i64 (Go.bits .and .i64 a0_2 1099511627775)] 37 (0, 0)) (by (with_reducible repeat (first | refine blk_drewN ?_ _ | refine blk_drew ?_ | refine blk_alloc ?_ _)); exact BK240.out)) : gb240 ≠ gb250)); have n7_ := Aside0.mk ((by rw [hg]; exact Nat.ne_of_gt (blk_lt (g := gb240) (o := .cells #[.int .i64 (Go.bits .and .i64 a0_0 4294967295), .bool a0_1, .int .i64 (Go.bits .and .i64 a0_2 1099511627775)] 37 (0, 0)) (by (with_reducible repeat (first | refine blk_drewN ?_ _ | refine blk_drew ?_ | refine blk_alloc ?_ _)); exact BK240.out)) : gb250 ≠ gb240)); have n8_ := Aside0.mk ((by rw [hg]; exact Nat.ne_of_lt (blk_lt (g := gb245) (o := .cells #[.slice none 0 0, .int .i64 0, .int .i64 0, .int .i64 8, .int .i64 0, .int .i64 0, .int .i64 0, .int .i64 0, .int .i64 0] 32 (0, 0)) (by (with_reducible repeat (first | refine blk_drewN ?_ _ | refine blk_drew ?_ | refine blk_alloc ?_ _)); exact BK245.out)) : gb245 ≠ gb250)); have n9_ := Aside0.mk ((by rw [hg]; exact Nat.ne_of_gt (blk_lt (g := gb245) (o := .cells #[.slice none 0 0, .int .i64 0, .int .i64 0, .int .i64 8, .int .i64 0, .int .i64 0, .int .i64 0, .int .i64 0, .int .i64 0] 32 (0, 0)) (by (with_reducible repeat (first | refine blk_drewN ?_ _ | refine blk_drew ?_ | refine blk_alloc ?_ _)); exact BK245.out)) : gb250 ≠ gb245)); clear BK240; clear BK245; clear HB; have BK240 := n0_; have BK245 := n1_; have HB := n2_; have BK250 := n3_; have GW250 := n4_; have GE250 := n5_; have NB240_250 := n6_; have NB250_240 := n7_; have NB245_250 := n8_; have NB250_245 := n9_; clear n0_ n1_ n2_ n3_ n4_ n5_ n6_ n7_ n8_ n9_; clear hb hbox hg; have hnb29 := NB250_240.out; have hnc29 := NB240_250.out; have hnb30 := NB250_245.out; have hnc30 := NB245_250.out; have hcz31_0 : w28.cell? ⟨gb250, 0, none⟩ = some (.int .i64 0) := (blk_cell BK250.out 0).trans rfl; have hcz31_1 : w28.cell? ⟨gb250, 1, none⟩ = some (.bool false) := (blk_cell BK250.out 1).trans rfl; have hcz31_2 : w28.cell? ⟨gb250, 2, none⟩ = some (.int .i64 0) := (blk_cell BK250.out 2).trans rfl; have hfz31_0 := blk_frozen BK250.out 0; have hfz31_1 := blk_frozen BK250.out 1; have hfz31_2 := blk_frozen BK250.out 2; have hcz32_0 : w28.cell? ⟨gb245, 0, none⟩ = some (.slice none 0 0) := (blk_cell BK245.out 0).trans rfl; have hcz32_1 : w28.cell? ⟨gb245, 1, none⟩ = some (.int .i64 0) := (blk_cell BK245.out 1).trans rfl; have hcz32_2 : w28.cell? ⟨gb245, 2, none⟩ = some (.int .i64 0) := (blk_cell BK245.out 2).trans rfl; have hcz32_3 : w28.cell? ⟨gb245, 3, none⟩ = some (.int .i64 8) := (blk_cell BK245.out 3).trans rfl; have hcz32_4 : w28.cell? ⟨gb245, 4, none⟩ = some (.int .i64 0) := (blk_cell BK245.out 4).trans rfl; have hcz32_5 : w28.cell? ⟨gb245, 5, none⟩ = some (.int .i64 0) := (blk_cell BK245.out 5).trans rfl; have hcz32_6 : w28.cell? ⟨gb245, 6, none⟩ = some (.int .i64 0) := (blk_cell BK245.out 6).trans rfl; have hcz32_7 : w28.cell? ⟨gb245, 7, none⟩ = some (.int .i64 0) := (blk_cell BK245.out 7).trans rfl; have hcz32_8 : w28.cell? ⟨gb245, 8, none⟩ = some (.int .i64 0) := (blk_cell BK245.out 8).trans rfl; have hfz32_0 := blk_frozen BK245.out 0; have hfz32_1 := blk_frozen BK245.out 1; have hfz32_2 := blk_frozen BK245.out 2; have hfz32_3 := blk_frozen BK245.out 3; have hfz32_4 := blk_frozen BK245.out 4; have hfz32_5 := blk_frozen BK245.out 5; have hfz32_6 := blk_frozen BK245.out 6; have hfz32_7 := blk_frozen BK245.out 7; have hfz32_8 := blk_frozen BK245.out 8) | ((with_reducible refine gate_callee (f := 11) rfl ?_); refine goesL_ (some 52) rfl rfl Try.func11 (by kernel_rfl) rfl #[.string ((t243 ++ t242) ++ t244), .agg #[.slice none 0 0, .int .i64 0, .int .i64 0, .int .i64 8, .int .i64 0, .int .i64 0, .int .i64 0, .int .i64 0, .int .i64 0], .int .i64 (wrap64 ((Int.tmod (wrap64 ((Int.tmod a1 9) + 9)) 9) + 3))] rfl (by (try simp only [List.map_toArray, List.map_cons, List.map_nil]); first | done | rfl | (simp only [List.length_drop, List.length_take]; rfl) | (simp only [ByteArray.size_append, Int.natCast_add]; rfl)) ?_; (refine (symbol_Read.calls k ((t243 ++ t242) ++ t244) _ _ ([] : List Int) 0 0 8 0 0 0 0 0 (wrap64 ((Int.tmod (wrap64 ((Int.tmod a1 9) + 9)) 9) + 3)) t251 t252 t253 false _ ?side1 ?side2 A10.out).mono ?_); (case side1 => exact Kd.C_nil _ _); (case side2 => exact Nat.le_refl _); rintro e w33 ⟨rfl, hb⟩; refine ⟨_, rfl, ?_⟩; have n0_ := Aside0.mk (blk_below (g := gb240) (o := .cells #[.int .i64 (Go.bits .and .i64 a0_0 4294967295), .bool a0_1, .int .i64 (Go.bits .and .i64 a0_2 1099511627775)] 37 (0, 0)) (by (with_reducible repeat (first | refine blk_drewN ?_ _ | refine blk_drew ?_ | refine blk_alloc ?_ _)); refine blk_far ?_ NB240_250.out _; (with_reducible repeat (first | refine blk_drewN ?_ _ | refine blk_drew ?_ | refine blk_alloc ?_ _)); refine blk_far ?_ NB240_250.out _; (with_reducible repeat (first | refine blk_drewN ?_ _ | refine blk_drew ?_ | refine blk_alloc ?_ _)); refine blk_far ?_ NB240_250.out _; (with_reducible repeat (first | refine blk_drewN ?_ _ | refine blk_drew ?_ | refine blk_alloc ?_ _)); exact BK240.out) hb); have n1_ := Aside0.mk (blk_below (g := gb245) (o := .cells #[.slice none 0 0, .int .i64 0, .int .i64 0, .int .i64 8, .int .i64 0, .int .i64 0, .int .i64 0, .int .i64 0, .int .i64 0] 32 (0, 0)) (by (with_reducible repeat (first | refine blk_drewN ?_ _ | refine blk_drew ?_ | refine blk_alloc ?_ _)); refine blk_far ?_ NB245_250.out _; (with_reducible repeat (first | refine blk_drewN ?_ _ | refine blk_drew ?_ | refine blk_alloc ?_ _)); refine blk_far ?_ NB245_250.out _; (with_reducible repeat (first | refine blk_drewN ?_ _ | refine blk_drew ?_ | refine blk_alloc ?_ _)); refine blk_far ?_ NB245_250.out _; (with_reducible repeat (first | refine blk_drewN ?_ _ | refine blk_drew ?_ | refine blk_alloc ?_ _)); exact BK245.out) hb); have n2_ := Aside0.mk (blk_below (g := gb250) (o := .cells #[.int .i64 t246, .bool t247, .int .i64 t248] 37 (0, 0)) (by (with_reducible repeat (first | refine blk_drewN ?_ _ | refine blk_drew ?_ | refine blk_alloc ?_ _)); refine blk_put (cs := #[.int .i64 t246, .bool t247, .int .i64 0]) ?_ 2 _ rfl; (with_reducible repeat (first | refine blk_drewN ?_ _ | refine blk_drew ?_ | refine blk_alloc ?_ _)); refine blk_put (cs := #[.int .i64 t246, .bool false, .int .i64 0]) ?_ 1 _ rfl; (with_reducible repeat (first | refine blk_drewN ?_ _ | refine blk_drew ?_ | refine blk_alloc ?_ _)); refine blk_put (cs := #[.int .i64 0, .bool false, .int .i64 0]) ?_ 0 _ rfl; (with_reducible repeat (first | refine blk_drewN ?_ _ | refine blk_drew ?_ | refine blk_alloc ?_ _)); exact BK250.out) hb); have n3_ := Aside0.mk (below_step (by repeat (first | (with_reducible first | exact HB.out | apply below_alloc | apply pw_below_drewN | apply below_drew1 | refine below_set ?_ GE240.out | refine below_set ?_ GE245.out | refine below_set ?_ GE250.out) | exact HB.out)) hb); clear BK240; clear BK245; clear BK250; clear HB; have BK240 := n0_; have BK245 := n1_; have BK250 := n2_; have HB := n3_; clear n0_ n1_ n2_ n3_; (try clear hb); (try clear hb2); (try clear hk); (try clear hi)) | ((with_reducible refine gate_dst (N := 12) rfl ?_); (try (refine gate_guard (by rfl) ?_; dsimp only)); refine box_event ?hg (N := 12) ?hd (cs := #[.int .i64 0, .bool false, .int .i64 0]) (t := 37) ?hr ?_; (case hd => rfl); (case hg => rfl); (case hr => first | (go_simp; done) | (go_simp; rfl)); intro gb255 hg w34 hbox hb; have n0_ := Aside0.mk (blk_below (g := gb240) (o := .cells #[.int .i64 (Go.bits .and .i64 a0_0 4294967295), .bool a0_1, .int .i64 (Go.bits .and .i64 a0_2 1099511627775)] 37 (0, 0)) (by (with_reducible repeat (first | refine blk_drewN ?_ _ | refine blk_drew ?_ | refine blk_alloc ?_ _)); exact BK240.out) hb); have n1_ := Aside0.mk (blk_below (g := gb245) (o := .cells #[.slice none 0 0, .int .i64 0, .int .i64 0, .int .i64 8, .int .i64 0, .int .i64 0, .int .i64 0, .int .i64 0, .int .i64 0] 32 (0, 0)) (by (with_reducible repeat (first | refine blk_drewN ?_ _ | refine blk_drew ?_ | refine blk_alloc ?_ _)); exact BK245.out) hb); have n2_ := Aside0.mk (blk_below (g := gb250) (o := .cells #[.int .i64 t246, .bool t247, .int .i64 t248] 37 (0, 0)) (by (with_reducible repeat (first | refine blk_drewN ?_ _ | refine blk_drew ?_ | refine blk_alloc ?_ _)); exact BK250.out) hb); have n3_ := Aside0.mk (below_step (by repeat (first | (with_reducible first | exact HB.out | apply below_alloc | apply pw_below_drewN | apply below_drew1 | refine below_set ?_ GE240.out | refine below_set ?_ GE245.out | refine below_set ?_ GE250.out) | exact HB.out)) hb); have n4_ := Aside0.mk (hbox); have n5_ := Aside0.mk ((by rw [hg]; exact (below_size (by repeat (first | (with_reducible first | exact HB.out | apply below_alloc | apply pw_below_drewN | apply below_drew1 | refine below_set ?_ GE240.out | refine below_set ?_ GE245.out | refine below_set ?_ GE250.out) | exact HB.out))) : w.heap.size ≤ gb255)); have n6_ := Aside0.mk ((by rw [hg]; exact (below_size (by repeat (first | (with_reducible first | exact HB.out | apply below_alloc | apply pw_below_drewN | apply below_drew1 | refine below_set ?_ GE240.out | refine below_set ?_ GE245.out | refine below_set ?_ GE250.out) | exact HB.out))) : w.heap.size ≤ gb255)); have n7_ := Aside0.mk ((by rw [hg]; exact Nat.ne_of_lt (blk_lt (g := gb240) (o := .cells #[.int .i64 (Go.bits .and .i64 a0_0 4294967295), .bool a0_1, .int .i64 (Go.bits .and .i64 a0_2 1099511627775)] 37 (0, 0)) (by (with_reducible repeat (first | refine blk_drewN ?_ _ | refine blk_drew ?_ | refine blk_alloc ?_ _)); exact BK240.out)) : gb240 ≠ gb255)); have n8_ := Aside0.mk ((by rw [hg]; exact Nat.ne_of_gt (blk_lt (g := gb240) (o := .cells #[.int .i64 (Go.bits .and .i64 a0_0 4294967295), .bool a0_1, .int .i64 (Go.bits .and .i64 a0_2 1099511627775)] 37 (0, 0)) (by (with_reducible repeat (first | refine blk_drewN ?_ _ | refine blk_drew ?_ | refine blk_alloc ?_ _)); exact BK240.out)) : gb255 ≠ gb240)); have n9_ := Aside0.mk ((by rw [hg]; exact Nat.ne_of_lt (blk_lt (g := gb245) (o := .cells #[.slice none 0 0, .int .i64 0, .int .i64 0, .int .i64 8, .int .i64 0, .int .i64 0, .int .i64 0, .int .i64 0, .int .i64 0] 32 (0, 0)) (by (with_reducible repeat (first | refine blk_drewN ?_ _ | refine blk_drew ?_ | refine blk_alloc ?_ _)); exact BK245.out)) : gb245 ≠ gb255)); have n10_ := Aside0.mk ((by rw [hg]; exact Nat.ne_of_gt (blk_lt (g := gb245) (o := .cells #[.slice none 0 0, .int .i64 0, .int .i64 0, .int .i64 8, .int .i64 0, .int .i64 0, .int .i64 0, .int .i64 0, .int .i64 0] 32 (0, 0)) (by (with_reducible repeat (first | refine blk_drewN ?_ _ | refine blk_drew ?_ | refine blk_alloc ?_ _)); exact BK245.out)) : gb255 ≠ gb245)); have n11_ := Aside0.mk ((by rw [hg]; exact Nat.ne_of_lt (blk_lt (g := gb250) (o := .cells #[.int .i64 t246, .bool t247, .int .i64 t248] 37 (0, 0)) (by (with_reducible repeat (first | refine blk_drewN ?_ _ | refine blk_drew ?_ | refine blk_alloc ?_ _)); exact BK250.out)) : gb250 ≠ gb255)); have n12_ := Aside0.mk ((by rw [hg]; exact Nat.ne_of_gt (blk_lt (g := gb250) (o := .cells #[.int .i64 t246, .bool t247, .int .i64 t248] 37 (0, 0)) (by (with_reducible repeat (first | refine blk_drewN ?_ _ | refine blk_drew ?_ | refine blk_alloc ?_ _)); exact BK250.out)) : gb255 ≠ gb250)); clear BK240; clear BK245; clear BK250; clear HB; have BK240 := n0_; have BK245 := n1_; have BK250 := n2_; have HB := n3_; have BK255 := n4_; have GW255 := n5_; have GE255 := n6_; have NB240_255 := n7_; have NB255_240 := n8_; have NB245_255 := n9_; have NB255_245 := n10_; have NB250_255 := n11_; have NB255_250 := n12_; clear n0_ n1_ n2_ n3_ n4_ n5_ n6_ n7_ n8_ n9_ n10_ n11_ n12_; clear hb hbox hg; have hnb35 := NB255_240.out; have hnc35 := NB240_255.out; have hnb36 := NB255_245.out; have hnc36 := NB245_255.out; have hnb37 := NB255_250.out; have hnc37 := NB250_255.out; have hcz38_0 : w34.cell? ⟨gb255, 0, none⟩ = some (.int .i64 0) := (blk_cell BK255.out 0).trans rfl; have hcz38_1 : w34.cell? ⟨gb255, 1, none⟩ = some (.bool false) := (blk_cell BK255.out 1).trans rfl; have hcz38_2 : w34.cell? ⟨gb255, 2, none⟩ = some (.int .i64 0) := (blk_cell BK255.out 2).trans rfl; have hfz38_0 := blk_frozen BK255.out 0; have hfz38_1 := blk_frozen BK255.out 1; have hfz38_2 := blk_frozen BK255.out 2) | ((with_reducible refine gate_callee (f := 11) rfl ?_); refine goesL_ (some 58) rfl rfl Try.func11 (by kernel_rfl) rfl #[.string ((t243 ++ t242) ++ t244), .agg #[.slice none 0 0, .int .i64 0, .int .i64 0, .int .i64 0, .int .i64 0, .int .i64 0, .int .i64 0, .int .i64 0, .int .i64 0], .int .i64 0] rfl (by (try simp only [List.map_toArray, List.map_cons, List.map_nil]); first | done | rfl | (simp only [List.length_drop, List.length_take]; rfl) | (simp only [ByteArray.size_append, Int.natCast_add]; rfl)) ?_; (refine (symbol_Read.calls k ((t243 ++ t242) ++ t244) _ _ ([] : List Int) 0 0 0 0 0 0 0 0 0 t256 t257 t258 false _ ?side1 ?side2 A11.out).mono ?_); (case side1 => exact Kd.C_nil _ _); (case side2 => exact Nat.le_refl _); rintro e w39 ⟨rfl, hb⟩; refine ⟨_, rfl, ?_⟩; have n0_ := Aside0.mk (blk_below (g := gb240) (o := .cells #[.int .i64 (Go.bits .and .i64 a0_0 4294967295), .bool a0_1, .int .i64 (Go.bits .and .i64 a0_2 1099511627775)] 37 (0, 0)) (by (with_reducible repeat (first | refine blk_drewN ?_ _ | refine blk_drew ?_ | refine blk_alloc ?_ _)); refine blk_far ?_ NB240_255.out _; (with_reducible repeat (first | refine blk_drewN ?_ _ | refine blk_drew ?_ | refine blk_alloc ?_ _)); refine blk_far ?_ NB240_255.out _; (with_reducible repeat (first | refine blk_drewN ?_ _ | refine blk_drew ?_ | refine blk_alloc ?_ _)); refine blk_far ?_ NB240_255.out _; (with_reducible repeat (first | refine blk_drewN ?_ _ | refine blk_drew ?_ | refine blk_alloc ?_ _)); exact BK240.out) hb); have n1_ := Aside0.mk (blk_below (g := gb245) (o := .cells #[.slice none 0 0, .int .i64 0, .int .i64 0, .int .i64 8, .int .i64 0, .int .i64 0, .int .i64 0, .int .i64 0, .int .i64 0] 32 (0, 0)) (by (with_reducible repeat (first | refine blk_drewN ?_ _ | refine blk_drew ?_ | refine blk_alloc ?_ _)); refine blk_far ?_ NB245_255.out _; (with_reducible repeat (first | refine blk_drewN ?_ _ | refine blk_drew ?_ | refine blk_alloc ?_ _)); refine blk_far ?_ NB245_255.out _; (with_reducible repeat (first | refine blk_drewN ?_ _ | refine blk_drew ?_ | refine blk_alloc ?_ _)); refine blk_far ?_ NB245_255.out _; (with_reducible repeat (first | refine blk_drewN ?_ _ | refine blk_drew ?_ | refine blk_alloc ?_ _)); exact BK245.out) hb); have n2_ := Aside0.mk (blk_below (g := gb250) (o := .cells #[.int .i64 t246, .bool t247, .int .i64 t248] 37 (0, 0)) (by (with_reducible repeat (first | refine blk_drewN ?_ _ | refine blk_drew ?_ | refine blk_alloc ?_ _)); refine blk_far ?_ NB250_255.out _; (with_reducible repeat (first | refine blk_drewN ?_ _ | refine blk_drew ?_ | refine blk_alloc ?_ _)); refine blk_far ?_ NB250_255.out _; (with_reducible repeat (first | refine blk_drewN ?_ _ | refine blk_drew ?_ | refine blk_alloc ?_ _)); refine blk_far ?_ NB250_255.out _; (with_reducible repeat (first | refine blk_drewN ?_ _ | refine blk_drew ?_ | refine blk_alloc ?_ _)); exact BK250.out) hb); have n3_ := Aside0.mk (blk_below (g := gb255) (o := .cells #[.int .i64 t251, .bool t252, .int .i64 t253] 37 (0, 0)) (by (with_reducible repeat (first | refine blk_drewN ?_ _ | refine blk_drew ?_ | refine blk_alloc ?_ _)); refine blk_put (cs := #[.int .i64 t251, .bool t252, .int .i64 0]) ?_ 2 _ rfl; (with_reducible repeat (first | refine blk_drewN ?_ _ | refine blk_drew ?_ | refine blk_alloc ?_ _)); refine blk_put (cs := #[.int .i64 t251, .bool false, .int .i64 0]) ?_ 1 _ rfl; (with_reducible repeat (first | refine blk_drewN ?_ _ | refine blk_drew ?_ | refine blk_alloc ?_ _)); refine blk_put (cs := #[.int .i64 0, .bool false, .int .i64 0]) ?_ 0 _ rfl; (with_reducible repeat (first | refine blk_drewN ?_ _ | refine blk_drew ?_ | refine blk_alloc ?_ _)); exact BK255.out) hb); have n4_ := Aside0.mk (below_step (by repeat (first | (with_reducible first | exact HB.out | apply below_alloc | apply pw_below_drewN | apply below_drew1 | refine below_set ?_ GE240.out | refine below_set ?_ GE245.out | refine below_set ?_ GE250.out | refine below_set ?_ GE255.out) | exact HB.out)) hb); clear BK240; clear BK245; clear BK250; clear BK255; clear HB; have BK240 := n0_; have BK245 := n1_; have BK250 := n2_; have BK255 := n3_; have HB := n4_; clear n0_ n1_ n2_ n3_ n4_; (try clear hb); (try clear hb2); (try clear hk); (try clear hi)) | ((with_reducible refine gate_dst (N := 14) rfl ?_); (try (refine gate_guard (by rfl) ?_; dsimp only)); refine box_event ?hg (N := 14) ?hd (cs := #[.int .i64 0, .bool false, .int .i64 0]) (t := 37) ?hr ?_; (case hd => rfl); (case hg => rfl); (case hr => first | (go_simp; done) | (go_simp; rfl)); intro gb260 hg w40 hbox hb; have n0_ := Aside0.mk (blk_below (g := gb240) (o := .cells #[.int .i64 (Go.bits .and .i64 a0_0 4294967295), .bool a0_1, .int .i64 (Go.bits .and .i64 a0_2 1099511627775)] 37 (0, 0)) (by (with_reducible repeat (first | refine blk_drewN ?_ _ | refine blk_drew ?_ | refine blk_alloc ?_ _)); exact BK240.out) hb); have n1_ := Aside0.mk (blk_below (g := gb245) (o := .cells #[.slice none 0 0, .int .i64 0, .int .i64 0, .int .i64 8, .int .i64 0, .int .i64 0, .int .i64 0, .int .i64 0, .int .i64 0] 32 (0, 0)) (by (with_reducible repeat (first | refine blk_drewN ?_ _ | refine blk_drew ?_ | refine blk_alloc ?_ _)); exact BK245.out) hb); have n2_ := Aside0.mk (blk_below (g := gb250) (o := .cells #[.int .i64 t246, .bool t247, .int .i64 t248] 37 (0, 0)) (by (with_reducible repeat (first | refine blk_drewN ?_ _ | refine blk_drew ?_ | refine blk_alloc ?_ _)); exact BK250.out) hb); have n3_ := Aside0.mk (blk_below (g := gb255) (o := .cells #[.int .i64 t251, .bool t252, .int .i64 t253] 37 (0, 0)) (by (with_reducible repeat (first | refine blk_drewN ?_ _ | refine blk_drew ?_ | refine blk_alloc ?_ _)); exact BK255.out) hb); have n4_ := Aside0.mk (below_step (by repeat (first | (with_reducible first | exact HB.out | apply below_alloc | apply pw_below_drewN | apply below_drew1 | refine below_set ?_ GE240.out | refine below_set ?_ GE245.out | refine below_set ?_ GE250.out | refine below_set ?_ GE255.out) | exact HB.out)) hb); have n5_ := Aside0.mk (hbox); have n6_ := Aside0.mk ((by rw [hg]; exact (below_size (by repeat (first | (with_reducible first | exact HB.out | apply below_alloc | apply pw_below_drewN | apply below_drew1 | refine below_set ?_ GE240.out | refine below_set ?_ GE245.out | refine below_set ?_ GE250.out | refine below_set ?_ GE255.out) | exact HB.out))) : w.heap.size ≤ gb260)); have n7_ := Aside0.mk ((by rw [hg]; exact (below_size (by repeat (first | (with_reducible first | exact HB.out | apply below_alloc | apply pw_below_drewN | apply below_drew1 | refine below_set ?_ GE240.out | refine below_set ?_ GE245.out | refine below_set ?_ GE250.out | refine below_set ?_ GE255.out) | exact HB.out))) : w.heap.size ≤ gb260)); have n8_ := Aside0.mk ((by rw [hg]; exact Nat.ne_of_lt (blk_lt (g := gb240) (o := .cells #[.int .i64 (Go.bits .and .i64 a0_0 4294967295), .bool a0_1, .int .i64 (Go.bits .and .i64 a0_2 1099511627775)] 37 (0, 0)) (by (with_reducible repeat (first | refine blk_drewN ?_ _ | refine blk_drew ?_ | refine blk_alloc ?_ _)); exact BK240.out)) : gb240 ≠ gb260)); have n9_ := Aside0.mk ((by rw [hg]; exact Nat.ne_of_gt (blk_lt (g := gb240) (o := .cells #[.int .i64 (Go.bits .and .i64 a0_0 4294967295), .bool a0_1, .int .i64 (Go.bits .and .i64 a0_2 1099511627775)] 37 (0, 0)) (by (with_reducible repeat (first | refine blk_drewN ?_ _ | refine blk_drew ?_ | refine blk_alloc ?_ _)); exact BK240.out)) : gb260 ≠ gb240)); have n10_ := Aside0.mk ((by rw [hg]; exact Nat.ne_of_lt (blk_lt (g := gb245) (o := .cells #[.slice none 0 0, .int .i64 0, .int .i64 0, .int .i64 8, .int .i64 0, .int .i64 0, .int .i64 0, .int .i64 0, .int .i64 0] 32 (0, 0)) (by (with_reducible repeat (first | refine blk_drewN ?_ _ | refine blk_drew ?_ | refine blk_alloc ?_ _)); exact BK245.out)) : gb245 ≠ gb260)); have n11_ := Aside0.mk ((by rw [hg]; exact Nat.ne_of_gt (blk_lt (g := gb245) (o := .cells #[.slice none 0 0, .int .i64 0, .int .i64 0, .int .i64 8, .int .i64 0, .int .i64 0, .int .i64 0, .int .i64 0, .int .i64 0] 32 (0, 0)) (by (with_reducible repeat (first | refine blk_drewN ?_ _ | refine blk_drew ?_ | refine blk_alloc ?_ _)); exact BK245.out)) : gb260 ≠ gb245)); have n12_ := Aside0.mk ((by rw [hg]; exact Nat.ne_of_lt (blk_lt (g := gb250) (o := .cells #[.int .i64 t246, .bool t247, .int .i64 t248] 37 (0, 0)) (by (with_reducible repeat (first | refine blk_drewN ?_ _ | refine blk_drew ?_ | refine blk_alloc ?_ _)); exact BK250.out)) : gb250 ≠ gb260)); have n13_ := Aside0.mk ((by rw [hg]; exact Nat.ne_of_gt (blk_lt (g := gb250) (o := .cells #[.int .i64 t246, .bool t247, .int .i64 t248] 37 (0, 0)) (by (with_reducible repeat (first | refine blk_drewN ?_ _ | refine blk_drew ?_ | refine blk_alloc ?_ _)); exact BK250.out)) : gb260 ≠ gb250)); have n14_ := Aside0.mk ((by rw [hg]; exact Nat.ne_of_lt (blk_lt (g := gb255) (o := .cells #[.int .i64 t251, .bool t252, .int .i64 t253] 37 (0, 0)) (by (with_reducible repeat (first | refine blk_drewN ?_ _ | refine blk_drew ?_ | refine blk_alloc ?_ _)); exact BK255.out)) : gb255 ≠ gb260)); have n15_ := Aside0.mk ((by rw [hg]; exact Nat.ne_of_gt (blk_lt (g := gb255) (o := .cells #[.int .i64 t251, .bool t252, .int .i64 t253] 37 (0, 0)) (by (with_reducible repeat (first | refine blk_drewN ?_ _ | refine blk_drew ?_ | refine blk_alloc ?_ _)); exact BK255.out)) : gb260 ≠ gb255)); clear BK240; clear BK245; clear BK250; clear BK255; clear HB; have BK240 := n0_; have BK245 := n1_; have BK250 := n2_; have BK255 := n3_; have HB := n4_; have BK260 := n5_; have GW260 := n6_; have GE260 := n7_; have NB240_260 := n8_; have NB260_240 := n9_; have NB245_260 := n10_; have NB260_245 := n11_; have NB250_260 := n12_; have NB260_250 := n13_; have NB255_260 := n14_; have NB260_255 := n15_; clear n0_ n1_ n2_ n3_ n4_ n5_ n6_ n7_ n8_ n9_ n10_ n11_ n12_ n13_ n14_ n15_; clear hb hbox hg; have hnb41 := NB260_240.out; have hnc41 := NB240_260.out; have hnb42 := NB260_245.out; have hnc42 := NB245_260.out; have hnb43 := NB260_250.out; have hnc43 := NB250_260.out; have hnb44 := NB260_255.out; have hnc44 := NB255_260.out; have hcz45_0 : w40.cell? ⟨gb260, 0, none⟩ = some (.int .i64 0) := (blk_cell BK260.out 0).trans rfl; have hcz45_1 : w40.cell? ⟨gb260, 1, none⟩ = some (.bool false) := (blk_cell BK260.out 1).trans rfl; have hcz45_2 : w40.cell? ⟨gb260, 2, none⟩ = some (.int .i64 0) := (blk_cell BK260.out 2).trans rfl; have hfz45_0 := blk_frozen BK260.out 0; have hfz45_1 := blk_frozen BK260.out 1; have hfz45_2 := blk_frozen BK260.out 2; have hcz46_0 : w40.cell? ⟨gb250, 0, none⟩ = some (.int .i64 t246) := (blk_cell BK250.out 0).trans rfl; have hcz46_1 : w40.cell? ⟨gb250, 1, none⟩ = some (.bool t247) := (blk_cell BK250.out 1).trans rfl; have hcz46_2 : w40.cell? ⟨gb250, 2, none⟩ = some (.int .i64 t248) := (blk_cell BK250.out 2).trans rfl; have hfz46_0 := blk_frozen BK250.out 0; have hfz46_1 := blk_frozen BK250.out 1; have hfz46_2 := blk_frozen BK250.out 2; have hcz47_0 : w40.cell? ⟨gb240, 0, none⟩ = some (.int .i64 (Go.bits .and .i64 a0_0 4294967295)) := (blk_cell BK240.out 0).trans rfl; have hcz47_1 : w40.cell? ⟨gb240, 1, none⟩ = some (.bool a0_1) := (blk_cell BK240.out 1).trans rfl; have hcz47_2 : w40.cell? ⟨gb240, 2, none⟩ = some (.int .i64 (Go.bits .and .i64 a0_2 1099511627775)) := (blk_cell BK240.out 2).trans rfl; have hfz47_0 := blk_frozen BK240.out 0; have hfz47_1 := blk_frozen BK240.out 1; have hfz47_2 := blk_frozen BK240.out 2))
                  go_ret
                  exact ⟨by first | rfl | (simp [errW_none, errW_some] <;> rfl) | (rw [HR_.out]; done) | (rw [← HR_.out]; done) | (have hR_ := HR_.out; simp only [hR_]; done) | (have hR_ := HR_.out; simp only [ByteArray.size_append] at hR_; exact congrArg (fun b_ => Ending.returned (.bool b_)) hR_) | (have hR_ := HR_.out; simp_all; done) | (have hR_ := beq_iff_eq.mp HR_.out; simp; exact hR_) | (simp [*, errW_none, errW_some] <;> rfl), by repeat (first | (with_reducible first | exact HB.out | apply below_alloc | apply pw_below_drewN | apply below_drew1 | refine below_set ?_ GE240.out | refine below_set ?_ GE245.out | refine below_set ?_ GE250.out | refine below_set ?_ GE255.out | refine below_set ?_ GE260.out) | exact HB.out)⟩
            · rw [if_neg c15] at H
              have c15b0 : (t246 == (Go.bits .and .i64 a0_0 4294967295) && (t247 == a0_1 && (t248 == (Go.bits .and .i64 a0_2 1099511627775)))) = false := by simpa using c15
              (try (have c15b1 : decide (t246 = (Go.bits .and .i64 a0_0 4294967295) && (t247 == a0_1 && (t248 == (Go.bits .and .i64 a0_2 1099511627775)))) = false := by simpa using c15))
              (try (have c15b2 : (t246 == (Go.bits .and .i64 a0_0 4294967295) && (t247 == a0_1 && (t248 == (Go.bits .and .i64 a0_2 1099511627775)))) = false := by simpa using c15))
              (try (have c15b3 : ¬ (t246 = (Go.bits .and .i64 a0_0 4294967295) && (t247 == a0_1 && (t248 == (Go.bits .and .i64 a0_2 1099511627775)))) := by simpa using c15))
              clear c15
              exact absurd H (by simp)
          · replace c14 := Bool.eq_false_iff.mpr c14
            subst c14
            have H1 : (some false) = some true := by rw [if_neg (show ¬ (false = true) by decide)] at H; exact H
            clear H
            have H := H1
            clear H1
            exact absurd H (by simp)
        · rw [if_neg c13] at H
          have c13b0 : ((t242.size : Int) == 24) = false := beq_eq_false_iff_ne.mpr c13
          have c13b1 : ((t242.size : Int) != 24) = true := bne_iff_ne.mpr c13
          exact absurd H (by simp)
      · replace c12 := Bool.eq_false_iff.mpr c12
        subst c12
        have H1 : (some false) = some true := by rw [if_neg (show ¬ (false = true) by decide)] at H; exact H
        clear H
        have H := H1
        clear H1
        exact absurd H (by simp)
    · rw [if_neg c8] at H
      exact absurd H (by simp)
  · rw [if_neg c6] at H
    exact absurd H (by simp)

end Go.Proofs.Ytoknnbjkjhigbaa.X
