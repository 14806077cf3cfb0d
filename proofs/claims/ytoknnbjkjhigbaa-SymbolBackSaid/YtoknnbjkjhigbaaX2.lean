/- Walks of Go functions of this seat: each calls-theorem says that the Go function, called at values of its kinds, returns what the Lean function of its name tells, where that tells something; what was in memory stays. Written by our own program xprint.py. -/
import Derived.Test.YtoknnbjkjhigbaaX0
namespace Go.Proofs.Ytoknnbjkjhigbaa.X
open Go.RowKit Go.Proofs.YtoknnbjkjhigbaaW.PrintWords Go.Proofs.YtoknnbjkjhigbaaW.PrintLast Go.Proofs.YtoknnbjkjhigbaaW.PrintMore
attribute [local go_sem] max2_int min2_int max_two min_two max_three min_three max_four min_four   -- for this text's walks alone
set_option linter.unusedVariables false
set_option linter.unusedSimpArgs false

/-- A state of type 24 at block g of W; what its slices lead to came in by w0. -/
def IsS24 (w0 W : World) (g : Nat) (f0 : Int) : Prop := W.heap[g]? = some (.cells #[.int .u32 f0] 24 (0, 0)) ∧ w0.heap.size ≤ g
theorem IsS24.grown {w0 W : World} {g : Nat} {f0 : Int} {W1 : World} {row : Option Nat} (h : IsS24 w0 W g f0) (hw : W.grownBy W1 row) (hne : some g ≠ row) : IsS24 w0 W1 g f0 := by
  obtain ⟨hb, hg⟩ := h
  exact ⟨blk_grown hb hw hne, hg⟩
theorem IsS24.own_neN {w0 W : World} {g : Nat} {f0 : Int} {α : Type} {d : Kd α} {e : Nat} {base : Nat} {ok : Nat → Prop} {v : Value} {xs : List α} (h : IsS24 w0 W g f0) (ho : Kd.N d e W base ok v xs) (ht : e ≠ 24) : some g ≠ v.ownBlock := by
  obtain ⟨hb, hg⟩ := h
  exact Kd.N_ne ho hb ht
theorem IsS24.fresh {w0 W : World} {g : Nat} {f0 : Int} (h : IsS24 w0 W g f0) : ∀ k, W.heap.size ≤ k → k ≠ g := by
  obtain ⟨hb, hg⟩ := h
  exact Kd.freshB hb
theorem IsS24.kept {w0 W : World} {g : Nat} {f0 : Int} {W1 : World} {S : Nat → Prop} (h : IsS24 w0 W g f0) (hk : Kept W W1 S) (hne : ¬ S g) : IsS24 w0 W1 g f0 := by
  obtain ⟨hb, hg⟩ := h
  exact ⟨blk_kept hb hk hne, hg⟩
theorem IsS24.below {w0 W : World} {g : Nat} {f0 : Int} {W1 : World} (h : IsS24 w0 W g f0) (hw : Below W.heap.size W W1) : IsS24 w0 W1 g f0 := h.grown (grown_of_below hw none) (by simp)
theorem IsS24.alloc {w0 W : World} {g : Nat} {f0 : Int} (h : IsS24 w0 W g f0) (o : Obj) : IsS24 w0 (W.alloc o) g f0 := h.below (below_alloc (Below.refl _ _) o)
theorem IsS24.drewN {w0 W : World} {g : Nat} {f0 : Int} (h : IsS24 w0 W g f0) (m : Nat) : IsS24 w0 (W.drewN m) g f0 := h
theorem IsS24.drew {w0 W : World} {g : Nat} {f0 : Int} (h : IsS24 w0 W g f0) : IsS24 w0 W.drew g f0 := h
theorem IsS24.at_ {w0 W : World} {g : Nat} {f0 : Int} {w' : World} {m : Nat} (hq : W.drewN m = w') (h : IsS24 w0 W g f0) : IsS24 w0 w' g f0 := by subst hq; exact IsS24.drewN h m
theorem IsS24.apart {w0 W : World} {g : Nat} {f0 : Int} {α : Type} {d : Kd α} {e : Nat} {base : Nat} {ok : Nat → Prop} {v : Value} {xs : List α} (h : IsS24 w0 W g f0) (ho : d.R e W base ok v xs) (ht : ∀ q, q ∈ e :: d.E → q ≠ 24) : d.R e W base (fun k => ok k ∧ k ≠ g) v xs := by
  obtain ⟨hb, hg⟩ := h
  exact Kd.R_types ho hb ht
theorem IsS24.own_ne {w0 W : World} {g : Nat} {f0 : Int} {α : Type} {d : Kd α} {e : Nat} {base : Nat} {ok : Nat → Prop} {v : Value} {xs : List α} (h : IsS24 w0 W g f0) (ho : d.R e W base ok v xs) (ht : e ≠ 24) : some g ≠ v.ownBlock := by
  obtain ⟨hb, hg⟩ := h
  exact Kd.R_ne ho hb ht
theorem IsS24.apartQ {w0 W : World} {g : Nat} {f0 : Int} {α : Type} {d : Kd α} {e : Nat} {base : Nat} {ok : Nat → Prop} {v : Value} {xs : List α} (h : IsS24 w0 W g f0) (ho : d.Q e W base ok v xs) (ht : ∀ q, q ∈ e :: d.E → q ≠ 24) : d.Q e W base (fun k => ok k ∧ k ≠ g) v xs := by
  obtain ⟨hb, hg⟩ := h
  exact Kd.Q_types ho hb ht
theorem IsS24.own_neQ {w0 W : World} {g : Nat} {f0 : Int} {α : Type} {d : Kd α} {e : Nat} {base : Nat} {ok : Nat → Prop} {v : Value} {xs : List α} (h : IsS24 w0 W g f0) (ho : d.Q e W base ok v xs) (ht : e ≠ 24) : some g ≠ v.ownBlock := by
  obtain ⟨hb, hg⟩ := h
  exact Kd.Q_ne ho hb ht
theorem IsS24.apartS {w0 W : World} {g : Nat} {f0 : Int} {α : Type} {d : Kd α} {e : Nat} {base : Nat} {ok : Nat → Prop} {v : Value} {xs : List α} (h : IsS24 w0 W g f0) (ho : d.S e W base ok v xs) (ht : ∀ q, q ∈ e :: d.E → q ≠ 24) : d.S e W base (fun k => ok k ∧ k ≠ g) v xs := by
  obtain ⟨hb, hg⟩ := h
  exact Kd.S_types ho hb ht
theorem IsS24.own_neS {w0 W : World} {g : Nat} {f0 : Int} {α : Type} {d : Kd α} {e : Nat} {base : Nat} {ok : Nat → Prop} {v : Value} {xs : List α} (h : IsS24 w0 W g f0) (ho : d.S e W base ok v xs) (ht : e ≠ 24) : some g ≠ v.ownBlock := by
  obtain ⟨hb, hg⟩ := h
  exact Kd.S_ne ho hb ht
theorem IsS24.lt {w0 W : World} {g : Nat} {f0 : Int} (h : IsS24 w0 W g f0) : g < W.heap.size := by
  obtain ⟨hb, hg⟩ := h
  exact blk_lt hb
theorem IsS24.ge {w0 W : World} {g : Nat} {f0 : Int} (h : IsS24 w0 W g f0) : w0.heap.size ≤ g := by
  obtain ⟨hb, hg⟩ := h
  exact hg
theorem IsS24.ne_blk {w0 W : World} {g : Nat} {f0 : Int} {a : Nat} {cs : Array Value} {t : TypeId} {fr : Nat × Nat} (h : IsS24 w0 W g f0) (hb2 : W.heap[a]? = some (.cells cs t fr)) (ht : t ≠ 24) : g ≠ a := by
  obtain ⟨hb, hg⟩ := h
  rintro rfl
  rw [hb] at hb2
  injection hb2 with hb2
  injection hb2 with _ ht2
  exact ht ht2.symm
theorem IsS24.far {w0 W : World} {g : Nat} {f0 : Int} {p : Addr} (h : IsS24 w0 W g f0) (hne : g ≠ p.block) (u : Value) : IsS24 w0 (W.setCell p u) g f0 := by
  obtain ⟨hb, hg⟩ := h
  exact ⟨blk_far hb hne u, hg⟩
theorem cellS24_0 {W : World} {g : Nat} {f0 : Int} (h : W.heap[g]? = some (.cells #[.int .u32 f0] 24 (0, 0))) : W.cell? ⟨g, 0, none⟩ = some (.int .u32 f0) := (blk_cell h 0).trans rfl
theorem IsS24.set_0 {w0 W : World} {g : Nat} {f0 : Int} (h : IsS24 w0 W g f0) (x : Int) : IsS24 w0 (W.setCell ⟨g, 0, none⟩ (.int .u32 x)) g x := by
  obtain ⟨hb, hg⟩ := h
  exact ⟨by simpa using blk_set hb 0 (.int .u32 x), hg⟩
theorem IsS24.new (w0 W : World) (f0 : Int) (hB : Below w0.heap.size w0 W) : IsS24 w0 (W.alloc (.cells #[.int .u32 f0] 24)) W.heap.size f0 := ⟨by simpa using heap_alloc_new W _, hB.size⟩

/-! ### symbol_Hash_1: function 20 -/
def symbol_Hash_1.f (a0 : Int) (s1_0 : Int) : Option (Int) := some (Go.bits .xor .u32 (Go.bits .andNot .u32 ((((s1_0 * 16) % 4294967296) + ((a0) % 4294967296)) % 4294967296) (Go.bits .and .u32 ((((s1_0 * 16) % 4294967296) + ((a0) % 4294967296)) % 4294967296) 4026531840)) ((Go.bits .and .u32 ((((s1_0 * 16) % 4294967296) + ((a0) % 4294967296)) % 4294967296) 4026531840) / 16777216))
set_option maxHeartbeats 8000000 in
set_option maxRecDepth 100000 in
theorem symbol_Hash_1.calls (a0 : Int) (g : Nat) (s1_0 : Int) (r : Int) (w0 w : World) (hI : IsS24 w0 w g s1_0) (hB : Below w0.heap.size w0 w) (h : symbol_Hash_1.f a0 s1_0 = some r) :
    Calls Try.prog 20 #[.int .u8 a0, .pointer (some ⟨g, 0, none⟩)] w fun e w' => e = .returned (.tuple #[]) ∧ IsS24 w0 w' g r ∧ Below w0.heap.size w0 w' ∧ KeepBut w w' g none := by
  have HI1 := Aside0.mk hI
  have HK := Aside0.mk (KeepBut.refl w g none)
  have HL := Aside0.mk hB.size
  clear hI
  have HW0 := Aside0.mk hB.size
  have HB := Aside0.mk hB
  clear hB
  have H : (some (Go.bits .xor .u32 (Go.bits .andNot .u32 ((((s1_0 * 16) % 4294967296) + ((a0) % 4294967296)) % 4294967296) (Go.bits .and .u32 ((((s1_0 * 16) % 4294967296) + ((a0) % 4294967296)) % 4294967296) 4026531840)) ((Go.bits .and .u32 ((((s1_0 * 16) % 4294967296) + ((a0) % 4294967296)) % 4294967296) 4026531840) / 16777216))) = some r := h
  clear h
  obtain rfl := Option.some.inj H
  obtain ⟨HGz3, hgz3⟩ := HI1.out
  have hcz3_0 := cellS24_0 HGz3
  have hfz3_0 := blk_frozen HGz3 0
  clear HGz3 hgz3
  go_enter Try.func20, Try.ntmps20
  go_wp2
  first | go_end0 | ((try simp only [Exit.inBlock, Exit.then]); refine bodyPost_ret (results_none rfl _ _ _) rfl ?_)
  exact ⟨by first | rfl | (simp [errW_none, errW_some] <;> rfl) | (simp [*, errW_none, errW_some] <;> rfl), by repeat (first | (with_reducible first | exact HI1.out | apply IsS24.alloc | apply IsS24.drewN | apply IsS24.drew | apply IsS24.set_0) | exact HI1.out), by repeat (first | (with_reducible first | exact HB.out | apply below_alloc | apply pw_below_drewN | apply below_drew1 | refine below_set ?_ (IsS24.ge HI1.out)) | exact HB.out), by repeat (first | (with_reducible first | exact HK.out | apply KeepBut.set_ | apply keep_drewN | apply keep_drew | apply keep_alloc) | exact HK.out)⟩

/-! ### symbol_Hash: function 9 -/
def symbol_Hash.l0 : Nat → ByteArray → Int → Int → Int → Option (Int)
  | 0, _, _, _, _ => none
  | k + 1, x0, x8, x9, x102000 => if x9 < x8 then (if 0 ≤ x9 then (if x9 < (x0.size : Int) then ((symbol_Hash_1.f (bt x0 x9) x102000).bind fun t102 => (symbol_Hash.l0 k x0 x8 (wrap64 (x9 + 1)) t102)) else (none)) else (none)) else (some x102000)
def symbol_Hash.f (k : Nat) (a0 : ByteArray) : Option (Int) := symbol_Hash.l0 k a0 (a0.size : Int) 0 0
theorem symbol_Hash.mono_l : ∀ k, (∀ y0 y1 y2 y3, LeO (symbol_Hash.l0 k y0 y1 y2 y3) (symbol_Hash.l0 (k + 1) y0 y1 y2 y3))
  | 0 => fun _ _ _ _ r h => by simp [symbol_Hash.l0] at h
  | k + 1 => by
    have ih0 := symbol_Hash.mono_l k
    · intro y0 y1 y2 y3
      unfold symbol_Hash.l0
      repeat' first
      | (with_reducible exact ih0 _ _ _ _)
      | (with_reducible exact LeO.refl _)
      | (with_reducible exact LeO.none _)
      | (with_reducible refine LeO.ite ?_ ?_)
      | (with_reducible refine LeO.bind ?_ (fun _ => ?_))
      | exact ih0 _ _ _ _
      | exact LeO.none _
      | refine LeO.ite ?_ ?_
      | refine LeO.bind ?_ (fun _ => ?_)
theorem symbol_Hash.mono : ∀ a0 k, LeO (symbol_Hash.f k a0) (symbol_Hash.f (k + 1) a0) := by
  intro a0 k
  have ih0 := symbol_Hash.mono_l k
  unfold symbol_Hash.f
  repeat' first
      | (with_reducible exact ih0 _ _ _ _)
      | (with_reducible exact LeO.refl _)
      | (with_reducible exact LeO.none _)
      | (with_reducible refine LeO.ite ?_ ?_)
      | (with_reducible refine LeO.bind ?_ (fun _ => ?_))
      | exact ih0 _ _ _ _
      | exact LeO.none _
      | refine LeO.ite ?_ ?_
      | refine LeO.bind ?_ (fun _ => ?_)
set_option maxHeartbeats 8000000 in
set_option maxRecDepth 100000 in
theorem symbol_Hash.calls (k : Nat) (a0 : ByteArray) (r : Int) (w : World) (h : symbol_Hash.f k a0 = some r) :
    Calls Try.prog 9 #[.string a0] w fun e w' => e = .returned (.int .u32 r) ∧ Below w.heap.size w w' := by
  have HB := Aside0.mk (Below.refl w.heap.size w)
  have H : (symbol_Hash.l0 k a0 (a0.size : Int) 0 0) = some r := h
  clear h
  have H' := Aside0.mk H
  clear H
  go_enter Try.func9, Try.ntmps9
  go_wp2_with (first | ((with_reducible refine gate_dst (N := 3) rfl ?_); refine box_event ?hg (N := 3) ?hd (cs := #[.int .u32 0]) (t := 24) ?hr ?_; (case hd => rfl); (case hg => rfl); (case hr => first | (go_simp; done) | (go_simp; rfl)); intro gb101 hg w2 hbox hb; have n0_ := Aside0.mk (below_step (by repeat (first | (with_reducible first | exact HB.out | apply below_alloc | apply pw_below_drewN | apply below_drew1) | exact HB.out)) hb); have n1_ := Aside0.mk ((by rw [hg]; exact (below_size (by repeat (first | (with_reducible first | exact HB.out | apply below_alloc | apply pw_below_drewN | apply below_drew1) | exact HB.out))) : w.heap.size ≤ gb101)); have n2_ := Aside0.mk ((by rw [hg]; exact (below_size (by repeat (first | (with_reducible first | exact HB.out | apply below_alloc | apply pw_below_drewN | apply below_drew1) | exact HB.out))) : w.heap.size ≤ gb101)); have n3_ := Aside0.mk ((show IsS24 w w2 gb101 0 from ⟨hbox, (by rw [hg]; exact (below_size (by repeat (first | (with_reducible first | exact HB.out | apply below_alloc | apply pw_below_drewN | apply below_drew1) | exact HB.out))) : w.heap.size ≤ gb101)⟩)); clear HB; have HB := n0_; have GW101 := n1_; have GE101 := n2_; have HI101 := n3_; clear n0_ n1_ n2_ n3_; clear hb hbox hg; obtain ⟨HGz3, hgz3⟩ := HI101.out; have hcz3_0 := cellS24_0 HGz3; have hfz3_0 := blk_frozen HGz3 0; clear HGz3 hgz3))
  go_loopg [9] k (fun kq v9 w' => ∃ (x9_1 : Int) (x102000_1 : Int), v9 = .int .i64 x9_1 ∧ Aside0 (symbol_Hash.l0 kq a0 (a0.size : Int) x9_1 x102000_1 = some r) ∧ Aside0 (kq ≤ k) ∧ Aside0 (IsS24 w w' gb101 x102000_1) ∧ Aside0 (Below w.heap.size w w'))
  case atStart => exact ⟨(0), (0), (by first | rfl | (simp; done) | (simp [*]; done)), H', ⟨Nat.le_refl _⟩, ⟨by repeat (first | (with_reducible first | exact HI101.out | apply IsS24.alloc | apply IsS24.drewN | apply IsS24.drew | apply IsS24.set_0) | exact HI101.out)⟩, ⟨by repeat (first | (with_reducible first | exact HB.out | apply below_alloc | apply pw_below_drewN | apply below_drew1 | refine below_set ?_ (IsS24.ge HI101.out)) | exact HB.out)⟩⟩
  case round =>
    clear H'
    try clear p2
    try clear hcz3_0
    try clear hfz3_0
    obtain ⟨x9_1, x102000_1, rfl, HA, HK1, HI101, HB⟩ := hrel
    cases gk with
    | zero => exact absurd HA.out (by simp [symbol_Hash.l0])
    | succ k1 =>
      have H := HA.out
      clear HA
      simp only [symbol_Hash.l0] at H
      by_cases c4 : x9_1 < (a0.size : Int)
      · rw [if_pos c4] at H
        have c4b0 : decide (x9_1 < (a0.size : Int)) = true := decide_eq_true c4
        clear c4
        by_cases c5 : 0 ≤ x9_1
        · rw [if_pos c5] at H
          have c5b0 : decide (0 ≤ x9_1) = true := decide_eq_true c5
          clear c5
          by_cases c6 : x9_1 < (a0.size : Int)
          · rw [if_pos c6] at H
            have c6b0 : decide (x9_1 < (a0.size : Int)) = true := decide_eq_true c6
            clear c6
            replace H := Option.bind_eq_some_iff.mp H
            obtain ⟨t102, A80, H⟩ := H
            replace H : (symbol_Hash.l0 k1 a0 (a0.size : Int) (wrap64 (x9_1 + 1)) t102) = some r := H
            have A8 := Aside0.mk A80
            clear A80
            have H' := Aside0.mk H
            clear H
            have p7 : 0 ≤ (x9_1 : Int) := of_decide_eq_true (by first | (with_reducible assumption) | assumption)
            have q7 : x9_1 < (a0.size : Int) := of_decide_eq_true (by first | (with_reducible assumption) | assumption)
            have hx7 := bt_at a0 x9_1
            replace p7 := eq_true p7
            replace q7 := eq_true q7
            go_wp2_with (first | (refine XW.lit_call (some 16) rfl rfl Try.func20 (by kernel_rfl) rfl #[.int .u8 (bt a0 x9_1), .pointer (some ⟨gb101, 0, none⟩)] rfl rfl (by (try simp only [List.map_toArray, List.map_cons, List.map_nil]); first | done | rfl | (simp only [List.length_drop, List.length_take]; rfl) | (simp only [ByteArray.size_append, Int.natCast_add]; rfl)) ?_; (with_reducible refine (symbol_Hash_1.calls (bt a0 x9_1) gb101 x102000_1 t102 w _ ?side1 ?side2 A8.out).mono ?_); (case side1 => repeat (first | (with_reducible first | exact HI101.out | apply IsS24.alloc | apply IsS24.drewN | apply IsS24.drew | apply IsS24.set_0) | exact HI101.out)); (case side2 => repeat (first | (with_reducible first | exact HB.out | apply below_alloc | apply pw_below_drewN | apply below_drew1 | refine below_set ?_ (IsS24.ge HI101.out)) | exact HB.out)); rintro e w9 ⟨rfl, hi, hb, hk⟩; refine ⟨_, rfl, ?_⟩; have n0_ := Aside0.mk (hb); have n1_ := Aside0.mk (hi); clear HB; clear HI101; have HB := n0_; have HI101 := n1_; clear n0_ n1_; (try clear hb); (try clear hb2); (try clear hk); (try clear hi)))
            go_roundg k1
            case measure => have := HK1.out; omega
            case rel => exact ⟨(wrap64 (x9_1 + 1)), (t102), (by first | rfl | (simp; done) | (simp [*]; done)), H', ⟨by have := HK1.out; omega⟩, ⟨by repeat (first | (with_reducible first | exact HI101.out | apply IsS24.alloc | apply IsS24.drewN | apply IsS24.drew | apply IsS24.set_0) | exact HI101.out)⟩, ⟨by repeat (first | (with_reducible first | exact HB.out | apply below_alloc | apply pw_below_drewN | apply below_drew1 | refine below_set ?_ (IsS24.ge HI101.out)) | exact HB.out)⟩⟩
          · rw [if_neg c6] at H
            exact absurd H (by simp)
        · rw [if_neg c5] at H
          exact absurd H (by simp)
      · rw [if_neg c4] at H
        have c4b0 : decide (x9_1 < (a0.size : Int)) = false := decide_eq_false c4
        clear c4
        obtain rfl := Option.some.inj H
        obtain ⟨HGz10, hgz10⟩ := HI101.out
        have hcz10_0 := cellS24_0 HGz10
        have hfz10_0 := blk_frozen HGz10 0
        clear HGz10 hgz10
        go_wp2
        go_ret
        exact ⟨by first | rfl | (simp [errW_none, errW_some] <;> rfl) | (simp [*, errW_none, errW_some] <;> rfl), by repeat (first | (with_reducible first | exact HB.out | apply below_alloc | apply pw_below_drewN | apply below_drew1 | refine below_set ?_ (IsS24.ge HI101.out)) | exact HB.out)⟩

/-! ### flyleaflaw10_awake: function 7 -/
def flyleaflaw10_awake.f (k : Nat)  : Option (Bool) := (symbol_Hash.f k (⟨#[112, 114, 105, 110, 116, 102]⟩ : ByteArray)).bind fun t103 => (some (t103 == 125371814))
theorem flyleaflaw10_awake.mono : ∀ k, LeO (flyleaflaw10_awake.f k ) (flyleaflaw10_awake.f (k + 1) ) := by
  intro  k
  unfold flyleaflaw10_awake.f
  repeat' first
      | (with_reducible exact symbol_Hash.mono _ _)
      | (with_reducible exact LeO.refl _)
      | (with_reducible exact LeO.none _)
      | (with_reducible refine LeO.ite ?_ ?_)
      | (with_reducible refine LeO.bind ?_ (fun _ => ?_))
      | exact symbol_Hash.mono _ _
      | exact LeO.none _
      | refine LeO.ite ?_ ?_
      | refine LeO.bind ?_ (fun _ => ?_)
set_option maxHeartbeats 8000000 in
set_option maxRecDepth 100000 in
theorem flyleaflaw10_awake.calls (k : Nat)  (r : Bool) (w : World) (h : flyleaflaw10_awake.f k  = some r) :
    Calls Try.prog 7 #[] w fun e w' => e = .returned (.bool r) ∧ Below w.heap.size w w' := by
  have HB := Aside0.mk (Below.refl w.heap.size w)
  have H : ((symbol_Hash.f k (⟨#[112, 114, 105, 110, 116, 102]⟩ : ByteArray)).bind fun t103 => (some (t103 == 125371814))) = some r := h
  clear h
  replace H := Option.bind_eq_some_iff.mp H
  obtain ⟨t103, A10, H⟩ := H
  replace H : (some (t103 == 125371814)) = some r := H
  have A1 := Aside0.mk A10
  clear A10
  obtain rfl := Option.some.inj H
  go_enter Try.func7, Try.ntmps7
  go_wp2_with (first | ((with_reducible refine gate_callee (f := 9) rfl ?_); refine goesL_ (some 1) rfl rfl Try.func9 (by kernel_rfl) rfl #[.string (⟨#[112, 114, 105, 110, 116, 102]⟩ : ByteArray)] rfl (by (try simp only [List.map_toArray, List.map_cons, List.map_nil]); first | done | rfl | (simp only [List.length_drop, List.length_take]; rfl) | (simp only [ByteArray.size_append, Int.natCast_add]; rfl)) ?_; (with_reducible refine (symbol_Hash.calls k (⟨#[112, 114, 105, 110, 116, 102]⟩ : ByteArray) t103 _ A1.out).mono ?_); rintro e w2 ⟨rfl, hb⟩; refine ⟨_, rfl, ?_⟩; have n0_ := Aside0.mk (below_step (by repeat (first | (with_reducible first | exact HB.out | apply below_alloc | apply pw_below_drewN | apply below_drew1) | exact HB.out)) hb); clear HB; have HB := n0_; clear n0_; (try clear hb); (try clear hb2); (try clear hk); (try clear hi)))
  go_ret
  exact ⟨by first | rfl | (simp [errW_none, errW_some] <;> rfl) | (simp [*, errW_none, errW_some] <;> rfl), by repeat (first | (with_reducible first | exact HB.out | apply below_alloc | apply pw_below_drewN | apply below_drew1) | exact HB.out)⟩

/-! ### flyleaflaw10_short: function 8 -/
def flyleaflaw10_short.f (a0 : ByteArray) (a1 : Int) : Option (ByteArray) := if (a0.size : Int) > a1 then (if 0 ≤ a1 then (if a1 ≤ (a0.size : Int) then (some (a0.extract 0 (a1 : Int).toNat)) else (none)) else (none)) else (some a0)
set_option maxHeartbeats 8000000 in
set_option maxRecDepth 100000 in
theorem flyleaflaw10_short.calls (a0 : ByteArray) (a1 : Int) (r : ByteArray) (w : World) (h : flyleaflaw10_short.f a0 a1 = some r) :
    Calls Try.prog 8 #[.string a0, .int .i64 a1] w fun e w' => e = .returned (.string r) ∧ Drawn0 w w' := by
  have H : (if (a0.size : Int) > a1 then (if 0 ≤ a1 then (if a1 ≤ (a0.size : Int) then (some (a0.extract 0 (a1 : Int).toNat)) else (none)) else (none)) else (some a0)) = some r := h
  clear h
  by_cases c3 : (a0.size : Int) > a1
  · rw [if_pos c3] at H
    have c3b0 : decide (a1 < (a0.size : Int)) = true := decide_eq_true c3
    clear c3
    by_cases c4 : 0 ≤ a1
    · rw [if_pos c4] at H
      have c4b0 := eq_true c4
      have c4b1 : decide (0 ≤ a1) = true := decide_eq_true c4
      clear c4
      by_cases c5 : a1 ≤ (a0.size : Int)
      · rw [if_pos c5] at H
        have c5b0 := eq_true c5
        have c5b1 : decide (a1 ≤ (a0.size : Int)) = true := decide_eq_true c5
        clear c5
        obtain rfl := Option.some.inj H
        go_enter Try.func8, Try.ntmps8
        go_wp2
        go_ret
        exact ⟨by first | rfl | (simp; done) | (simp [*]; done), by repeat (first | exact Drawn0.refl _ | apply Drawn0.step)⟩
      · rw [if_neg c5] at H
        exact absurd H (by simp)
    · rw [if_neg c4] at H
      exact absurd H (by simp)
  · rw [if_neg c3] at H
    have c3b0 : decide (a1 < (a0.size : Int)) = false := decide_eq_false c3
    clear c3
    obtain rfl := Option.some.inj H
    go_enter Try.func8, Try.ntmps8
    go_wp2
    go_ret
    exact ⟨by first | rfl | (simp; done) | (simp [*]; done), by repeat (first | exact Drawn0.refl _ | apply Drawn0.step)⟩

/-! ### flyleaflaw10_SymbolHash: function 3 -/
def flyleaflaw10_SymbolHash.l0 : Nat → ByteArray → Bool → Int → Int → Int → Option (Bool)
  | 0, _, _, _, _, _ => none
  | k + 1, x0, x3, x4, x5, x6 => if x6 < (x0.size : Int) then (if 0 ≤ x6 then (flyleaflaw10_SymbolHash.l0 k x0 x3 x4 (wrap64 ((wrap64 (x5 * 16)) + (wrap64 (bt x0 x6)))) (wrap64 (x6 + 1))) else (none)) else (if x3 = true then (if x5 ≥ 268435456 then (some true) else (some ((wrap64 (x4)) == x5))) else (some false))
def flyleaflaw10_SymbolHash.f (k : Nat) (a0 : ByteArray) : Option (Bool) := (flyleaflaw10_awake.f k).bind fun t104 => ((flyleaflaw10_short.f a0 60).bind fun t105 => ((symbol_Hash.f k t105).bind fun t106 => (if t106 ≥ 268435456 then (some false) else (if (t105.size : Int) > 6 then (some t104) else (flyleaflaw10_SymbolHash.l0 k t105 t104 t106 0 0)))))
theorem flyleaflaw10_SymbolHash.mono_l : ∀ k, (∀ y0 y1 y2 y3 y4, LeO (flyleaflaw10_SymbolHash.l0 k y0 y1 y2 y3 y4) (flyleaflaw10_SymbolHash.l0 (k + 1) y0 y1 y2 y3 y4))
  | 0 => fun _ _ _ _ _ r h => by simp [flyleaflaw10_SymbolHash.l0] at h
  | k + 1 => by
    have ih0 := flyleaflaw10_SymbolHash.mono_l k
    · intro y0 y1 y2 y3 y4
      unfold flyleaflaw10_SymbolHash.l0
      repeat' first
      | (with_reducible exact ih0 _ _ _ _ _)
      | (with_reducible exact flyleaflaw10_awake.mono _)
      | (with_reducible exact symbol_Hash.mono _ _)
      | (with_reducible exact LeO.refl _)
      | (with_reducible exact LeO.none _)
      | (with_reducible refine LeO.ite ?_ ?_)
      | (with_reducible refine LeO.bind ?_ (fun _ => ?_))
      | exact ih0 _ _ _ _ _
      | exact flyleaflaw10_awake.mono _
      | exact symbol_Hash.mono _ _
      | exact LeO.none _
      | refine LeO.ite ?_ ?_
      | refine LeO.bind ?_ (fun _ => ?_)
theorem flyleaflaw10_SymbolHash.mono : ∀ a0 k, LeO (flyleaflaw10_SymbolHash.f k a0) (flyleaflaw10_SymbolHash.f (k + 1) a0) := by
  intro a0 k
  have ih0 := flyleaflaw10_SymbolHash.mono_l k
  unfold flyleaflaw10_SymbolHash.f
  repeat' first
      | (with_reducible exact ih0 _ _ _ _ _)
      | (with_reducible exact flyleaflaw10_awake.mono _)
      | (with_reducible exact symbol_Hash.mono _ _)
      | (with_reducible exact LeO.refl _)
      | (with_reducible exact LeO.none _)
      | (with_reducible refine LeO.ite ?_ ?_)
      | (with_reducible refine LeO.bind ?_ (fun _ => ?_))
      | exact ih0 _ _ _ _ _
      | exact flyleaflaw10_awake.mono _
      | exact symbol_Hash.mono _ _
      | exact LeO.none _
      | refine LeO.ite ?_ ?_
      | refine LeO.bind ?_ (fun _ => ?_)
set_option maxHeartbeats 8000000 in
set_option maxRecDepth 100000 in
theorem flyleaflaw10_SymbolHash.calls (k : Nat) (a0 : ByteArray) (w : World) (h : flyleaflaw10_SymbolHash.f k a0 = some true) :
    Calls Try.prog 3 #[.string a0] w fun e w' => e = .returned (.bool true) ∧ Below w.heap.size w w' := by
  have HB := Aside0.mk (Below.refl w.heap.size w)
  have H : ((flyleaflaw10_awake.f k).bind fun t104 => ((flyleaflaw10_short.f a0 60).bind fun t105 => ((symbol_Hash.f k t105).bind fun t106 => (if t106 ≥ 268435456 then (some false) else (if (t105.size : Int) > 6 then (some t104) else (flyleaflaw10_SymbolHash.l0 k t105 t104 t106 0 0)))))) = some true := h
  clear h
  replace H := Option.bind_eq_some_iff.mp H
  obtain ⟨t104, A20, H⟩ := H
  replace H : ((flyleaflaw10_short.f a0 60).bind fun t105 => ((symbol_Hash.f k t105).bind fun t106 => (if t106 ≥ 268435456 then (some false) else (if (t105.size : Int) > 6 then (some t104) else (flyleaflaw10_SymbolHash.l0 k t105 t104 t106 0 0))))) = some true := H
  have A2 := Aside0.mk A20
  clear A20
  replace H := Option.bind_eq_some_iff.mp H
  obtain ⟨t105, A30, H⟩ := H
  replace H : ((symbol_Hash.f k t105).bind fun t106 => (if t106 ≥ 268435456 then (some false) else (if (t105.size : Int) > 6 then (some t104) else (flyleaflaw10_SymbolHash.l0 k t105 t104 t106 0 0)))) = some true := H
  have A3 := Aside0.mk A30
  clear A30
  replace H := Option.bind_eq_some_iff.mp H
  obtain ⟨t106, A40, H⟩ := H
  replace H : (if t106 ≥ 268435456 then (some false) else (if (t105.size : Int) > 6 then (some t104) else (flyleaflaw10_SymbolHash.l0 k t105 t104 t106 0 0))) = some true := H
  have A4 := Aside0.mk A40
  clear A40
  by_cases c5 : t106 ≥ 268435456
  · rw [if_pos c5] at H
    have c5b0 : decide (268435456 ≤ t106) = true := decide_eq_true c5
    clear c5
    exact absurd H (by simp)
  · rw [if_neg c5] at H
    have c5b0 : decide (268435456 ≤ t106) = false := decide_eq_false c5
    clear c5
    by_cases c6 : (t105.size : Int) > 6
    · rw [if_pos c6] at H
      have c6b0 : decide (6 < (t105.size : Int)) = true := decide_eq_true c6
      have c6b1 : decide (6 < t105.size) = true := decide_eq_true (by omega)
      clear c6
      have HR_ := Aside0.mk (Option.some.inj H)
      clear H
      go_enter Try.func3, Try.ntmps3
      go_wp2_with (first | ((with_reducible refine gate_callee (f := 7) rfl ?_); refine goesL_ (some 7) rfl rfl Try.func7 (by kernel_rfl) rfl #[] rfl (by (try simp only [List.map_toArray, List.map_cons, List.map_nil]); first | done | rfl | (simp only [List.length_drop, List.length_take]; rfl) | (simp only [ByteArray.size_append, Int.natCast_add]; rfl)) ?_; (with_reducible refine (flyleaflaw10_awake.calls k  t104 _ A2.out).mono ?_); rintro e w7 ⟨rfl, hb⟩; refine ⟨_, rfl, ?_⟩; have n0_ := Aside0.mk (below_step (by repeat (first | (with_reducible first | exact HB.out | apply below_alloc | apply pw_below_drewN | apply below_drew1) | exact HB.out)) hb); clear HB; have HB := n0_; clear n0_; (try clear hb); (try clear hb2); (try clear hk); (try clear hi)) | ((with_reducible refine gate_callee (f := 8) rfl ?_); refine goesL_ (some 9) rfl rfl Try.func8 (by kernel_rfl) rfl #[.string a0, .int .i64 60] rfl (by (try simp only [List.map_toArray, List.map_cons, List.map_nil]); first | done | rfl | (simp only [List.length_drop, List.length_take]; rfl) | (simp only [ByteArray.size_append, Int.natCast_add]; rfl)) ?_; (with_reducible refine (flyleaflaw10_short.calls a0 60 t105 _ A3.out).mono ?_); rintro e w' ⟨rfl, ⟨nd, rfl⟩⟩; refine ⟨_, rfl, ?_⟩) | ((with_reducible refine gate_callee (f := 9) rfl ?_); refine goesL_ (some 11) rfl rfl Try.func9 (by kernel_rfl) rfl #[.string t105] rfl (by (try simp only [List.map_toArray, List.map_cons, List.map_nil]); first | done | rfl | (simp only [List.length_drop, List.length_take]; rfl) | (simp only [ByteArray.size_append, Int.natCast_add]; rfl)) ?_; (with_reducible refine (symbol_Hash.calls k t105 t106 _ A4.out).mono ?_); rintro e w8 ⟨rfl, hb⟩; refine ⟨_, rfl, ?_⟩; have n0_ := Aside0.mk (below_step (by repeat (first | (with_reducible first | exact HB.out | apply below_alloc | apply pw_below_drewN | apply below_drew1) | exact HB.out)) hb); clear HB; have HB := n0_; clear n0_; (try clear hb); (try clear hb2); (try clear hk); (try clear hi)))
      go_ret
      exact ⟨by first | rfl | (simp [errW_none, errW_some] <;> rfl) | (rw [HR_.out]; done) | (rw [← HR_.out]; done) | (have hR_ := HR_.out; simp only [hR_]; done) | (have hR_ := HR_.out; simp only [ByteArray.size_append] at hR_; exact congrArg (fun b_ => Ending.returned (.bool b_)) hR_) | (have hR_ := HR_.out; simp_all; done) | (have hR_ := beq_iff_eq.mp HR_.out; simp; exact hR_) | (simp [*, errW_none, errW_some] <;> rfl), by repeat (first | (with_reducible first | exact HB.out | apply below_alloc | apply pw_below_drewN | apply below_drew1) | exact HB.out)⟩
    · rw [if_neg c6] at H
      have c6b0 : decide (6 < (t105.size : Int)) = false := decide_eq_false c6
      have c6b1 : decide (6 < t105.size) = false := decide_eq_false (by omega)
      clear c6
      have H' := Aside0.mk H
      clear H
      go_enter Try.func3, Try.ntmps3
      go_wp2_with (first | ((with_reducible refine gate_callee (f := 7) rfl ?_); refine goesL_ (some 7) rfl rfl Try.func7 (by kernel_rfl) rfl #[] rfl (by (try simp only [List.map_toArray, List.map_cons, List.map_nil]); first | done | rfl | (simp only [List.length_drop, List.length_take]; rfl) | (simp only [ByteArray.size_append, Int.natCast_add]; rfl)) ?_; (with_reducible refine (flyleaflaw10_awake.calls k  t104 _ A2.out).mono ?_); rintro e w9 ⟨rfl, hb⟩; refine ⟨_, rfl, ?_⟩; have n0_ := Aside0.mk (below_step (by repeat (first | (with_reducible first | exact HB.out | apply below_alloc | apply pw_below_drewN | apply below_drew1) | exact HB.out)) hb); clear HB; have HB := n0_; clear n0_; (try clear hb); (try clear hb2); (try clear hk); (try clear hi)) | ((with_reducible refine gate_callee (f := 8) rfl ?_); refine goesL_ (some 9) rfl rfl Try.func8 (by kernel_rfl) rfl #[.string a0, .int .i64 60] rfl (by (try simp only [List.map_toArray, List.map_cons, List.map_nil]); first | done | rfl | (simp only [List.length_drop, List.length_take]; rfl) | (simp only [ByteArray.size_append, Int.natCast_add]; rfl)) ?_; (with_reducible refine (flyleaflaw10_short.calls a0 60 t105 _ A3.out).mono ?_); rintro e w' ⟨rfl, ⟨nd, rfl⟩⟩; refine ⟨_, rfl, ?_⟩) | ((with_reducible refine gate_callee (f := 9) rfl ?_); refine goesL_ (some 11) rfl rfl Try.func9 (by kernel_rfl) rfl #[.string t105] rfl (by (try simp only [List.map_toArray, List.map_cons, List.map_nil]); first | done | rfl | (simp only [List.length_drop, List.length_take]; rfl) | (simp only [ByteArray.size_append, Int.natCast_add]; rfl)) ?_; (with_reducible refine (symbol_Hash.calls k t105 t106 _ A4.out).mono ?_); rintro e w10 ⟨rfl, hb⟩; refine ⟨_, rfl, ?_⟩; have n0_ := Aside0.mk (below_step (by repeat (first | (with_reducible first | exact HB.out | apply below_alloc | apply pw_below_drewN | apply below_drew1) | exact HB.out)) hb); clear HB; have HB := n0_; clear n0_; (try clear hb); (try clear hb2); (try clear hk); (try clear hi)))
      go_loopg [5, 6] k (fun kq v5 v6 w' => ∃ (x5_1 : Int) (x6_1 : Int), v5 = .int .i64 x5_1 ∧ v6 = .int .i64 x6_1 ∧ Aside0 (flyleaflaw10_SymbolHash.l0 kq t105 t104 t106 x5_1 x6_1 = some true) ∧ Aside0 (kq ≤ k) ∧ Aside0 (Below w.heap.size w w'))
      case atStart => exact ⟨(0), (0), (by first | rfl | (simp; done) | (simp [*]; done)), (by first | rfl | (simp; done) | (simp [*]; done)), H', ⟨Nat.le_refl _⟩, ⟨by repeat (first | (with_reducible first | exact HB.out | apply below_alloc | apply pw_below_drewN | apply below_drew1) | exact HB.out)⟩⟩
      case round =>
        clear H'
        try clear p2
        try clear c3
        try clear c5
        try clear c5b0
        try clear c6
        try clear c6b0
        try clear c6b1
        try clear c7
        try clear c8
        try clear c9
        obtain ⟨x5_1, x6_1, rfl, rfl, HA, HK1, HB⟩ := hrel
        cases gk with
        | zero => exact absurd HA.out (by simp [flyleaflaw10_SymbolHash.l0])
        | succ k1 =>
          have H := HA.out
          clear HA
          simp only [flyleaflaw10_SymbolHash.l0] at H
          by_cases c11 : x6_1 < (t105.size : Int)
          · rw [if_pos c11] at H
            have c11b0 : decide (x6_1 < (t105.size : Int)) = true := decide_eq_true c11
            clear c11
            by_cases c12 : 0 ≤ x6_1
            · rw [if_pos c12] at H
              have c12b0 : decide (0 ≤ x6_1) = true := decide_eq_true c12
              clear c12
              have H' := Aside0.mk H
              clear H
              have p13 : 0 ≤ (x6_1 : Int) := of_decide_eq_true (by first | (with_reducible assumption) | assumption)
              have q13 : x6_1 < (t105.size : Int) := of_decide_eq_true (by first | (with_reducible assumption) | assumption)
              have hx13 := bt_at t105 x6_1
              replace p13 := eq_true p13
              replace q13 := eq_true q13
              go_wp2
              go_roundg k1
              case measure => have := HK1.out; omega
              case rel => exact ⟨(wrap64 ((wrap64 (x5_1 * 16)) + (wrap64 (bt t105 x6_1)))), (wrap64 (x6_1 + 1)), (by first | rfl | (simp; done) | (simp [*]; done)), (by first | rfl | (simp; done) | (simp [*]; done)), H', ⟨by have := HK1.out; omega⟩, ⟨by repeat (first | (with_reducible first | exact HB.out | apply below_alloc | apply pw_below_drewN | apply below_drew1) | exact HB.out)⟩⟩
            · rw [if_neg c12] at H
              exact absurd H (by simp)
          · rw [if_neg c11] at H
            have c11b0 : decide (x6_1 < (t105.size : Int)) = false := decide_eq_false c11
            clear c11
            by_cases c14 : t104 = true
            · subst c14
              have H1 : (if x5_1 ≥ 268435456 then (some true) else (some ((wrap64 (t106)) == x5_1))) = some true := by rw [if_pos rfl] at H; exact H
              clear H
              have H := H1
              clear H1
              by_cases c15 : x5_1 ≥ 268435456
              · rw [if_pos c15] at H
                have c15b0 : decide (268435456 ≤ x5_1) = true := decide_eq_true c15
                clear c15
                have HR_ := Aside0.mk (Option.some.inj H)
                clear H
                go_wp2
                go_ret
                exact ⟨by first | rfl | (simp [errW_none, errW_some] <;> rfl) | (rw [HR_.out]; done) | (rw [← HR_.out]; done) | (have hR_ := HR_.out; simp only [hR_]; done) | (have hR_ := HR_.out; simp only [ByteArray.size_append] at hR_; exact congrArg (fun b_ => Ending.returned (.bool b_)) hR_) | (have hR_ := HR_.out; simp_all; done) | (have hR_ := beq_iff_eq.mp HR_.out; simp; exact hR_) | (simp [*, errW_none, errW_some] <;> rfl), by repeat (first | (with_reducible first | exact HB.out | apply below_alloc | apply pw_below_drewN | apply below_drew1) | exact HB.out)⟩
              · rw [if_neg c15] at H
                have c15b0 : decide (268435456 ≤ x5_1) = false := decide_eq_false c15
                clear c15
                have HR_ := Aside0.mk (Option.some.inj H)
                clear H
                go_wp2
                go_ret
                exact ⟨by first | rfl | (simp [errW_none, errW_some] <;> rfl) | (rw [HR_.out]; done) | (rw [← HR_.out]; done) | (have hR_ := HR_.out; simp only [hR_]; done) | (have hR_ := HR_.out; simp only [ByteArray.size_append] at hR_; exact congrArg (fun b_ => Ending.returned (.bool b_)) hR_) | (have hR_ := HR_.out; simp_all; done) | (have hR_ := beq_iff_eq.mp HR_.out; simp; exact hR_) | (simp [*, errW_none, errW_some] <;> rfl), by repeat (first | (with_reducible first | exact HB.out | apply below_alloc | apply pw_below_drewN | apply below_drew1) | exact HB.out)⟩
            · replace c14 := Bool.eq_false_iff.mpr c14
              subst c14
              have H1 : (some false) = some true := by rw [if_neg (show ¬ (false = true) by decide)] at H; exact H
              clear H
              have H := H1
              clear H1
              exact absurd H (by simp)

/-! ### flyleafref10_Hash: function 16 -/
def flyleafref10_Hash.l0 : Nat → ByteArray → Int → Int → Option (Int)
  | 0, _, _, _ => none
  | k + 1, x0, x3, x4 => if x4 < (x0.size : Int) then (if 0 ≤ x4 then (flyleafref10_Hash.l0 k x0 (Go.bits .xor .u64 (IntKind.u64.wrap ((Int.tmod (IntKind.u64.wrap ((IntKind.u64.wrap (x3 * 16)) + (IntKind.u64.wrap (bt x0 x4)))) 4294967296) - (IntKind.u64.wrap ((IntKind.u64.wrap (Int.tdiv (Int.tmod (IntKind.u64.wrap ((IntKind.u64.wrap (x3 * 16)) + (IntKind.u64.wrap (bt x0 x4)))) 4294967296) 268435456)) * 268435456)))) (IntKind.u64.wrap ((IntKind.u64.wrap (Int.tdiv (Int.tmod (IntKind.u64.wrap ((IntKind.u64.wrap (x3 * 16)) + (IntKind.u64.wrap (bt x0 x4)))) 4294967296) 268435456)) * 16))) (wrap64 (x4 + 1))) else (none)) else (some ((x3) % 4294967296))
def flyleafref10_Hash.f (k : Nat) (a0 : ByteArray) : Option (Int) := flyleafref10_Hash.l0 k a0 0 0
theorem flyleafref10_Hash.mono_l : ∀ k, (∀ y0 y1 y2, LeO (flyleafref10_Hash.l0 k y0 y1 y2) (flyleafref10_Hash.l0 (k + 1) y0 y1 y2))
  | 0 => fun _ _ _ r h => by simp [flyleafref10_Hash.l0] at h
  | k + 1 => by
    have ih0 := flyleafref10_Hash.mono_l k
    · intro y0 y1 y2
      unfold flyleafref10_Hash.l0
      repeat' first
      | (with_reducible exact ih0 _ _ _)
      | (with_reducible exact LeO.refl _)
      | (with_reducible exact LeO.none _)
      | (with_reducible refine LeO.ite ?_ ?_)
      | (with_reducible refine LeO.bind ?_ (fun _ => ?_))
      | exact ih0 _ _ _
      | exact LeO.none _
      | refine LeO.ite ?_ ?_
      | refine LeO.bind ?_ (fun _ => ?_)
theorem flyleafref10_Hash.mono : ∀ a0 k, LeO (flyleafref10_Hash.f k a0) (flyleafref10_Hash.f (k + 1) a0) := by
  intro a0 k
  have ih0 := flyleafref10_Hash.mono_l k
  unfold flyleafref10_Hash.f
  repeat' first
      | (with_reducible exact ih0 _ _ _)
      | (with_reducible exact LeO.refl _)
      | (with_reducible exact LeO.none _)
      | (with_reducible refine LeO.ite ?_ ?_)
      | (with_reducible refine LeO.bind ?_ (fun _ => ?_))
      | exact ih0 _ _ _
      | exact LeO.none _
      | refine LeO.ite ?_ ?_
      | refine LeO.bind ?_ (fun _ => ?_)
set_option maxHeartbeats 8000000 in
set_option maxRecDepth 100000 in
theorem flyleafref10_Hash.calls (k : Nat) (a0 : ByteArray) (r : Int) (w : World) (h : flyleafref10_Hash.f k a0 = some r) :
    Calls Try.prog 16 #[.string a0] w fun e w' => e = .returned (.int .u32 r) ∧ Drawn0 w w' := by
  have H : (flyleafref10_Hash.l0 k a0 0 0) = some r := h
  clear h
  have H' := Aside0.mk H
  clear H
  go_enter Try.func16, Try.ntmps16
  go_wp2
  go_loopg [3, 4] k (fun kq v3 v4 w' => ∃ (x3_1 : Int) (x4_1 : Int), v3 = .int .u64 x3_1 ∧ v4 = .int .i64 x4_1 ∧ Aside0 (flyleafref10_Hash.l0 kq a0 x3_1 x4_1 = some r) ∧ Aside0 (kq ≤ k) ∧ Drawn0 w w')
  case atStart => exact ⟨(0), (0), (by first | rfl | (simp; done) | (simp [*]; done)), (by first | rfl | (simp; done) | (simp [*]; done)), H', ⟨Nat.le_refl _⟩, by repeat (first | exact Drawn0.refl _ | apply Drawn0.step)⟩
  case round =>
    clear H'
    try clear c1
    obtain ⟨x3_1, x4_1, rfl, rfl, HA, HK1, ⟨m1, rfl⟩⟩ := hrel
    cases gk with
    | zero => exact absurd HA.out (by simp [flyleafref10_Hash.l0])
    | succ k1 =>
      have H := HA.out
      clear HA
      simp only [flyleafref10_Hash.l0] at H
      by_cases c2 : x4_1 < (a0.size : Int)
      · rw [if_pos c2] at H
        have c2b0 : decide (x4_1 < (a0.size : Int)) = true := decide_eq_true c2
        clear c2
        by_cases c3 : 0 ≤ x4_1
        · rw [if_pos c3] at H
          have c3b0 : decide (0 ≤ x4_1) = true := decide_eq_true c3
          clear c3
          have H' := Aside0.mk H
          clear H
          have p4 : 0 ≤ (x4_1 : Int) := of_decide_eq_true (by first | (with_reducible assumption) | assumption)
          have q4 : x4_1 < (a0.size : Int) := of_decide_eq_true (by first | (with_reducible assumption) | assumption)
          have hx4 := bt_at a0 x4_1
          replace p4 := eq_true p4
          replace q4 := eq_true q4
          go_wp2
          go_roundg k1
          case measure => have := HK1.out; omega
          case rel => exact ⟨(Go.bits .xor .u64 (IntKind.u64.wrap ((Int.tmod (IntKind.u64.wrap ((IntKind.u64.wrap (x3_1 * 16)) + (IntKind.u64.wrap (bt a0 x4_1)))) 4294967296) - (IntKind.u64.wrap ((IntKind.u64.wrap (Int.tdiv (Int.tmod (IntKind.u64.wrap ((IntKind.u64.wrap (x3_1 * 16)) + (IntKind.u64.wrap (bt a0 x4_1)))) 4294967296) 268435456)) * 268435456)))) (IntKind.u64.wrap ((IntKind.u64.wrap (Int.tdiv (Int.tmod (IntKind.u64.wrap ((IntKind.u64.wrap (x3_1 * 16)) + (IntKind.u64.wrap (bt a0 x4_1)))) 4294967296) 268435456)) * 16))), (wrap64 (x4_1 + 1)), (by first | rfl | (simp; done) | (simp [*]; done)), (by first | rfl | (simp; done) | (simp [*]; done)), H', ⟨by have := HK1.out; omega⟩, by repeat (first | exact Drawn0.refl _ | apply Drawn0.step)⟩
        · rw [if_neg c3] at H
          exact absurd H (by simp)
      · rw [if_neg c2] at H
        have c2b0 : decide (x4_1 < (a0.size : Int)) = false := decide_eq_false c2
        clear c2
        obtain rfl := Option.some.inj H
        go_wp2
        go_ret
        exact ⟨by first | rfl | (simp; done) | (simp [*]; done), by repeat (first | exact Drawn0.refl _ | apply Drawn0.step)⟩

/-! ### flyleafref01_Put: function 37 -/
def flyleafref01_Put.l0 : Nat → Int → Int → ByteArray → Int → Option (ByteArray)
  | 0, _, _, _, _ => none
  | k + 1, x0, x1, x5, x6 => if x6 < x1 then (if x6 < 8 then ((some (([(Int.tmod x0 256) % 256] : List Int) : List Int)).bind fun y107 => (if x5.size + (strOfNums y107).size ≤ 9223372036854775807 then (flyleafref01_Put.l0 k (IntKind.u64.wrap (Int.tdiv x0 256)) x1 (x5 ++ (strOfNums y107)) (wrap64 (x6 + 1))) else (none))) else (some x5)) else (some x5)
def flyleafref01_Put.f (k : Nat) (a0 : Int) (a1 : Int) : Option (ByteArray) := flyleafref01_Put.l0 k a0 a1 (⟨#[]⟩ : ByteArray) 0
theorem flyleafref01_Put.mono_l : ∀ k, (∀ y0 y1 y2 y3, LeO (flyleafref01_Put.l0 k y0 y1 y2 y3) (flyleafref01_Put.l0 (k + 1) y0 y1 y2 y3))
  | 0 => fun _ _ _ _ r h => by simp [flyleafref01_Put.l0] at h
  | k + 1 => by
    have ih0 := flyleafref01_Put.mono_l k
    · intro y0 y1 y2 y3
      unfold flyleafref01_Put.l0
      repeat' first
      | (with_reducible exact ih0 _ _ _ _)
      | (with_reducible exact LeO.refl _)
      | (with_reducible exact LeO.none _)
      | (with_reducible refine LeO.ite ?_ ?_)
      | (with_reducible refine LeO.bind ?_ (fun _ => ?_))
      | exact ih0 _ _ _ _
      | exact LeO.none _
      | refine LeO.ite ?_ ?_
      | refine LeO.bind ?_ (fun _ => ?_)
theorem flyleafref01_Put.mono : ∀ a0 a1 k, LeO (flyleafref01_Put.f k a0 a1) (flyleafref01_Put.f (k + 1) a0 a1) := by
  intro a0 a1 k
  have ih0 := flyleafref01_Put.mono_l k
  unfold flyleafref01_Put.f
  repeat' first
      | (with_reducible exact ih0 _ _ _ _)
      | (with_reducible exact LeO.refl _)
      | (with_reducible exact LeO.none _)
      | (with_reducible refine LeO.ite ?_ ?_)
      | (with_reducible refine LeO.bind ?_ (fun _ => ?_))
      | exact ih0 _ _ _ _
      | exact LeO.none _
      | refine LeO.ite ?_ ?_
      | refine LeO.bind ?_ (fun _ => ?_)
set_option maxHeartbeats 8000000 in
set_option maxRecDepth 100000 in
theorem flyleafref01_Put.calls (k : Nat) (a0 : Int) (a1 : Int) (r : ByteArray) (w : World) (h : flyleafref01_Put.f k a0 a1 = some r) :
    Calls Try.prog 37 #[.int .u64 a0, .int .i64 a1] w fun e w' => e = .returned (.string r) ∧ Below w.heap.size w w' := by
  have HB := Aside0.mk (Below.refl w.heap.size w)
  have H : (flyleafref01_Put.l0 k a0 a1 (⟨#[]⟩ : ByteArray) 0) = some r := h
  clear h
  have H' := Aside0.mk H
  clear H
  go_enter Try.func37, Try.ntmps37
  go_wp2
  go_loopg [0, 5, 6] k (fun kq v0 v5 v6 w' => ∃ (x0_1 : Int) (x5_1 : ByteArray) (x6_1 : Int), v0 = .int .u64 x0_1 ∧ v5 = .string x5_1 ∧ v6 = .int .i64 x6_1 ∧ Aside0 (flyleafref01_Put.l0 kq x0_1 a1 x5_1 x6_1 = some r) ∧ Aside0 (kq ≤ k) ∧ Aside0 (Below w.heap.size w w'))
  case atStart => exact ⟨(a0), ((⟨#[]⟩ : ByteArray)), (0), (by first | rfl | (simp; done) | (simp [*]; done)), (by first | rfl | (simp; done) | (simp [*]; done)), (by first | rfl | (simp; done) | (simp [*]; done)), H', ⟨Nat.le_refl _⟩, ⟨by repeat (first | (with_reducible first | exact HB.out | apply below_alloc | apply pw_below_drewN | apply below_drew1) | exact HB.out)⟩⟩
  case round =>
    clear H'
    try clear p2
    obtain ⟨x0_1, x5_1, x6_1, rfl, rfl, rfl, HA, HK1, HB⟩ := hrel
    cases gk with
    | zero => exact absurd HA.out (by simp [flyleafref01_Put.l0])
    | succ k1 =>
      have H := HA.out
      clear HA
      simp only [flyleafref01_Put.l0] at H
      by_cases c3 : x6_1 < a1
      · rw [if_pos c3] at H
        have c3b0 : decide (x6_1 < a1) = true := decide_eq_true c3
        clear c3
        by_cases c4 : x6_1 < 8
        · rw [if_pos c4] at H
          have c4b0 : decide (x6_1 < 8) = true := decide_eq_true c4
          clear c4
          obtain ⟨y107, hy107⟩ : ∃ y_ : List Int, y_ = (([(Int.tmod x0_1 256) % 256] : List Int)) := ⟨_, rfl⟩
          replace H : (if x5_1.size + (strOfNums y107).size ≤ 9223372036854775807 then (flyleafref01_Put.l0 k1 (IntKind.u64.wrap (Int.tdiv x0_1 256)) a1 (x5_1 ++ (strOfNums y107)) (wrap64 (x6_1 + 1))) else (none)) = some r := by first | (rw [hy107]; with_reducible exact H) | (have H2_ := (Option.bind_some _ _).symm.trans H; rw [hy107]; with_reducible exact H2_) | (have H2_ := (Option.bind_some _ _).symm.trans H; with_reducible exact H2_) | with_reducible exact H | (rw [hy107]; exact H) | exact H
          have Ny107 := Aside0.mk hy107
          clear hy107
          by_cases c5 : x5_1.size + (strOfNums y107).size ≤ 9223372036854775807
          · rw [if_pos c5] at H
            have c5b0 := eq_true c5
            have c5b1 : decide (x5_1.size + (strOfNums y107).size ≤ 9223372036854775807) = true := decide_eq_true c5
            try have c5b2 : (9223372036854775807 < x5_1.size + (strOfNums y107).size) = False := eq_false (Nat.not_lt.2 c5)
            clear c5
            have H' := Aside0.mk H
            clear H
            go_wp2_with (first | ((with_reducible refine gate_dst (N := 20) rfl ?_); refine Kd.R_lit (Kd.int .u8) _ 5 ?hg (N := 20) ?hd (xs := ([(Int.tmod x0_1 256) % 256] : List Int)) (inner := [.int .u8 ((Int.tmod x0_1 256) % 256)]) (ok := fun _ => True) (okp := fun _ => True) ?hr ?hp (fun _ hk => hk) trivial (Below.refl _ _) (Nat.le_refl _) (by simp) ?_; (case hd => rfl); (case hg => rfl); (case hr => first | (go_simp; done) | (go_simp; rfl)); (case hp => exact (Reps.one (show Kd.M (Kd.int .u8) _ _ _ ((Int.tmod x0_1 256) % 256) [.int .u8 ((Int.tmod x0_1 256) % 256)] from rfl) (Reps.none _ _))); intro v108 w6 ho7 hb hg_ hnew_; clear hg_ hnew_; (first | rw [← Ny107.out] at ho7 | (simp only [Int.reduceToNat] at ho7; rw [← Ny107.out] at ho7)); have n0_ := Aside0.mk (Kd.R_lower ho7 (below_size (by repeat (first | (with_reducible first | exact HB.out | apply below_alloc | apply pw_below_drewN | apply below_drew1) | exact HB.out)))); have n1_ := Aside0.mk (below_step (by repeat (first | (with_reducible first | exact HB.out | apply below_alloc | apply pw_below_drewN | apply below_drew1) | exact HB.out)) hb); clear HB; have HO109 := n0_; have HB := n1_; clear n0_ n1_; clear hb ho7; have hcv8 := own_string (P := Try.prog) Try.underlying63 Try.underlying5 Try.underlying9 (Kd.own_of_R HO109.out)))
            go_roundg k1
            case measure => have := HK1.out; omega
            case rel => exact ⟨(IntKind.u64.wrap (Int.tdiv x0_1 256)), (x5_1 ++ (strOfNums y107)), (wrap64 (x6_1 + 1)), (by first | rfl | (simp; done) | (simp [*]; done)), (by first | rfl | (simp; done) | (simp [*]; done)), (by first | rfl | (simp; done) | (simp [*]; done)), H', ⟨by have := HK1.out; omega⟩, ⟨by repeat (first | (with_reducible first | exact HB.out | apply below_alloc | apply pw_below_drewN | apply below_drew1) | exact HB.out)⟩⟩
          · rw [if_neg c5] at H
            exact absurd H (by simp)
        · rw [if_neg c4] at H
          have c4b0 : decide (x6_1 < 8) = false := decide_eq_false c4
          clear c4
          obtain rfl := Option.some.inj H
          go_wp2
          go_ret
          exact ⟨by first | rfl | (simp [errW_none, errW_some] <;> rfl) | (simp [*, errW_none, errW_some] <;> rfl), by repeat (first | (with_reducible first | exact HB.out | apply below_alloc | apply pw_below_drewN | apply below_drew1) | exact HB.out)⟩
      · rw [if_neg c3] at H
        have c3b0 : decide (x6_1 < a1) = false := decide_eq_false c3
        clear c3
        obtain rfl := Option.some.inj H
        go_wp2
        go_ret
        exact ⟨by first | rfl | (simp [errW_none, errW_some] <;> rfl) | (simp [*, errW_none, errW_some] <;> rfl), by repeat (first | (with_reducible first | exact HB.out | apply below_alloc | apply pw_below_drewN | apply below_drew1) | exact HB.out)⟩

/-! ### flyleafref10_put: function 29 -/
def flyleafref10_put.f (k : Nat) (a0 : Int) (a1 : Int) : Option (ByteArray) := if a0 < 0 then ((flyleafref01_Put.f k 0 a1).bind fun t110 => (some t110)) else ((flyleafref01_Put.f k (IntKind.u64.wrap (a0)) a1).bind fun t111 => (some t111))
theorem flyleafref10_put.mono : ∀ a0 a1 k, LeO (flyleafref10_put.f k a0 a1) (flyleafref10_put.f (k + 1) a0 a1) := by
  intro a0 a1 k
  unfold flyleafref10_put.f
  repeat' first
      | (with_reducible exact flyleafref01_Put.mono _ _ _)
      | (with_reducible exact LeO.refl _)
      | (with_reducible exact LeO.none _)
      | (with_reducible refine LeO.ite ?_ ?_)
      | (with_reducible refine LeO.bind ?_ (fun _ => ?_))
      | exact flyleafref01_Put.mono _ _ _
      | exact LeO.none _
      | refine LeO.ite ?_ ?_
      | refine LeO.bind ?_ (fun _ => ?_)
set_option maxHeartbeats 8000000 in
set_option maxRecDepth 100000 in
theorem flyleafref10_put.calls (k : Nat) (a0 : Int) (a1 : Int) (r : ByteArray) (w : World) (h : flyleafref10_put.f k a0 a1 = some r) :
    Calls Try.prog 29 #[.int .i64 a0, .int .i64 a1] w fun e w' => e = .returned (.string r) ∧ Below w.heap.size w w' := by
  have HB := Aside0.mk (Below.refl w.heap.size w)
  have H : (if a0 < 0 then ((flyleafref01_Put.f k 0 a1).bind fun t110 => (some t110)) else ((flyleafref01_Put.f k (IntKind.u64.wrap (a0)) a1).bind fun t111 => (some t111))) = some r := h
  clear h
  by_cases c3 : a0 < 0
  · rw [if_pos c3] at H
    have c3b0 : decide (a0 < 0) = true := decide_eq_true c3
    clear c3
    replace H := Option.bind_eq_some_iff.mp H
    obtain ⟨t110, A40, H⟩ := H
    replace H : (some t110) = some r := H
    have A4 := Aside0.mk A40
    clear A40
    obtain rfl := Option.some.inj H
    go_enter Try.func29, Try.ntmps29
    go_wp2_with (first | ((with_reducible refine gate_callee (f := 37) rfl ?_); refine goesL_ (some 10) rfl rfl Try.func37 (by kernel_rfl) rfl #[.int .u64 0, .int .i64 a1] rfl (by (try simp only [List.map_toArray, List.map_cons, List.map_nil]); first | done | rfl | (simp only [List.length_drop, List.length_take]; rfl) | (simp only [ByteArray.size_append, Int.natCast_add]; rfl)) ?_; (with_reducible refine (flyleafref01_Put.calls k 0 a1 t110 _ A4.out).mono ?_); rintro e w5 ⟨rfl, hb⟩; refine ⟨_, rfl, ?_⟩; have n0_ := Aside0.mk (below_step (by repeat (first | (with_reducible first | exact HB.out | apply below_alloc | apply pw_below_drewN | apply below_drew1) | exact HB.out)) hb); clear HB; have HB := n0_; clear n0_; (try clear hb); (try clear hb2); (try clear hk); (try clear hi)))
    go_ret
    exact ⟨by first | rfl | (simp [errW_none, errW_some] <;> rfl) | (simp [*, errW_none, errW_some] <;> rfl), by repeat (first | (with_reducible first | exact HB.out | apply below_alloc | apply pw_below_drewN | apply below_drew1) | exact HB.out)⟩
  · rw [if_neg c3] at H
    have c3b0 : decide (a0 < 0) = false := decide_eq_false c3
    clear c3
    replace H := Option.bind_eq_some_iff.mp H
    obtain ⟨t111, A60, H⟩ := H
    replace H : (some t111) = some r := H
    have A6 := Aside0.mk A60
    clear A60
    obtain rfl := Option.some.inj H
    go_enter Try.func29, Try.ntmps29
    go_wp2_with (first | ((with_reducible refine gate_callee (f := 37) rfl ?_); refine goesL_ (some 10) rfl rfl Try.func37 (by kernel_rfl) rfl #[.int .u64 (IntKind.u64.wrap (a0)), .int .i64 a1] rfl (by (try simp only [List.map_toArray, List.map_cons, List.map_nil]); first | done | rfl | (simp only [List.length_drop, List.length_take]; rfl) | (simp only [ByteArray.size_append, Int.natCast_add]; rfl)) ?_; (with_reducible refine (flyleafref01_Put.calls k (IntKind.u64.wrap (a0)) a1 t111 _ A6.out).mono ?_); rintro e w7 ⟨rfl, hb⟩; refine ⟨_, rfl, ?_⟩; have n0_ := Aside0.mk (below_step (by repeat (first | (with_reducible first | exact HB.out | apply below_alloc | apply pw_below_drewN | apply below_drew1) | exact HB.out)) hb); clear HB; have HB := n0_; clear n0_; (try clear hb); (try clear hb2); (try clear hk); (try clear hi)))
    go_ret
    exact ⟨by first | rfl | (simp [errW_none, errW_some] <;> rfl) | (simp [*, errW_none, errW_some] <;> rfl), by repeat (first | (with_reducible first | exact HB.out | apply below_alloc | apply pw_below_drewN | apply below_drew1) | exact HB.out)⟩

end Go.Proofs.Ytoknnbjkjhigbaa.X
