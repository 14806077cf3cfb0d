/- PlaceLow: walked. -/
import Derived.Test.Ythfhlfkcphojkaac13G
namespace Go.Proofs.Ythfhlfkcphojkaa.L.PlaceLow
open Go.L1 Go.IntWalk Go.Proofs.Ythfhlfkcphojkaa.L
set_option linter.unusedVariables false
set_option linter.unusedSimpArgs false
set_option maxHeartbeats 4000000
set_option maxRecDepth 20000
def tab : Tb := L.T
theorem tabok : ∀ C : Cx, C.P = Try.prog → TbOk C tab := L.tabok
def mk (x : Int × Int) : Int × Int := (1 + x.1 % 256, 64 * (x.2 % 32))
theorem greatest : ∀ (cs : List Int) (x : Int), (∃ c ∈ cs, c ≤ x) → ∃ c ∈ cs, c ≤ x ∧ ∀ d ∈ cs, d ≤ x → d ≤ c
  | [], x, h => by obtain ⟨c, h, _⟩ := h; cases h
  | a :: cs, x, h => by
    by_cases hc : ∃ c ∈ cs, c ≤ x
    · obtain ⟨c, h1, h2, h3⟩ := greatest cs x hc
      by_cases ha : a ≤ x ∧ c < a
      · refine ⟨a, .head _, ha.1, fun d hd hdx => ?_⟩
        rcases List.mem_cons.1 hd with rfl | hd
        · exact Int.le_refl _
        · have := h3 d hd hdx; omega
      · refine ⟨c, .tail _ h1, h2, fun d hd hdx => ?_⟩
        rcases List.mem_cons.1 hd with rfl | hd
        · omega
        · exact h3 d hd hdx
    · obtain ⟨c, h1, h2⟩ := h
      rcases List.mem_cons.1 h1 with rfl | h1
      · refine ⟨c, .head _, h2, fun d hd hdx => ?_⟩
        rcases List.mem_cons.1 hd with rfl | hd
        · exact Int.le_refl _
        · exact absurd ⟨d, hd, hdx⟩ hc
      · exact absurd ⟨c, h1, h2⟩ hc
theorem mem_cands {l : List (Int × Int)} {A : List Int} {low c : Int} (h : c ∈ cands l A low) : c = low ∨ ∃ (k : Nat) (q : Int) (w : Int × Int), A[k]? = some q ∧ l[k]? = some w ∧ c = q + rnd w.1 := by
  unfold cands at h
  rcases List.mem_cons.1 h with h | h
  · exact .inl h
  · obtain ⟨x, hx, rfl⟩ := List.mem_map.1 h
    obtain ⟨k, hk⟩ := List.getElem?_of_mem hx
    obtain ⟨h1, h2⟩ := List.getElem?_zip_eq_some.1 hk
    exact .inr ⟨k, x.1, x.2, h1, h2, rfl⟩
def Sm (l : List (Int × Int)) : Prop := ∀ w ∈ l, 1 ≤ w.1 ∧ w.1 ≤ 256 ∧ 0 ≤ w.2 ∧ w.2 ≤ 1984 ∧ w.2 % 64 = 0
def Inv (l : List (Int × Int)) (a : List Int) : Prop := ∀ (k : Nat) (q : Int) (w : Int × Int), a[k]? = some q → l[k]? = some w → 0 ≤ q ∧ q % 64 = 0 ∧ q + rnd w.1 ≤ 2304 + 256 * (a.length : Int)
theorem place_some {l : List (Int × Int)} (hs : Sm l) {a : List Int} (hi : Inv l a) (hl : a.length ≤ 100) {w : Int × Int} (hw : w ∈ l) : ∃ p, placeS l a 0 65536 w = some p ∧ p + rnd w.1 ≤ 2304 + 256 * ((a.length : Int) + 1) := by
  obtain ⟨m1, m2, m3, m4, m5⟩ := hs w hw
  have hr := rnd_eq m1 (by omega)
  by_cases hc : w.2 = 0 ∨ w.2 % 64 ≠ 0 ∨ fitsS l a 0 65536 w.2 (rnd w.1) = false
  · rw [placeS_free hc]
    obtain ⟨c, c1, c2, c3⟩ := greatest (cands l a 0) (2304 + 256 * (a.length : Int)) ⟨0, .head _, by omega⟩
    have hall : ∀ d ∈ cands l a 0, 0 ≤ d ∧ d % 64 = 0 ∧ d ≤ 2304 + 256 * (a.length : Int) := fun d hd => by
      rcases mem_cands hd with rfl | ⟨k, q, u, hq, hu, rfl⟩
      · omega
      · obtain ⟨z1, z2, z3⟩ := hi k q u hq hu
        have z4 := rnd_mod u.1
        have z5 := (rnd_le u.1).1
        omega
    have hca := hall c c1
    obtain ⟨f1, f2⟩ := freeS_least (size := w.1) (high := 65536) c1 hca.2.1 (fits_iff.2 ⟨by omega, by omega, by omega, fun k q u hq hu => by
      have hmem := List.mem_of_getElem? (cands_get (low := 0) hu hq)
      have h1 := c3 _ hmem (hall _ hmem).2.2
      refine (meet_false (rnd_pos (hs u (List.mem_of_getElem? hu)).1) (rnd_pos m1)).2 ?_
      omega⟩)
    rw [if_pos f1]
    exact ⟨_, rfl, by omega⟩
  · have h1 : w.2 ≠ 0 := fun h => hc (.inl h)
    have h3 : fitsS l a 0 65536 w.2 (rnd w.1) = true := by
      cases hf : fitsS l a 0 65536 w.2 (rnd w.1) with
      | true => rfl
      | false => exact absurd (.inr (.inr hf)) hc
    exact ⟨_, placeS_slot h1 m5 h3, by omega⟩
theorem allGo_some {l : List (Int × Int)} (hs : Sm l) (hl : l.length ≤ 100) : ∀ {r : List (Int × Int)} {a : List Int}, Inv l a → l.drop a.length = r → ∃ b, allGo l 0 65536 r a = some b
  | [], a, hi, hr => ⟨a, rfl⟩
  | w :: r, a, hi, hr => by
    have hw : l[a.length]? = some w := by
      have : (l.drop a.length)[0]? = some w := by rw [hr]; rfl
      rw [List.getElem?_drop] at this
      simpa using this
    have hal := (List.getElem?_eq_some_iff.1 hw).1
    obtain ⟨p, h1, h2⟩ := place_some hs hi (by omega) (List.mem_of_getElem? hw)
    obtain ⟨q1, q2, _⟩ := placeS_at h1
    obtain ⟨q3, _⟩ := fits_iff.1 q2
    unfold allGo
    rw [h1]
    refine allGo_some hs hl (a := a ++ [p]) (fun k q u hq hu => ?_) (by rw [List.length_append, show [p].length = 1 from rfl, ← List.drop_drop, hr]; rfl)
    rw [List.length_append, show [p].length = 1 from rfl]
    by_cases hk : k < a.length
    · rw [List.getElem?_append_left hk] at hq
      have := hi k q u hq hu
      omega
    · rw [List.getElem?_append_right (by omega)] at hq
      have hk' : k = a.length := by
        have := (List.getElem?_eq_some_iff.1 hq).1
        simp at this
        omega
      subst hk'
      simp at hq
      subst hq
      rw [hw] at hu
      cases hu
      omega
def Fk (l : List (Int × Int)) (A : List Int) (p n : Int) (k : Nat) : Prop := ∀ (j : Nat) (q : Int) (u : Int × Int), j < k → A[j]? = some q → l[j]? = some u → p ≥ q + rnd u.1 ∨ q ≥ p + n
theorem Fk.more {l : List (Int × Int)} {A : List Int} {p n : Int} {u : Int × Int} {q : Int} {k : Nat} (h : Fk l A p n k) (hu : l[k]? = some u) (hq : A[k]? = some q) (hc : p ≥ q + rnd u.1 ∨ q ≥ p + n) : Fk l A p n (k + 1) := by
  intro j q' u' hj hq' hu'
  by_cases hjk : j = k
  · subst hjk
    rw [hq] at hq'
    rw [hu] at hu'
    cases hq'
    cases hu'
    exact hc
  · exact h j q' u' (by omega) hq' hu'
/-- Below the last one's place there is no room for it. -/
theorem least {l : List (Int × Int)} (hs : Sm l) {A : List Int} (hp : Pl l 0 65536 A) {L : Nat} {w : Int × Int} {p x : Int} (hw : l[L]? = some w) (hA : A[L]? = some p) (h0 : w.2 = 0) (hx0 : 0 ≤ x) (hx : x < p) : ¬ Fk l A x (rnd w.1) L := by
  intro hf
  obtain ⟨p1, p2, _, p4⟩ := hp L w p hw hA
  obtain ⟨e1, _⟩ := p4 (.inl h0)
  obtain ⟨f1, f2, f3, f4⟩ := fits_iff.1 p2
  obtain ⟨m1, _⟩ := hs w (List.mem_of_getElem? hw)
  obtain ⟨c, c1, c2, c3⟩ := greatest (cands l (A.take L) 0) x ⟨0, .head _, hx0⟩
  have htk : ∀ k q, (A.take L)[k]? = some q → k < L ∧ A[k]? = some q := fun k q hq => by
    rw [List.getElem?_take] at hq
    split at hq
    · exact ⟨by assumption, hq⟩
    · cases hq
  have hca : 0 ≤ c ∧ c % 64 = 0 := by
    rcases mem_cands c1 with rfl | ⟨k, q, u, hq, hu, rfl⟩
    · omega
    · obtain ⟨hk, hq⟩ := htk k q hq
      obtain ⟨z1, z2, _⟩ := hp k u q hu hq
      obtain ⟨z3, _⟩ := fits_iff.1 z2
      have z4 := rnd_mod u.1
      have z5 := (rnd_le u.1).1
      omega
  obtain ⟨_, g2⟩ := freeS_least (l := l) (at_ := A.take L) (low := 0) (high := 65536) (size := w.1) c1 hca.2 (fits_iff.2 ⟨hca.1, by omega, by omega, fun k q u hq hu => by
    have hq' := hq
    obtain ⟨hk, hq⟩ := htk k q hq
    refine (meet_false (rnd_pos (hs u (List.mem_of_getElem? hu)).1) (rnd_pos m1)).2 ?_
    rcases hf k q u hk hq hu with h | h
    · have := c3 _ (List.mem_of_getElem? (cands_get (low := 0) hu hq')) h
      omega
    · omega⟩)
  omega
theorem walk (X : List (Int × Int)) (a : Int) (g : Nat → Option Ob) (n : Nat) : Rn Try.prog T 5 [wv tg X, .int .i64 a] g n n (fun v _ _ => v = .bool true) := by
  refine c_open Try.func5 rfl rfl rfl rfl rfl rfl ?_
  repeat' (first
    | ((with_reducible apply g_op); first
      | ((with_reducible apply g_assign); first
        | ((with_reducible apply w_pure (v := .bool _)); exact rfl; exact rfl)))
    | with_reducible refine w_seq ?_
    | with_reducible refine w_nil ?_
    | with_reducible refine w_region ?_)
  refine w_rf awake_run (fun _ => rfl) sn_nil ?_
  rintro _ rfl
  repeat' (first
    | ((with_reducible apply g_op); first
      | ((with_reducible apply g_assign); first
        | ((with_reducible apply w_pure (v := .int _ _)); exact rfl; exact rfl)
        | ((with_reducible apply w_pure (v := .bool _)); exact rfl; exact rfl)
        | ((with_reducible apply w_pure (v := .slice _ _ _)); exact rfl; exact rfl)))
    | with_reducible refine w_seq ?_
    | with_reducible refine w_nil ?_
    | with_reducible refine w_region ?_)
  have hmb : Sm ((X.take 8).map mk) := fun w hw => by
    obtain ⟨x, _, rfl⟩ := List.mem_map.1 hw
    unfold mk
    dsimp only
    omega
  refine w_meetK [(6, 7), (17, 44)] (fun σ g' n' => ∃ o, σ 6 = ov o ((X.take 8).map mk).length ∧ Own g' n n' 34 wC o ((X.take 8).map mk) ∧ n ≤ n') ?_ ?_
  · intro K Q hK
    repeat' (first
      | with_reducible refine w_block ?_)
    refine w_cntK [(6, 7), (17, 44)] (min X.length 8) (fun i (o : Option Nat) σ g' n' => σ 7 = .int .i64 (i : Nat) ∧ σ 6 = ov o i ∧ Own g' n n' 34 wC o ((X.take i).map mk) ∧ n ≤ n') ?_ ?_ none ⟨rfl, rfl, Own.nil, Nat.le_refl _⟩
    · rintro i o σ g2 n2 hi ⟨k7, k6, ho, hn2⟩ ih
      obtain ⟨x, hx⟩ : ∃ x, X[i]? = some x := ⟨_, List.getElem?_eq_getElem (by omega)⟩
      have hlen : ((X.take i).map mk).length = i := by simp; omega
      refine w_keep (i := 7) k7 (w_keep (i := 6) k6 ?_)
      repeat' (first
        | ((with_reducible apply g_op); first
          | ((with_reducible apply g_load); first
            | ((with_reducible apply w_fl (v := .int _ _)); exact rfl; exact (fun _ => rfl); assumption; exact rfl))
          | ((with_reducible apply g_move); first
            | ((with_reducible apply w_pure (v := .int _ _)); exact rfl; exact rfl)
            | ((with_reducible apply w_pure (v := .bool _)); exact rfl; exact rfl)
            | ((with_reducible apply w_pure (v := .func _ _ _)); exact rfl; exact rfl)
            | ((with_reducible apply w_pure (v := ov _ _)); exact rfl; exact rfl))
          | ((with_reducible apply g_bin); first
            | ((with_reducible apply w_and (j := 5) (c1 := 32)); exact rfl; exact rfl; exact rfl; exact rfl; exact rfl; exact (by decide); exact (by decide); exact (by decide))
            | ((with_reducible apply w_and (j := 8) (c1 := 256)); exact rfl; exact rfl; exact rfl; exact rfl; exact rfl; exact (by decide); exact (by decide); exact (by decide))
            | ((with_reducible apply w_wrap); exact rfl; exact rfl; first | exact i64_in _ (by omega) | exact u64_in _ (by omega) | exact u8_in _ (by omega))
            | ((with_reducible apply w_pure (v := .bool _)); exact rfl; exact rfl))
          | ((with_reducible apply g_pick); first
            | ((with_reducible apply w_pk1 (v := .bool _)); exact rfl; exact rfl; (first | assumption | exact decide_eq_true (by assumption) | exact decide_eq_false (by assumption) | exact decide_eq_true (by omega) | exact decide_eq_false (by omega) | exact beq_iff_eq.2 (by omega) | exact beq_eq_false_iff_ne.2 (by omega) | exact bne_iff_ne.2 (by omega) | exact bne_eq_false_iff_eq.2 (by omega))))
          | ((with_reducible apply g_call); first
            | ((with_reducible apply w_call (v := .int _ _)); exact rfl))
          | ((with_reducible apply g_build); first
            | ((with_reducible apply w_pure (v := .agg #[.int _ _, .int _ _])); exact rfl; exact rfl))
          | ((with_reducible apply g_ix); first
            | ((with_reducible apply w_fx (sz := 2)); exact rfl; exact rfl; exact rfl; exact rfl; exact rfl; exact (fun _ => rfl); assumption; exact rfl))
          | ((with_reducible apply w_bsl (ls := [_, _])); exact rfl; exact rfl; exact rfl; exact ⟨by decide, rfl⟩; exact rfl)
          | ((with_reducible apply w_pure (v := .func _ _ _)); exact rfl; exact rfl))
        | ((with_reducible apply g_gd); first
          | ((with_reducible apply w_gd_t); exact rfl; all_goals (intro hc; first | (exfalso; omega) | skip)))
        | with_reducible refine w_seq ?_
        | with_reducible refine w_nil ?_
        | with_reducible refine w_region ?_
        | with_reducible refine w_skip ?_
        | with_reducible refine w_block ?_
        | ((with_reducible apply w_draw); kernel_rfl; kernel_rfl)
        | ((with_reducible apply w_ifd); exact rfl; all_goals (intro hc; first | (exfalso; omega) | skip)))
      refine w_own1 (enc := wC) (y := mk x) (by_ := 16) (sz := 2) (lo := n) (o := o) (xs := (X.take i).map mk) (ho.later (by omega) (fun j h1 h2 => by simp (disch := omega) only [upd_ne])) (by rw [hlen]; rfl) rfl rfl rfl rfl rfl (fun _ => rfl) upd_same rfl rfl rfl (by omega) (by omega) ?_
      intro g4 hg3 hg4 ho3
      repeat' (first
        | ((with_reducible apply g_op); first
          | ((with_reducible apply g_move); first
            | ((with_reducible apply w_pure (v := .int _ _)); exact rfl; exact rfl))
          | ((with_reducible apply g_bin); first
            | ((with_reducible apply w_wrap); exact rfl; exact rfl; first | exact i64_in _ (by omega) | exact u64_in _ (by omega) | exact u8_in _ (by omega)))
          | ((with_reducible apply g_assign); first
            | ((with_reducible apply w_pure (v := .int _ _)); exact rfl; exact rfl)
            | ((with_reducible apply w_pure (v := .slice _ _ _)); exact rfl; exact rfl)))
        | with_reducible refine w_nil ?_
        | with_reducible refine w_region ?_
        | with_reducible refine w_blk ?_)
      refine ih (some (n2 + 1)) _ _ _ (by repeat' (first | with_reducible exact Fr.mix | with_reducible exact Fr.rfl' | with_reducible refine Fr.put ?_ ?_ | with_reducible refine Fr.mix2 ?_ ?_ | with_reducible refine Fr.put0 ?_ | exact rfl)) ⟨by exact rfl, ?_, ?_, by omega⟩
      · show ov (some (n2 + 1)) ((X.take i).map mk ++ [mk x]).length = ov (some (n2 + 1)) (i + 1)
        rw [List.length_append, hlen]
        rfl
      · rw [List.take_add_one, hx, List.map_append]; exact ho3
    · rintro o σ g2 n2 ⟨k7, k6, ho, hn2⟩
      have hm : (X.take (min X.length 8)).map mk = (X.take 8).map mk := by
        by_cases h : X.length ≤ 8
        · rw [Nat.min_eq_left h, List.take_length, List.take_of_length_le h]
        · rw [Nat.min_eq_right (by omega)]
      rw [hm] at ho
      have hml : ((X.take 8).map mk).length = min X.length 8 := by simp; omega
      refine w_keep (i := 7) k7 (w_keep (i := 6) k6 ?_)
      repeat' (first
        | ((with_reducible apply g_op); first
          | ((with_reducible apply g_move); first
            | ((with_reducible apply w_pure (v := .int _ _)); exact rfl; exact rfl)
            | ((with_reducible apply w_pure (v := .bool _)); exact rfl; exact rfl)
            | ((with_reducible apply w_pure (v := .func _ _ _)); exact rfl; exact rfl))
          | ((with_reducible apply g_bin); first
            | ((with_reducible apply w_pure (v := .bool _)); exact rfl; exact rfl))
          | ((with_reducible apply g_pick); first
            | ((with_reducible apply w_pk1 (v := .bool _)); exact rfl; exact rfl; (first | assumption | exact decide_eq_true (by assumption) | exact decide_eq_false (by assumption) | exact decide_eq_true (by omega) | exact decide_eq_false (by omega) | exact beq_iff_eq.2 (by omega) | exact beq_eq_false_iff_ne.2 (by omega) | exact bne_iff_ne.2 (by omega) | exact bne_eq_false_iff_eq.2 (by omega)))
            | ((with_reducible apply w_pk0 (v := .bool _)); exact rfl; exact rfl; (first | assumption | exact decide_eq_true (by assumption) | exact decide_eq_false (by assumption) | exact decide_eq_true (by omega) | exact decide_eq_false (by omega) | exact beq_iff_eq.2 (by omega) | exact beq_eq_false_iff_ne.2 (by omega) | exact bne_iff_ne.2 (by omega) | exact bne_eq_false_iff_eq.2 (by omega))))
          | ((with_reducible apply g_call); first
            | ((with_reducible apply w_call (v := .int _ _)); exact rfl)))
        | ((with_reducible apply g_gd); first
          | ((with_reducible apply w_gd_t); exact rfl; all_goals (intro hc; first | (exfalso; omega) | skip)))
        | with_reducible refine w_seq ?_
        | with_reducible refine w_nil ?_
        | with_reducible refine w_region ?_
        | ((with_reducible apply w_exit); exact rfl)
        | ((with_reducible apply w_no); exact rfl)
        | ((with_reducible apply w_ifd); exact rfl; all_goals (intro hc; first | (exfalso; omega) | skip)))
      all_goals exact hK _ _ _ (by repeat' (first | with_reducible exact Fr.mix | with_reducible exact Fr.rfl' | with_reducible refine Fr.put ?_ ?_ | with_reducible refine Fr.mix2 ?_ ?_ | with_reducible refine Fr.put0 ?_ | exact rfl)) ⟨o, by rw [hml]; rfl, ho, hn2⟩
  · rintro σ g2 n2 ⟨o, k6, ho, hn2⟩
    have hll : ((X.take 8).map mk).length ≤ 8 := by simp; omega
    generalize (X.take 8).map mk = l0 at *
    refine w_keep (i := 6) k6 ?_
    repeat' (first
      | ((with_reducible apply g_op); first
        | ((with_reducible apply g_move); first
          | ((with_reducible apply w_pure (v := .int _ _)); exact rfl; exact rfl)
          | ((with_reducible apply w_pure (v := ov _ _)); exact rfl; exact rfl))
        | ((with_reducible apply g_bin); first
          | ((with_reducible apply w_and (j := 8) (c1 := 256)); exact rfl; exact rfl; exact rfl; exact rfl; exact rfl; exact (by decide); exact (by decide); exact (by decide))
          | ((with_reducible apply w_wrap); exact rfl; exact rfl; first | exact i64_in _ (by omega) | exact u64_in _ (by omega) | exact u8_in _ (by omega)))
        | ((with_reducible apply g_build); first
          | ((with_reducible apply w_pure (v := .agg #[.int _ _, .int _ _])); exact rfl; exact rfl))
        | ((with_reducible apply w_bsl (ls := [_, _])); exact rfl; exact rfl; exact rfl; exact ⟨by decide, rfl⟩; exact rfl))
      | with_reducible refine w_seq ?_
      | with_reducible refine w_region ?_)
    obtain ⟨sz, hsz⟩ : ∃ sz, sz = 1 + a % 256 := ⟨_, rfl⟩
    rw [← hsz]
    refine w_own1 (enc := wC) (y := (sz, 0)) (by_ := 16) (sz := 2) (lo := n) (o := o) (xs := l0) (ho.later (by omega) (fun j h1 h2 => by simp (disch := omega) only [upd_ne])) rfl rfl rfl rfl rfl rfl (fun _ => rfl) upd_same rfl rfl rfl (by omega) (by omega) ?_
    intro g4 hg3 hg4 ho3
    obtain ⟨ra, hra, hrow⟩ : ∃ ra, ov (some (n2 + 1)) (l0 ++ [(sz, 0)]).length = .slice ra (l0 ++ [(sz, 0)]).length (l0 ++ [(sz, 0)]).length ∧ Row g4 ra 34 ((l0 ++ [(sz, 0)]).flatMap wC) := ⟨_, rfl, own_row ho3⟩
    have hfz : L1.freeze Try.prog g4 tg 0 9 (ov (some (n2 + 1)) (l0 ++ [(sz, 0)]).length) = some (wv tg (l0 ++ [(sz, 0)])) := ho3.fz (by omega) rfl (by decide) (fun _ => rfl) (sn_plains (wplains _))
    rw [hra] at hfz ⊢
    have hs : Sm (l0 ++ [(sz, 0)]) := fun w hw => by
      rcases List.mem_append.1 hw with hw | hw
      · exact hmb w hw
      · simp at hw; subst hw; dsimp only; omega
    have hw : (l0 ++ [(sz, 0)])[l0.length]? = some (sz, 0) := by simp
    have hlen : (l0 ++ [(sz, 0)]).length = l0.length + 1 := by simp
    clear hra ho3 ho hmb
    generalize l0 ++ [(sz, 0)] = l at *
    have hrm : roomS 0 65536 = true := by decide
    have hbad : l.any badB = false := List.any_eq_false.2 fun w hw => by have := hs w hw; simp [badB]; omega
    repeat' (first
      | ((with_reducible apply g_op); first
        | ((with_reducible apply g_move); first
          | ((with_reducible apply w_pure (v := .slice _ _ _)); exact rfl; exact rfl))
        | ((with_reducible apply g_assign); first
          | ((with_reducible apply w_pure (v := .slice _ _ _)); exact rfl; exact rfl)))
      | with_reducible refine w_seq ?_
      | with_reducible refine w_nil ?_
      | with_reducible refine w_region ?_)
    refine w_rf (all_run l 0 65536 (by omega)) (fun _ => rfl) (sn_cons hfz (sn_cons (sn_plain rfl) (sn_cons (sn_plain rfl) sn_nil))) ?_
    rintro _ rfl
    rcases allS_ok hrm hbad with ⟨e1, e2, e3⟩ | ⟨e1, e2, e3⟩
    · rw [e1]
      clear e1
      generalize (allS l 0 65536).1 = A at *
      obtain ⟨p, hp⟩ : ∃ p, A[l0.length]? = some p := ⟨_, List.getElem?_eq_getElem (by omega)⟩
      obtain ⟨p1, p2, _⟩ := e3 _ _ _ hw hp
      obtain ⟨f1, f2, f3, _⟩ := fits_iff.1 p2
      have hrs := rnd_eq (a := sz) (by omega) (by omega)
      repeat' (first
        | ((with_reducible apply g_op); first
          | ((with_reducible apply g_move); first
            | ((with_reducible apply w_pure (v := .int _ _)); exact rfl; exact rfl)
            | ((with_reducible apply w_pure (v := .bool _)); exact rfl; exact rfl)
            | ((with_reducible apply w_pure (v := .slice _ _ _)); exact rfl; exact rfl)
            | ((with_reducible apply w_pure (v := .tuple _)); exact rfl; exact rfl)
            | ((with_reducible apply w_pure (v := .func _ _ _)); exact rfl; exact rfl))
          | ((with_reducible apply g_bin); first
            | ((with_reducible apply w_wrap); exact rfl; exact rfl; first | exact i64_in _ (by omega) | exact u64_in _ (by omega) | exact u8_in _ (by omega))
            | ((with_reducible apply w_pure (v := .bool _)); exact rfl; exact rfl))
          | ((with_reducible apply g_pick); first
            | ((with_reducible apply w_pk0 (v := .bool _)); exact rfl; exact rfl; (first | assumption | exact decide_eq_true (by assumption) | exact decide_eq_false (by assumption) | exact decide_eq_true (by omega) | exact decide_eq_false (by omega) | exact beq_iff_eq.2 (by omega) | exact beq_eq_false_iff_ne.2 (by omega) | exact bne_iff_ne.2 (by omega) | exact bne_eq_false_iff_eq.2 (by omega))))
          | ((with_reducible apply g_assign); first
            | ((with_reducible apply w_pure (v := .int _ _)); exact rfl; exact rfl)
            | ((with_reducible apply w_pure (v := .func _ _ _)); exact rfl; exact rfl))
          | ((with_reducible apply g_call); first
            | ((with_reducible apply w_call (v := .int _ _)); exact rfl))
          | ((with_reducible apply w_pure (v := .int _ _)); exact rfl; exact rfl)
          | ((with_reducible apply w_pure (v := .func _ _ _)); exact rfl; exact rfl))
        | ((with_reducible apply g_gd); first
          | ((with_reducible apply w_want); exact rfl))
        | with_reducible refine w_seq ?_
        | with_reducible refine w_nil ?_
        | with_reducible refine w_region ?_
        | with_reducible refine w_skip ?_
        | ((with_reducible apply w_ifn); exact rfl; all_goals (intro hc; first | (exfalso; omega) | skip)))
      all_goals first
        | (exfalso; omega)
        | skip
      refine w_keep (i := 10) (v := .int .i64 (l0.length : Nat)) (ieq (by omega)) (w_keep (i := 70) (v := .int .i64 (l0.length : Nat)) (ieq (by omega)) ?_)
      repeat' (first
        | ((with_reducible apply g_op); first
          | ((with_reducible apply g_load); first
            | ((with_reducible apply w_ld (v := .int _ _)); exact rfl; assumption; exact (fun _ => rfl); assumption; exact (by decide); exact rfl))
          | ((with_reducible apply g_bin); first
            | ((with_reducible apply w_div); exact rfl; exact rfl; exact rfl; exact rfl; exact rfl; omega; omega; omega)
            | ((with_reducible apply w_wrap); exact rfl; exact rfl; first | exact i64_in _ (by omega) | exact u64_in _ (by omega) | exact u8_in _ (by omega)))
          | ((with_reducible apply g_fld); first
            | ((with_reducible apply w_fld); exact rfl; exact rfl; exact rfl; exact (by decide); assumption; exact (fun _ => rfl); exact (by decide); assumption))
          | ((with_reducible apply g_assign); first
            | ((with_reducible apply w_pure (v := .int _ _)); exact rfl; exact rfl))
          | ((with_reducible apply g_ix); first
            | ((with_reducible apply w_ix (sz := 2)); exact rfl; exact rfl; exact rfl; exact rfl; exact (by decide); exact rfl; assumption; exact (fun _ => rfl); assumption; omega)))
        | with_reducible refine w_seq ?_
        | with_reducible refine w_nil ?_
        | with_reducible refine w_region ?_
        | with_reducible refine w_block ?_)
      refine w_whileK [(4, 4), (12, 15), (77, 119)] (fun (x : Int) σ g' n' => σ 12 = .int .i64 x ∧ 0 ≤ x ∧ x ≤ 70000 ∧ g' = g4 ∧ n' = n2 + 1 + 1) (fun x => (70000 - x).toNat) ?_ 0 ⟨rfl, by omega, by omega, rfl, rfl⟩
      rintro x σ g4 n3 ⟨k12, hx0, hx1, rfl, rfl⟩ ih
      refine w_keep (i := 12) k12 ?_
      by_cases hxp : x < p
      · have hnot := least hs e3 hw hp rfl hx0 hxp
        dsimp only at hnot f3
        repeat' (first
          | ((with_reducible apply g_op); first
            | ((with_reducible apply g_load); first
              | ((with_reducible apply w_fl (v := .int _ _)); exact rfl; exact (fun _ => rfl); assumption; exact rfl))
            | ((with_reducible apply g_move); first
              | ((with_reducible apply w_pure (v := .int _ _)); exact rfl; exact rfl)
              | ((with_reducible apply w_pure (v := .func _ _ _)); exact rfl; exact rfl))
            | ((with_reducible apply g_bin); first
              | ((with_reducible apply w_pure (v := .bool _)); exact rfl; exact rfl))
            | ((with_reducible apply g_assign); first
              | ((with_reducible apply w_pure (v := .int _ _)); exact rfl; exact rfl)
              | ((with_reducible apply w_pure (v := .bool _)); exact rfl; exact rfl))
            | ((with_reducible apply g_ix); first
              | ((with_reducible apply w_fx (sz := 1)); exact rfl; exact rfl; exact rfl; exact rfl; exact rfl; exact (fun _ => rfl); assumption; exact rfl)))
          | with_reducible refine w_seq ?_
          | with_reducible refine w_nil ?_
          | with_reducible refine w_region ?_
          | with_reducible refine w_skip ?_
          | with_reducible refine w_block ?_
          | ((with_reducible apply w_ifd); exact rfl; all_goals (intro hc; first | (exfalso; omega) | skip)))
        refine w_cntK [(13, 15), (85, 118)] l0.length (fun k (bb : Bool) σ g' n' => σ 14 = .int .i64 (k : Nat) ∧ σ 13 = .bool bb ∧ (bb = true → Fk l A x (rnd sz) k) ∧ g' = g4 ∧ n' = n2 + 1 + 1) ?_ ?_ true ⟨rfl, rfl, fun _ j q u hj => by omega, rfl, rfl⟩
        · rintro k bb σ g4 n3 hk ⟨k14, k13, hfk, rfl, rfl⟩ ih2
          obtain ⟨u, hu⟩ : ∃ u, l[k]? = some u := ⟨_, List.getElem?_eq_getElem (by omega)⟩
          obtain ⟨q, hq⟩ : ∃ q, A[k]? = some q := ⟨_, List.getElem?_eq_getElem (by omega)⟩
          obtain ⟨u1, u2, u3, u4, u5⟩ := hs u (List.mem_of_getElem? hu)
          have hru := rnd_eq u1 (by omega)
          have hqr : 0 ≤ q ∧ q ≤ 65536 := by
            obtain ⟨_, z2, _⟩ := e3 k u q hu hq
            obtain ⟨z3, z4, _⟩ := fits_iff.1 z2
            omega
          refine w_keep (i := 14) k14 (w_keep (i := 13) k13 ?_)
          cases bb with
          | false =>
            repeat' (first
              | ((with_reducible apply g_op); first
                | ((with_reducible apply g_load); first
                  | ((with_reducible apply w_ld (v := .int _ _)); exact rfl; assumption; exact (fun _ => rfl); assumption; exact (by decide); exact rfl))
                | ((with_reducible apply g_move); first
                  | ((with_reducible apply w_pure (v := .int _ _)); exact rfl; exact rfl)
                  | ((with_reducible apply w_pure (v := .bool _)); exact rfl; exact rfl)
                  | ((with_reducible apply w_pure (v := .slice _ _ _)); exact rfl; exact rfl))
                | ((with_reducible apply g_bin); first
                  | ((with_reducible apply w_div); exact rfl; exact rfl; exact rfl; exact rfl; exact rfl; omega; omega; omega)
                  | ((with_reducible apply w_wrap); exact rfl; exact rfl; first | exact i64_in _ (by omega) | exact u64_in _ (by omega) | exact u8_in _ (by omega))
                  | ((with_reducible apply w_pure (v := .bool _)); exact rfl; exact rfl))
                | ((with_reducible apply g_fld); first
                  | ((with_reducible apply w_fld); exact rfl; exact rfl; exact rfl; exact (by decide); assumption; exact (fun _ => rfl); exact (by decide); assumption))
                | ((with_reducible apply g_assign); first
                  | ((with_reducible apply w_pure (v := .int _ _)); exact rfl; exact rfl)
                  | ((with_reducible apply w_pure (v := .bool _)); exact rfl; exact rfl))
                | ((with_reducible apply g_ix); first
                  | ((with_reducible apply w_ix (sz := 2)); exact rfl; exact rfl; exact rfl; exact rfl; exact (by decide); exact rfl; assumption; exact (fun _ => rfl); assumption; omega))
                | ((with_reducible apply w_pure (v := .bool _)); exact rfl; exact rfl))
              | ((with_reducible apply g_gd); first
                | ((with_reducible apply w_pass); exact rfl)
                | ((with_reducible apply w_psn); exact rfl))
              | with_reducible refine w_seq ?_
              | with_reducible refine w_nil ?_
              | with_reducible refine w_region ?_
              | with_reducible refine w_skip ?_
              | with_reducible refine w_block ?_
              | with_reducible refine w_blk ?_
              | ((with_reducible apply w_ifd); exact rfl; all_goals (intro hc; first | (exfalso; omega) | skip)))
            all_goals exact ih2 _ _ _ _ (by repeat' (first | with_reducible exact Fr.mix | with_reducible exact Fr.rfl' | with_reducible refine Fr.put ?_ ?_ | with_reducible refine Fr.mix2 ?_ ?_ | with_reducible refine Fr.put0 ?_ | exact rfl)) ⟨rfl, rfl, fun h => (by cases h), rfl, rfl⟩
          | true =>
            have hfk' := hfk rfl
            repeat' (first
              | ((with_reducible apply g_op); first
                | ((with_reducible apply g_load); first
                  | ((with_reducible apply w_ld (v := .int _ _)); exact rfl; assumption; exact (fun _ => rfl); assumption; exact (by decide); exact rfl)
                  | ((with_reducible apply w_fl (v := .int _ _)); exact rfl; exact (fun _ => rfl); assumption; exact rfl))
                | ((with_reducible apply g_move); first
                  | ((with_reducible apply w_pure (v := .int _ _)); exact rfl; exact rfl)
                  | ((with_reducible apply w_pure (v := .bool _)); exact rfl; exact rfl)
                  | ((with_reducible apply w_pure (v := .slice _ _ _)); exact rfl; exact rfl)
                  | ((with_reducible apply w_pure (v := .func _ _ _)); exact rfl; exact rfl))
                | ((with_reducible apply g_bin); first
                  | ((with_reducible apply w_div); exact rfl; exact rfl; exact rfl; exact rfl; exact rfl; omega; omega; omega)
                  | ((with_reducible apply w_wrap); exact rfl; exact rfl; first | exact i64_in _ (by omega) | exact u64_in _ (by omega) | exact u8_in _ (by omega))
                  | ((with_reducible apply w_pure (v := .bool _)); exact rfl; exact rfl))
                | ((with_reducible apply g_fld); first
                  | ((with_reducible apply w_fld); exact rfl; exact rfl; exact rfl; exact (by decide); assumption; exact (fun _ => rfl); exact (by decide); assumption))
                | ((with_reducible apply g_pick); first
                  | ((with_reducible apply w_pk1 (v := .bool _)); exact rfl; exact rfl; (first | assumption | exact decide_eq_true (by assumption) | exact decide_eq_false (by assumption) | exact decide_eq_true (by omega) | exact decide_eq_false (by omega) | exact beq_iff_eq.2 (by omega) | exact beq_eq_false_iff_ne.2 (by omega) | exact bne_iff_ne.2 (by omega) | exact bne_eq_false_iff_eq.2 (by omega)))
                  | ((with_reducible apply w_pk0 (v := .bool _)); exact rfl; exact rfl; (first | assumption | exact decide_eq_true (by assumption) | exact decide_eq_false (by assumption) | exact decide_eq_true (by omega) | exact decide_eq_false (by omega) | exact beq_iff_eq.2 (by omega) | exact beq_eq_false_iff_ne.2 (by omega) | exact bne_iff_ne.2 (by omega) | exact bne_eq_false_iff_eq.2 (by omega))))
                | ((with_reducible apply g_assign); first
                  | ((with_reducible apply w_pure (v := .int _ _)); exact rfl; exact rfl)
                  | ((with_reducible apply w_pure (v := .bool _)); exact rfl; exact rfl))
                | ((with_reducible apply g_ix); first
                  | ((with_reducible apply w_ix (sz := 2)); exact rfl; exact rfl; exact rfl; exact rfl; exact (by decide); exact rfl; assumption; exact (fun _ => rfl); assumption; omega)
                  | ((with_reducible apply w_fx (sz := 1)); exact rfl; exact rfl; exact rfl; exact rfl; exact rfl; exact (fun _ => rfl); assumption; exact rfl)))
              | ((with_reducible apply g_gd); first
                | ((with_reducible apply w_want); exact rfl)
                | ((with_reducible apply w_gd_f); exact rfl; all_goals (intro hc; first | (exfalso; omega) | skip)))
              | with_reducible refine w_seq ?_
              | with_reducible refine w_nil ?_
              | with_reducible refine w_region ?_
              | with_reducible refine w_skip ?_
              | with_reducible refine w_block ?_
              | with_reducible refine w_blk ?_
              | ((with_reducible apply w_ifd); exact rfl; all_goals (intro hc; first | (exfalso; omega) | skip)))
            all_goals exact ih2 _ _ _ _ (by repeat' (first | with_reducible exact Fr.mix | with_reducible exact Fr.rfl' | with_reducible refine Fr.put ?_ ?_ | with_reducible refine Fr.mix2 ?_ ?_ | with_reducible refine Fr.put0 ?_ | exact rfl)) ⟨rfl, rfl, fun h => (by first | exact hfk'.more hu hq (by omega) | (cases h; done) | (have h9 := of_decide_eq_true h; exact hfk'.more hu hq (by omega))), rfl, rfl⟩
        · rintro bb σ g4 n3 ⟨k14, k13, hfk, rfl, rfl⟩
          obtain rfl : bb = false := by
            cases bb with
            | false => rfl
            | true => exact absurd (hfk rfl) hnot
          refine w_keep (i := 14) k14 (w_keep (i := 13) k13 ?_)
          repeat' (first
            | ((with_reducible apply g_op); first
              | ((with_reducible apply g_move); first
                | ((with_reducible apply w_pure (v := .int _ _)); exact rfl; exact rfl)
                | ((with_reducible apply w_pure (v := .bool _)); exact rfl; exact rfl))
              | ((with_reducible apply g_bin); first
                | ((with_reducible apply w_wrap); exact rfl; exact rfl; first | exact i64_in _ (by omega) | exact u64_in _ (by omega) | exact u8_in _ (by omega))
                | ((with_reducible apply w_pure (v := .bool _)); exact rfl; exact rfl))
              | ((with_reducible apply g_assign); first
                | ((with_reducible apply w_pure (v := .int _ _)); exact rfl; exact rfl)))
            | with_reducible refine w_seq ?_
            | with_reducible refine w_nil ?_
            | with_reducible refine w_region ?_
            | with_reducible refine w_skip ?_
            | with_reducible refine w_blk ?_
            | ((with_reducible apply w_exit); exact rfl)
            | ((with_reducible apply w_no); exact rfl)
            | ((with_reducible apply w_ifd); exact rfl; all_goals (intro hc; first | (exfalso; omega) | skip)))
          exact ih (x + 64) _ _ _ (by omega) (by repeat' (first | with_reducible exact Fr.mix | with_reducible exact Fr.rfl' | with_reducible refine Fr.put ?_ ?_ | with_reducible refine Fr.mix2 ?_ ?_ | with_reducible refine Fr.put0 ?_ | exact rfl)) ⟨rfl, by omega, by omega, rfl, rfl⟩
      · repeat' (first
          | ((with_reducible apply g_op); first
            | ((with_reducible apply g_load); first
              | ((with_reducible apply w_fl (v := .int _ _)); exact rfl; exact (fun _ => rfl); assumption; exact rfl))
            | ((with_reducible apply g_move); first
              | ((with_reducible apply w_pure (v := .int _ _)); exact rfl; exact rfl)
              | ((with_reducible apply w_pure (v := .bool _)); exact rfl; exact rfl)
              | ((with_reducible apply w_pure (v := .func _ _ _)); exact rfl; exact rfl))
            | ((with_reducible apply g_bin); first
              | ((with_reducible apply w_pure (v := .bool _)); exact rfl; exact rfl))
            | ((with_reducible apply g_assign); first
              | ((with_reducible apply w_pure (v := .bool _)); exact rfl; exact rfl))
            | ((with_reducible apply g_ix); first
              | ((with_reducible apply w_fx (sz := 1)); exact rfl; exact rfl; exact rfl; exact rfl; exact rfl; exact (fun _ => rfl); assumption; exact rfl)))
          | with_reducible refine w_seq ?_
          | with_reducible refine w_nil ?_
          | with_reducible refine w_region ?_
          | ((with_reducible apply w_exit); exact rfl)
          | ((with_reducible apply w_ifd); exact rfl; all_goals (intro hc; first | (exfalso; omega) | skip))
          | ((with_reducible apply w_ret (v := .bool _)); exact rfl))
        all_goals rfl
    · obtain ⟨b, hb⟩ := allGo_some hs (by omega) (a := []) (fun k q u hq => by simp at hq) rfl
      rw [List.length_nil, List.drop_zero] at hb
      rw [hb] at e3
      cases e3
theorem proved (x0 : List (Int × Int)) (x1 : Int) {p q : Prop} (w0 : p) (w1 : q) : Rn Try.prog tab 5 [fz tg x0.length (x0.flatMap (kPair (kInt .i64) (kInt .i64)).enc), .int .i64 x1] (fun _ => none) 0 0 (fun v _ _ => v = .bool true) := walk x0 x1 (fun _ => none) 0
end Go.Proofs.Ythfhlfkcphojkaa.L.PlaceLow

