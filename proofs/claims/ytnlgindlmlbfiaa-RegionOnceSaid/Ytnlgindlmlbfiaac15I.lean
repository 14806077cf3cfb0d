/- The reference: May, one, Spread. -/
import Derived.Test.Ytnlgindlmlbfiaac15P
namespace Go.Proofs.Ytnlgindlmlbfiaa.L
open Go.L1 Go.IntWalk
set_option linter.unusedVariables false
set_option linter.unusedSimpArgs false
set_option maxHeartbeats 4000000
theorem rmay_run (r : Rg) (g n m) : Rn Try.prog T 37 [r.v] g n m (fun v g' n' => v = .bool (may r) ∧ g' = g ∧ n' = n) := by
  obtain ⟨rf, rt, rp, rk, rl, rg⟩ := r
  refine c_quiet Try.func37 rfl rfl rfl rfl rfl ?_
  repeat' (first
    | ((with_reducible apply g_op); first
      | ((with_reducible apply g_load); first
        | ((with_reducible apply w_load (v := .int _ _)); exact rfl; (first | assumption | (simp (disch := omega) only [upd_same, upd_ne]; first | done | assumption | exact rfl) | exact rfl); exact rfl))
      | ((with_reducible apply g_move); first
        | ((with_reducible apply w_pure (v := .bool _)); exact rfl; exact rfl))
      | ((with_reducible apply g_bin); first
        | ((with_reducible apply w_wrap); exact rfl; exact rfl; first | exact i64_in _ (by omega) | exact u64_in _ (by omega) | exact u8_in _ (by omega))
        | ((with_reducible apply w_pure (v := .bool _)); exact rfl; exact rfl))
      | ((with_reducible apply g_fld); first
        | ((with_reducible apply w_fldp (o := 0)); exact rfl; exact rfl; exact rfl; exact (by decide))
        | ((with_reducible apply w_fldp (o := 1)); exact rfl; exact rfl; exact rfl; exact (by decide))
        | ((with_reducible apply w_fldp (o := 2)); exact rfl; exact rfl; exact rfl; exact (by decide))
        | ((with_reducible apply w_fldp (o := 3)); exact rfl; exact rfl; exact rfl; exact (by decide))
        | ((with_reducible apply w_fldp (o := 4)); exact rfl; exact rfl; exact rfl; exact (by decide))
        | ((with_reducible apply w_fldp (o := 5)); exact rfl; exact rfl; exact rfl; exact (by decide)))
      | ((with_reducible apply g_pick); first
        | ((with_reducible apply w_pk1 (v := .bool _)); exact rfl; exact rfl; (first | assumption | exact decide_eq_true (by assumption) | exact decide_eq_false (by assumption) | exact decide_eq_true (by omega) | exact decide_eq_false (by omega) | exact beq_iff_eq.2 (by omega) | exact beq_eq_false_iff_ne.2 (by omega) | exact bne_iff_ne.2 (by omega) | exact bne_eq_false_iff_eq.2 (by omega)))
        | ((with_reducible apply w_pk0 (v := .bool _)); exact rfl; exact rfl; (first | assumption | exact decide_eq_true (by assumption) | exact decide_eq_false (by assumption) | exact decide_eq_true (by omega) | exact decide_eq_false (by omega) | exact beq_iff_eq.2 (by omega) | exact beq_eq_false_iff_ne.2 (by omega) | exact bne_iff_ne.2 (by omega) | exact bne_eq_false_iff_eq.2 (by omega))))
      | ((with_reducible apply g_assign); first
        | ((with_reducible apply w_pure (v := .bool _)); exact rfl; exact rfl))
      | ((with_reducible apply g_box); first
        | ((with_reducible apply w_box (vs := [_, _, _, _, _, _])); exact rfl; exact rfl))
      | ((with_reducible apply w_pure (v := .bool _)); exact rfl; exact rfl))
    | ((with_reducible apply g_gd); first
      | ((with_reducible apply w_pass); exact rfl)
      | ((with_reducible apply w_gd_t); exact rfl; all_goals (intro hc; first | (exfalso; omega) | skip))
      | ((with_reducible apply w_gd_f); exact rfl; all_goals (intro hc; first | (exfalso; omega) | skip)))
    | with_reducible refine w_seq ?_
    | with_reducible refine w_nil ?_
    | with_reducible refine w_region ?_
    | with_reducible refine w_skip ?_
    | ((with_reducible apply w_yes); exact rfl)
    | ((with_reducible apply w_ifd); exact rfl; all_goals (intro hc; first | (exfalso; omega) | skip))
    | ((with_reducible apply w_ret (v := .bool _)); exact rfl))
  all_goals refine ⟨rfl, ?_⟩
  all_goals refine congrArg Value.bool ?_
  all_goals unfold may
  all_goals ((try dsimp only); rw [Bool.eq_iff_iff]; simp only [decide_eq_true_eq, beq_iff_eq, bne_iff_ne, ne_eq, Bool.false_eq_true, eq_self, false_iff, true_iff]; omega)
theorem rone_run (a b : Rg) (g n m) : Rn Try.prog T 38 [a.v, b.v] g n m (fun v g' n' => v = .bool (one a b) ∧ g' = g ∧ n' = n) := by
  obtain ⟨af, at_, ap, ak, al, ag⟩ := a
  obtain ⟨bf, bt, bp, bk, bl, bg⟩ := b
  refine c_quiet Try.func38 rfl rfl rfl rfl rfl ?_
  repeat' (first
    | ((with_reducible apply g_op); first
      | ((with_reducible apply g_load); first
        | ((with_reducible apply w_load (v := .int _ _)); exact rfl; (first | assumption | (simp (disch := omega) only [upd_same, upd_ne]; first | done | assumption | exact rfl) | exact rfl); exact rfl))
      | ((with_reducible apply g_move); first
        | ((with_reducible apply w_pure (v := .bool _)); exact rfl; exact rfl))
      | ((with_reducible apply g_bin); first
        | ((with_reducible apply w_pure (v := .bool _)); exact rfl; exact rfl)
        | ((with_reducible apply w_pure (v := .int _ _)); exact rfl; exact rfl))
      | ((with_reducible apply g_fld); first
        | ((with_reducible apply w_fldp (o := 0)); exact rfl; exact rfl; exact rfl; exact (by decide))
        | ((with_reducible apply w_fldp (o := 1)); exact rfl; exact rfl; exact rfl; exact (by decide))
        | ((with_reducible apply w_fldp (o := 2)); exact rfl; exact rfl; exact rfl; exact (by decide))
        | ((with_reducible apply w_fldp (o := 3)); exact rfl; exact rfl; exact rfl; exact (by decide))
        | ((with_reducible apply w_fldp (o := 4)); exact rfl; exact rfl; exact rfl; exact (by decide))
        | ((with_reducible apply w_fldp (o := 5)); exact rfl; exact rfl; exact rfl; exact (by decide)))
      | ((with_reducible apply g_pick); first
        | ((with_reducible apply w_pk1 (v := .bool _)); exact rfl; exact rfl; (first | assumption | exact decide_eq_true (by assumption) | exact decide_eq_false (by assumption) | exact decide_eq_true (by omega) | exact decide_eq_false (by omega) | exact beq_iff_eq.2 (by omega) | exact beq_eq_false_iff_ne.2 (by omega) | exact bne_iff_ne.2 (by omega) | exact bne_eq_false_iff_eq.2 (by omega)))
        | ((with_reducible apply w_pk0 (v := .bool _)); exact rfl; exact rfl; (first | assumption | exact decide_eq_true (by assumption) | exact decide_eq_false (by assumption) | exact decide_eq_true (by omega) | exact decide_eq_false (by omega) | exact beq_iff_eq.2 (by omega) | exact beq_eq_false_iff_ne.2 (by omega) | exact bne_iff_ne.2 (by omega) | exact bne_eq_false_iff_eq.2 (by omega))))
      | ((with_reducible apply g_assign); first
        | ((with_reducible apply w_pure (v := .bool _)); exact rfl; exact rfl))
      | ((with_reducible apply g_box); first
        | ((with_reducible apply w_box (vs := [_, _, _, _, _, _])); exact rfl; exact rfl))
      | ((with_reducible apply w_pure (v := .bool _)); exact rfl; exact rfl))
    | ((with_reducible apply g_gd); first
      | ((with_reducible apply w_pass); exact rfl)
      | ((with_reducible apply w_gn_f); exact rfl; all_goals (intro hc; first | (exfalso; omega) | skip)))
    | with_reducible refine w_seq ?_
    | with_reducible refine w_nil ?_
    | with_reducible refine w_region ?_
    | with_reducible refine w_skip ?_
    | ((with_reducible apply w_yes); exact rfl)
    | ((with_reducible apply w_ifn); exact rfl; all_goals (intro hc; first | (exfalso; omega) | skip))
    | ((with_reducible apply w_ret (v := .bool _)); exact rfl))
  all_goals refine ⟨rfl, ?_⟩
  all_goals refine congrArg Value.bool ?_
  all_goals unfold one
  all_goals ((try dsimp only); rw [Bool.eq_iff_iff]; simp only [decide_eq_true_eq, beq_iff_eq, bne_iff_ne, ne_eq, Bool.false_eq_true, eq_self, false_iff, true_iff]; omega)
abbrev PG := Rg × Bool
def pgc (p : PG) : List Value := [.int .i64 p.1.f, .int .i64 p.1.t, .int .i64 p.1.p, .int .i64 p.1.k, .int .i64 p.1.l, .int .i64 p.1.g, .bool p.2]
theorem pgc_len (p : PG) : (pgc p).length = 7 := rfl
/-- A page for each number; 'F' tells which. -/
structure Pgs (PS : List PG) (F : Nat → PG) : Prop where
  len : PS.length = 4096
  at_ : ∀ q, q < 4096 → PS[q]? = some (F q)
theorem zeroRow (N : Nat) : ∃ PS : List PG, ((List.replicate N ([.int .i64 0, .int .i64 0, .int .i64 0, .int .i64 0, .int .i64 0, .int .i64 0, .bool false] : List Value)).flatten) = PS.flatMap pgc ∧ PS.length = N ∧ ∀ q, q < N → PS[q]? = some (Rg.zero, false) :=
  ⟨List.replicate N (Rg.zero, false), by rw [List.flatMap_replicate]; rfl, by simp, fun q hq => by rw [List.getElem?_replicate, if_pos hq]⟩
theorem Pgs.set {PS : List PG} {F : Nat → PG} (h : Pgs PS F) (p : Nat) (v : PG) : Pgs (PS.set p v) (fun q => if q = p then v else F q) := by
  refine ⟨by rw [List.length_set, h.len], fun q hq => ?_⟩
  rw [List.getElem?_set]
  by_cases e : p = q
  · subst e; rw [if_pos rfl, if_pos (by rw [h.len]; exact hq)]; simp
  · rw [if_neg e, h.at_ q hq]; simp [show ¬ q = p from fun h => e h.symm]
theorem Pgs.fn {PS : List PG} {F G : Nat → PG} (h : Pgs PS F) (hg : ∀ q, q < 4096 → F q = G q) : Pgs PS G := ⟨h.len, fun q hq => by rw [h.at_ q hq, hg q hq]⟩
def pageOf (x : Rg) (p : Int) : Rg := ⟨p, p + 1, x.p, x.k, x.l, if x.k = 1 then x.g + p - x.f else x.g⟩
def pgAt (l : List Rg) (p : Nat) : PG := if (findS p l).2 = true then (pageOf (findS p l).1 p, true) else (Rg.zero, false)
theorem find_iff {l : List Rg} {p : Int} : (findS p l).2 = true → (findS p l).1 ∈ l ∧ In (findS p l).1 p := by
  induction l with
  | nil => intro h; cases h
  | cons x l ih =>
    unfold findS
    by_cases h : p ≥ x.f ∧ p < x.t
    · rw [if_pos h]; intro _; exact ⟨List.mem_cons_self .., h.1, h.2⟩
    · rw [if_neg h]; intro hh; exact ⟨List.mem_cons_of_mem _ (ih hh).1, (ih hh).2⟩
theorem find_none {l : List Rg} {p : Int} (h : (findS p l).2 = false) : ∀ x ∈ l, ¬ In x p := by
  induction l with
  | nil => intro x hx; cases hx
  | cons y l ih =>
    unfold findS at h
    by_cases hy : p ≥ y.f ∧ p < y.t
    · rw [if_pos hy] at h; cases h
    · rw [if_neg hy] at h
      intro x hx
      rcases List.mem_cons.1 hx with rfl | hx
      · unfold In; omega
      · exact ih h x hx
theorem find_app (a b : List Rg) (p : Int) : findS p (a ++ b) = if (findS p a).2 = true then findS p a else findS p b := by
  induction a with
  | nil => rfl
  | cons x a ih =>
    simp only [List.cons_append, findS]
    split
    · rfl
    · exact ih
theorem spread_run (l : List Rg) (hl : Can l) (hll : l.length ≤ 5000) (g : Nat → Option Ob) (n m : Nat) : Rn Try.prog T 25 [rv tg l] g n m (fun v g' n' => v = slc n 0 4096 ∧ (∃ PS, Pgs PS (pgAt l) ∧ g' n = some (.cells 60 (PS.flatMap pgc))) ∧ (∀ j, j < n → g' j = g j) ∧ n < n') := by
  refine c_clean Try.func25 rfl rfl rfl rfl rfl rfl ?_
  repeat' (first
    | ((with_reducible apply g_op); first
      | ((with_reducible apply g_assign); first
        | ((with_reducible apply w_pure (v := .slice _ _ _)); exact rfl; exact rfl)))
    | with_reducible refine w_seq ?_
    | with_reducible refine w_nil ?_
    | with_reducible refine w_region ?_)
  refine w_mks (nn := 4096) (by_ := 56) (sz := 7) rfl rfl rfl rfl rfl rfl rfl (by decide) ?_
  refine w_gen (fun G N => (∃ PS, Pgs PS (fun _ => (Rg.zero, false)) ∧ G n = some (.cells 60 (PS.flatMap pgc))) ∧ (∀ j, j < n → G j = g j) ∧ n < N) ⟨?_, fun j hj => upd_ne (by omega), by omega⟩ ?_
  · obtain ⟨PS, h1, h2, h3⟩ := zeroRow 4096
    exact ⟨PS, ⟨h2, h3⟩, upd_same.trans (congrArg (fun x => some (Ob.cells 60 x)) h1)⟩
  rintro G N ⟨⟨PS0, hP0, hG⟩, hfr, hN⟩
  repeat' (first
    | ((with_reducible apply g_op); first
      | ((with_reducible apply g_assign); first
        | ((with_reducible apply w_pure (v := .int _ _)); exact rfl; exact rfl)
        | ((with_reducible apply w_pure (v := .slice _ _ _)); exact rfl; exact rfl)))
    | with_reducible refine w_seq ?_
    | with_reducible refine w_nil ?_
    | with_reducible refine w_region ?_
    | with_reducible refine w_block ?_)
  refine w_cntK [(4, 6), (8, 55)] l.length (fun i (PS : List PG) σ g' n' => σ 4 = .int .i64 (i : Nat) ∧ g' n = some (.cells 60 (PS.flatMap pgc)) ∧ Pgs PS (pgAt (l.take i)) ∧ (∀ j, j < n → g' j = g j) ∧ n < n') ?_ ?_ PS0 ⟨rfl, hG, hP0, hfr, hN⟩
  · rintro i PS σ g2 n2 hi ⟨k4, hg2, hF, hf2, hn2⟩ ih
    refine w_keep (i := 4) k4 ?_
    obtain ⟨x, hx⟩ : ∃ x, l[i]? = some x := ⟨_, List.getElem?_eq_getElem hi⟩
    have hxm : x ∈ l := List.mem_of_getElem? hx
    have hpx := hl.pos hxm
    have hmx := (may_iff x).1 (hl.may x hxm)
    have htk : l.take (i + 1) = l.take i ++ [x] := by rw [List.take_add_one, hx]; rfl
    have hdis : ∀ y ∈ l.take i, y.t ≤ x.f := fun y hy => by
      obtain ⟨j, hj⟩ := List.mem_iff_getElem?.1 hy
      rw [List.getElem?_take] at hj
      split at hj
      · rename_i hji
        obtain ⟨g1, e1⟩ := List.getElem?_eq_some_iff.1 hj
        obtain ⟨g2, e2⟩ := List.getElem?_eq_some_iff.1 hx
        have := List.pairwise_iff_getElem.1 hl.pw j i g1 g2 hji
        rw [e1, e2] at this
        exact this.1
      · cases hj
    have hold : ∀ q : Nat, x.f ≤ q → (findS (q : Int) (l.take i)).2 = false := fun q hq => by
      cases hh : (findS (q : Int) (l.take i)).2 with
      | false => rfl
      | true =>
        obtain ⟨h1, h2⟩ := find_iff hh
        have := hdis _ h1
        unfold In at h2
        omega
    obtain ⟨fx, hfx⟩ : ∃ fx : Nat, x.f = (fx : Int) := ⟨x.f.toNat, by omega⟩
    repeat' (first
      | ((with_reducible apply g_op); first
        | ((with_reducible apply g_load); first
          | ((with_reducible apply w_fl (v := .int _ _)); exact rfl; exact (fun _ => rfl); assumption; exact rfl))
        | ((with_reducible apply g_move); first
          | ((with_reducible apply w_pure (v := .int _ _)); exact rfl; exact rfl)
          | ((with_reducible apply w_pure (v := .func _ _ _)); exact rfl; exact rfl))
        | ((with_reducible apply g_bin); first
          | ((with_reducible apply w_pure (v := .bool _)); exact rfl; exact rfl))
        | ((with_reducible apply g_fld); first
          | ((with_reducible apply w_ffld (o := 0)); exact rfl; exact rfl; exact rfl; exact (by decide)))
        | ((with_reducible apply g_assign); first
          | ((with_reducible apply w_pure (v := .int _ _)); exact rfl; exact rfl))
        | ((with_reducible apply g_call); first
          | ((with_reducible apply w_call (v := .int _ _)); exact rfl))
        | ((with_reducible apply g_ix); first
          | ((with_reducible apply w_fx (sz := 6)); exact rfl; exact rfl; exact rfl; exact rfl; exact rfl; exact (fun _ => rfl); assumption; exact rfl)))
      | with_reducible refine w_seq ?_
      | with_reducible refine w_nil ?_
      | with_reducible refine w_region ?_
      | with_reducible refine w_skip ?_
      | with_reducible refine w_block ?_
      | ((with_reducible apply w_ifd); exact rfl; all_goals (intro hc; first | (exfalso; omega) | skip)))
    refine w_whileK [(5, 6), (19, 55)] (α := Nat × List PG) (fun b σ g' n' => σ 5 = .int .i64 (b.1 : Nat) ∧ g' n = some (.cells 60 (b.2.flatMap pgc)) ∧ Pgs b.2 (fun q => if fx ≤ q ∧ q < b.1 then (pageOf x q, true) else pgAt (l.take i) q) ∧ (∀ j, j < n → g' j = g j) ∧ n < n' ∧ fx ≤ b.1 ∧ (b.1 : Int) ≤ x.t) (fun b => x.t.toNat - b.1) ?_ (fx, PS) ⟨by rw [← hfx]; rfl, hg2, hF.fn (fun q hq => by rw [if_neg (by dsimp only; omega)]), hf2, hn2, Nat.le_refl _, by dsimp only; omega⟩
    rintro ⟨p, PS'⟩ σ3 g3 n3 ⟨k5, hg3, hF', hf3, hn3, hp1, hp2⟩ ih2
    dsimp only at k5 hg3 hF' hp1 hp2
    refine w_keep (i := 5) k5 ?_
    by_cases hpt : (p : Int) < x.t
    · have hp4 : p < 4096 := by omega
      have hset := hF'.set p (pageOf x p, true)
      have hw : ∀ us, us = pgc (pageOf x p, true) → wrCells (PS'.flatMap pgc) (0 + ((p : Int)).toNat * 7) us = some ((PS'.set p (pageOf x p, true)).flatMap pgc) := fun us hu => by
        subst hu
        rw [show 0 + ((p : Int)).toNat * 7 = p * 7 + 0 by omega]
        exact wr_flat (enc := pgc) (sz := 7) (c := 0) (us := pgc (pageOf x p, true)) (y' := (pageOf x p, true)) pgc_len (show 0 + 7 ≤ 7 by decide) rfl (hF'.at_ p hp4)
      have hfin : Pgs (PS'.set p (pageOf x p, true)) (fun q => if fx ≤ q ∧ q < p + 1 then (pageOf x q, true) else pgAt (l.take i) q) := hset.fn fun q hq => by
        by_cases e : q = p
        · subst e; rw [if_pos rfl, if_pos (by omega)]
        · rw [if_neg e]
          by_cases h2 : fx ≤ q ∧ q < p
          · rw [if_pos h2, if_pos (by omega)]
          · rw [if_neg h2, if_neg (by omega)]
      by_cases hk1 : x.k = 1
      · repeat' (first
          | ((with_reducible apply g_op); first
            | ((with_reducible apply g_load); first
              | ((with_reducible apply w_fl (v := .int _ _)); exact rfl; exact (fun _ => rfl); assumption; exact rfl)
              | ((with_reducible apply w_fl (v := .agg #[_, _, _, _, _, _])); exact rfl; exact (fun _ => rfl); assumption; exact rfl)
              | ((with_reducible apply w_load (v := .int _ _)); exact rfl; (first | assumption | (simp (disch := omega) only [upd_same, upd_ne]; first | done | assumption | exact rfl) | exact rfl); exact rfl)
              | ((with_reducible apply w_load (v := .agg #[_, _, _, _, _, _])); exact rfl; (first | assumption | (simp (disch := omega) only [upd_same, upd_ne]; first | done | assumption | exact rfl) | exact rfl); exact rfl))
            | ((with_reducible apply g_move); first
              | ((with_reducible apply w_pure (v := .int _ _)); exact rfl; exact rfl)
              | ((with_reducible apply w_pure (v := .slice _ _ _)); exact rfl; exact rfl)
              | ((with_reducible apply w_pure (v := .func _ _ _)); exact rfl; exact rfl))
            | ((with_reducible apply g_bin); first
              | ((with_reducible apply w_wrap); exact rfl; exact rfl; first | exact i64_in _ (by omega) | exact u64_in _ (by omega) | exact u8_in _ (by omega))
              | ((with_reducible apply w_pure (v := .bool _)); exact rfl; exact rfl))
            | ((with_reducible apply g_fld); first
              | ((with_reducible apply w_fldp (o := 0)); exact rfl; exact rfl; exact rfl; exact (by decide))
              | ((with_reducible apply w_fldp (o := 1)); exact rfl; exact rfl; exact rfl; exact (by decide))
              | ((with_reducible apply w_fldp (o := 3)); exact rfl; exact rfl; exact rfl; exact (by decide))
              | ((with_reducible apply w_fldp (o := 5)); exact rfl; exact rfl; exact rfl; exact (by decide))
              | ((with_reducible apply w_ffld (o := 0)); exact rfl; exact rfl; exact rfl; exact (by decide))
              | ((with_reducible apply w_ffld (o := 1)); exact rfl; exact rfl; exact rfl; exact (by decide)))
            | ((with_reducible apply g_store); first
              | ((with_reducible apply w_store (us := [.int _ _]) (ws := [_, _, _, _, _, _])); exact rfl; exact rfl; (first | assumption | (simp (disch := omega) only [upd_same, upd_ne]; first | done | assumption | exact rfl) | exact rfl); omega; exact rfl; exact rfl; exact rfl)
              | ((with_reducible apply w_store (us := [_, _, _, _, _, _]) (ws := [_, _, _, _, _, _])); exact rfl; exact rfl; (first | assumption | (simp (disch := omega) only [upd_same, upd_ne]; first | done | assumption | exact rfl) | exact rfl); omega; exact rfl; exact rfl; exact rfl))
            | ((with_reducible apply g_build); first
              | ((with_reducible apply w_pure (v := .agg #[_, _, _, _, _, _, _])); exact rfl; exact rfl))
            | ((with_reducible apply g_ix); first
              | ((with_reducible apply w_fx (sz := 6)); exact rfl; exact rfl; exact rfl; exact rfl; exact rfl; exact (fun _ => rfl); assumption; exact rfl)
              | ((with_reducible apply w_ixr (sz := 7)); exact rfl; exact rfl; exact rfl; exact rfl; omega; omega))
            | ((with_reducible apply w_alloc (ls := [_, _, _, _, _, _])); exact rfl; exact rfl))
          | with_reducible refine w_seq ?_
          | with_reducible refine w_nil ?_
          | with_reducible refine w_region ?_
          | with_reducible refine w_skip ?_
          | with_reducible refine w_block ?_
          | ((with_reducible apply w_draw); kernel_rfl; kernel_rfl)
          | ((with_reducible apply w_ifd); exact rfl; all_goals (intro hc; first | (exfalso; omega) | skip)))
        refine w_store (us := [_, _, _, _, _, _, _]) (ws := (PS'.set p (pageOf x p, true)).flatMap pgc) rfl rfl (by simp (disch := omega) only [upd_ne]; exact hg3) (by omega) rfl rfl (hw _ (by unfold pageOf; rw [if_pos hk1]; rfl)) ?_
        repeat' (first
          | ((with_reducible apply g_op); first
            | ((with_reducible apply g_move); first
              | ((with_reducible apply w_pure (v := .int _ _)); exact rfl; exact rfl))
            | ((with_reducible apply g_bin); first
              | ((with_reducible apply w_wrap); exact rfl; exact rfl; first | exact i64_in _ (by omega) | exact u64_in _ (by omega) | exact u8_in _ (by omega)))
            | ((with_reducible apply g_assign); first
              | ((with_reducible apply w_pure (v := .int _ _)); exact rfl; exact rfl)))
          | with_reducible refine w_nil ?_
          | with_reducible refine w_region ?_
          | with_reducible refine w_blk ?_)
        exact ih2 (p + 1, PS'.set p (pageOf x p, true)) _ _ _ (by dsimp only; omega) (by repeat' (first | with_reducible exact Fr.mix | with_reducible exact Fr.rfl' | with_reducible refine Fr.put ?_ ?_ | with_reducible refine Fr.mix2 ?_ ?_ | with_reducible refine Fr.put0 ?_ | exact rfl)) ⟨by push_cast; rfl, upd_same, hfin, fun j hj => by simp (disch := omega) only [upd_ne]; exact hf3 j hj, by omega, by dsimp only; omega, by dsimp only; omega⟩
      · repeat' (first
          | ((with_reducible apply g_op); first
            | ((with_reducible apply g_load); first
              | ((with_reducible apply w_fl (v := .int _ _)); exact rfl; exact (fun _ => rfl); assumption; exact rfl)
              | ((with_reducible apply w_fl (v := .agg #[_, _, _, _, _, _])); exact rfl; exact (fun _ => rfl); assumption; exact rfl)
              | ((with_reducible apply w_load (v := .int _ _)); exact rfl; (first | assumption | (simp (disch := omega) only [upd_same, upd_ne]; first | done | assumption | exact rfl) | exact rfl); exact rfl)
              | ((with_reducible apply w_load (v := .agg #[_, _, _, _, _, _])); exact rfl; (first | assumption | (simp (disch := omega) only [upd_same, upd_ne]; first | done | assumption | exact rfl) | exact rfl); exact rfl))
            | ((with_reducible apply g_move); first
              | ((with_reducible apply w_pure (v := .int _ _)); exact rfl; exact rfl)
              | ((with_reducible apply w_pure (v := .slice _ _ _)); exact rfl; exact rfl)
              | ((with_reducible apply w_pure (v := .func _ _ _)); exact rfl; exact rfl))
            | ((with_reducible apply g_bin); first
              | ((with_reducible apply w_wrap); exact rfl; exact rfl; first | exact i64_in _ (by omega) | exact u64_in _ (by omega) | exact u8_in _ (by omega))
              | ((with_reducible apply w_pure (v := .bool _)); exact rfl; exact rfl))
            | ((with_reducible apply g_fld); first
              | ((with_reducible apply w_fldp (o := 0)); exact rfl; exact rfl; exact rfl; exact (by decide))
              | ((with_reducible apply w_fldp (o := 1)); exact rfl; exact rfl; exact rfl; exact (by decide))
              | ((with_reducible apply w_fldp (o := 3)); exact rfl; exact rfl; exact rfl; exact (by decide))
              | ((with_reducible apply w_ffld (o := 1)); exact rfl; exact rfl; exact rfl; exact (by decide)))
            | ((with_reducible apply g_store); first
              | ((with_reducible apply w_store (us := [.int _ _]) (ws := [_, _, _, _, _, _])); exact rfl; exact rfl; (first | assumption | (simp (disch := omega) only [upd_same, upd_ne]; first | done | assumption | exact rfl) | exact rfl); omega; exact rfl; exact rfl; exact rfl)
              | ((with_reducible apply w_store (us := [_, _, _, _, _, _]) (ws := [_, _, _, _, _, _])); exact rfl; exact rfl; (first | assumption | (simp (disch := omega) only [upd_same, upd_ne]; first | done | assumption | exact rfl) | exact rfl); omega; exact rfl; exact rfl; exact rfl))
            | ((with_reducible apply g_build); first
              | ((with_reducible apply w_pure (v := .agg #[_, _, _, _, _, _, _])); exact rfl; exact rfl))
            | ((with_reducible apply g_ix); first
              | ((with_reducible apply w_fx (sz := 6)); exact rfl; exact rfl; exact rfl; exact rfl; exact rfl; exact (fun _ => rfl); assumption; exact rfl)
              | ((with_reducible apply w_ixr (sz := 7)); exact rfl; exact rfl; exact rfl; exact rfl; omega; omega))
            | ((with_reducible apply w_alloc (ls := [_, _, _, _, _, _])); exact rfl; exact rfl))
          | with_reducible refine w_seq ?_
          | with_reducible refine w_nil ?_
          | with_reducible refine w_region ?_
          | with_reducible refine w_skip ?_
          | with_reducible refine w_block ?_
          | ((with_reducible apply w_ifd); exact rfl; all_goals (intro hc; first | (exfalso; omega) | skip)))
        refine w_store (us := [_, _, _, _, _, _, _]) (ws := (PS'.set p (pageOf x p, true)).flatMap pgc) rfl rfl (by simp (disch := omega) only [upd_ne]; exact hg3) (by omega) rfl rfl (hw _ (by unfold pageOf; rw [if_neg hk1]; rfl)) ?_
        repeat' (first
          | ((with_reducible apply g_op); first
            | ((with_reducible apply g_move); first
              | ((with_reducible apply w_pure (v := .int _ _)); exact rfl; exact rfl))
            | ((with_reducible apply g_bin); first
              | ((with_reducible apply w_wrap); exact rfl; exact rfl; first | exact i64_in _ (by omega) | exact u64_in _ (by omega) | exact u8_in _ (by omega)))
            | ((with_reducible apply g_assign); first
              | ((with_reducible apply w_pure (v := .int _ _)); exact rfl; exact rfl)))
          | with_reducible refine w_nil ?_
          | with_reducible refine w_region ?_
          | with_reducible refine w_blk ?_)
        exact ih2 (p + 1, PS'.set p (pageOf x p, true)) _ _ _ (by dsimp only; omega) (by repeat' (first | with_reducible exact Fr.mix | with_reducible exact Fr.rfl' | with_reducible refine Fr.put ?_ ?_ | with_reducible refine Fr.mix2 ?_ ?_ | with_reducible refine Fr.put0 ?_ | exact rfl)) ⟨by push_cast; rfl, upd_same, hfin, fun j hj => by simp (disch := omega) only [upd_ne]; exact hf3 j hj, by omega, by dsimp only; omega, by dsimp only; omega⟩
    · repeat' (first
        | ((with_reducible apply g_op); first
          | ((with_reducible apply g_load); first
            | ((with_reducible apply w_fl (v := .int _ _)); exact rfl; exact (fun _ => rfl); assumption; exact rfl))
          | ((with_reducible apply g_move); first
            | ((with_reducible apply w_pure (v := .int _ _)); exact rfl; exact rfl)
            | ((with_reducible apply w_pure (v := .func _ _ _)); exact rfl; exact rfl))
          | ((with_reducible apply g_bin); first
            | ((with_reducible apply w_wrap); exact rfl; exact rfl; first | exact i64_in _ (by omega) | exact u64_in _ (by omega) | exact u8_in _ (by omega))
            | ((with_reducible apply w_pure (v := .bool _)); exact rfl; exact rfl))
          | ((with_reducible apply g_fld); first
            | ((with_reducible apply w_ffld (o := 1)); exact rfl; exact rfl; exact rfl; exact (by decide)))
          | ((with_reducible apply g_assign); first
            | ((with_reducible apply w_pure (v := .int _ _)); exact rfl; exact rfl))
          | ((with_reducible apply g_ix); first
            | ((with_reducible apply w_fx (sz := 6)); exact rfl; exact rfl; exact rfl; exact rfl; exact rfl; exact (fun _ => rfl); assumption; exact rfl)))
        | with_reducible refine w_seq ?_
        | with_reducible refine w_nil ?_
        | with_reducible refine w_region ?_
        | with_reducible refine w_blk ?_
        | ((with_reducible apply w_exit); exact rfl)
        | ((with_reducible apply w_ifd); exact rfl; all_goals (intro hc; first | (exfalso; omega) | skip)))
      refine ih PS' _ _ _ (by repeat' (first | with_reducible exact Fr.mix | with_reducible exact Fr.rfl' | with_reducible refine Fr.put ?_ ?_ | with_reducible refine Fr.mix2 ?_ ?_ | with_reducible refine Fr.put0 ?_ | exact rfl)) ⟨by push_cast; rfl, hg3, hF'.fn fun q hq => ?_, hf3, hn3⟩
      rw [htk]
      unfold pgAt
      rw [find_app]
      by_cases hq2 : fx ≤ q ∧ q < p
      · rw [if_pos hq2, hold q (by omega)]
        have hi : findS (q : Int) [x] = (x, true) := by unfold findS; rw [if_pos (by omega)]
        simp [hi]
      · rw [if_neg hq2]
        cases hh : (findS (q : Int) (l.take i)).2 with
        | true => simp [hh]
        | false =>
          have hi : findS (q : Int) [x] = (.zero, false) := by unfold findS; rw [if_neg (by omega)]; rfl
          simp [hi]
  · rintro PS σ g2 n2 ⟨k4, hg2, hF, hf2, hn2⟩
    refine w_keep (i := 4) k4 ?_
    repeat' (first
      | ((with_reducible apply g_op); first
        | ((with_reducible apply g_move); first
          | ((with_reducible apply w_pure (v := .int _ _)); exact rfl; exact rfl)
          | ((with_reducible apply w_pure (v := .slice _ _ _)); exact rfl; exact rfl)
          | ((with_reducible apply w_pure (v := .func _ _ _)); exact rfl; exact rfl))
        | ((with_reducible apply g_bin); first
          | ((with_reducible apply w_pure (v := .bool _)); exact rfl; exact rfl))
        | ((with_reducible apply g_assign); first
          | ((with_reducible apply w_pure (v := .slice _ _ _)); exact rfl; exact rfl))
        | ((with_reducible apply g_call); first
          | ((with_reducible apply w_call (v := .int _ _)); exact rfl)))
      | with_reducible refine w_seq ?_
      | with_reducible refine w_nil ?_
      | with_reducible refine w_region ?_
      | ((with_reducible apply w_exit); exact rfl)
      | ((with_reducible apply w_ifd); exact rfl; all_goals (intro hc; first | (exfalso; omega) | skip))
      | ((with_reducible apply w_ret (v := .slice _ _ _)); exact rfl))
    rw [if_neg (by simp [flat, flat2, flat1])]
    rw [List.take_length] at hF
    exact ⟨rfl, ⟨PS, hF, hg2⟩, hf2, hn2⟩
theorem spread1_run (x : Rg) (hm : may x = true) (g : Nat → Option Ob) (i0 n m : Nat) (hi0 : i0 < n) (hg0 : g i0 = some (.cells 23 [.int .i64 x.f, .int .i64 x.t, .int .i64 x.p, .int .i64 x.k, .int .i64 x.l, .int .i64 x.g])) : Rn Try.prog T 25 [slc i0 0 1] g n m (fun v g' n' => v = slc n 0 4096 ∧ (∃ PS, Pgs PS (pgAt [x]) ∧ g' n = some (.cells 60 (PS.flatMap pgc))) ∧ (∀ j, j < n → g' j = g j) ∧ n < n') := by
  refine c_clean Try.func25 rfl rfl rfl rfl rfl rfl ?_
  repeat' (first
    | ((with_reducible apply g_op); first
      | ((with_reducible apply g_assign); first
        | ((with_reducible apply w_pure (v := .slice _ _ _)); exact rfl; exact rfl)))
    | with_reducible refine w_seq ?_
    | with_reducible refine w_nil ?_
    | with_reducible refine w_region ?_)
  refine w_mks (nn := 4096) (by_ := 56) (sz := 7) rfl rfl rfl rfl rfl rfl rfl (by decide) ?_
  refine w_gen (fun G N => (∃ PS, Pgs PS (fun _ => (Rg.zero, false)) ∧ G n = some (.cells 60 (PS.flatMap pgc))) ∧ (∀ j, j < n → G j = g j) ∧ n < N) ⟨?_, fun j hj => upd_ne (by omega), by omega⟩ ?_
  · obtain ⟨PS, h1, h2, h3⟩ := zeroRow 4096
    exact ⟨PS, ⟨h2, h3⟩, upd_same.trans (congrArg (fun x => some (Ob.cells 60 x)) h1)⟩
  rintro G N ⟨⟨PS0, hP0, hG⟩, hfr, hN⟩
  have hmx := (may_iff x).1 hm
  obtain ⟨fx, hfx⟩ : ∃ fx : Nat, x.f = (fx : Int) := ⟨x.f.toNat, by omega⟩
  have hx0 : G i0 = some (.cells 23 [.int .i64 x.f, .int .i64 x.t, .int .i64 x.p, .int .i64 x.k, .int .i64 x.l, .int .i64 x.g]) := (hfr i0 hi0).trans hg0
  repeat' (first
    | ((with_reducible apply g_op); first
      | ((with_reducible apply g_assign); first
        | ((with_reducible apply w_pure (v := .int _ _)); exact rfl; exact rfl)
        | ((with_reducible apply w_pure (v := .slice _ _ _)); exact rfl; exact rfl)))
    | with_reducible refine w_seq ?_
    | with_reducible refine w_nil ?_
    | with_reducible refine w_region ?_
    | with_reducible refine w_block ?_)
  refine w_unroll ?_
  repeat' (first
    | ((with_reducible apply g_op); first
      | ((with_reducible apply g_load); first
        | ((with_reducible apply w_load (v := .int _ _)); exact rfl; (first | assumption | (simp (disch := omega) only [upd_same, upd_ne]; first | done | assumption | exact rfl) | exact rfl); exact rfl))
      | ((with_reducible apply g_move); first
        | ((with_reducible apply w_pure (v := .int _ _)); exact rfl; exact rfl)
        | ((with_reducible apply w_pure (v := .slice _ _ _)); exact rfl; exact rfl))
      | ((with_reducible apply g_bin); first
        | ((with_reducible apply w_pure (v := .bool _)); exact rfl; exact rfl))
      | ((with_reducible apply g_fld); first
        | ((with_reducible apply w_fldp (o := 0)); exact rfl; exact rfl; exact rfl; exact (by decide)))
      | ((with_reducible apply g_assign); first
        | ((with_reducible apply w_pure (v := .int _ _)); exact rfl; exact rfl))
      | ((with_reducible apply g_call); first
        | ((with_reducible apply w_call (v := .int _ _)); exact rfl))
      | ((with_reducible apply g_ix); first
        | ((with_reducible apply w_ixr (sz := 6)); exact rfl; exact rfl; exact rfl; exact rfl; omega; omega)))
    | with_reducible refine w_seq ?_
    | with_reducible refine w_nil ?_
    | with_reducible refine w_region ?_
    | with_reducible refine w_skip ?_
    | with_reducible refine w_block ?_
    | ((with_reducible apply w_yes); exact rfl))
  refine w_whileK [(5, 6), (19, 55)] (α := Nat × List PG) (fun b σ g' n' => σ 5 = .int .i64 (b.1 : Nat) ∧ g' n = some (.cells 60 (b.2.flatMap pgc)) ∧ Pgs b.2 (fun q => if fx ≤ q ∧ q < b.1 then (pageOf x q, true) else (Rg.zero, false)) ∧ (∀ j, j < n → g' j = g j) ∧ n < n' ∧ fx ≤ b.1 ∧ (b.1 : Int) ≤ x.t) (fun b => x.t.toNat - b.1) ?_ (fx, PS0) ⟨by rw [← hfx]; rfl, hG, hP0.fn (fun q hq => by rw [if_neg (by dsimp only; omega)]), hfr, hN, Nat.le_refl _, by dsimp only; omega⟩
  rintro ⟨p, PS'⟩ σ3 g3 n3 ⟨k5, hg3, hF', hf3, hn3, hp1, hp2⟩ ih2
  dsimp only at k5 hg3 hF' hp1 hp2
  refine w_keep (i := 5) k5 ?_
  have hx3 : g3 i0 = some (.cells 23 [.int .i64 x.f, .int .i64 x.t, .int .i64 x.p, .int .i64 x.k, .int .i64 x.l, .int .i64 x.g]) := (hf3 i0 hi0).trans hg0
  by_cases hpt : (p : Int) < x.t
  · have hp4 : p < 4096 := by omega
    have hset := hF'.set p (pageOf x p, true)
    have hw : ∀ us, us = pgc (pageOf x p, true) → wrCells (PS'.flatMap pgc) (0 + ((p : Int)).toNat * 7) us = some ((PS'.set p (pageOf x p, true)).flatMap pgc) := fun us hu => by
      subst hu
      rw [show 0 + ((p : Int)).toNat * 7 = p * 7 + 0 by omega]
      exact wr_flat (enc := pgc) (sz := 7) (c := 0) (us := pgc (pageOf x p, true)) (y' := (pageOf x p, true)) pgc_len (show 0 + 7 ≤ 7 by decide) rfl (hF'.at_ p hp4)
    have hfin : Pgs (PS'.set p (pageOf x p, true)) (fun q => if fx ≤ q ∧ q < p + 1 then (pageOf x q, true) else (Rg.zero, false)) := hset.fn fun q hq => by
      by_cases e : q = p
      · subst e; rw [if_pos rfl, if_pos (by omega)]
      · rw [if_neg e]
        by_cases h2 : fx ≤ q ∧ q < p
        · rw [if_pos h2, if_pos (by omega)]
        · rw [if_neg h2, if_neg (by omega)]
    by_cases hk1 : x.k = 1
    · repeat' (first
        | ((with_reducible apply g_op); first
          | ((with_reducible apply g_load); first
            | ((with_reducible apply w_load (v := .int _ _)); exact rfl; (first | assumption | (simp (disch := omega) only [upd_same, upd_ne]; first | done | assumption | exact rfl) | exact rfl); exact rfl)
            | ((with_reducible apply w_load (v := .agg #[_, _, _, _, _, _])); exact rfl; (first | assumption | (simp (disch := omega) only [upd_same, upd_ne]; first | done | assumption | exact rfl) | exact rfl); exact rfl))
          | ((with_reducible apply g_move); first
            | ((with_reducible apply w_pure (v := .int _ _)); exact rfl; exact rfl)
            | ((with_reducible apply w_pure (v := .slice _ _ _)); exact rfl; exact rfl))
          | ((with_reducible apply g_bin); first
            | ((with_reducible apply w_wrap); exact rfl; exact rfl; first | exact i64_in _ (by omega) | exact u64_in _ (by omega) | exact u8_in _ (by omega))
            | ((with_reducible apply w_pure (v := .bool _)); exact rfl; exact rfl))
          | ((with_reducible apply g_fld); first
            | ((with_reducible apply w_fldp (o := 0)); exact rfl; exact rfl; exact rfl; exact (by decide))
            | ((with_reducible apply w_fldp (o := 1)); exact rfl; exact rfl; exact rfl; exact (by decide))
            | ((with_reducible apply w_fldp (o := 3)); exact rfl; exact rfl; exact rfl; exact (by decide))
            | ((with_reducible apply w_fldp (o := 5)); exact rfl; exact rfl; exact rfl; exact (by decide)))
          | ((with_reducible apply g_store); first
            | ((with_reducible apply w_store (us := [.int _ _]) (ws := [_, _, _, _, _, _])); exact rfl; exact rfl; (first | assumption | (simp (disch := omega) only [upd_same, upd_ne]; first | done | assumption | exact rfl) | exact rfl); omega; exact rfl; exact rfl; exact rfl)
            | ((with_reducible apply w_store (us := [_, _, _, _, _, _]) (ws := [_, _, _, _, _, _])); exact rfl; exact rfl; (first | assumption | (simp (disch := omega) only [upd_same, upd_ne]; first | done | assumption | exact rfl) | exact rfl); omega; exact rfl; exact rfl; exact rfl))
          | ((with_reducible apply g_build); first
            | ((with_reducible apply w_pure (v := .agg #[_, _, _, _, _, _, _])); exact rfl; exact rfl))
          | ((with_reducible apply g_ix); first
            | ((with_reducible apply w_ixr (sz := 6)); exact rfl; exact rfl; exact rfl; exact rfl; omega; omega)
            | ((with_reducible apply w_ixr (sz := 7)); exact rfl; exact rfl; exact rfl; exact rfl; omega; omega))
          | ((with_reducible apply w_alloc (ls := [_, _, _, _, _, _])); exact rfl; exact rfl))
        | with_reducible refine w_seq ?_
        | with_reducible refine w_nil ?_
        | with_reducible refine w_region ?_
        | with_reducible refine w_skip ?_
        | with_reducible refine w_block ?_
        | ((with_reducible apply w_draw); kernel_rfl; kernel_rfl)
        | ((with_reducible apply w_ifd); exact rfl; all_goals (intro hc; first | (exfalso; omega) | skip)))
      refine w_store (us := [_, _, _, _, _, _, _]) (ws := (PS'.set p (pageOf x p, true)).flatMap pgc) rfl rfl (by simp (disch := omega) only [upd_ne]; exact hg3) (by omega) rfl rfl (hw _ (by unfold pageOf; rw [if_pos hk1]; rfl)) ?_
      repeat' (first
        | ((with_reducible apply g_op); first
          | ((with_reducible apply g_move); first
            | ((with_reducible apply w_pure (v := .int _ _)); exact rfl; exact rfl))
          | ((with_reducible apply g_bin); first
            | ((with_reducible apply w_wrap); exact rfl; exact rfl; first | exact i64_in _ (by omega) | exact u64_in _ (by omega) | exact u8_in _ (by omega)))
          | ((with_reducible apply g_assign); first
            | ((with_reducible apply w_pure (v := .int _ _)); exact rfl; exact rfl)))
        | with_reducible refine w_nil ?_
        | with_reducible refine w_region ?_
        | with_reducible refine w_blk ?_)
      exact ih2 (p + 1, PS'.set p (pageOf x p, true)) _ _ _ (by dsimp only; omega) (by repeat' (first | with_reducible exact Fr.mix | with_reducible exact Fr.rfl' | with_reducible refine Fr.put ?_ ?_ | with_reducible refine Fr.mix2 ?_ ?_ | with_reducible refine Fr.put0 ?_ | exact rfl)) ⟨by push_cast; rfl, upd_same, hfin, fun j hj => by simp (disch := omega) only [upd_ne]; exact hf3 j hj, by omega, by dsimp only; omega, by dsimp only; omega⟩
    · repeat' (first
        | ((with_reducible apply g_op); first
          | ((with_reducible apply g_load); first
            | ((with_reducible apply w_load (v := .int _ _)); exact rfl; (first | assumption | (simp (disch := omega) only [upd_same, upd_ne]; first | done | assumption | exact rfl) | exact rfl); exact rfl)
            | ((with_reducible apply w_load (v := .agg #[_, _, _, _, _, _])); exact rfl; (first | assumption | (simp (disch := omega) only [upd_same, upd_ne]; first | done | assumption | exact rfl) | exact rfl); exact rfl))
          | ((with_reducible apply g_move); first
            | ((with_reducible apply w_pure (v := .int _ _)); exact rfl; exact rfl)
            | ((with_reducible apply w_pure (v := .slice _ _ _)); exact rfl; exact rfl))
          | ((with_reducible apply g_bin); first
            | ((with_reducible apply w_wrap); exact rfl; exact rfl; first | exact i64_in _ (by omega) | exact u64_in _ (by omega) | exact u8_in _ (by omega))
            | ((with_reducible apply w_pure (v := .bool _)); exact rfl; exact rfl))
          | ((with_reducible apply g_fld); first
            | ((with_reducible apply w_fldp (o := 0)); exact rfl; exact rfl; exact rfl; exact (by decide))
            | ((with_reducible apply w_fldp (o := 1)); exact rfl; exact rfl; exact rfl; exact (by decide))
            | ((with_reducible apply w_fldp (o := 3)); exact rfl; exact rfl; exact rfl; exact (by decide)))
          | ((with_reducible apply g_store); first
            | ((with_reducible apply w_store (us := [.int _ _]) (ws := [_, _, _, _, _, _])); exact rfl; exact rfl; (first | assumption | (simp (disch := omega) only [upd_same, upd_ne]; first | done | assumption | exact rfl) | exact rfl); omega; exact rfl; exact rfl; exact rfl)
            | ((with_reducible apply w_store (us := [_, _, _, _, _, _]) (ws := [_, _, _, _, _, _])); exact rfl; exact rfl; (first | assumption | (simp (disch := omega) only [upd_same, upd_ne]; first | done | assumption | exact rfl) | exact rfl); omega; exact rfl; exact rfl; exact rfl))
          | ((with_reducible apply g_build); first
            | ((with_reducible apply w_pure (v := .agg #[_, _, _, _, _, _, _])); exact rfl; exact rfl))
          | ((with_reducible apply g_ix); first
            | ((with_reducible apply w_ixr (sz := 6)); exact rfl; exact rfl; exact rfl; exact rfl; omega; omega)
            | ((with_reducible apply w_ixr (sz := 7)); exact rfl; exact rfl; exact rfl; exact rfl; omega; omega))
          | ((with_reducible apply w_alloc (ls := [_, _, _, _, _, _])); exact rfl; exact rfl))
        | with_reducible refine w_seq ?_
        | with_reducible refine w_nil ?_
        | with_reducible refine w_region ?_
        | with_reducible refine w_skip ?_
        | with_reducible refine w_block ?_
        | ((with_reducible apply w_ifd); exact rfl; all_goals (intro hc; first | (exfalso; omega) | skip)))
      refine w_store (us := [_, _, _, _, _, _, _]) (ws := (PS'.set p (pageOf x p, true)).flatMap pgc) rfl rfl (by simp (disch := omega) only [upd_ne]; exact hg3) (by omega) rfl rfl (hw _ (by unfold pageOf; rw [if_neg hk1]; rfl)) ?_
      repeat' (first
        | ((with_reducible apply g_op); first
          | ((with_reducible apply g_move); first
            | ((with_reducible apply w_pure (v := .int _ _)); exact rfl; exact rfl))
          | ((with_reducible apply g_bin); first
            | ((with_reducible apply w_wrap); exact rfl; exact rfl; first | exact i64_in _ (by omega) | exact u64_in _ (by omega) | exact u8_in _ (by omega)))
          | ((with_reducible apply g_assign); first
            | ((with_reducible apply w_pure (v := .int _ _)); exact rfl; exact rfl)))
        | with_reducible refine w_nil ?_
        | with_reducible refine w_region ?_
        | with_reducible refine w_blk ?_)
      exact ih2 (p + 1, PS'.set p (pageOf x p, true)) _ _ _ (by dsimp only; omega) (by repeat' (first | with_reducible exact Fr.mix | with_reducible exact Fr.rfl' | with_reducible refine Fr.put ?_ ?_ | with_reducible refine Fr.mix2 ?_ ?_ | with_reducible refine Fr.put0 ?_ | exact rfl)) ⟨by push_cast; rfl, upd_same, hfin, fun j hj => by simp (disch := omega) only [upd_ne]; exact hf3 j hj, by omega, by dsimp only; omega, by dsimp only; omega⟩
  · repeat' (first
      | ((with_reducible apply g_op); first
        | ((with_reducible apply g_load); first
          | ((with_reducible apply w_load (v := .int _ _)); exact rfl; (first | assumption | (simp (disch := omega) only [upd_same, upd_ne]; first | done | assumption | exact rfl) | exact rfl); exact rfl))
        | ((with_reducible apply g_move); first
          | ((with_reducible apply w_pure (v := .int _ _)); exact rfl; exact rfl)
          | ((with_reducible apply w_pure (v := .slice _ _ _)); exact rfl; exact rfl))
        | ((with_reducible apply g_bin); first
          | ((with_reducible apply w_wrap); exact rfl; exact rfl; first | exact i64_in _ (by omega) | exact u64_in _ (by omega) | exact u8_in _ (by omega))
          | ((with_reducible apply w_pure (v := .bool _)); exact rfl; exact rfl))
        | ((with_reducible apply g_fld); first
          | ((with_reducible apply w_fldp (o := 1)); exact rfl; exact rfl; exact rfl; exact (by decide)))
        | ((with_reducible apply g_assign); first
          | ((with_reducible apply w_pure (v := .int _ _)); exact rfl; exact rfl))
        | ((with_reducible apply g_ix); first
          | ((with_reducible apply w_ixr (sz := 6)); exact rfl; exact rfl; exact rfl; exact rfl; omega; omega)))
      | with_reducible refine w_seq ?_
      | with_reducible refine w_nil ?_
      | with_reducible refine w_region ?_
      | with_reducible refine w_blk ?_
      | ((with_reducible apply w_exit); exact rfl)
      | ((with_reducible apply w_ifd); exact rfl; all_goals (intro hc; first | (exfalso; omega) | skip)))
    refine w_unroll ?_
    repeat' (first
      | ((with_reducible apply g_op); first
        | ((with_reducible apply g_move); first
          | ((with_reducible apply w_pure (v := .int _ _)); exact rfl; exact rfl)
          | ((with_reducible apply w_pure (v := .slice _ _ _)); exact rfl; exact rfl))
        | ((with_reducible apply g_bin); first
          | ((with_reducible apply w_pure (v := .bool _)); exact rfl; exact rfl))
        | ((with_reducible apply g_assign); first
          | ((with_reducible apply w_pure (v := .slice _ _ _)); exact rfl; exact rfl))
        | ((with_reducible apply g_call); first
          | ((with_reducible apply w_call (v := .int _ _)); exact rfl)))
      | with_reducible refine w_seq ?_
      | with_reducible refine w_nil ?_
      | with_reducible refine w_region ?_
      | ((with_reducible apply w_exit); exact rfl)
      | ((with_reducible apply w_no); exact rfl)
      | ((with_reducible apply w_ret (v := .slice _ _ _)); exact rfl))
    rw [if_neg (by simp [flat, flat2, flat1])]
    refine ⟨rfl, ⟨PS', hF'.fn fun q hq => ?_, hg3⟩, hf3, hn3⟩
    unfold pgAt
    by_cases hq2 : fx ≤ q ∧ q < p
    · have hi : findS (q : Int) [x] = (x, true) := by unfold findS; rw [if_pos (by omega)]
      rw [if_pos hq2]
      simp [hi]
    · have hi : findS (q : Int) [x] = (.zero, false) := by unfold findS; rw [if_neg (by omega)]; rfl
      rw [if_neg hq2]
      simp [hi]
end Go.Proofs.Ytnlgindlmlbfiaa.L

