/- Spread of rows as they come in a law; how many pages there are. -/
import Derived.Test.Ytnlgindlmlbfiaac15S
namespace Go.Proofs.Ytnlgindlmlbfiaa.L
open Go.L1 Go.IntWalk
set_option linter.unusedVariables false
set_option linter.unusedSimpArgs false
set_option maxHeartbeats 4000000
set_option maxRecDepth 20000
theorem spreadV_run (ta : Array Value) (l : List Rg) (hl : Can l) (hll : l.length ≤ 5000) (g : Nat → Option Ob) (n m : Nat) : Rn Try.prog T 25 [rv ta l] g n m (fun v g' n' => v = slc n 0 4096 ∧ (∃ PS, Pgs PS (pgAt l) ∧ g' n = some (.cells 60 (PS.flatMap pgc))) ∧ (∀ j, j < n → g' j = g j) ∧ n < n') := by
  refine c_clean Try.func25 rfl rfl rfl rfl rfl rfl ?_
  repeat' (first
    | ((with_reducible apply g_op); first
      | ((with_reducible apply g_assign); first
        | ((with_reducible apply w_pure (v := .slice _ _ _)); exact rfl; exact rfl)))
    | with_reducible refine w_seq ?_
    | with_reducible refine w_nil ?_
    | with_reducible refine w_region ?_)
  refine w_mks (nn := 4096) (by_ := 56) (sz := 7) rfl rfl rfl rfl rfl rfl rfl (by decide) ?_
  refine w_gen (fun G N => (∃ PS, Pgs PS (fun _ => (Rg.zero, false)) ∧ G n = some (.cells 60 (PS.flatMap pgc))) ∧ (∀ j, j < n → G j = g j) ∧ n < N) ⟨?_, fun j hj => upd_ne (by omega), by omega⟩ ?_
  · obtain ⟨PS, h1, h2, h3⟩ := zeroRow 4096
    exact ⟨PS, ⟨h2, h3⟩, upd_same.trans (congrArg (fun x => some (Ob.cells 60 x)) h1)⟩
  rintro G N ⟨⟨PS0, hP0, hG⟩, hfr, hN⟩
  repeat' (first
    | ((with_reducible apply g_op); first
      | ((with_reducible apply g_assign); first
        | ((with_reducible apply w_pure (v := .int _ _)); exact rfl; exact rfl)
        | ((with_reducible apply w_pure (v := .slice _ _ _)); exact rfl; exact rfl)))
    | with_reducible refine w_seq ?_
    | with_reducible refine w_nil ?_
    | with_reducible refine w_region ?_
    | with_reducible refine w_block ?_)
  refine w_cntK [(4, 6), (8, 55)] l.length (fun i (PS : List PG) σ g' n' => σ 4 = .int .i64 (i : Nat) ∧ g' n = some (.cells 60 (PS.flatMap pgc)) ∧ Pgs PS (pgAt (l.take i)) ∧ (∀ j, j < n → g' j = g j) ∧ n < n') ?_ ?_ PS0 ⟨rfl, hG, hP0, hfr, hN⟩
  · rintro i PS σ g2 n2 hi ⟨k4, hg2, hF, hf2, hn2⟩ ih
    refine w_keep (i := 4) k4 ?_
    obtain ⟨x, hx⟩ : ∃ x, l[i]? = some x := ⟨_, List.getElem?_eq_getElem hi⟩
    have hxm : x ∈ l := List.mem_of_getElem? hx
    have hpx := hl.pos hxm
    have hmx := (may_iff x).1 (hl.may x hxm)
    have htk : l.take (i + 1) = l.take i ++ [x] := by rw [List.take_add_one, hx]; rfl
    have hdis : ∀ y ∈ l.take i, y.t ≤ x.f := fun y hy => by
      obtain ⟨j, hj⟩ := List.mem_iff_getElem?.1 hy
      rw [List.getElem?_take] at hj
      split at hj
      · rename_i hji
        obtain ⟨g1, e1⟩ := List.getElem?_eq_some_iff.1 hj
        obtain ⟨g2, e2⟩ := List.getElem?_eq_some_iff.1 hx
        have := List.pairwise_iff_getElem.1 hl.pw j i g1 g2 hji
        rw [e1, e2] at this
        exact this.1
      · cases hj
    have hold : ∀ q : Nat, x.f ≤ q → (findS (q : Int) (l.take i)).2 = false := fun q hq => by
      cases hh : (findS (q : Int) (l.take i)).2 with
      | false => rfl
      | true =>
        obtain ⟨h1, h2⟩ := find_iff hh
        have := hdis _ h1
        unfold In at h2
        omega
    obtain ⟨fx, hfx⟩ : ∃ fx : Nat, x.f = (fx : Int) := ⟨x.f.toNat, by omega⟩
    repeat' (first
      | ((with_reducible apply g_op); first
        | ((with_reducible apply g_load); first
          | ((with_reducible apply w_fl (v := .int _ _)); exact rfl; exact (fun _ => rfl); assumption; exact rfl))
        | ((with_reducible apply g_move); first
          | ((with_reducible apply w_pure (v := .int _ _)); exact rfl; exact rfl)
          | ((with_reducible apply w_pure (v := .func _ _ _)); exact rfl; exact rfl))
        | ((with_reducible apply g_bin); first
          | ((with_reducible apply w_pure (v := .bool _)); exact rfl; exact rfl))
        | ((with_reducible apply g_fld); first
          | ((with_reducible apply w_ffld (o := 0)); exact rfl; exact rfl; exact rfl; exact (by decide)))
        | ((with_reducible apply g_assign); first
          | ((with_reducible apply w_pure (v := .int _ _)); exact rfl; exact rfl))
        | ((with_reducible apply g_call); first
          | ((with_reducible apply w_call (v := .int _ _)); exact rfl))
        | ((with_reducible apply g_ix); first
          | ((with_reducible apply w_fx (sz := 6)); exact rfl; exact rfl; exact rfl; exact rfl; exact rfl; exact (fun _ => rfl); assumption; exact rfl)))
      | with_reducible refine w_seq ?_
      | with_reducible refine w_nil ?_
      | with_reducible refine w_region ?_
      | with_reducible refine w_skip ?_
      | with_reducible refine w_block ?_
      | ((with_reducible apply w_ifd); exact rfl; all_goals (intro hc; first | (exfalso; omega) | skip)))
    refine w_whileK [(5, 6), (19, 55)] (α := Nat × List PG) (fun b σ g' n' => σ 5 = .int .i64 (b.1 : Nat) ∧ g' n = some (.cells 60 (b.2.flatMap pgc)) ∧ Pgs b.2 (fun q => if fx ≤ q ∧ q < b.1 then (pageOf x q, true) else pgAt (l.take i) q) ∧ (∀ j, j < n → g' j = g j) ∧ n < n' ∧ fx ≤ b.1 ∧ (b.1 : Int) ≤ x.t) (fun b => x.t.toNat - b.1) ?_ (fx, PS) ⟨by rw [← hfx]; rfl, hg2, hF.fn (fun q hq => by rw [if_neg (by dsimp only; omega)]), hf2, hn2, Nat.le_refl _, by dsimp only; omega⟩
    rintro ⟨p, PS'⟩ σ3 g3 n3 ⟨k5, hg3, hF', hf3, hn3, hp1, hp2⟩ ih2
    dsimp only at k5 hg3 hF' hp1 hp2
    refine w_keep (i := 5) k5 ?_
    by_cases hpt : (p : Int) < x.t
    · have hp4 : p < 4096 := by omega
      have hset := hF'.set p (pageOf x p, true)
      have hw : ∀ us, us = pgc (pageOf x p, true) → wrCells (PS'.flatMap pgc) (0 + ((p : Int)).toNat * 7) us = some ((PS'.set p (pageOf x p, true)).flatMap pgc) := fun us hu => by
        subst hu
        rw [show 0 + ((p : Int)).toNat * 7 = p * 7 + 0 by omega]
        exact wr_flat (enc := pgc) (sz := 7) (c := 0) (us := pgc (pageOf x p, true)) (y' := (pageOf x p, true)) pgc_len (show 0 + 7 ≤ 7 by decide) rfl (hF'.at_ p hp4)
      have hfin : Pgs (PS'.set p (pageOf x p, true)) (fun q => if fx ≤ q ∧ q < p + 1 then (pageOf x q, true) else pgAt (l.take i) q) := hset.fn fun q hq => by
        by_cases e : q = p
        · subst e; rw [if_pos rfl, if_pos (by omega)]
        · rw [if_neg e]
          by_cases h2 : fx ≤ q ∧ q < p
          · rw [if_pos h2, if_pos (by omega)]
          · rw [if_neg h2, if_neg (by omega)]
      by_cases hk1 : x.k = 1
      · repeat' (first
          | ((with_reducible apply g_op); first
            | ((with_reducible apply g_load); first
              | ((with_reducible apply w_fl (v := .int _ _)); exact rfl; exact (fun _ => rfl); assumption; exact rfl)
              | ((with_reducible apply w_fl (v := .agg #[_, _, _, _, _, _])); exact rfl; exact (fun _ => rfl); assumption; exact rfl)
              | ((with_reducible apply w_load (v := .int _ _)); exact rfl; (first | assumption | (simp (disch := omega) only [upd_same, upd_ne]; first | done | assumption | exact rfl) | exact rfl); exact rfl)
              | ((with_reducible apply w_load (v := .agg #[_, _, _, _, _, _])); exact rfl; (first | assumption | (simp (disch := omega) only [upd_same, upd_ne]; first | done | assumption | exact rfl) | exact rfl); exact rfl))
            | ((with_reducible apply g_move); first
              | ((with_reducible apply w_pure (v := .int _ _)); exact rfl; exact rfl)
              | ((with_reducible apply w_pure (v := .slice _ _ _)); exact rfl; exact rfl)
              | ((with_reducible apply w_pure (v := .func _ _ _)); exact rfl; exact rfl))
            | ((with_reducible apply g_bin); first
              | ((with_reducible apply w_wrap); exact rfl; exact rfl; first | exact i64_in _ (by omega) | exact u64_in _ (by omega) | exact u8_in _ (by omega))
              | ((with_reducible apply w_pure (v := .bool _)); exact rfl; exact rfl))
            | ((with_reducible apply g_fld); first
              | ((with_reducible apply w_fldp (o := 0)); exact rfl; exact rfl; exact rfl; exact (by decide))
              | ((with_reducible apply w_fldp (o := 1)); exact rfl; exact rfl; exact rfl; exact (by decide))
              | ((with_reducible apply w_fldp (o := 3)); exact rfl; exact rfl; exact rfl; exact (by decide))
              | ((with_reducible apply w_fldp (o := 5)); exact rfl; exact rfl; exact rfl; exact (by decide))
              | ((with_reducible apply w_ffld (o := 0)); exact rfl; exact rfl; exact rfl; exact (by decide))
              | ((with_reducible apply w_ffld (o := 1)); exact rfl; exact rfl; exact rfl; exact (by decide)))
            | ((with_reducible apply g_store); first
              | ((with_reducible apply w_store (us := [.int _ _]) (ws := [_, _, _, _, _, _])); exact rfl; exact rfl; (first | assumption | (simp (disch := omega) only [upd_same, upd_ne]; first | done | assumption | exact rfl) | exact rfl); omega; exact rfl; exact rfl; exact rfl)
              | ((with_reducible apply w_store (us := [_, _, _, _, _, _]) (ws := [_, _, _, _, _, _])); exact rfl; exact rfl; (first | assumption | (simp (disch := omega) only [upd_same, upd_ne]; first | done | assumption | exact rfl) | exact rfl); omega; exact rfl; exact rfl; exact rfl))
            | ((with_reducible apply g_build); first
              | ((with_reducible apply w_pure (v := .agg #[_, _, _, _, _, _, _])); exact rfl; exact rfl))
            | ((with_reducible apply g_ix); first
              | ((with_reducible apply w_fx (sz := 6)); exact rfl; exact rfl; exact rfl; exact rfl; exact rfl; exact (fun _ => rfl); assumption; exact rfl)
              | ((with_reducible apply w_ixr (sz := 7)); exact rfl; exact rfl; exact rfl; exact rfl; omega; omega))
            | ((with_reducible apply w_alloc (ls := [_, _, _, _, _, _])); exact rfl; exact rfl))
          | with_reducible refine w_seq ?_
          | with_reducible refine w_nil ?_
          | with_reducible refine w_region ?_
          | with_reducible refine w_skip ?_
          | with_reducible refine w_block ?_
          | ((with_reducible apply w_draw); kernel_rfl; kernel_rfl)
          | ((with_reducible apply w_ifd); exact rfl; all_goals (intro hc; first | (exfalso; omega) | skip)))
        refine w_store (us := [_, _, _, _, _, _, _]) (ws := (PS'.set p (pageOf x p, true)).flatMap pgc) rfl rfl (by simp (disch := omega) only [upd_ne]; exact hg3) (by omega) rfl rfl (hw _ (by unfold pageOf; rw [if_pos hk1]; rfl)) ?_
        repeat' (first
          | ((with_reducible apply g_op); first
            | ((with_reducible apply g_move); first
              | ((with_reducible apply w_pure (v := .int _ _)); exact rfl; exact rfl))
            | ((with_reducible apply g_bin); first
              | ((with_reducible apply w_wrap); exact rfl; exact rfl; first | exact i64_in _ (by omega) | exact u64_in _ (by omega) | exact u8_in _ (by omega)))
            | ((with_reducible apply g_assign); first
              | ((with_reducible apply w_pure (v := .int _ _)); exact rfl; exact rfl)))
          | with_reducible refine w_nil ?_
          | with_reducible refine w_region ?_
          | with_reducible refine w_blk ?_)
        exact ih2 (p + 1, PS'.set p (pageOf x p, true)) _ _ _ (by dsimp only; omega) (by repeat' (first | with_reducible exact Fr.mix | with_reducible exact Fr.rfl' | with_reducible refine Fr.put ?_ ?_ | with_reducible refine Fr.mix2 ?_ ?_ | with_reducible refine Fr.put0 ?_ | exact rfl)) ⟨by push_cast; rfl, upd_same, hfin, fun j hj => by simp (disch := omega) only [upd_ne]; exact hf3 j hj, by omega, by dsimp only; omega, by dsimp only; omega⟩
      · repeat' (first
          | ((with_reducible apply g_op); first
            | ((with_reducible apply g_load); first
              | ((with_reducible apply w_fl (v := .int _ _)); exact rfl; exact (fun _ => rfl); assumption; exact rfl)
              | ((with_reducible apply w_fl (v := .agg #[_, _, _, _, _, _])); exact rfl; exact (fun _ => rfl); assumption; exact rfl)
              | ((with_reducible apply w_load (v := .int _ _)); exact rfl; (first | assumption | (simp (disch := omega) only [upd_same, upd_ne]; first | done | assumption | exact rfl) | exact rfl); exact rfl)
              | ((with_reducible apply w_load (v := .agg #[_, _, _, _, _, _])); exact rfl; (first | assumption | (simp (disch := omega) only [upd_same, upd_ne]; first | done | assumption | exact rfl) | exact rfl); exact rfl))
            | ((with_reducible apply g_move); first
              | ((with_reducible apply w_pure (v := .int _ _)); exact rfl; exact rfl)
              | ((with_reducible apply w_pure (v := .slice _ _ _)); exact rfl; exact rfl)
              | ((with_reducible apply w_pure (v := .func _ _ _)); exact rfl; exact rfl))
            | ((with_reducible apply g_bin); first
              | ((with_reducible apply w_wrap); exact rfl; exact rfl; first | exact i64_in _ (by omega) | exact u64_in _ (by omega) | exact u8_in _ (by omega))
              | ((with_reducible apply w_pure (v := .bool _)); exact rfl; exact rfl))
            | ((with_reducible apply g_fld); first
              | ((with_reducible apply w_fldp (o := 0)); exact rfl; exact rfl; exact rfl; exact (by decide))
              | ((with_reducible apply w_fldp (o := 1)); exact rfl; exact rfl; exact rfl; exact (by decide))
              | ((with_reducible apply w_fldp (o := 3)); exact rfl; exact rfl; exact rfl; exact (by decide))
              | ((with_reducible apply w_ffld (o := 1)); exact rfl; exact rfl; exact rfl; exact (by decide)))
            | ((with_reducible apply g_store); first
              | ((with_reducible apply w_store (us := [.int _ _]) (ws := [_, _, _, _, _, _])); exact rfl; exact rfl; (first | assumption | (simp (disch := omega) only [upd_same, upd_ne]; first | done | assumption | exact rfl) | exact rfl); omega; exact rfl; exact rfl; exact rfl)
              | ((with_reducible apply w_store (us := [_, _, _, _, _, _]) (ws := [_, _, _, _, _, _])); exact rfl; exact rfl; (first | assumption | (simp (disch := omega) only [upd_same, upd_ne]; first | done | assumption | exact rfl) | exact rfl); omega; exact rfl; exact rfl; exact rfl))
            | ((with_reducible apply g_build); first
              | ((with_reducible apply w_pure (v := .agg #[_, _, _, _, _, _, _])); exact rfl; exact rfl))
            | ((with_reducible apply g_ix); first
              | ((with_reducible apply w_fx (sz := 6)); exact rfl; exact rfl; exact rfl; exact rfl; exact rfl; exact (fun _ => rfl); assumption; exact rfl)
              | ((with_reducible apply w_ixr (sz := 7)); exact rfl; exact rfl; exact rfl; exact rfl; omega; omega))
            | ((with_reducible apply w_alloc (ls := [_, _, _, _, _, _])); exact rfl; exact rfl))
          | with_reducible refine w_seq ?_
          | with_reducible refine w_nil ?_
          | with_reducible refine w_region ?_
          | with_reducible refine w_skip ?_
          | with_reducible refine w_block ?_
          | ((with_reducible apply w_ifd); exact rfl; all_goals (intro hc; first | (exfalso; omega) | skip)))
        refine w_store (us := [_, _, _, _, _, _, _]) (ws := (PS'.set p (pageOf x p, true)).flatMap pgc) rfl rfl (by simp (disch := omega) only [upd_ne]; exact hg3) (by omega) rfl rfl (hw _ (by unfold pageOf; rw [if_neg hk1]; rfl)) ?_
        repeat' (first
          | ((with_reducible apply g_op); first
            | ((with_reducible apply g_move); first
              | ((with_reducible apply w_pure (v := .int _ _)); exact rfl; exact rfl))
            | ((with_reducible apply g_bin); first
              | ((with_reducible apply w_wrap); exact rfl; exact rfl; first | exact i64_in _ (by omega) | exact u64_in _ (by omega) | exact u8_in _ (by omega)))
            | ((with_reducible apply g_assign); first
              | ((with_reducible apply w_pure (v := .int _ _)); exact rfl; exact rfl)))
          | with_reducible refine w_nil ?_
          | with_reducible refine w_region ?_
          | with_reducible refine w_blk ?_)
        exact ih2 (p + 1, PS'.set p (pageOf x p, true)) _ _ _ (by dsimp only; omega) (by repeat' (first | with_reducible exact Fr.mix | with_reducible exact Fr.rfl' | with_reducible refine Fr.put ?_ ?_ | with_reducible refine Fr.mix2 ?_ ?_ | with_reducible refine Fr.put0 ?_ | exact rfl)) ⟨by push_cast; rfl, upd_same, hfin, fun j hj => by simp (disch := omega) only [upd_ne]; exact hf3 j hj, by omega, by dsimp only; omega, by dsimp only; omega⟩
    · repeat' (first
        | ((with_reducible apply g_op); first
          | ((with_reducible apply g_load); first
            | ((with_reducible apply w_fl (v := .int _ _)); exact rfl; exact (fun _ => rfl); assumption; exact rfl))
          | ((with_reducible apply g_move); first
            | ((with_reducible apply w_pure (v := .int _ _)); exact rfl; exact rfl)
            | ((with_reducible apply w_pure (v := .func _ _ _)); exact rfl; exact rfl))
          | ((with_reducible apply g_bin); first
            | ((with_reducible apply w_wrap); exact rfl; exact rfl; first | exact i64_in _ (by omega) | exact u64_in _ (by omega) | exact u8_in _ (by omega))
            | ((with_reducible apply w_pure (v := .bool _)); exact rfl; exact rfl))
          | ((with_reducible apply g_fld); first
            | ((with_reducible apply w_ffld (o := 1)); exact rfl; exact rfl; exact rfl; exact (by decide)))
          | ((with_reducible apply g_assign); first
            | ((with_reducible apply w_pure (v := .int _ _)); exact rfl; exact rfl))
          | ((with_reducible apply g_ix); first
            | ((with_reducible apply w_fx (sz := 6)); exact rfl; exact rfl; exact rfl; exact rfl; exact rfl; exact (fun _ => rfl); assumption; exact rfl)))
        | with_reducible refine w_seq ?_
        | with_reducible refine w_nil ?_
        | with_reducible refine w_region ?_
        | with_reducible refine w_blk ?_
        | ((with_reducible apply w_exit); exact rfl)
        | ((with_reducible apply w_ifd); exact rfl; all_goals (intro hc; first | (exfalso; omega) | skip)))
      refine ih PS' _ _ _ (by repeat' (first | with_reducible exact Fr.mix | with_reducible exact Fr.rfl' | with_reducible refine Fr.put ?_ ?_ | with_reducible refine Fr.mix2 ?_ ?_ | with_reducible refine Fr.put0 ?_ | exact rfl)) ⟨by push_cast; rfl, hg3, hF'.fn fun q hq => ?_, hf3, hn3⟩
      rw [htk]
      unfold pgAt
      rw [find_app]
      by_cases hq2 : fx ≤ q ∧ q < p
      · rw [if_pos hq2, hold q (by omega)]
        have hi : findS (q : Int) [x] = (x, true) := by unfold findS; rw [if_pos (by omega)]
        simp [hi]
      · rw [if_neg hq2]
        cases hh : (findS (q : Int) (l.take i)).2 with
        | true => simp [hh]
        | false =>
          have hi : findS (q : Int) [x] = (.zero, false) := by unfold findS; rw [if_neg (by omega)]; rfl
          simp [hi]
  · rintro PS σ g2 n2 ⟨k4, hg2, hF, hf2, hn2⟩
    refine w_keep (i := 4) k4 ?_
    repeat' (first
      | ((with_reducible apply g_op); first
        | ((with_reducible apply g_move); first
          | ((with_reducible apply w_pure (v := .int _ _)); exact rfl; exact rfl)
          | ((with_reducible apply w_pure (v := .slice _ _ _)); exact rfl; exact rfl)
          | ((with_reducible apply w_pure (v := .func _ _ _)); exact rfl; exact rfl))
        | ((with_reducible apply g_bin); first
          | ((with_reducible apply w_pure (v := .bool _)); exact rfl; exact rfl))
        | ((with_reducible apply g_assign); first
          | ((with_reducible apply w_pure (v := .slice _ _ _)); exact rfl; exact rfl))
        | ((with_reducible apply g_call); first
          | ((with_reducible apply w_call (v := .int _ _)); exact rfl)))
      | with_reducible refine w_seq ?_
      | with_reducible refine w_nil ?_
      | with_reducible refine w_region ?_
      | ((with_reducible apply w_exit); exact rfl)
      | ((with_reducible apply w_ifd); exact rfl; all_goals (intro hc; first | (exfalso; omega) | skip))
      | ((with_reducible apply w_ret (v := .slice _ _ _)); exact rfl))
    rw [if_neg (by simp [flat, flat2, flat1])]
    rw [List.take_length] at hF
    exact ⟨rfl, ⟨PS, hF, hg2⟩, hf2, hn2⟩
theorem spread_nil (g : Nat → Option Ob) (n m : Nat) : Rn Try.prog T 25 [.slice none 0 0] g n m (fun v g' n' => v = slc n 0 4096 ∧ (∃ PS, Pgs PS (pgAt []) ∧ g' n = some (.cells 60 (PS.flatMap pgc))) ∧ (∀ j, j < n → g' j = g j) ∧ n < n') := by
  refine c_clean Try.func25 rfl rfl rfl rfl rfl rfl ?_
  repeat' (first
    | ((with_reducible apply g_op); first
      | ((with_reducible apply g_assign); first
        | ((with_reducible apply w_pure (v := .slice _ _ _)); exact rfl; exact rfl)))
    | with_reducible refine w_seq ?_
    | with_reducible refine w_nil ?_
    | with_reducible refine w_region ?_)
  refine w_mks (nn := 4096) (by_ := 56) (sz := 7) rfl rfl rfl rfl rfl rfl rfl (by decide) ?_
  refine w_gen (fun G N => (∃ PS, Pgs PS (fun _ => (Rg.zero, false)) ∧ G n = some (.cells 60 (PS.flatMap pgc))) ∧ (∀ j, j < n → G j = g j) ∧ n < N) ⟨?_, fun j hj => upd_ne (by omega), by omega⟩ ?_
  · obtain ⟨PS, h1, h2, h3⟩ := zeroRow 4096
    exact ⟨PS, ⟨h2, h3⟩, upd_same.trans (congrArg (fun x => some (Ob.cells 60 x)) h1)⟩
  rintro G N ⟨⟨PS0, hP0, hG⟩, hfr, hN⟩
  repeat' (first
    | ((with_reducible apply g_op); first
      | ((with_reducible apply g_assign); first
        | ((with_reducible apply w_pure (v := .int _ _)); exact rfl; exact rfl)
        | ((with_reducible apply w_pure (v := .slice _ _ _)); exact rfl; exact rfl)))
    | with_reducible refine w_seq ?_
    | with_reducible refine w_nil ?_
    | with_reducible refine w_region ?_
    | with_reducible refine w_block ?_)
  refine w_cntK [(4, 6), (8, 55)] 0 (fun i (_ : Unit) σ g' n' => σ 4 = .int .i64 (i : Nat) ∧ g' = G ∧ n' = N) ?_ ?_ () ⟨rfl, rfl, rfl⟩
  · intro i _ _ _ _ hi
    omega
  · rintro _ σ _ _ ⟨k4, rfl, rfl⟩
    refine w_keep (i := 4) k4 ?_
    repeat' (first
      | ((with_reducible apply g_op); first
        | ((with_reducible apply g_move); first
          | ((with_reducible apply w_pure (v := .int _ _)); exact rfl; exact rfl)
          | ((with_reducible apply w_pure (v := .slice _ _ _)); exact rfl; exact rfl))
        | ((with_reducible apply g_bin); first
          | ((with_reducible apply w_pure (v := .bool _)); exact rfl; exact rfl))
        | ((with_reducible apply g_assign); first
          | ((with_reducible apply w_pure (v := .slice _ _ _)); exact rfl; exact rfl))
        | ((with_reducible apply g_call); first
          | ((with_reducible apply w_call (v := .int _ _)); exact rfl)))
      | with_reducible refine w_seq ?_
      | with_reducible refine w_nil ?_
      | with_reducible refine w_region ?_
      | ((with_reducible apply w_exit); exact rfl)
      | ((with_reducible apply w_no); exact rfl)
      | ((with_reducible apply w_ret (v := .slice _ _ _)); exact rfl))
    rw [if_neg (by simp [flat, flat2, flat1])]
    exact ⟨rfl, ⟨PS0, hP0, hG⟩, hfr, hN⟩
theorem spreadLV_run {V : Value} {l : List Rg} (hv : LV V l) (hl : Can l) (hll : l.length ≤ 5000) (g : Nat → Option Ob) (n m : Nat) : Rn Try.prog T 25 [V] g n m (fun v g' n' => v = slc n 0 4096 ∧ (∃ PS, Pgs PS (pgAt l) ∧ g' n = some (.cells 60 (PS.flatMap pgc))) ∧ (∀ j, j < n → g' j = g j) ∧ n < n') := by
  rcases hv with rfl | ⟨rfl, rfl⟩
  · exact spreadV_run #[] l hl hll g n m
  · exact spread_nil g n m
/-- How many pages below a number are one's. -/
def cntS (l : List Rg) : Nat → Int
  | 0 => 0
  | q + 1 => cntS l q + (if (findS (q : Int) l).2 = true then 1 else 0)
theorem cnt_nil : ∀ q, cntS [] q = 0
  | 0 => rfl
  | q + 1 => by show cntS [] q + (if false = true then 1 else 0) = 0; rw [cnt_nil q]; rfl
theorem cnt_cons {x : Rg} {l : List Rg} (hl : Can (x :: l)) : ∀ q : Nat, cntS (x :: l) q = max 0 (min (q : Int) x.t - x.f) + cntS l q
  | 0 => by have := hl.pos (List.mem_cons_self ..); simp only [cntS]; omega
  | q + 1 => by
    have hx := hl.pos (List.mem_cons_self ..)
    show cntS (x :: l) q + _ = _ + (cntS l q + _)
    rw [cnt_cons hl q]
    by_cases hi : (q : Int) ≥ x.f ∧ (q : Int) < x.t
    · have h1 : findS (q : Int) (x :: l) = (x, true) := by unfold findS; rw [if_pos hi]
      have h2 : (findS (q : Int) l).2 = false := by
        cases hb : (findS (q : Int) l).2 with
        | false => rfl
        | true =>
          obtain ⟨h3, h4⟩ := find_iff hb
          have := (hl.ahead _ h3).1
          unfold In at h4
          omega
      rw [h1, h2]
      simp only [if_true, Bool.false_eq_true, if_false]
      push_cast
      omega
    · have h1 : findS (q : Int) (x :: l) = findS (q : Int) l := by
        show (if (q : Int) ≥ x.f ∧ (q : Int) < x.t then (x, true) else findS (q : Int) l) = _
        rw [if_neg hi]
      rw [h1]
      push_cast
      omega
theorem cnt_all : ∀ {l : List Rg}, Can l → cntS l 4096 = sumP l
  | [], _ => by rw [cnt_nil]; rfl
  | x :: l, hl => by
    have hx := hl.pos (List.mem_cons_self ..)
    have hm := (may_iff x).1 (hl.may x (List.mem_cons_self ..))
    rw [cnt_cons hl, cnt_all hl.tail]
    have : sumP (x :: l) = (x.t - x.f) + sumP l := by simp [sumP]
    rw [this]
    push_cast
    omega
theorem cnt_le (l : List Rg) : ∀ q, 0 ≤ cntS l q ∧ cntS l q ≤ q
  | 0 => by simp [cntS]
  | q + 1 => by have := cnt_le l q; simp only [cntS]; split <;> omega
end Go.Proofs.Ytnlgindlmlbfiaa.L

