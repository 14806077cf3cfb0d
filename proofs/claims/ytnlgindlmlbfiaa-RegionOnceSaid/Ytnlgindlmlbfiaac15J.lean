/- The reference: Row. -/
import Derived.Test.Ytnlgindlmlbfiaac15I
namespace Go.Proofs.Ytnlgindlmlbfiaa.L
open Go.L1 Go.IntWalk
set_option linter.unusedVariables false
set_option linter.unusedSimpArgs false
set_option maxHeartbeats 4000000
def rowStep (acc : List Rg) (pg : PG) : List Rg := if pg.2 = true then putS acc pg.1 else acc
def rowS (PS : List PG) : List Rg := PS.foldl rowStep []
theorem own_at' {α : Type} {g g' : Nat → Option Ob} {lo n n' : Nat} {e : TypeId} {enc : α → List Value} {o : Option Nat} {l : List α} (h : Own g lo n e enc o l) (hn : n ≤ n') (hg : ∀ a, o = some a → g' a = g a) : Own g' lo n' e enc o l := by
  cases o with
  | none => exact h
  | some a => exact ⟨h.1, h.2.1, by have := h.2.2.1; omega, by rw [hg a rfl]; exact h.2.2.2⟩
theorem part_rg (x : Rg) : L1.part Try.prog 23 (Rg.c x) 0 = some x.v := rfl
theorem pg_sn {gg : Nat → Option Ob} {lo : Nat} {PS : List PG} {a : Array Value} {i : Nat} (hg : gg i = some (.cells 60 (PS.flatMap pgc))) (hl : PS.length = 4096) (h : lo ≤ i) : L1.freeze Try.prog gg a lo 9 (slc i 0 4096) = some (fz a 4096 (PS.flatMap pgc)) :=
  sn_row (sz := 7) hg h rfl (by decide) (rd_all (by rw [flat_len (enc := pgc) (sz := 7) pgc_len, hl])) (sn_plains (all_flat (fun _ => rfl) _))
theorem row_run' (PS : List PG) (hl : PS.length = 4096) (hok : ∀ pg ∈ PS, pg.2 = true → pg.1.f < pg.1.t) : Rf Try.prog T 36 [fz tg 4096 (PS.flatMap pgc)] (fun v => v = rv #[] (rowS PS)) := by
  refine c_froz Try.func36 rfl rfl rfl rfl rfl rfl ?_
  intro g n
  rw [← hl]
  repeat' (first
    | ((with_reducible apply g_op); first
      | ((with_reducible apply g_assign); first
        | ((with_reducible apply w_pure (v := .int _ _)); exact rfl; exact rfl)
        | ((with_reducible apply w_pure (v := .slice _ _ _)); exact rfl; exact rfl)))
    | with_reducible refine w_seq ?_
    | with_reducible refine w_nil ?_
    | with_reducible refine w_region ?_
    | with_reducible refine w_block ?_)
  refine w_rngK [(3, 47)] PS (fun i rest (b : List Rg × Option Nat) σ g' n' => σ 3 = ov b.2 b.1.length ∧ σ 4 = .int .i64 (i : Nat) ∧ Own g' n n' 23 Rg.c b.2 b.1 ∧ rest.foldl rowStep b.1 = rowS PS ∧ b.1.length ≤ i ∧ n ≤ n') ?_ ?_ ([], none) ⟨rfl, rfl, rfl, rfl, by simp, Nat.le_refl _⟩
  · rintro i ⟨r, is⟩ rest ⟨acc, o⟩ σ g2 n2 hx hlt ⟨k3, k4, ho, hfo, hal, hn2⟩ ih
    dsimp only at k3 ho hfo hal
    refine w_keep (i := 3) k3 (w_keep (i := 4) k4 ?_)
    rw [List.foldl_cons] at hfo
    have hrt := hok _ (List.mem_of_getElem? hx)
    dsimp only at hrt
    cases is with
    | false =>
      have hs : rowStep acc (r, false) = acc := if_neg (by simp)
      rw [hs] at hfo
      repeat' (first
        | ((with_reducible apply g_op); first
          | ((with_reducible apply g_load); first
            | ((with_reducible apply w_fl (v := .bool _)); exact rfl; exact (fun _ => rfl); assumption; exact rfl))
          | ((with_reducible apply g_move); first
            | ((with_reducible apply w_pure (v := .int _ _)); exact rfl; exact rfl)
            | ((with_reducible apply w_pure (v := .func _ _ _)); exact rfl; exact rfl))
          | ((with_reducible apply g_bin); first
            | ((with_reducible apply w_wrap); exact rfl; exact rfl; first | exact i64_in _ (by omega) | exact u64_in _ (by omega) | exact u8_in _ (by omega))
            | ((with_reducible apply w_pure (v := .bool _)); exact rfl; exact rfl))
          | ((with_reducible apply g_fld); first
            | ((with_reducible apply w_ffld (o := 6)); exact rfl; exact rfl; exact rfl; exact (by decide)))
          | ((with_reducible apply g_assign); first
            | ((with_reducible apply w_pure (v := .int _ _)); exact rfl; exact rfl))
          | ((with_reducible apply g_call); first
            | ((with_reducible apply w_call (v := .int _ _)); exact rfl))
          | ((with_reducible apply g_ix); first
            | ((with_reducible apply w_fx (sz := 7)); exact rfl; exact rfl; exact rfl; exact rfl; exact rfl; exact (fun _ => rfl); assumption; exact rfl))
          | ((with_reducible apply w_pure (v := .bool _)); exact rfl; exact rfl))
        | with_reducible refine w_seq ?_
        | with_reducible refine w_nil ?_
        | with_reducible refine w_region ?_
        | with_reducible refine w_skip ?_
        | with_reducible refine w_block ?_
        | ((with_reducible apply w_exit); exact rfl)
        | ((with_reducible apply w_yes); exact rfl)
        | ((with_reducible apply w_ifd); exact rfl; all_goals (intro hc; first | (exfalso; omega) | skip)))
      exact ih (acc, o) _ _ _ (by repeat' (first | with_reducible exact Fr.mix | with_reducible exact Fr.rfl' | with_reducible refine Fr.put ?_ ?_ | with_reducible refine Fr.mix2 ?_ ?_ | with_reducible refine Fr.put0 ?_ | exact rfl)) ⟨rfl, by push_cast; rfl, ho, hfo, by dsimp only; omega, hn2⟩
    | true =>
      have hrt := hrt rfl
      have hs : rowStep acc (r, true) = putS acc r := if_pos rfl
      rw [hs] at hfo
      cases o with
      | none =>
        have e0 : acc = [] := ho
        subst e0
        simp only [ov_none] at k3
        have hp : putS [] r = [r] := by unfold putS; rw [if_neg (by omega)]; rfl
        rw [hp] at hfo
        repeat' (first
          | ((with_reducible apply g_op); first
            | ((with_reducible apply g_load); first
              | ((with_reducible apply w_fl (v := .bool _)); exact rfl; exact (fun _ => rfl); assumption; exact rfl)
              | ((with_reducible apply w_fl (v := .agg #[_, _, _, _, _, _])); exact rfl; exact (fun _ => rfl); assumption; exact rfl)
              | ((with_reducible apply w_load (v := .agg #[_, _, _, _, _, _])); exact rfl; (first | assumption | (simp (disch := omega) only [upd_same, upd_ne]; first | done | assumption | exact rfl) | exact rfl); exact rfl))
            | ((with_reducible apply g_move); first
              | ((with_reducible apply w_pure (v := .int _ _)); exact rfl; exact rfl)
              | ((with_reducible apply w_pure (v := .slice _ _ _)); exact rfl; exact rfl)
              | ((with_reducible apply w_pure (v := .func _ _ _)); exact rfl; exact rfl))
            | ((with_reducible apply g_bin); first
              | ((with_reducible apply w_wrap); exact rfl; exact rfl; first | exact i64_in _ (by omega) | exact u64_in _ (by omega) | exact u8_in _ (by omega))
              | ((with_reducible apply w_pure (v := .bool _)); exact rfl; exact rfl))
            | ((with_reducible apply g_fld); first
              | ((with_reducible apply w_ffld (o := 0)); exact rfl; exact rfl; exact rfl; exact (by decide))
              | ((with_reducible apply w_ffld (o := 6)); exact rfl; exact rfl; exact rfl; exact (by decide)))
            | ((with_reducible apply g_assign); first
              | ((with_reducible apply w_pure (v := .int _ _)); exact rfl; exact rfl)
              | ((with_reducible apply w_pure (v := .slice _ _ _)); exact rfl; exact rfl))
            | ((with_reducible apply g_call); first
              | ((with_reducible apply w_call (v := .int _ _)); exact rfl)
              | ((with_reducible apply w_app0 (ns := [_, _, _, _, _, _])); exact rfl; exact rfl; exact rfl; exact rfl; exact rfl; exact rfl; (first | assumption | (simp (disch := omega) only [upd_same, upd_ne]; first | done | assumption | exact rfl) | exact rfl); exact rfl; exact rfl; exact (by decide); exact ⟨by decide, by decide⟩))
            | ((with_reducible apply g_store); first
              | ((with_reducible apply w_store (us := [_, _, _, _, _, _]) (ws := [_, _, _, _, _, _])); exact rfl; exact rfl; (first | assumption | (simp (disch := omega) only [upd_same, upd_ne]; first | done | assumption | exact rfl) | exact rfl); omega; exact rfl; exact rfl; exact rfl))
            | ((with_reducible apply g_ix); first
              | ((with_reducible apply w_fx (sz := 7)); exact rfl; exact rfl; exact rfl; exact rfl; exact rfl; exact (fun _ => rfl); assumption; exact rfl))
            | ((with_reducible apply w_alloc (ls := [_, _, _, _, _, _])); exact rfl; exact rfl)
            | ((with_reducible apply w_bsl (ls := [_, _, _, _, _, _])); exact rfl; exact rfl; exact rfl; exact ⟨by decide, rfl⟩; exact rfl)
            | ((with_reducible apply w_pure (v := .bool _)); exact rfl; exact rfl))
          | with_reducible refine w_seq ?_
          | with_reducible refine w_nil ?_
          | with_reducible refine w_region ?_
          | with_reducible refine w_skip ?_
          | with_reducible refine w_block ?_
          | with_reducible refine w_blk ?_
          | ((with_reducible apply w_no); exact rfl)
          | ((with_reducible apply w_ifd); exact rfl; all_goals (intro hc; first | (exfalso; omega) | skip)))
        refine ih ([r], some (n2 + 2)) _ _ _ (by repeat' (first | with_reducible exact Fr.mix | with_reducible exact Fr.rfl' | with_reducible refine Fr.put ?_ ?_ | with_reducible refine Fr.mix2 ?_ ?_ | with_reducible refine Fr.put0 ?_ | exact rfl)) ⟨rfl, by push_cast; rfl, ⟨by simp, by omega, by omega, ?_⟩, hfo, by simp, by omega⟩
        simp (disch := omega) only [upd_same, upd_ne]; rfl
      | some o =>
        simp only [ov_some] at k3
        obtain ⟨ys, x, hacc⟩ : ∃ ys x, acc = ys ++ [x] := by
          rcases List.eq_nil_or_concat acc with h | ⟨ys, x, h⟩
          · exact absurd h ho.1
          · exact ⟨ys, x, by rw [h, List.concat_eq_append]⟩
        have hlen : acc.length = ys.length + 1 := by rw [hacc]; simp
        have hxl : acc[ys.length]? = some x := by rw [hacc]; simp
        have ho2 := ho.2.1
        have ho3 := ho.2.2.1
        have hidx : 0 + ((acc.length : Int) - 1).toNat * 6 = ys.length * 6 + 0 := by omega
        have hidx1 : 0 + ((acc.length : Int) - 1).toNat * 6 + 1 = ys.length * 6 + 1 := by omega
        have hp : putS acc r = if one x r = true then ys ++ [{ x with t := r.t }] else acc ++ [r] := by
          unfold putS
          rw [if_neg (by omega), hacc]
          simp
        repeat' (first
          | ((with_reducible apply g_op); first
            | ((with_reducible apply g_load); first
              | ((with_reducible apply w_fl (v := .bool _)); exact rfl; exact (fun _ => rfl); assumption; exact rfl)
              | ((with_reducible apply w_fl (v := .agg #[_, _, _, _, _, _])); exact rfl; exact (fun _ => rfl); assumption; exact rfl))
            | ((with_reducible apply g_move); first
              | ((with_reducible apply w_pure (v := .int _ _)); exact rfl; exact rfl)
              | ((with_reducible apply w_pure (v := .slice _ _ _)); exact rfl; exact rfl)
              | ((with_reducible apply w_pure (v := .func _ _ _)); exact rfl; exact rfl))
            | ((with_reducible apply g_bin); first
              | ((with_reducible apply w_wrap); exact rfl; exact rfl; first | exact i64_in _ (by omega) | exact u64_in _ (by omega) | exact u8_in _ (by omega))
              | ((with_reducible apply w_pure (v := .bool _)); exact rfl; exact rfl))
            | ((with_reducible apply g_fld); first
              | ((with_reducible apply w_ffld (o := 0)); exact rfl; exact rfl; exact rfl; exact (by decide))
              | ((with_reducible apply w_ffld (o := 6)); exact rfl; exact rfl; exact rfl; exact (by decide)))
            | ((with_reducible apply g_assign); first
              | ((with_reducible apply w_pure (v := .int _ _)); exact rfl; exact rfl))
            | ((with_reducible apply g_call); first
              | ((with_reducible apply w_call (v := .int _ _)); exact rfl))
            | ((with_reducible apply g_store); first
              | ((with_reducible apply w_store (us := [_, _, _, _, _, _]) (ws := [_, _, _, _, _, _])); exact rfl; exact rfl; (first | assumption | (simp (disch := omega) only [upd_same, upd_ne]; first | done | assumption | exact rfl) | exact rfl); omega; exact rfl; exact rfl; exact rfl))
            | ((with_reducible apply g_ix); first
              | ((with_reducible apply w_fx (sz := 7)); exact rfl; exact rfl; exact rfl; exact rfl; exact rfl; exact (fun _ => rfl); assumption; exact rfl)
              | ((with_reducible apply w_ixr (sz := 6)); exact rfl; exact rfl; exact rfl; exact rfl; omega; omega))
            | ((with_reducible apply w_alloc (ls := [_, _, _, _, _, _])); exact rfl; exact rfl)
            | ((with_reducible apply w_pure (v := .bool _)); exact rfl; exact rfl))
          | with_reducible refine w_seq ?_
          | with_reducible refine w_nil ?_
          | with_reducible refine w_region ?_
          | with_reducible refine w_skip ?_
          | with_reducible refine w_block ?_
          | ((with_reducible apply w_draw); kernel_rfl; kernel_rfl)
          | ((with_reducible apply w_no); exact rfl)
          | ((with_reducible apply w_ifd); exact rfl; all_goals (intro hc; first | (exfalso; omega) | skip)))
        refine w_load (v := x.v) rfl (by simp (disch := omega) only [upd_ne]; exact ho.2.2.2) (by rw [hidx]; exact part_flat (fun _ => rfl) hxl (part_rg x)) ?_
        repeat' (first
          | ((with_reducible apply g_op); first
            | ((with_reducible apply g_load); first
              | ((with_reducible apply w_load (v := .agg #[_, _, _, _, _, _])); exact rfl; (first | assumption | (simp (disch := omega) only [upd_same, upd_ne]; first | done | assumption | exact rfl) | exact rfl); exact rfl))))
        refine w_rq (rone_run x r _ _ _) (fun _ => rfl) ?_
        rintro _ rfl
        cases h1 : one x r with
        | true =>
          rw [h1, if_pos rfl] at hp
          rw [hp] at hfo
          repeat' (first
            | ((with_reducible apply g_op); first
              | ((with_reducible apply g_load); first
                | ((with_reducible apply w_load (v := .int _ _)); exact rfl; (first | assumption | (simp (disch := omega) only [upd_same, upd_ne]; first | done | assumption | exact rfl) | exact rfl); exact rfl))
              | ((with_reducible apply g_move); first
                | ((with_reducible apply w_pure (v := .int _ _)); exact rfl; exact rfl)
                | ((with_reducible apply w_pure (v := .bool _)); exact rfl; exact rfl)
                | ((with_reducible apply w_pure (v := .slice _ _ _)); exact rfl; exact rfl))
              | ((with_reducible apply g_bin); first
                | ((with_reducible apply w_wrap); exact rfl; exact rfl; first | exact i64_in _ (by omega) | exact u64_in _ (by omega) | exact u8_in _ (by omega)))
              | ((with_reducible apply g_fld); first
                | ((with_reducible apply w_fldp (o := 1)); exact rfl; exact rfl; exact rfl; exact (by decide)))
              | ((with_reducible apply g_assign); first
                | ((with_reducible apply w_pure (v := .bool _)); exact rfl; exact rfl))
              | ((with_reducible apply g_ix); first
                | ((with_reducible apply w_ixr (sz := 6)); exact rfl; exact rfl; exact rfl; exact rfl; omega; omega)))
            | with_reducible refine w_seq ?_
            | with_reducible refine w_nil ?_
            | with_reducible refine w_region ?_
            | ((with_reducible apply w_yes); exact rfl))
          refine w_store (us := [.int .i64 r.t]) (ws := (acc.set ys.length { x with t := r.t }).flatMap Rg.c) rfl rfl (by simp (disch := omega) only [upd_ne]; exact ho.2.2.2) (by omega) rfl rfl (by rw [hidx1]; exact wr_flat (enc := Rg.c) (sz := 6) (c := 1) (us := [.int .i64 r.t]) (y := x) (y' := { x with t := r.t }) (fun _ => rfl) (show 2 ≤ 6 by decide) rfl hxl) ?_
          have hset : acc.set ys.length { x with t := r.t } = ys ++ [{ x with t := r.t }] := by rw [hacc, List.set_append_right _ _ (Nat.le_refl _), Nat.sub_self]; rfl
          rw [hset]
          repeat' (first
            | ((with_reducible apply g_op); first
              | ((with_reducible apply g_move); first
                | ((with_reducible apply w_pure (v := .int _ _)); exact rfl; exact rfl))
              | ((with_reducible apply g_bin); first
                | ((with_reducible apply w_wrap); exact rfl; exact rfl; first | exact i64_in _ (by omega) | exact u64_in _ (by omega) | exact u8_in _ (by omega)))
              | ((with_reducible apply g_assign); first
                | ((with_reducible apply w_pure (v := .int _ _)); exact rfl; exact rfl)))
            | with_reducible refine w_nil ?_
            | with_reducible refine w_region ?_
            | ((with_reducible apply w_exit); exact rfl))
          refine ih (ys ++ [{ x with t := r.t }], some o) _ _ _ (by repeat' (first | with_reducible exact Fr.mix | with_reducible exact Fr.rfl' | with_reducible refine Fr.put ?_ ?_ | with_reducible refine Fr.mix2 ?_ ?_ | with_reducible refine Fr.put0 ?_ | exact rfl)) ⟨by simp [hlen, ov_some]; rfl, by push_cast; rfl, ⟨by simp, ho2, by omega, upd_same⟩, hfo, by simp; omega, by omega⟩
        | false =>
          rw [h1, if_neg (by simp)] at hp
          rw [hp] at hfo
          repeat' (first
            | ((with_reducible apply g_op); first
              | ((with_reducible apply g_load); first
                | ((with_reducible apply w_load (v := .agg #[_, _, _, _, _, _])); exact rfl; (first | assumption | (simp (disch := omega) only [upd_same, upd_ne]; first | done | assumption | exact rfl) | exact rfl); exact rfl))
              | ((with_reducible apply g_move); first
                | ((with_reducible apply w_pure (v := .bool _)); exact rfl; exact rfl)
                | ((with_reducible apply w_pure (v := .slice _ _ _)); exact rfl; exact rfl))
              | ((with_reducible apply g_assign); first
                | ((with_reducible apply w_pure (v := .bool _)); exact rfl; exact rfl))
              | ((with_reducible apply w_bsl (ls := [_, _, _, _, _, _])); exact rfl; exact rfl; exact rfl; exact ⟨by decide, rfl⟩; exact rfl))
            | with_reducible refine w_seq ?_
            | with_reducible refine w_nil ?_
            | with_reducible refine w_region ?_
            | with_reducible refine w_skip ?_
            | ((with_reducible apply w_no); exact rfl))
          refine w_own2 (enc := Rg.c) (y := r) (by_ := 48) (sz := 6) (lo := n) (o := some o) (xs := acc) (own_at' ho (by omega) fun a ha => by cases ha; simp (disch := omega) only [upd_ne]) rfl rfl rfl rfl rfl rfl (fun _ => rfl) upd_same rfl rfl rfl (by omega) (by omega) ?_
          intro g' q1 q2 q3
          repeat' (first
            | ((with_reducible apply g_op); first
              | ((with_reducible apply g_move); first
                | ((with_reducible apply w_pure (v := .int _ _)); exact rfl; exact rfl))
              | ((with_reducible apply g_bin); first
                | ((with_reducible apply w_wrap); exact rfl; exact rfl; first | exact i64_in _ (by omega) | exact u64_in _ (by omega) | exact u8_in _ (by omega)))
              | ((with_reducible apply g_assign); first
                | ((with_reducible apply w_pure (v := .int _ _)); exact rfl; exact rfl)
                | ((with_reducible apply w_pure (v := .slice _ _ _)); exact rfl; exact rfl)))
            | with_reducible refine w_nil ?_
            | with_reducible refine w_region ?_
            | with_reducible refine w_blk ?_)
          refine ih (acc ++ [r], some (n2 + 2)) _ _ _ (by repeat' (first | with_reducible exact Fr.mix | with_reducible exact Fr.rfl' | with_reducible refine Fr.put ?_ ?_ | with_reducible refine Fr.mix2 ?_ ?_ | with_reducible refine Fr.put0 ?_ | exact rfl)) ⟨rfl, by push_cast; rfl, q3, hfo, by simp; omega, by omega⟩
  · rintro ⟨acc, o⟩ σ g2 n2 ⟨k3, k4, ho, hfo, hal, hn2⟩
    dsimp only at k3 ho hfo hal
    refine w_keep (i := 3) k3 (w_keep (i := 4) k4 ?_)
    have hfo : acc = rowS PS := hfo
    cases o <;> simp only [ov_none, ov_some] at k3 <;> (
      repeat' (first
        | ((with_reducible apply g_op); first
          | ((with_reducible apply g_move); first
            | ((with_reducible apply w_pure (v := .int _ _)); exact rfl; exact rfl)
            | ((with_reducible apply w_pure (v := .slice _ _ _)); exact rfl; exact rfl)
            | ((with_reducible apply w_pure (v := .func _ _ _)); exact rfl; exact rfl))
          | ((with_reducible apply g_bin); first
            | ((with_reducible apply w_pure (v := .bool _)); exact rfl; exact rfl))
          | ((with_reducible apply g_assign); first
            | ((with_reducible apply w_pure (v := .slice _ _ _)); exact rfl; exact rfl))
          | ((with_reducible apply g_call); first
            | ((with_reducible apply w_call (v := .int _ _)); exact rfl)))
        | with_reducible refine w_seq ?_
        | with_reducible refine w_nil ?_
        | with_reducible refine w_region ?_
        | ((with_reducible apply w_exit); exact rfl)
        | ((with_reducible apply w_ifd); exact rfl; all_goals (intro hc; first | (exfalso; omega) | skip))
        | ((with_reducible apply w_ret (v := .slice _ _ _)); exact rfl))
      exact ⟨_, ho.fz (k := 7) (lo' := n) (Nat.le_refl _) rfl (by decide) (fun _ => rfl) (sn_plains (Rg.plains _)), by rw [hfo]⟩)
end Go.Proofs.Ytnlgindlmlbfiaa.L

