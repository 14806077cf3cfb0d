/- dynamic.Read. -/
import Derived.Test.Ytffgdfoeeaoonaac09A
import Derived.Test.YtffgdfoeeaoonaaoctG
namespace Go.Proofs.Ytffgdfoeeaoonaa.L
open Go.L1 Go.IntWalk
set_option linter.unusedVariables false
set_option linter.unusedSimpArgs false
set_option maxHeartbeats 4000000
def Dyn.zero : Dyn := ⟨[], 0, 0, 0, 0, 0, 0, 0, 0⟩
def Dyn.put (d : Dyn) (t x : Int) : Dyn := if t = 4 then { d with f4 := x } else if t = 5 then { d with f1 := x } else if t = 6 then { d with f3 := x } else if t = 7 then { d with f5 := x } else if t = 8 then { d with f6 := x } else if t = 10 then { d with f2 := x } else if t = 14 then { d with f7 := x } else { d with f8 := x }
theorem put_nd (d : Dyn) (t x : Int) : (d.put t x).nd = d.nd := by unfold Dyn.put; repeat' split <;> try rfl
theorem field_lt {t : Int} {o : Nat} (h : fieldO t = some o) : 1 ≤ o ∧ o ≤ 8 := by
  unfold fieldO at h
  repeat' (split at h <;> try (cases h; decide))
  all_goals cases h
theorem put_at (d : Dyn) (v : Value) (t x : Int) (o : Nat) (h : fieldO t = some o) : (d.cs v).set o (.int .i64 x) = (d.put t x).cs v := by
  unfold fieldO at h
  unfold Dyn.put
  repeat' (split at h <;> (try (rename_i hc; (first | rw [if_pos hc] | rw [if_neg hc]))) <;> try (cases h; rfl))
  all_goals cases h
def seen (es : List (Int × Bool)) (t : Int) : Bool := (mget es t).getD false
def readGo (s : ByteArray) : Nat → Nat → Dyn → List (Int × Bool) → Option Dyn
  | 0, _, _, _ => none
  | f + 1, k, d, es =>
    let t := Oct.getV s (16 * (k : Int)) 8
    let x := Oct.getV s (16 * (k : Int) + 8) 8
    if ¬ (t.2 = true ∧ x.2 = true) then none
    else if t.1 = 0 then some d
    else if t.1 = 1 then (if x.1 ≤ 1099511627776 ∧ d.nd.length < 64 then readGo s f (k + 1) { d with nd := d.nd ++ [x.1] } (mput es 1 true) else none)
    else if t.1 = 9 ∨ t.1 = 11 then (if x.1 = 24 ∧ seen es t.1 = false then readGo s f (k + 1) d (mput es t.1 true) else none)
    else match fieldO t.1 with
      | some _ => if x.1 ≤ 1099511627776 ∧ seen es t.1 = false then readGo s f (k + 1) (d.put t.1 x.1) (mput es t.1 true) else none
      | none => readGo s f (k + 1) d (mput es t.1 true)
def endD : Option Dyn → Dyn × Int
  | some d => if d.f6.tmod 24 = 0 then (d, 0) else (.zero, 17)
  | none => (.zero, 17)
def readS (s : ByteArray) : Dyn × Int := endD (readGo s (s.size + 1) 0 .zero [])
theorem fr_zero (g : Nat → Option Ob) (lo : Nat) : ∃ u, L1.freeze Try.prog g #[] lo 9 (.tuple #[.agg #[.slice none 0 0, .int .i64 0, .int .i64 0, .int .i64 0, .int .i64 0, .int .i64 0, .int .i64 0, .int .i64 0, .int .i64 0], .int .i64 17]) = some u ∧ u = .tuple #[Dyn.zero.v #[], .int .i64 17] :=
  ⟨_, sn_tuple (l := [_, _]) (sn_cons (sn_agg (l := [_, _, _, _, _, _, _, _, _]) (sn_cons sn_none (sn_plains rfl))) (sn_cons (sn_plain rfl) sn_nil)), rfl⟩
/-- What is needed, so far: its row. -/
def ndV (o : Option Nat) (k : Nat) : Value := match o with | none => .slice none 0 0 | some i => slc i 0 k
def Nd (g : Nat → Option Ob) (lo n : Nat) (o : Option Nat) (l : List Int) : Prop := match o with
  | none => l = []
  | some i => l ≠ [] ∧ lo ≤ i ∧ i < n ∧ g i = some (.cells 3 (l.flatMap ii))
theorem Nd.later {g g' : Nat → Option Ob} {lo n n' : Nat} {o : Option Nat} {l : List Int} (h : Nd g lo n o l) (hn : n ≤ n') (hg : ∀ j, lo ≤ j → j < n → g' j = g j) : Nd g' lo n' o l := by
  cases o with
  | none => exact h
  | some i => obtain ⟨h1, h2, h3, h4⟩ := h; exact ⟨h1, h2, by omega, by rw [hg i h2 h3]; exact h4⟩
theorem Nd.fz {g : Nat → Option Ob} {lo n k : Nat} {o : Option Nat} {l : List Int} (h : Nd g lo n o l) {lo' : Nat} (hl : lo' ≤ lo) : L1.freeze Try.prog g #[] lo' (k + 2) (ndV o l.length) = some (iv #[] l) := by
  cases o with
  | none => have : l = [] := h; subst this; rfl
  | some i => exact sn_row (sz := 1) h.2.2.2 (Nat.le_trans hl h.2.1) (by kernel_rfl) (by decide) (rd_all (by rw [flat_len (enc := ii) (sz := 1) (fun _ => rfl)])) (sn_plains (all_flat (fun _ => rfl) l))
theorem read_run (s : ByteArray) (hs : s.size ≤ 100000000) : Rf Try.prog T 8 [.string s] (fun v => v = .tuple #[(readS s).1.v #[], .int .i64 (readS s).2]) := by
  refine c_froz Try.func8 rfl rfl rfl rfl rfl rfl ?_
  intro g n
  obtain ⟨F, hF⟩ : ∃ F, F = s.size + 1 := ⟨_, rfl⟩
  obtain ⟨R, hR⟩ : ∃ R, R = readGo s F 0 .zero [] := ⟨_, rfl⟩
  have hS : readS s = endD R := by rw [hR, hF]; rfl
  rw [hS]
  repeat' (first
    | ((with_reducible apply g_op); first
      | ((with_reducible apply g_assign); first
        | ((with_reducible apply w_pure (v := .int _ _)); exact rfl; exact rfl))
      | ((with_reducible apply w_alloc (ls := [_, _, _, _, _, _, _, _, _])); exact rfl; exact rfl))
    | with_reducible refine w_seq ?_
    | with_reducible refine w_nil ?_
    | with_reducible refine w_region ?_
    | with_reducible refine w_scope ?_)
  refine w_mkm ?_
  repeat' (first
    | ((with_reducible apply g_op); first
      | ((with_reducible apply g_assign); first
        | ((with_reducible apply w_pure (v := .int _ _)); exact rfl; exact rfl)
        | ((with_reducible apply w_pure (v := .bool _)); exact rfl; exact rfl)
        | ((with_reducible apply w_pure (v := .map _)); exact rfl; exact rfl)))
    | with_reducible refine w_seq ?_
    | with_reducible refine w_nil ?_
    | with_reducible refine w_region ?_
    | with_reducible refine w_block ?_
    | with_reducible refine w_label ?_)
  refine w_while (α := Nat × Dyn × List (Int × Bool) × Option Nat) (fun x σ g' n' => σ 0 = .string s ∧ σ 2 = ptr n 0 ∧ σ 4 = ptr (n + 1) 0 ∧ σ 5 = .map (some (n + 2)) ∧ σ 7 = .int .i64 (16 * (x.1 : Int))
    ∧ g' n = some (.cells 26 (Dyn.zero.cs (.slice none 0 0))) ∧ g' (n + 1) = some (.cells 26 (x.2.1.cs (ndV x.2.2.2 x.2.1.nd.length))) ∧ g' (n + 2) = some (.map (ents (Value.int .u64) Value.bool x.2.2.1)) ∧ Nd g' (n + 3) n' x.2.2.2 x.2.1.nd
    ∧ x.2.1.nd.length ≤ x.1 ∧ x.1 < F ∧ readGo s (F - x.1) x.1 x.2.1 x.2.2.1 = R ∧ 16 * x.1 ≤ s.size ∧ n + 3 ≤ n') (fun x => F - x.1) ?_ (0, .zero, [], none) ⟨rfl, rfl, rfl, rfl, rfl, ?_, ?_, ?_, rfl, Nat.le_refl _, by dsimp only; omega, by rw [hR]; rfl, by dsimp only; omega, by omega⟩
  · rintro ⟨k, d, es, o⟩ σ gl nl ⟨k0, k2, k4, k5, k7, hg0, hg1, hg2, hnd, hndl, hkF, hgo, hk16, hn⟩ ih
    dsimp only at k0 k2 k4 k5 k7 hg0 hg1 hg2 hnd hndl hkF hgo hk16 hn
    obtain ⟨f, hf⟩ : ∃ f, F - k = f + 1 := ⟨F - k - 1, by omega⟩
    rw [hf] at hgo
    simp only [readGo] at hgo
    refine w_keep (i := 0) k0 (w_keep (i := 2) k2 (w_keep (i := 4) k4 (w_keep (i := 5) k5 (w_keep (i := 7) k7 ?_))))
    repeat' (first
      | ((with_reducible apply g_op); first
        | ((with_reducible apply g_move); first
          | ((with_reducible apply w_pure (v := .int _ _)); exact rfl; exact rfl)
          | ((with_reducible apply w_pure (v := .string _)); exact rfl; exact rfl)))
      | with_reducible refine w_seq ?_
      | with_reducible refine w_region ?_
      | with_reducible refine w_block ?_)
    refine w_rq (Oct.get_run s (16 * (k : Int)) 8 (by omega) _ _ _) (fun _ => rfl) ?_
    rintro _ rfl
    repeat' (first
      | ((with_reducible apply g_op); first
        | ((with_reducible apply g_move); first
          | ((with_reducible apply w_pure (v := .int _ _)); exact rfl; exact rfl)
          | ((with_reducible apply w_pure (v := .string _)); exact rfl; exact rfl)
          | ((with_reducible apply w_pure (v := .tuple _)); exact rfl; exact rfl))
        | ((with_reducible apply g_bin); first
          | ((with_reducible apply w_wrap); exact rfl; exact rfl; first | exact i64_in _ (by omega) | exact u64_in _ (by omega) | exact u8_in _ (by omega)))
        | ((with_reducible apply g_assign); first
          | ((with_reducible apply w_pure (v := .int _ _)); exact rfl; exact rfl)
          | ((with_reducible apply w_pure (v := .bool _)); exact rfl; exact rfl))
        | ((with_reducible apply w_pure (v := .int _ _)); exact rfl; exact rfl)
        | ((with_reducible apply w_pure (v := .bool _)); exact rfl; exact rfl))
      | with_reducible refine w_seq ?_
      | with_reducible refine w_nil ?_
      | with_reducible refine w_region ?_)
    refine w_rq (Oct.get_run s (16 * (k : Int) + 8) 8 (by omega) _ _ _) (fun _ => rfl) ?_
    rintro _ rfl
    have rt := Oct.getV_range s (16 * (k : Int)) 8
    have rx := Oct.getV_range s (16 * (k : Int) + 8) 8
    have hms : (Oct.getV s (16 * (k : Int) + 8) 8).2 = true → 16 * k + 16 ≤ s.size := by
      unfold Oct.getV
      split
      · rename_i hm; intro _; have := of_decide_eq_true hm; omega
      · intro h; cases h
    generalize Oct.getV s (16 * (k : Int)) 8 = t at *
    generalize Oct.getV s (16 * (k : Int) + 8) 8 = x at *
    obtain ⟨t, tb⟩ := t
    obtain ⟨x, xb⟩ := x
    dsimp only at hgo rt rx hms ⊢
    by_cases hb : tb = true ∧ xb = true
    · obtain ⟨rfl, rfl⟩ := hb
      have hms := hms rfl
      rw [if_neg (by simp)] at hgo
      by_cases h0 : t = 0
      · rw [if_pos h0] at hgo
        subst hgo h0
        have hfz := hnd.fz (k := 6) (lo' := n) (by omega)
        cases o <;> (
          simp only [ndV] at hg1 hfz
          repeat' (first
            | ((with_reducible apply g_op); first
              | ((with_reducible apply g_load); first
                | ((with_reducible apply w_load (v := .int _ _)); exact rfl; (first | assumption | (simp (disch := omega) only [upd_same, upd_ne]; first | done | assumption | exact rfl) | exact rfl); exact rfl)
                | ((with_reducible apply w_load (v := .agg #[_, _, _, _, _, _, _, _, _])); exact rfl; (first | assumption | (simp (disch := omega) only [upd_same, upd_ne]; first | done | assumption | exact rfl) | exact rfl); exact rfl))
              | ((with_reducible apply g_move); first
                | ((with_reducible apply w_pure (v := .int _ _)); exact rfl; exact rfl)
                | ((with_reducible apply w_pure (v := .bool _)); exact rfl; exact rfl)
                | ((with_reducible apply w_pure (v := .tuple _)); exact rfl; exact rfl))
              | ((with_reducible apply g_bin); first
                | ((with_reducible apply w_pure (v := .bool _)); exact rfl; exact rfl)
                | ((with_reducible apply w_pure (v := .int _ _)); exact rfl; exact rfl))
              | ((with_reducible apply g_fld); first
                | ((with_reducible apply w_fldp (o := 6)); exact rfl; exact rfl; exact rfl; exact (by decide)))
              | ((with_reducible apply g_assign); first
                | ((with_reducible apply w_pure (v := .int _ _)); exact rfl; exact rfl)
                | ((with_reducible apply w_pure (v := .bool _)); exact rfl; exact rfl))
              | ((with_reducible apply g_store); first
                | ((with_reducible apply w_store (us := [_, _, _, _, _, _, _, _, _]) (ws := [_, _, _, _, _, _, _, _, _])); exact rfl; exact rfl; (first | assumption | (simp (disch := omega) only [upd_same, upd_ne]; first | done | assumption | exact rfl) | exact rfl); omega; exact rfl; exact rfl; exact rfl))
              | ((with_reducible apply g_build); first
                | ((with_reducible apply w_pure (v := .agg #[_, _, _, _, _, _, _, _, _])); exact rfl; exact rfl))
              | ((with_reducible apply w_pure (v := .int _ _)); exact rfl; exact rfl)
              | ((with_reducible apply w_pure (v := .bool _)); exact rfl; exact rfl))
            | ((with_reducible apply g_gd); first
              | ((with_reducible apply w_want); exact rfl))
            | with_reducible refine w_seq ?_
            | with_reducible refine w_nil ?_
            | with_reducible refine w_region ?_
            | with_reducible refine w_skip ?_
            | ((with_reducible apply w_exit); exact rfl)
            | ((with_reducible apply w_yes); exact rfl)
            | ((with_reducible apply w_ifn); exact rfl; all_goals (intro hc; first | (exfalso; omega) | skip))
            | ((with_reducible apply w_retct (v := .agg #[_, _, _, _, _, _, _, _, _]) (u := .int _ _)); exact rfl; exact rfl; (first | assumption | (simp (disch := omega) only [upd_same, upd_ne]; first | done | assumption | exact rfl) | exact rfl); exact rfl; exact rfl))
          · rw [show endD (some d) = (.zero, 17) from if_neg (by assumption)]
            exact fr_zero _ _
          · rw [show endD (some d) = (d, 0) from if_pos (by assumption)]
            refine ⟨_, sn_tuple (l := [_, _]) (sn_cons (sn_agg (l := [_, _, _, _, _, _, _, _, _]) (sn_cons ?_ (sn_plains rfl))) (sn_cons (sn_plain rfl) sn_nil)), rfl⟩
            first | exact hfz | exact (hnd.later (Nat.le_refl _) (fun j h1 h2 => by simp (disch := omega) only [upd_ne])).fz (by omega))
      · rw [if_neg h0] at hgo
        repeat' (first
          | ((with_reducible apply g_op); first
            | ((with_reducible apply g_move); first
              | ((with_reducible apply w_pure (v := .int _ _)); exact rfl; exact rfl)
              | ((with_reducible apply w_pure (v := .bool _)); exact rfl; exact rfl)
              | ((with_reducible apply w_pure (v := .tuple _)); exact rfl; exact rfl))
            | ((with_reducible apply g_bin); first
              | ((with_reducible apply w_pure (v := .bool _)); exact rfl; exact rfl))
            | ((with_reducible apply g_assign); first
              | ((with_reducible apply w_pure (v := .int _ _)); exact rfl; exact rfl)
              | ((with_reducible apply w_pure (v := .bool _)); exact rfl; exact rfl))
            | ((with_reducible apply w_pure (v := .int _ _)); exact rfl; exact rfl)
            | ((with_reducible apply w_pure (v := .bool _)); exact rfl; exact rfl))
          | ((with_reducible apply g_gd); first
            | ((with_reducible apply w_want); exact rfl))
          | with_reducible refine w_seq ?_
          | with_reducible refine w_nil ?_
          | with_reducible refine w_region ?_
          | with_reducible refine w_skip ?_
          | ((with_reducible apply w_ifd); exact rfl; all_goals (intro hc; first | (exfalso; omega) | skip)))
        refine w_rq (field_run (n + 1) t _ _ _ (by omega)) (fun _ => rfl) ?_
        rintro _ rfl
        by_cases h1 : t = 1
        · rw [if_pos h1] at hgo
          subst h1
          have hfv : fieldV (n + 1) 1 = .pointer none := rfl
          rw [hfv]
          cases o with
          | none =>
            simp only [ndV] at hg1
            have hnd : d.nd = [] := hnd
            have hl0 : d.nd.length = 0 := by rw [hnd]; rfl
            repeat' (first
              | ((with_reducible apply g_op); first
                | ((with_reducible apply g_load); first
                  | ((with_reducible apply w_load (v := .slice _ _ _)); exact rfl; (first | assumption | (simp (disch := omega) only [upd_same, upd_ne]; first | done | assumption | exact rfl) | exact rfl); exact rfl))
                | ((with_reducible apply g_move); first
                  | ((with_reducible apply w_pure (v := .int _ _)); exact rfl; exact rfl)
                  | ((with_reducible apply w_pure (v := .bool _)); exact rfl; exact rfl)
                  | ((with_reducible apply w_pure (v := .map _)); exact rfl; exact rfl))
                | ((with_reducible apply g_bin); first
                  | ((with_reducible apply w_pure (v := .bool _)); exact rfl; exact rfl))
                | ((with_reducible apply g_fld); first
                  | ((with_reducible apply w_fldp (o := 0)); exact rfl; exact rfl; exact rfl; exact (by decide)))
                | ((with_reducible apply g_pick); first
                  | ((with_reducible apply w_pk1 (v := .bool _)); exact rfl; exact rfl; (first | assumption | exact decide_eq_true (by assumption) | exact decide_eq_false (by assumption) | exact decide_eq_true (by omega) | exact decide_eq_false (by omega) | exact beq_iff_eq.2 (by omega) | exact beq_eq_false_iff_ne.2 (by omega) | exact bne_iff_ne.2 (by omega) | exact bne_eq_false_iff_eq.2 (by omega)))
                  | ((with_reducible apply w_pk0 (v := .bool _)); exact rfl; exact rfl; (first | assumption | exact decide_eq_true (by assumption) | exact decide_eq_false (by assumption) | exact decide_eq_true (by omega) | exact decide_eq_false (by omega) | exact beq_iff_eq.2 (by omega) | exact beq_eq_false_iff_ne.2 (by omega) | exact bne_iff_ne.2 (by omega) | exact bne_eq_false_iff_eq.2 (by omega))))
                | ((with_reducible apply g_assign); first
                  | ((with_reducible apply w_pure (v := .int _ _)); exact rfl; exact rfl)
                  | ((with_reducible apply w_pure (v := .bool _)); exact rfl; exact rfl)
                  | ((with_reducible apply w_pure (v := .pointer _)); exact rfl; exact rfl))
                | ((with_reducible apply g_call); first
                  | ((with_reducible apply w_call (v := .int _ _)); exact rfl)
                  | ((with_reducible apply w_app0 (ns := [_])); exact rfl; exact rfl; exact rfl; exact rfl; exact rfl; exact rfl; (first | assumption | (simp (disch := omega) only [upd_same, upd_ne]; first | done | assumption | exact rfl) | exact rfl); exact rfl; exact rfl; exact (by decide); exact ⟨by decide, by decide⟩))
                | ((with_reducible apply g_store); first
                  | ((with_reducible apply w_store (us := [.slice _ _ _]) (ws := [_, _, _, _, _, _, _, _, _])); exact rfl; exact rfl; (first | assumption | (simp (disch := omega) only [upd_same, upd_ne]; first | done | assumption | exact rfl) | exact rfl); omega; exact rfl; exact rfl; exact rfl)
                  | ((with_reducible apply w_store (us := [_, _, _, _, _, _, _, _, _]) (ws := [_, _, _, _, _, _, _, _, _])); exact rfl; exact rfl; (first | assumption | (simp (disch := omega) only [upd_same, upd_ne]; first | done | assumption | exact rfl) | exact rfl); omega; exact rfl; exact rfl; exact rfl))
                | ((with_reducible apply w_notd); exact rfl)
                | ((with_reducible apply w_conv); exact rfl; exact rfl; exact rfl; first | exact i64_in _ (by omega) | exact u64_in _ (by omega) | exact u8_in _ (by omega) | exact u32_in _ (by omega))
                | ((with_reducible apply w_convw); exact rfl; exact rfl; exact rfl)
                | ((with_reducible apply g_build); first
                  | ((with_reducible apply w_pure (v := .agg #[_, _, _, _, _, _, _, _, _])); exact rfl; exact rfl))
                | ((with_reducible apply w_bsl (ls := [_])); exact rfl; exact rfl; exact rfl; exact ⟨by decide, rfl⟩; exact rfl)
                | ((with_reducible apply w_pure (v := .bool _)); exact rfl; exact rfl))
              | ((with_reducible apply g_gd); first
                | ((with_reducible apply w_pass); exact rfl)
                | ((with_reducible apply w_gd_t); exact rfl; all_goals (intro hc; first | (exfalso; omega) | skip)))
              | with_reducible refine w_seq ?_
              | with_reducible refine w_nil ?_
              | with_reducible refine w_region ?_
              | with_reducible refine w_skip ?_
              | with_reducible refine w_block ?_
              | with_reducible refine w_blk ?_
              | ((with_reducible apply w_exit); exact rfl)
              | ((with_reducible apply w_yes); exact rfl)
              | ((with_reducible apply w_no); exact rfl)
              | ((with_reducible apply w_retct (v := .agg #[_, _, _, _, _, _, _, _, _]) (u := .int _ _)); exact rfl; exact rfl; (first | assumption | (simp (disch := omega) only [upd_same, upd_ne]; first | done | assumption | exact rfl) | exact rfl); exact rfl; exact rfl))
            all_goals first
              | (rw [if_neg (by omega)] at hgo; subst hgo; exact fr_zero _ _)
              | skip
            rw [if_pos (by omega)] at hgo
            refine w_mput (ek := Value.int .u64) (evv := Value.bool) (es := es) (v := true) (key := 1) rfl rfl rfl rfl (keyK_int (q := .u64) (by kernel_rfl)) (by first | exact hg2 | (simp (disch := omega) only [upd_ne]; exact hg2)) (by omega) ?_
            repeat' (first
              | ((with_reducible apply g_op); first
                | ((with_reducible apply g_move); first
                  | ((with_reducible apply w_pure (v := .int _ _)); exact rfl; exact rfl))
                | ((with_reducible apply g_bin); first
                  | ((with_reducible apply w_wrap); exact rfl; exact rfl; first | exact i64_in _ (by omega) | exact u64_in _ (by omega) | exact u8_in _ (by omega)))
                | ((with_reducible apply g_assign); first
                  | ((with_reducible apply w_pure (v := .int _ _)); exact rfl; exact rfl)))
              | with_reducible refine w_nil ?_
              | with_reducible refine w_region ?_
              | with_reducible refine w_blk ?_)
            refine ih (k + 1, { d with nd := d.nd ++ [x] }, mput es 1 true, some (nl + 1)) _ _ _ (by dsimp only; omega) ⟨rfl, rfl, rfl, rfl, by dsimp only; push_cast; rfl, ?_, ?_, upd_same, ⟨by simp, by omega, by omega, ?_⟩, by simp; omega, by dsimp only; omega, by dsimp only; rw [← hgo]; congr 1; omega, by dsimp only; omega, by omega⟩
            · simp (disch := omega) only [upd_ne]; exact hg0
            · simp (disch := omega) only [upd_same, upd_ne]; simp [ndV, hnd]; rfl
            · simp (disch := omega) only [upd_same, upd_ne]; simp [hnd]; rfl
          | some i =>
            simp only [ndV] at hg1
            obtain ⟨hnd1, hnd2, hnd3, hnd4⟩ := hnd
            repeat' (first
              | ((with_reducible apply g_op); first
                | ((with_reducible apply g_load); first
                  | ((with_reducible apply w_load (v := .slice _ _ _)); exact rfl; (first | assumption | (simp (disch := omega) only [upd_same, upd_ne]; first | done | assumption | exact rfl) | exact rfl); exact rfl))
                | ((with_reducible apply g_move); first
                  | ((with_reducible apply w_pure (v := .int _ _)); exact rfl; exact rfl)
                  | ((with_reducible apply w_pure (v := .bool _)); exact rfl; exact rfl))
                | ((with_reducible apply g_bin); first
                  | ((with_reducible apply w_pure (v := .bool _)); exact rfl; exact rfl))
                | ((with_reducible apply g_fld); first
                  | ((with_reducible apply w_fldp (o := 0)); exact rfl; exact rfl; exact rfl; exact (by decide)))
                | ((with_reducible apply g_pick); first
                  | ((with_reducible apply w_pk1 (v := .bool _)); exact rfl; exact rfl; (first | assumption | exact decide_eq_true (by assumption) | exact decide_eq_false (by assumption) | exact decide_eq_true (by omega) | exact decide_eq_false (by omega) | exact beq_iff_eq.2 (by omega) | exact beq_eq_false_iff_ne.2 (by omega) | exact bne_iff_ne.2 (by omega) | exact bne_eq_false_iff_eq.2 (by omega)))
                  | ((with_reducible apply w_pk0 (v := .bool _)); exact rfl; exact rfl; (first | assumption | exact decide_eq_true (by assumption) | exact decide_eq_false (by assumption) | exact decide_eq_true (by omega) | exact decide_eq_false (by omega) | exact beq_iff_eq.2 (by omega) | exact beq_eq_false_iff_ne.2 (by omega) | exact bne_iff_ne.2 (by omega) | exact bne_eq_false_iff_eq.2 (by omega))))
                | ((with_reducible apply g_assign); first
                  | ((with_reducible apply w_pure (v := .bool _)); exact rfl; exact rfl)
                  | ((with_reducible apply w_pure (v := .pointer _)); exact rfl; exact rfl))
                | ((with_reducible apply g_call); first
                  | ((with_reducible apply w_call (v := .int _ _)); exact rfl))
                | ((with_reducible apply w_conv); exact rfl; exact rfl; exact rfl; first | exact i64_in _ (by omega) | exact u64_in _ (by omega) | exact u8_in _ (by omega) | exact u32_in _ (by omega))
                | ((with_reducible apply w_convw); exact rfl; exact rfl; exact rfl)
                | ((with_reducible apply w_bsl (ls := [_])); exact rfl; exact rfl; exact rfl; exact ⟨by decide, rfl⟩; exact rfl))
              | ((with_reducible apply g_gd); first
                | ((with_reducible apply w_gd_t); exact rfl; all_goals (intro hc; first | (exfalso; omega) | skip)))
              | with_reducible refine w_seq ?_
              | with_reducible refine w_nil ?_
              | with_reducible refine w_region ?_
              | with_reducible refine w_block ?_
              | ((with_reducible apply w_yes); exact rfl))
            all_goals refine w_app1 (by_ := 8) (sz := 1) (ns := [_]) rfl rfl rfl rfl rfl rfl (by simp (disch := omega) only [upd_ne]; exact hnd4) (rd_all (by rw [flat_len (enc := ii) (sz := 1) (fun _ => rfl)])) (by exact upd_same) rfl rfl (by decide) (by omega) ?_
            repeat' (first
              | ((with_reducible apply g_op); first
                | ((with_reducible apply g_move); first
                  | ((with_reducible apply w_pure (v := .int _ _)); exact rfl; exact rfl)
                  | ((with_reducible apply w_pure (v := .bool _)); exact rfl; exact rfl)
                  | ((with_reducible apply w_pure (v := .map _)); exact rfl; exact rfl))
                | ((with_reducible apply g_fld); first
                  | ((with_reducible apply w_fldp (o := 0)); exact rfl; exact rfl; exact rfl; exact (by decide)))
                | ((with_reducible apply g_pick); first
                  | ((with_reducible apply w_pk1 (v := .bool _)); exact rfl; exact rfl; (first | assumption | exact decide_eq_true (by assumption) | exact decide_eq_false (by assumption) | exact decide_eq_true (by omega) | exact decide_eq_false (by omega) | exact beq_iff_eq.2 (by omega) | exact beq_eq_false_iff_ne.2 (by omega) | exact bne_iff_ne.2 (by omega) | exact bne_eq_false_iff_eq.2 (by omega))))
                | ((with_reducible apply g_assign); first
                  | ((with_reducible apply w_pure (v := .int _ _)); exact rfl; exact rfl))
                | ((with_reducible apply g_store); first
                  | ((with_reducible apply w_store (us := [.slice _ _ _]) (ws := [_, _, _, _, _, _, _, _, _])); exact rfl; exact rfl; (first | assumption | (simp (disch := omega) only [upd_same, upd_ne]; first | done | assumption | exact rfl) | exact rfl); omega; exact rfl; exact rfl; exact rfl)
                  | ((with_reducible apply w_store (us := [_, _, _, _, _, _, _, _, _]) (ws := [_, _, _, _, _, _, _, _, _])); exact rfl; exact rfl; (first | assumption | (simp (disch := omega) only [upd_same, upd_ne]; first | done | assumption | exact rfl) | exact rfl); omega; exact rfl; exact rfl; exact rfl))
                | ((with_reducible apply w_notd); exact rfl)
                | ((with_reducible apply g_build); first
                  | ((with_reducible apply w_pure (v := .agg #[_, _, _, _, _, _, _, _, _])); exact rfl; exact rfl))
                | ((with_reducible apply w_pure (v := .bool _)); exact rfl; exact rfl))
              | ((with_reducible apply g_gd); first
                | ((with_reducible apply w_pass); exact rfl)
                | ((with_reducible apply w_gd_f); exact rfl; all_goals (intro hc; first | (exfalso; omega) | skip)))
              | with_reducible refine w_seq ?_
              | with_reducible refine w_nil ?_
              | with_reducible refine w_region ?_
              | with_reducible refine w_skip ?_
              | with_reducible refine w_blk ?_
              | ((with_reducible apply w_exit); exact rfl)
              | ((with_reducible apply w_yes); exact rfl)
              | ((with_reducible apply w_ifd); exact rfl; all_goals (intro hc; first | (exfalso; omega) | skip))
              | ((with_reducible apply w_retct (v := .agg #[_, _, _, _, _, _, _, _, _]) (u := .int _ _)); exact rfl; exact rfl; (first | assumption | (simp (disch := omega) only [upd_same, upd_ne]; first | done | assumption | exact rfl) | exact rfl); exact rfl; exact rfl))
            all_goals first
              | (rw [if_neg (by omega)] at hgo; subst hgo; exact fr_zero _ _)
              | skip
            rw [if_pos (by omega)] at hgo
            refine w_mput (ek := Value.int .u64) (evv := Value.bool) (es := es) (v := true) (key := 1) rfl rfl rfl rfl (keyK_int (q := .u64) (by kernel_rfl)) (by first | exact hg2 | (simp (disch := omega) only [upd_ne]; exact hg2)) (by omega) ?_
            repeat' (first
              | ((with_reducible apply g_op); first
                | ((with_reducible apply g_move); first
                  | ((with_reducible apply w_pure (v := .int _ _)); exact rfl; exact rfl))
                | ((with_reducible apply g_bin); first
                  | ((with_reducible apply w_wrap); exact rfl; exact rfl; first | exact i64_in _ (by omega) | exact u64_in _ (by omega) | exact u8_in _ (by omega)))
                | ((with_reducible apply g_assign); first
                  | ((with_reducible apply w_pure (v := .int _ _)); exact rfl; exact rfl)))
              | with_reducible refine w_nil ?_
              | with_reducible refine w_region ?_
              | with_reducible refine w_blk ?_)
            refine ih (k + 1, { d with nd := d.nd ++ [x] }, mput es 1 true, some (nl + 1)) _ _ _ (by dsimp only; omega) ⟨rfl, rfl, rfl, rfl, by dsimp only; push_cast; rfl, ?_, ?_, upd_same, ⟨by simp, by omega, by omega, ?_⟩, by simp; omega, by dsimp only; omega, by dsimp only; rw [← hgo]; congr 1; omega, by dsimp only; omega, by omega⟩
            · simp (disch := omega) only [upd_ne]; exact hg0
            · simp (disch := omega) only [upd_same, upd_ne]; simp [ndV]; rfl
            · simp (disch := omega) only [upd_same, upd_ne]; rw [List.flatMap_append]; rfl
        · rw [if_neg h1] at hgo
          have hsn : ((mget es t).map Value.bool).getD (.bool false) = .bool (seen es t) := by unfold seen; cases mget es t <;> rfl
          by_cases h9 : t = 9 ∨ t = 11
          · rw [if_pos h9] at hgo
            have hfv : fieldV (n + 1) t = .pointer none := by rcases h9 with rfl | rfl <;> rfl
            rw [hfv]
            repeat' (first
              | ((with_reducible apply g_op); first
                | ((with_reducible apply g_move); first
                  | ((with_reducible apply w_pure (v := .int _ _)); exact rfl; exact rfl)
                  | ((with_reducible apply w_pure (v := .bool _)); exact rfl; exact rfl)
                  | ((with_reducible apply w_pure (v := .map _)); exact rfl; exact rfl))
                | ((with_reducible apply g_bin); first
                  | ((with_reducible apply w_pure (v := .bool _)); exact rfl; exact rfl))
                | ((with_reducible apply g_pick); first
                  | ((with_reducible apply w_pk1 (v := .bool _)); exact rfl; exact rfl; (first | assumption | exact decide_eq_true (by assumption) | exact decide_eq_false (by assumption) | exact decide_eq_true (by omega) | exact decide_eq_false (by omega) | exact beq_iff_eq.2 (by omega) | exact beq_eq_false_iff_ne.2 (by omega) | exact bne_iff_ne.2 (by omega) | exact bne_eq_false_iff_eq.2 (by omega)))
                  | ((with_reducible apply w_pk0 (v := .bool _)); exact rfl; exact rfl; (first | assumption | exact decide_eq_true (by assumption) | exact decide_eq_false (by assumption) | exact decide_eq_true (by omega) | exact decide_eq_false (by omega) | exact beq_iff_eq.2 (by omega) | exact beq_eq_false_iff_ne.2 (by omega) | exact bne_iff_ne.2 (by omega) | exact bne_eq_false_iff_eq.2 (by omega))))
                | ((with_reducible apply g_assign); first
                  | ((with_reducible apply w_pure (v := .int _ _)); exact rfl; exact rfl)
                  | ((with_reducible apply w_pure (v := .bool _)); exact rfl; exact rfl)
                  | ((with_reducible apply w_pure (v := .pointer _)); exact rfl; exact rfl))
                | ((with_reducible apply g_store); first
                  | ((with_reducible apply w_store (us := [_, _, _, _, _, _, _, _, _]) (ws := [_, _, _, _, _, _, _, _, _])); exact rfl; exact rfl; (first | assumption | (simp (disch := omega) only [upd_same, upd_ne]; first | done | assumption | exact rfl) | exact rfl); omega; exact rfl; exact rfl; exact rfl))
                | ((with_reducible apply g_build); first
                  | ((with_reducible apply w_pure (v := .agg #[_, _, _, _, _, _, _, _, _])); exact rfl; exact rfl))
                | ((with_reducible apply w_pure (v := .bool _)); exact rfl; exact rfl))
              | ((with_reducible apply g_gd); first
                | ((with_reducible apply w_pass); exact rfl)
                | ((with_reducible apply w_gd_t); exact rfl; all_goals (intro hc; first | (exfalso; omega) | skip))
                | ((with_reducible apply w_gd_f); exact rfl; all_goals (intro hc; first | (exfalso; omega) | skip)))
              | with_reducible refine w_seq ?_
              | with_reducible refine w_nil ?_
              | with_reducible refine w_region ?_
              | with_reducible refine w_block ?_
              | with_reducible refine w_blk ?_
              | ((with_reducible apply w_exit); exact rfl)
              | ((with_reducible apply w_yes); exact rfl)
              | ((with_reducible apply w_ifd); exact rfl; all_goals (intro hc; first | (exfalso; omega) | skip))
              | ((with_reducible apply w_retct (v := .agg #[_, _, _, _, _, _, _, _, _]) (u := .int _ _)); exact rfl; exact rfl; (first | assumption | (simp (disch := omega) only [upd_same, upd_ne]; first | done | assumption | exact rfl) | exact rfl); exact rfl; exact rfl))
            all_goals first
              | (rw [if_neg (by omega)] at hgo; subst hgo; exact fr_zero _ _)
              | skip
            all_goals (
              refine w_look (ek := Value.int .u64) (evv := Value.bool) (es := es) (key := t) (z := .bool false) rfl rfl rfl (keyK_int (q := .u64) (by kernel_rfl)) rfl (by first | exact hg2 | (simp (disch := omega) only [upd_ne]; exact hg2)) ?_
              rw [hsn]
              cases hse : seen es t with
              | true =>
                rw [if_neg (by simp [hse])] at hgo
                subst hgo
                repeat' (first
                  | ((with_reducible apply g_op); first
                    | ((with_reducible apply g_move); first
                      | ((with_reducible apply w_pure (v := .bool _)); exact rfl; exact rfl))
                    | ((with_reducible apply g_pick); first
                      | ((with_reducible apply w_pk1 (v := .bool _)); exact rfl; exact rfl; (first | assumption | exact decide_eq_true (by assumption) | exact decide_eq_false (by assumption) | exact decide_eq_true (by omega) | exact decide_eq_false (by omega) | exact beq_iff_eq.2 (by omega) | exact beq_eq_false_iff_ne.2 (by omega) | exact bne_iff_ne.2 (by omega) | exact bne_eq_false_iff_eq.2 (by omega))))
                    | ((with_reducible apply g_assign); first
                      | ((with_reducible apply w_pure (v := .int _ _)); exact rfl; exact rfl)
                      | ((with_reducible apply w_pure (v := .bool _)); exact rfl; exact rfl))
                    | ((with_reducible apply g_store); first
                      | ((with_reducible apply w_store (us := [_, _, _, _, _, _, _, _, _]) (ws := [_, _, _, _, _, _, _, _, _])); exact rfl; exact rfl; (first | assumption | (simp (disch := omega) only [upd_same, upd_ne]; first | done | assumption | exact rfl) | exact rfl); omega; exact rfl; exact rfl; exact rfl))
                    | ((with_reducible apply g_build); first
                      | ((with_reducible apply w_pure (v := .agg #[_, _, _, _, _, _, _, _, _])); exact rfl; exact rfl))
                    | ((with_reducible apply w_pure (v := .bool _)); exact rfl; exact rfl))
                  | ((with_reducible apply g_gd); first
                    | ((with_reducible apply w_pass); exact rfl)
                    | ((with_reducible apply w_gd_t); exact rfl; all_goals (intro hc; first | (exfalso; omega) | skip)))
                  | with_reducible refine w_seq ?_
                  | with_reducible refine w_nil ?_
                  | with_reducible refine w_region ?_
                  | with_reducible refine w_blk ?_
                  | ((with_reducible apply w_exit); exact rfl)
                  | ((with_reducible apply w_yes); exact rfl)
                  | ((with_reducible apply w_retct (v := .agg #[_, _, _, _, _, _, _, _, _]) (u := .int _ _)); exact rfl; exact rfl; (first | assumption | (simp (disch := omega) only [upd_same, upd_ne]; first | done | assumption | exact rfl) | exact rfl); exact rfl; exact rfl))
                exact fr_zero _ _
              | false =>
                rw [if_pos ⟨by assumption, hse⟩] at hgo
                repeat' (first
                  | ((with_reducible apply g_op); first
                    | ((with_reducible apply g_move); first
                      | ((with_reducible apply w_pure (v := .int _ _)); exact rfl; exact rfl)
                      | ((with_reducible apply w_pure (v := .bool _)); exact rfl; exact rfl)
                      | ((with_reducible apply w_pure (v := .map _)); exact rfl; exact rfl))
                    | ((with_reducible apply g_pick); first
                      | ((with_reducible apply w_pk1 (v := .bool _)); exact rfl; exact rfl; (first | assumption | exact decide_eq_true (by assumption) | exact decide_eq_false (by assumption) | exact decide_eq_true (by omega) | exact decide_eq_false (by omega) | exact beq_iff_eq.2 (by omega) | exact beq_eq_false_iff_ne.2 (by omega) | exact bne_iff_ne.2 (by omega) | exact bne_eq_false_iff_eq.2 (by omega))))
                    | ((with_reducible apply g_assign); first
                      | ((with_reducible apply w_pure (v := .bool _)); exact rfl; exact rfl))
                    | ((with_reducible apply w_pure (v := .bool _)); exact rfl; exact rfl))
                  | ((with_reducible apply g_gd); first
                    | ((with_reducible apply w_gd_t); exact rfl; all_goals (intro hc; first | (exfalso; omega) | skip)))
                  | with_reducible refine w_seq ?_
                  | with_reducible refine w_nil ?_
                  | with_reducible refine w_region ?_
                  | with_reducible refine w_skip ?_
                  | with_reducible refine w_blk ?_
                  | ((with_reducible apply w_no); exact rfl))
                refine w_mput (ek := Value.int .u64) (evv := Value.bool) (es := es) (v := true) (key := t) rfl rfl rfl rfl (keyK_int (q := .u64) (by kernel_rfl)) (by first | exact hg2 | (simp (disch := omega) only [upd_ne]; exact hg2)) (by omega) ?_
                repeat' (first
                  | ((with_reducible apply g_op); first
                    | ((with_reducible apply g_move); first
                      | ((with_reducible apply w_pure (v := .int _ _)); exact rfl; exact rfl))
                    | ((with_reducible apply g_bin); first
                      | ((with_reducible apply w_wrap); exact rfl; exact rfl; first | exact i64_in _ (by omega) | exact u64_in _ (by omega) | exact u8_in _ (by omega)))
                    | ((with_reducible apply g_assign); first
                      | ((with_reducible apply w_pure (v := .int _ _)); exact rfl; exact rfl)))
                  | with_reducible refine w_nil ?_
                  | with_reducible refine w_region ?_
                  | with_reducible refine w_blk ?_)
                refine ih (k + 1, d, mput es t true, o) _ _ _ (by dsimp only; omega) ⟨rfl, rfl, rfl, rfl, by dsimp only; push_cast; rfl, ?_, ?_, upd_same, hnd.later (Nat.le_refl _) (fun j h1 h2 => by simp (disch := omega) only [upd_ne]), by dsimp only; omega, by dsimp only; omega, by dsimp only; rw [← hgo]; congr 1; omega, by dsimp only; omega, by omega⟩
                · simp (disch := omega) only [upd_ne]; exact hg0
                · simp (disch := omega) only [upd_ne]; exact hg1)
          · rw [if_neg h9] at hgo
            cases ho : fieldO t with
            | none =>
              simp only [ho] at hgo
              have hfv : fieldV (n + 1) t = .pointer none := by unfold fieldV; rw [ho]
              rw [hfv]
              repeat' (first
                | ((with_reducible apply g_op); first
                  | ((with_reducible apply g_move); first
                    | ((with_reducible apply w_pure (v := .int _ _)); exact rfl; exact rfl)
                    | ((with_reducible apply w_pure (v := .bool _)); exact rfl; exact rfl)
                    | ((with_reducible apply w_pure (v := .pointer _)); exact rfl; exact rfl)
                    | ((with_reducible apply w_pure (v := .map _)); exact rfl; exact rfl))
                  | ((with_reducible apply g_bin); first
                    | ((with_reducible apply w_pure (v := .bool _)); exact rfl; exact rfl))
                  | ((with_reducible apply g_pick); first
                    | ((with_reducible apply w_pk0 (v := .bool _)); exact rfl; exact rfl; (first | assumption | exact decide_eq_true (by assumption) | exact decide_eq_false (by assumption) | exact decide_eq_true (by omega) | exact decide_eq_false (by omega) | exact beq_iff_eq.2 (by omega) | exact beq_eq_false_iff_ne.2 (by omega) | exact bne_iff_ne.2 (by omega) | exact bne_eq_false_iff_eq.2 (by omega))))
                  | ((with_reducible apply g_assign); first
                    | ((with_reducible apply w_pure (v := .bool _)); exact rfl; exact rfl)
                    | ((with_reducible apply w_pure (v := .pointer _)); exact rfl; exact rfl))
                  | ((with_reducible apply w_pure (v := .bool _)); exact rfl; exact rfl))
                | ((with_reducible apply g_gd); first
                  | ((with_reducible apply w_gd_f); exact rfl; all_goals (intro hc; first | (exfalso; omega) | skip)))
                | with_reducible refine w_seq ?_
                | with_reducible refine w_nil ?_
                | with_reducible refine w_region ?_
                | with_reducible refine w_skip ?_
                | with_reducible refine w_block ?_
                | with_reducible refine w_blk ?_
                | ((with_reducible apply w_no); exact rfl)
                | ((with_reducible apply w_ifd); exact rfl; all_goals (intro hc; first | (exfalso; omega) | skip)))
              refine w_mput (ek := Value.int .u64) (evv := Value.bool) (es := es) (v := true) (key := t) rfl rfl rfl rfl (keyK_int (q := .u64) (by kernel_rfl)) (by first | exact hg2 | (simp (disch := omega) only [upd_ne]; exact hg2)) (by omega) ?_
              repeat' (first
                | ((with_reducible apply g_op); first
                  | ((with_reducible apply g_move); first
                    | ((with_reducible apply w_pure (v := .int _ _)); exact rfl; exact rfl))
                  | ((with_reducible apply g_bin); first
                    | ((with_reducible apply w_wrap); exact rfl; exact rfl; first | exact i64_in _ (by omega) | exact u64_in _ (by omega) | exact u8_in _ (by omega)))
                  | ((with_reducible apply g_assign); first
                    | ((with_reducible apply w_pure (v := .int _ _)); exact rfl; exact rfl)))
                | with_reducible refine w_nil ?_
                | with_reducible refine w_region ?_
                | with_reducible refine w_blk ?_)
              refine ih (k + 1, d, mput es t true, o) _ _ _ (by dsimp only; omega) ⟨rfl, rfl, rfl, rfl, by dsimp only; push_cast; rfl, ?_, ?_, upd_same, hnd.later (Nat.le_refl _) (fun j h1 h2 => by simp (disch := omega) only [upd_ne]), by dsimp only; omega, by dsimp only; omega, by dsimp only; rw [← hgo]; congr 1; omega, by dsimp only; omega, by omega⟩
              · simp (disch := omega) only [upd_ne]; exact hg0
              · simp (disch := omega) only [upd_ne]; exact hg1
            | some q =>
              simp only [ho] at hgo
              have hfv : fieldV (n + 1) t = ptr (n + 1) q := by unfold fieldV; rw [ho]
              obtain ⟨hq1, hq8⟩ := field_lt ho
              have hpa := put_at d (ndV o d.nd.length) t x q ho
              rw [hfv]
              have hl9 : ∀ v, (d.cs v).length = 9 := fun _ => rfl
              by_cases hc : x ≤ 1099511627776
              · repeat' (first
                  | ((with_reducible apply g_op); first
                    | ((with_reducible apply g_move); first
                      | ((with_reducible apply w_pure (v := .int _ _)); exact rfl; exact rfl)
                      | ((with_reducible apply w_pure (v := .bool _)); exact rfl; exact rfl)
                      | ((with_reducible apply w_pure (v := .pointer _)); exact rfl; exact rfl)
                      | ((with_reducible apply w_pure (v := .map _)); exact rfl; exact rfl))
                    | ((with_reducible apply g_bin); first
                      | ((with_reducible apply w_pure (v := .bool _)); exact rfl; exact rfl))
                    | ((with_reducible apply g_pick); first
                      | ((with_reducible apply w_pk0 (v := .bool _)); exact rfl; exact rfl; (first | assumption | exact decide_eq_true (by assumption) | exact decide_eq_false (by assumption) | exact decide_eq_true (by omega) | exact decide_eq_false (by omega) | exact beq_iff_eq.2 (by omega) | exact beq_eq_false_iff_ne.2 (by omega) | exact bne_iff_ne.2 (by omega) | exact bne_eq_false_iff_eq.2 (by omega))))
                    | ((with_reducible apply g_assign); first
                      | ((with_reducible apply w_pure (v := .bool _)); exact rfl; exact rfl)
                      | ((with_reducible apply w_pure (v := .pointer _)); exact rfl; exact rfl)))
                  | ((with_reducible apply g_gd); first
                    | ((with_reducible apply w_gd_t); exact rfl; all_goals (intro hc; first | (exfalso; omega) | skip))
                    | ((with_reducible apply w_gd_f); exact rfl; all_goals (intro hc; first | (exfalso; omega) | skip)))
                  | with_reducible refine w_seq ?_
                  | with_reducible refine w_nil ?_
                  | with_reducible refine w_region ?_
                  | with_reducible refine w_block ?_
                  | ((with_reducible apply w_yes); exact rfl)
                  | ((with_reducible apply w_ifd); exact rfl; all_goals (intro hc; first | (exfalso; omega) | skip)))
                refine w_look (ek := Value.int .u64) (evv := Value.bool) (es := es) (key := t) (z := .bool false) rfl rfl rfl (keyK_int (q := .u64) (by kernel_rfl)) rfl (by first | exact hg2 | (simp (disch := omega) only [upd_ne]; exact hg2)) ?_
                rw [hsn]
                cases hse : seen es t with
                | true =>
                  rw [if_neg (by simp [hse])] at hgo
                  subst hgo
                  repeat' (first
                    | ((with_reducible apply g_op); first
                      | ((with_reducible apply g_move); first
                        | ((with_reducible apply w_pure (v := .int _ _)); exact rfl; exact rfl)
                        | ((with_reducible apply w_pure (v := .pointer _)); exact rfl; exact rfl))
                      | ((with_reducible apply g_pick); first
                        | ((with_reducible apply w_pk1 (v := .bool _)); exact rfl; exact rfl; (first | assumption | exact decide_eq_true (by assumption) | exact decide_eq_false (by assumption) | exact decide_eq_true (by omega) | exact decide_eq_false (by omega) | exact beq_iff_eq.2 (by omega) | exact beq_eq_false_iff_ne.2 (by omega) | exact bne_iff_ne.2 (by omega) | exact bne_eq_false_iff_eq.2 (by omega))))
                      | ((with_reducible apply g_assign); first
                        | ((with_reducible apply w_pure (v := .bool _)); exact rfl; exact rfl))
                      | ((with_reducible apply w_conv); exact rfl; exact rfl; exact rfl; first | exact i64_in _ (by omega) | exact u64_in _ (by omega) | exact u8_in _ (by omega) | exact u32_in _ (by omega))
                      | ((with_reducible apply w_pure (v := .bool _)); exact rfl; exact rfl)
                      | ((with_reducible apply w_pure (v := .pointer _)); exact rfl; exact rfl))
                    | ((with_reducible apply g_gd); first
                      | ((with_reducible apply w_gd_t); exact rfl; all_goals (intro hc; first | (exfalso; omega) | skip)))
                    | with_reducible refine w_nil ?_
                    | with_reducible refine w_region ?_)
                  refine w_st1 (i := n + 1) (off := q) (v := .int .i64 x) rfl rfl rfl rfl hg1 (by omega) rfl (by rw [hl9]; omega) ?_
                  repeat' (first
                    | ((with_reducible apply g_op); first
                      | ((with_reducible apply g_move); first
                        | ((with_reducible apply w_pure (v := .bool _)); exact rfl; exact rfl))
                      | ((with_reducible apply g_assign); first
                        | ((with_reducible apply w_pure (v := .int _ _)); exact rfl; exact rfl))
                      | ((with_reducible apply g_store); first
                        | ((with_reducible apply w_store (us := [_, _, _, _, _, _, _, _, _]) (ws := [_, _, _, _, _, _, _, _, _])); exact rfl; exact rfl; (first | assumption | (simp (disch := omega) only [upd_same, upd_ne]; first | done | assumption | exact rfl) | exact rfl); omega; exact rfl; exact rfl; exact rfl))
                      | ((with_reducible apply g_build); first
                        | ((with_reducible apply w_pure (v := .agg #[_, _, _, _, _, _, _, _, _])); exact rfl; exact rfl))
                      | ((with_reducible apply w_pure (v := .bool _)); exact rfl; exact rfl))
                    | ((with_reducible apply g_gd); first
                      | ((with_reducible apply w_pass); exact rfl))
                    | with_reducible refine w_seq ?_
                    | with_reducible refine w_nil ?_
                    | with_reducible refine w_region ?_
                    | with_reducible refine w_blk ?_
                    | ((with_reducible apply w_exit); exact rfl)
                    | ((with_reducible apply w_yes); exact rfl)
                    | ((with_reducible apply w_retct (v := .agg #[_, _, _, _, _, _, _, _, _]) (u := .int _ _)); exact rfl; exact rfl; (first | assumption | (simp (disch := omega) only [upd_same, upd_ne]; first | done | assumption | exact rfl) | exact rfl); exact rfl; exact rfl))
                  exact fr_zero _ _
                | false =>
                  rw [if_pos ⟨hc, hse⟩] at hgo
                  repeat' (first
                    | ((with_reducible apply g_op); first
                      | ((with_reducible apply g_move); first
                        | ((with_reducible apply w_pure (v := .int _ _)); exact rfl; exact rfl)
                        | ((with_reducible apply w_pure (v := .pointer _)); exact rfl; exact rfl))
                      | ((with_reducible apply g_pick); first
                        | ((with_reducible apply w_pk1 (v := .bool _)); exact rfl; exact rfl; (first | assumption | exact decide_eq_true (by assumption) | exact decide_eq_false (by assumption) | exact decide_eq_true (by omega) | exact decide_eq_false (by omega) | exact beq_iff_eq.2 (by omega) | exact beq_eq_false_iff_ne.2 (by omega) | exact bne_iff_ne.2 (by omega) | exact bne_eq_false_iff_eq.2 (by omega))))
                      | ((with_reducible apply g_assign); first
                        | ((with_reducible apply w_pure (v := .bool _)); exact rfl; exact rfl))
                      | ((with_reducible apply w_conv); exact rfl; exact rfl; exact rfl; first | exact i64_in _ (by omega) | exact u64_in _ (by omega) | exact u8_in _ (by omega) | exact u32_in _ (by omega))
                      | ((with_reducible apply w_pure (v := .bool _)); exact rfl; exact rfl)
                      | ((with_reducible apply w_pure (v := .pointer _)); exact rfl; exact rfl))
                    | ((with_reducible apply g_gd); first
                      | ((with_reducible apply w_gd_t); exact rfl; all_goals (intro hc; first | (exfalso; omega) | skip)))
                    | with_reducible refine w_nil ?_
                    | with_reducible refine w_region ?_)
                  refine w_st1 (i := n + 1) (off := q) (v := .int .i64 x) rfl rfl rfl rfl hg1 (by omega) rfl (by rw [hl9]; omega) ?_
                  rw [hpa]
                  repeat' (first
                    | ((with_reducible apply g_op); first
                      | ((with_reducible apply g_move); first
                        | ((with_reducible apply w_pure (v := .int _ _)); exact rfl; exact rfl)
                        | ((with_reducible apply w_pure (v := .bool _)); exact rfl; exact rfl)
                        | ((with_reducible apply w_pure (v := .map _)); exact rfl; exact rfl))
                      | ((with_reducible apply w_pure (v := .bool _)); exact rfl; exact rfl))
                    | with_reducible refine w_seq ?_
                    | with_reducible refine w_nil ?_
                    | with_reducible refine w_region ?_
                    | with_reducible refine w_skip ?_
                    | with_reducible refine w_blk ?_
                    | ((with_reducible apply w_no); exact rfl))
                  refine w_mput (ek := Value.int .u64) (evv := Value.bool) (es := es) (v := true) (key := t) rfl rfl rfl rfl (keyK_int (q := .u64) (by kernel_rfl)) (by first | exact hg2 | (simp (disch := omega) only [upd_ne]; exact hg2)) (by omega) ?_
                  repeat' (first
                    | ((with_reducible apply g_op); first
                      | ((with_reducible apply g_move); first
                        | ((with_reducible apply w_pure (v := .int _ _)); exact rfl; exact rfl))
                      | ((with_reducible apply g_bin); first
                        | ((with_reducible apply w_wrap); exact rfl; exact rfl; first | exact i64_in _ (by omega) | exact u64_in _ (by omega) | exact u8_in _ (by omega)))
                      | ((with_reducible apply g_assign); first
                        | ((with_reducible apply w_pure (v := .int _ _)); exact rfl; exact rfl)))
                    | with_reducible refine w_nil ?_
                    | with_reducible refine w_region ?_
                    | with_reducible refine w_blk ?_)
                  have hpn := put_nd d t x
                  refine ih (k + 1, d.put t x, mput es t true, o) _ _ _ (by dsimp only; omega) ⟨rfl, rfl, rfl, rfl, by dsimp only; push_cast; rfl, ?_, ?_, upd_same, by dsimp only; rw [hpn]; exact hnd.later (Nat.le_refl _) (fun j h1 h2 => by simp (disch := omega) only [upd_ne]), by dsimp only; rw [hpn]; omega, by dsimp only; omega, by dsimp only; rw [← hgo]; congr 1; omega, by dsimp only; omega, by omega⟩
                  · simp (disch := omega) only [upd_ne]; exact hg0
                  · dsimp only; rw [hpn]; simp (disch := omega) only [upd_same, upd_ne]
              · rw [if_neg (fun h => hc h.1)] at hgo
                subst hgo
                repeat' (first
                  | ((with_reducible apply g_op); first
                    | ((with_reducible apply g_move); first
                      | ((with_reducible apply w_pure (v := .int _ _)); exact rfl; exact rfl)
                      | ((with_reducible apply w_pure (v := .bool _)); exact rfl; exact rfl)
                      | ((with_reducible apply w_pure (v := .pointer _)); exact rfl; exact rfl))
                    | ((with_reducible apply g_bin); first
                      | ((with_reducible apply w_pure (v := .bool _)); exact rfl; exact rfl))
                    | ((with_reducible apply g_pick); first
                      | ((with_reducible apply w_pk0 (v := .bool _)); exact rfl; exact rfl; (first | assumption | exact decide_eq_true (by assumption) | exact decide_eq_false (by assumption) | exact decide_eq_true (by omega) | exact decide_eq_false (by omega) | exact beq_iff_eq.2 (by omega) | exact beq_eq_false_iff_ne.2 (by omega) | exact bne_iff_ne.2 (by omega) | exact bne_eq_false_iff_eq.2 (by omega))))
                    | ((with_reducible apply g_assign); first
                      | ((with_reducible apply w_pure (v := .bool _)); exact rfl; exact rfl)
                      | ((with_reducible apply w_pure (v := .pointer _)); exact rfl; exact rfl))
                    | ((with_reducible apply w_convw); exact rfl; exact rfl; exact rfl)
                    | ((with_reducible apply w_pure (v := .pointer _)); exact rfl; exact rfl))
                  | ((with_reducible apply g_gd); first
                    | ((with_reducible apply w_gd_t); exact rfl; all_goals (intro hc; first | (exfalso; omega) | skip))
                    | ((with_reducible apply w_gd_f); exact rfl; all_goals (intro hc; first | (exfalso; omega) | skip)))
                  | with_reducible refine w_seq ?_
                  | with_reducible refine w_nil ?_
                  | with_reducible refine w_region ?_
                  | with_reducible refine w_block ?_
                  | ((with_reducible apply w_yes); exact rfl)
                  | ((with_reducible apply w_ifd); exact rfl; all_goals (intro hc; first | (exfalso; omega) | skip)))
                refine w_st1 (i := n + 1) (off := q) rfl rfl rfl rfl hg1 (by omega) rfl (by rw [hl9]; omega) ?_
                repeat' (first
                  | ((with_reducible apply g_op); first
                    | ((with_reducible apply g_move); first
                      | ((with_reducible apply w_pure (v := .bool _)); exact rfl; exact rfl))
                    | ((with_reducible apply g_assign); first
                      | ((with_reducible apply w_pure (v := .int _ _)); exact rfl; exact rfl))
                    | ((with_reducible apply g_store); first
                      | ((with_reducible apply w_store (us := [_, _, _, _, _, _, _, _, _]) (ws := [_, _, _, _, _, _, _, _, _])); exact rfl; exact rfl; (first | assumption | (simp (disch := omega) only [upd_same, upd_ne]; first | done | assumption | exact rfl) | exact rfl); omega; exact rfl; exact rfl; exact rfl))
                    | ((with_reducible apply g_build); first
                      | ((with_reducible apply w_pure (v := .agg #[_, _, _, _, _, _, _, _, _])); exact rfl; exact rfl))
                    | ((with_reducible apply w_pure (v := .bool _)); exact rfl; exact rfl))
                  | ((with_reducible apply g_gd); first
                    | ((with_reducible apply w_pass); exact rfl))
                  | with_reducible refine w_seq ?_
                  | with_reducible refine w_nil ?_
                  | with_reducible refine w_region ?_
                  | with_reducible refine w_blk ?_
                  | ((with_reducible apply w_exit); exact rfl)
                  | ((with_reducible apply w_yes); exact rfl)
                  | ((with_reducible apply w_retct (v := .agg #[_, _, _, _, _, _, _, _, _]) (u := .int _ _)); exact rfl; exact rfl; (first | assumption | (simp (disch := omega) only [upd_same, upd_ne]; first | done | assumption | exact rfl) | exact rfl); exact rfl; exact rfl))
                exact fr_zero _ _
    · rw [if_pos hb] at hgo
      subst hgo
      cases tb <;> cases xb <;> first | (exact absurd ⟨rfl, rfl⟩ hb) | skip
      all_goals (
        repeat' (first
          | ((with_reducible apply g_op); first
            | ((with_reducible apply g_move); first
              | ((with_reducible apply w_pure (v := .bool _)); exact rfl; exact rfl)
              | ((with_reducible apply w_pure (v := .tuple _)); exact rfl; exact rfl))
            | ((with_reducible apply g_pick); first
              | ((with_reducible apply w_pk1 (v := .bool _)); exact rfl; exact rfl; (first | assumption | exact decide_eq_true (by assumption) | exact decide_eq_false (by assumption) | exact decide_eq_true (by omega) | exact decide_eq_false (by omega) | exact beq_iff_eq.2 (by omega) | exact beq_eq_false_iff_ne.2 (by omega) | exact bne_iff_ne.2 (by omega) | exact bne_eq_false_iff_eq.2 (by omega)))
              | ((with_reducible apply w_pk0 (v := .bool _)); exact rfl; exact rfl; (first | assumption | exact decide_eq_true (by assumption) | exact decide_eq_false (by assumption) | exact decide_eq_true (by omega) | exact decide_eq_false (by omega) | exact beq_iff_eq.2 (by omega) | exact beq_eq_false_iff_ne.2 (by omega) | exact bne_iff_ne.2 (by omega) | exact bne_eq_false_iff_eq.2 (by omega))))
            | ((with_reducible apply g_assign); first
              | ((with_reducible apply w_pure (v := .int _ _)); exact rfl; exact rfl)
              | ((with_reducible apply w_pure (v := .bool _)); exact rfl; exact rfl))
            | ((with_reducible apply g_store); first
              | ((with_reducible apply w_store (us := [_, _, _, _, _, _, _, _, _]) (ws := [_, _, _, _, _, _, _, _, _])); exact rfl; exact rfl; (first | assumption | (simp (disch := omega) only [upd_same, upd_ne]; first | done | assumption | exact rfl) | exact rfl); omega; exact rfl; exact rfl; exact rfl))
            | ((with_reducible apply g_build); first
              | ((with_reducible apply w_pure (v := .agg #[_, _, _, _, _, _, _, _, _])); exact rfl; exact rfl))
            | ((with_reducible apply w_pure (v := .int _ _)); exact rfl; exact rfl)
            | ((with_reducible apply w_pure (v := .bool _)); exact rfl; exact rfl))
          | ((with_reducible apply g_gd); first
            | ((with_reducible apply w_want); exact rfl)
            | ((with_reducible apply w_pass); exact rfl))
          | with_reducible refine w_seq ?_
          | with_reducible refine w_nil ?_
          | with_reducible refine w_region ?_
          | ((with_reducible apply w_exit); exact rfl)
          | ((with_reducible apply w_yes); exact rfl)
          | ((with_reducible apply w_retct (v := .agg #[_, _, _, _, _, _, _, _, _]) (u := .int _ _)); exact rfl; exact rfl; (first | assumption | (simp (disch := omega) only [upd_same, upd_ne]; first | done | assumption | exact rfl) | exact rfl); exact rfl; exact rfl))
        exact fr_zero _ _)
  · simp (disch := omega) only [upd_same, upd_ne]; rfl
  · simp (disch := omega) only [upd_same, upd_ne]; rfl
  · simp (disch := omega) only [upd_same, upd_ne]; rfl
end Go.Proofs.Ytffgdfoeeaoonaa.L

