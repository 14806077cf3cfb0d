/- RegionOnce: walked, and its plain law. -/
import Derived.Test.Ytnlgindlmlbfiaac15U
namespace Go.Proofs.Ytnlgindlmlbfiaa.L.RegionOnce
open Go.L1 Go.IntWalk Go.Proofs.Ytnlgindlmlbfiaa.L
set_option linter.unusedVariables false
set_option linter.unusedSimpArgs false
set_option maxHeartbeats 4000000
set_option maxRecDepth 20000
def tab : Tb := L.T
theorem tabok : ∀ C : Cx, C.P = Try.prog → TbOk C tab := L.tabok
section
variable {P : Program} {T : Tb} {fn : Func} {k : List It} {σ : Env} {g : Nat → Option Ob} {n m : Nat} {Q : Value → (Nat → Option Ob) → Nat → Prop} {b : Bool} {all : Array Oper} {l : List Oper} {d : Option Tmp} {ty : TypeId} {pos : String} {af : Array Edge}
theorem w_aix {t : TypeId} {x j : Operand} {i off nn sz : Nat} {kd : IntKind} {q : Int} {e : TypeId} (hx : ev σ x = ptr i off) (hj : ev σ j = .int kd q) (he : arrOf P t = some (nn, e)) (hs : szOf P e = some sz) (h0 : 0 ≤ q ∧ q < nn) (h : Go P T fn (.ops b all l :: k) (put d (ptr i (off + q.toNat * sz)) σ) g n m Q) : Go P T fn (.ops b all (⟨d, .indexAddr t x j, ty, pos, af, none⟩ :: l) :: k) σ g n m Q := by
  refine w_pure rfl ?_ h
  simp only [op0, hx, hj, he, hs, Option.bind_some]
  rw [if_pos h0]
theorem w_remt {t ty2 : TypeId} {x y : Operand} {kd : IntKind} {a c : Int} (hx : ev σ x = .int kd a) (hy : ev σ y = .int kd c) (h1 : nilConst P t x = false) (h2 : nilConst P t y = false) (hc : 0 < c) (h : Go P T fn (.ops b all l :: k) (put d (.int kd (a.tmod c)) σ) g n m Q) : Go P T fn (.ops b all (⟨d, .binOp .rem t x y ty2, ty, pos, af, none⟩ :: l) :: k) σ g n m Q := by
  refine w_pure rfl ?_ h
  simp only [op0, h1, h2, Bool.false_eq_true, if_false, hx, hy, bin]
  have : c ≠ 0 := by omega
  simp [binInt, this]
theorem w_shrt {t ty2 : TypeId} {x y : Operand} {kd kd' : IntKind} {a : Int} (hx : ev σ x = .int kd a) (hy : ev σ y = .int kd' 1) (h1 : nilConst P t x = false) (h2 : nilConst P t y = false) (h : Go P T fn (.ops b all l :: k) (put d (.int kd (a.fdiv (2 ^ min (1 : Int).toNat kd.bits))) σ) g n m Q) : Go P T fn (.ops b all (⟨d, .binOp .shr t x y ty2, ty, pos, af, none⟩ :: l) :: k) σ g n m Q := by
  refine w_pure rfl ?_ h
  simp only [op0, h1, h2, Bool.false_eq_true, if_false, hx, hy, bin]
  rw [if_pos (.inr trivial)]
  rfl
end
def ic (y : Int) : List Value := [.int .i64 y]
def bc (y : Bool) : List Value := [.bool y]
theorem tmod_in (a : Int) {c : Int} (h : 0 < c) : -c < a.tmod c ∧ a.tmod c < c := by
  have h1 := Int.tmod_lt_of_pos a h
  have h2 := Int.tmod_lt_of_pos (-a) h
  rw [Int.neg_tmod] at h2
  omega
theorem walk (a b c d : Int) (X : List Int) (hX : X.length ≤ 20000000000000) (g : Nat → Option Ob) (n : Nat) : Rn Try.prog T 4 [.agg #[.int .i64 a, .int .i64 b, .int .i64 c, .int .i64 d], fz tg X.length (X.flatMap ic)] g n n (fun v _ _ => v = .bool true) := by
  refine c_open Try.func4 rfl rfl rfl rfl rfl rfl ?_
  repeat' (first
    | ((with_reducible apply g_op); first
      | ((with_reducible apply g_assign); first
        | ((with_reducible apply w_pure (v := .bool _)); exact rfl; exact rfl))
      | ((with_reducible apply g_box); first
        | ((with_reducible apply w_box (vs := [_, _, _, _])); exact rfl; exact rfl)))
    | with_reducible refine w_seq ?_
    | with_reducible refine w_nil ?_
    | with_reducible refine w_region ?_)
  refine w_rf awake_run (fun _ => rfl) sn_nil ?_
  rintro _ rfl
  obtain ⟨NN, hNN⟩ : ∃ NN : Nat, 1 + b % 16 = (NN : Int) := ⟨(1 + b % 16).toNat, by omega⟩
  have hN16 : NN ≤ 16 := by omega
  have hN0 : 0 < NN := by omega
  have hF : 0 ≤ a % 64 ∧ a % 64 < 64 := by omega
  have hP : 0 ≤ c % 8 ∧ c % 8 < 8 := by omega
  by_cases hfile : d % 2 = 1
  · repeat' (first
      | ((with_reducible apply g_op); first
        | ((with_reducible apply g_load); first
          | ((with_reducible apply w_load (v := .int _ _)); exact rfl; (first | assumption | (simp (disch := omega) only [upd_same, upd_ne]; first | done | assumption | exact rfl) | exact rfl); exact rfl)
          | ((with_reducible apply w_load (v := .agg #[_, _, _, _, _, _])); exact rfl; (first | assumption | (simp (disch := omega) only [upd_same, upd_ne]; first | done | assumption | exact rfl) | exact rfl); exact rfl))
        | ((with_reducible apply g_move); first
          | ((with_reducible apply w_pure (v := .int _ _)); exact rfl; exact rfl))
        | ((with_reducible apply g_bin); first
          | ((with_reducible apply w_and (j := 1) (c1 := 2)); exact rfl; exact rfl; exact rfl; exact rfl; exact rfl; exact (by decide); exact (by decide); exact (by decide))
          | ((with_reducible apply w_and (j := 3) (c1 := 8)); exact rfl; exact rfl; exact rfl; exact rfl; exact rfl; exact (by decide); exact (by decide); exact (by decide))
          | ((with_reducible apply w_and (j := 4) (c1 := 16)); exact rfl; exact rfl; exact rfl; exact rfl; exact rfl; exact (by decide); exact (by decide); exact (by decide))
          | ((with_reducible apply w_and (j := 6) (c1 := 64)); exact rfl; exact rfl; exact rfl; exact rfl; exact rfl; exact (by decide); exact (by decide); exact (by decide))
          | ((with_reducible apply w_and (j := 8) (c1 := 256)); exact rfl; exact rfl; exact rfl; exact rfl; exact rfl; exact (by decide); exact (by decide); exact (by decide))
          | ((with_reducible apply w_wrap); exact rfl; exact rfl; first | exact i64_in _ (by omega) | exact u64_in _ (by omega) | exact u8_in _ (by omega))
          | ((with_reducible apply w_pure (v := .bool _)); exact rfl; exact rfl)
          | ((with_reducible apply w_pure (v := .int _ _)); exact rfl; exact rfl))
        | ((with_reducible apply g_fld); first
          | ((with_reducible apply w_fldp (o := 3)); exact rfl; exact rfl; exact rfl; exact (by decide))
          | ((with_reducible apply w_fldp (o := 4)); exact rfl; exact rfl; exact rfl; exact (by decide))
          | ((with_reducible apply w_fldp (o := 5)); exact rfl; exact rfl; exact rfl; exact (by decide)))
        | ((with_reducible apply g_assign); first
          | ((with_reducible apply w_pure (v := .int _ _)); exact rfl; exact rfl)
          | ((with_reducible apply w_pure (v := .bool _)); exact rfl; exact rfl))
        | ((with_reducible apply g_store); first
          | ((with_reducible apply w_store (us := [.int _ _]) (ws := [_, _, _, _, _, _])); exact rfl; exact rfl; (first | assumption | (simp (disch := omega) only [upd_same, upd_ne]; first | done | assumption | exact rfl) | exact rfl); omega; exact rfl; exact rfl; exact rfl)
          | ((with_reducible apply w_store (us := [_, _, _, _, _, _]) (ws := [_, _, _, _, _, _])); exact rfl; exact rfl; (first | assumption | (simp (disch := omega) only [upd_same, upd_ne]; first | done | assumption | exact rfl) | exact rfl); omega; exact rfl; exact rfl; exact rfl))
        | ((with_reducible apply g_build); first
          | ((with_reducible apply w_pure (v := .agg #[.int _ _, .int _ _, .int _ _, .int _ _, .int _ _, .int _ _])); exact rfl; exact rfl))
        | ((with_reducible apply w_alloc (ls := [_, _, _, _, _, _])); exact rfl; exact rfl)
        | ((with_reducible apply w_pure (v := .pointer _)); exact rfl; exact rfl))
      | with_reducible refine w_seq ?_
      | with_reducible refine w_nil ?_
      | with_reducible refine w_region ?_
      | ((with_reducible apply w_ifd); exact rfl; all_goals (intro hc; first | (exfalso; omega) | skip)))
    have hgg : 0 ≤ d.fdiv (2 ^ min (Int.toNat 1) IntKind.i64.bits) % 256 ∧ d.fdiv (2 ^ min (Int.toNat 1) IntKind.i64.bits) % 256 < 256 := ⟨Int.emod_nonneg _ (by decide), Int.emod_lt_of_pos _ (by decide)⟩
    simp only [hNN]
    generalize d.fdiv (2 ^ min (Int.toNat 1) IntKind.i64.bits) % 256 = gg at *
    refine w_rf (add_run [] ⟨a % 64, a % 64 + NN, c % 8, 1, 3, gg⟩ (by simp)) (fun _ => rfl) (sn_cons nil_sn (sn_cons (rg_sn ⟨a % 64, a % 64 + NN, c % 8, 1, 3, gg⟩) sn_nil)) ?_
    rintro _ rfl
    obtain ⟨r, hr⟩ : ∃ r : Rg, r = ⟨a % 64, a % 64 + NN, c % 8, 1, 3, gg⟩ := ⟨_, rfl⟩
    have hmr : may r = true := by rw [may_iff, hr]; dsimp only; omega
    have hrf0 : a % 64 = r.f := by rw [hr]
    have hNr : (NN : Int) = r.t - r.f := by rw [hr]; dsimp only; omega
    have hrk : r.k = 1 := by rw [hr]
    have hrg : 0 ≤ r.g ∧ r.g < 256 := by rw [hr]; exact hgg
    rw [← hr, addS_one hmr]
    refine w_gen (fun G M => G (n + 1) = some (.cells 23 [.int .i64 r.f, .int .i64 r.t, .int .i64 r.p, .int .i64 r.k, .int .i64 r.l, .int .i64 r.g]) ∧ n + 2 ≤ M) ⟨by rw [hr]; exact upd_same, by omega⟩ ?_
    rintro G c0 ⟨hgr0, hc0⟩
    simp only [hrf0]
    repeat' (first
      | ((with_reducible apply g_op); first
        | ((with_reducible apply g_move); first
          | ((with_reducible apply w_pure (v := .tuple _)); exact rfl; exact rfl))
        | ((with_reducible apply g_assign); first
          | ((with_reducible apply w_pure (v := .int _ _)); exact rfl; exact rfl)
          | ((with_reducible apply w_pure (v := .slice _ _ _)); exact rfl; exact rfl)
          | ((with_reducible apply w_pure (v := .func _ _ _)); exact rfl; exact rfl))
        | ((with_reducible apply w_pure (v := .int _ _)); exact rfl; exact rfl)
        | ((with_reducible apply w_pure (v := .func _ _ _)); exact rfl; exact rfl))
      | with_reducible refine w_seq ?_
      | with_reducible refine w_nil ?_
      | with_reducible refine w_region ?_)
    refine w_alloc (ls := (List.replicate 16 false).flatMap bc) rfl rfl ?_
    repeat' (first
      | ((with_reducible apply g_op); first
        | ((with_reducible apply g_assign); first
          | ((with_reducible apply w_pure (v := .int _ _)); exact rfl; exact rfl)))
      | with_reducible refine w_seq ?_
      | with_reducible refine w_nil ?_
      | with_reducible refine w_region ?_
      | with_reducible refine w_block ?_)
    refine w_cntK [(4, 4), (11, 11), (13, 17), (51, 113)] (X.length + NN) (fun i (b : List Bool × List Rg) σ g' n' => LV (σ 11) b.2 ∧ σ 13 = .int .i64 (i : Nat) ∧ Made r NN b.1 b.2 ∧ (∀ k, k < NN → X.length + k < i → b.1[k]? = some true) ∧ g' (n + 1) = some (.cells 23 [.int .i64 r.f, .int .i64 r.t, .int .i64 r.p, .int .i64 r.k, .int .i64 r.l, .int .i64 r.g]) ∧ g' c0 = some (.cells 38 (b.1.flatMap bc)) ∧ c0 < n') ?_ ?_ (List.replicate 16 false, []) ?_
    · rintro i ⟨D, l⟩ σ g2 n2 hi ⟨hv, k13, hM, hdo, hgr, hgD, hn2⟩ ih
      dsimp only at hv hM hdo hgD
      obtain ⟨V, k11⟩ : ∃ V, σ 11 = V := ⟨_, rfl⟩
      rw [k11] at hv
      refine w_keep (i := 11) k11 (w_keep (i := 13) k13 ?_)
      by_cases hiL : i < X.length
      · obtain ⟨y, hy⟩ : ∃ y, X[i]? = some y := ⟨_, List.getElem?_eq_getElem hiL⟩
        repeat' (first
          | ((with_reducible apply g_op); first
            | ((with_reducible apply g_load); first
              | ((with_reducible apply w_fl (v := .int _ _)); exact rfl; exact (fun _ => rfl); assumption; exact rfl))
            | ((with_reducible apply g_move); first
              | ((with_reducible apply w_pure (v := .int _ _)); exact rfl; exact rfl)
              | ((with_reducible apply w_pure (v := .func _ _ _)); exact rfl; exact rfl))
            | ((with_reducible apply g_bin); first
              | ((with_reducible apply w_wrap); exact rfl; exact rfl; first | exact i64_in _ (by omega) | exact u64_in _ (by omega) | exact u8_in _ (by omega))
              | ((with_reducible apply w_pure (v := .bool _)); exact rfl; exact rfl))
            | ((with_reducible apply g_assign); first
              | ((with_reducible apply w_pure (v := .int _ _)); exact rfl; exact rfl))
            | ((with_reducible apply g_call); first
              | ((with_reducible apply w_call (v := .int _ _)); exact rfl))
            | ((with_reducible apply g_ix); first
              | ((with_reducible apply w_fx (sz := 1)); exact rfl; exact rfl; exact rfl; exact rfl; exact rfl; exact (fun _ => rfl); assumption; exact rfl)))
          | with_reducible refine w_seq ?_
          | with_reducible refine w_nil ?_
          | with_reducible refine w_region ?_
          | with_reducible refine w_skip ?_
          | with_reducible refine w_block ?_
          | ((with_reducible apply w_ifd); exact rfl; all_goals (intro hc; first | (exfalso; omega) | skip)))
        have ht := tmod_in y (c := (NN : Int)) (by omega)
        refine w_remt rfl rfl rfl rfl (by omega) ?_
        generalize y.tmod (NN : Int) = tm at *
        have h1 := Int.emod_nonneg (tm + NN) (show (NN : Int) ≠ 0 by omega)
        have h2 := Int.emod_lt_of_pos (tm + NN) (show (0 : Int) < NN by omega)
        obtain ⟨kk, hkk⟩ : ∃ kk : Nat, (tm + NN) % (NN : Int) = (kk : Int) := ⟨((tm + NN) % (NN : Int)).toNat, by omega⟩
        have hkN : kk < NN := by omega
        have hid : 0 + ((kk : Int)).toNat * 1 = kk * 1 + 0 := by omega
        repeat' (first
          | ((with_reducible apply g_op); first
            | ((with_reducible apply g_move); first
              | ((with_reducible apply w_pure (v := .int _ _)); exact rfl; exact rfl))
            | ((with_reducible apply g_bin); first
              | ((with_reducible apply w_mod); exact rfl; exact rfl; exact rfl; exact rfl; exact rfl; omega; omega)
              | ((with_reducible apply w_wrap); exact rfl; exact rfl; first | exact i64_in _ (by omega) | exact u64_in _ (by omega) | exact u8_in _ (by omega)))
            | ((with_reducible apply g_assign); first
              | ((with_reducible apply w_pure (v := .int _ _)); exact rfl; exact rfl)))
          | with_reducible refine w_seq ?_
          | with_reducible refine w_nil ?_
          | with_reducible refine w_region ?_)
        simp only [hkk]
        obtain ⟨dk, hdk⟩ : ∃ dk, D[kk]? = some dk := ⟨_, List.getElem?_eq_getElem (by have := hM.2.1; omega)⟩
        refine w_aix (nn := 16) (sz := 1) (e := 4) rfl rfl rfl rfl ⟨by omega, by omega⟩ ?_
        repeat' (first
          | fail)
        refine w_load (v := .bool dk) rfl hgD (by rw [hid]; exact part_flat (enc := bc) (fun _ => rfl) hdk rfl) ?_
        cases dk with
        | true =>
          repeat' (first
            | ((with_reducible apply g_op); first
              | ((with_reducible apply g_move); first
                | ((with_reducible apply w_pure (v := .int _ _)); exact rfl; exact rfl))
              | ((with_reducible apply g_bin); first
                | ((with_reducible apply w_wrap); exact rfl; exact rfl; first | exact i64_in _ (by omega) | exact u64_in _ (by omega) | exact u8_in _ (by omega)))
              | ((with_reducible apply g_assign); first
                | ((with_reducible apply w_pure (v := .int _ _)); exact rfl; exact rfl)))
            | with_reducible refine w_nil ?_
            | with_reducible refine w_region ?_
            | ((with_reducible apply w_exit); exact rfl)
            | ((with_reducible apply w_yes); exact rfl))
          refine ih (D, l) _ _ _ (by repeat' (first | with_reducible exact Fr.mix | with_reducible exact Fr.rfl' | with_reducible refine Fr.put ?_ ?_ | with_reducible refine Fr.mix2 ?_ ?_ | with_reducible refine Fr.put0 ?_ | exact rfl)) ⟨hv, by push_cast; rfl, hM, fun k h1 h2 => ?_, hgr, hgD, hn2⟩
          by_cases e : k = kk
          · rw [e]; exact hdk
          · exact hdo k h1 (by omega)
        | false =>
          obtain ⟨ha, hM'⟩ := hM.add hmr hNr hkN hdk
          obtain ⟨hmx, _⟩ := pg1_may hmr (k := (kk : Int)) (by omega)
          have hdo' : ∀ k, k < NN → X.length + k < i + 1 → (D.set kk true)[k]? = some true := fun k h1 h2 => by
            rw [List.getElem?_set]
            by_cases e : kk = k
            · rw [if_pos e, if_pos (by have := hM.2.1; omega)]
            · rw [if_neg e]; exact hdo k h1 (by omega)
          repeat' (first
            | ((with_reducible apply g_op); first
              | ((with_reducible apply g_move); first
                | ((with_reducible apply w_pure (v := .int _ _)); exact rfl; exact rfl)))
            | with_reducible refine w_seq ?_
            | with_reducible refine w_nil ?_
            | with_reducible refine w_region ?_
            | with_reducible refine w_skip ?_
            | ((with_reducible apply w_no); exact rfl))
          refine w_aix (nn := 16) (sz := 1) (e := 4) rfl rfl rfl rfl ⟨by omega, by omega⟩ ?_
          refine w_store (us := [.bool true]) (ws := (D.set kk true).flatMap bc) rfl rfl hgD (by omega) rfl rfl (by rw [hid]; exact wr_flat (enc := bc) (sz := 1) (c := 0) (us := [.bool true]) (y := false) (y' := true) (fun _ => rfl) (show 1 ≤ 1 by decide) rfl hdk) ?_
          repeat' (first
            | ((with_reducible apply g_op); first
              | ((with_reducible apply g_load); first
                | ((with_reducible apply w_load (v := .int _ _)); exact rfl; (first | assumption | (simp (disch := omega) only [upd_same, upd_ne]; first | done | assumption | exact rfl) | exact rfl); exact rfl)
                | ((with_reducible apply w_load (v := .agg #[_, _, _, _, _, _])); exact rfl; (first | assumption | (simp (disch := omega) only [upd_same, upd_ne]; first | done | assumption | exact rfl) | exact rfl); exact rfl))
              | ((with_reducible apply g_move); first
                | ((with_reducible apply w_pure (v := .int _ _)); exact rfl; exact rfl))
              | ((with_reducible apply g_bin); first
                | ((with_reducible apply w_wrap); exact rfl; exact rfl; first | exact i64_in _ (by omega) | exact u64_in _ (by omega) | exact u8_in _ (by omega))
                | ((with_reducible apply w_pure (v := .bool _)); exact rfl; exact rfl))
              | ((with_reducible apply g_fld); first
                | ((with_reducible apply w_fldp (o := 0)); exact rfl; exact rfl; exact rfl; exact (by decide))
                | ((with_reducible apply w_fldp (o := 1)); exact rfl; exact rfl; exact rfl; exact (by decide))
                | ((with_reducible apply w_fldp (o := 3)); exact rfl; exact rfl; exact rfl; exact (by decide))
                | ((with_reducible apply w_fldp (o := 5)); exact rfl; exact rfl; exact rfl; exact (by decide)))
              | ((with_reducible apply g_store); first
                | ((with_reducible apply w_store (us := [.int _ _]) (ws := [_, _, _, _, _, _])); exact rfl; exact rfl; (first | assumption | (simp (disch := omega) only [upd_same, upd_ne]; first | done | assumption | exact rfl) | exact rfl); omega; exact rfl; exact rfl; exact rfl)
                | ((with_reducible apply w_store (us := [_, _, _, _, _, _]) (ws := [_, _, _, _, _, _])); exact rfl; exact rfl; (first | assumption | (simp (disch := omega) only [upd_same, upd_ne]; first | done | assumption | exact rfl) | exact rfl); omega; exact rfl; exact rfl; exact rfl))
              | ((with_reducible apply w_alloc (ls := [_, _, _, _, _, _])); exact rfl; exact rfl))
            | with_reducible refine w_seq ?_
            | with_reducible refine w_nil ?_
            | with_reducible refine w_region ?_
            | ((with_reducible apply w_ifd); exact rfl; all_goals (intro hc; first | (exfalso; omega) | skip)))
          have hx : pg1 r (kk : Int) = ⟨r.f + kk, r.f + kk + 1, r.p, r.k, r.l, (r.g+kk)⟩ := by unfold pg1; rw [if_pos hrk]
          rw [hx] at ha hM' hmx
          refine w_pure (v := V) rfl rfl ?_
          repeat' (first
            | ((with_reducible apply g_op); first
              | ((with_reducible apply g_load); first
                | ((with_reducible apply w_load (v := .agg #[_, _, _, _, _, _])); exact rfl; (first | assumption | (simp (disch := omega) only [upd_same, upd_ne]; first | done | assumption | exact rfl) | exact rfl); exact rfl))))
          refine w_rf (add_run l ⟨r.f + kk, r.f + kk + 1, r.p, r.k, r.l, (r.g+kk)⟩ (by have := lenR hM.1; omega)) (fun _ => rfl) (sn_cons (lv_sn hv) (sn_cons (rg_sn ⟨r.f + kk, r.f + kk + 1, r.p, r.k, r.l, (r.g+kk)⟩) sn_nil)) ?_
          rintro _ rfl
          generalize addS l ⟨r.f + kk, r.f + kk + 1, r.p, r.k, r.l, (r.g+kk)⟩ = A at *
          obtain ⟨A1, A2⟩ := A
          dsimp only at ha hM'
          subst ha
          repeat' (first
            | ((with_reducible apply g_op); first
              | ((with_reducible apply g_move); first
                | ((with_reducible apply w_pure (v := .int _ _)); exact rfl; exact rfl)
                | ((with_reducible apply w_pure (v := .bool _)); exact rfl; exact rfl)
                | ((with_reducible apply w_pure (v := .tuple _)); exact rfl; exact rfl)
                | ((with_reducible apply w_pure (v := .func _ _ _)); exact rfl; exact rfl))
              | ((with_reducible apply g_bin); first
                | ((with_reducible apply w_pure (v := .bool _)); exact rfl; exact rfl))
              | ((with_reducible apply g_assign); first
                | ((with_reducible apply w_pure (v := .int _ _)); exact rfl; exact rfl)
                | ((with_reducible apply w_pure (v := .func _ _ _)); exact rfl; exact rfl))
              | ((with_reducible apply w_pure (v := .int _ _)); exact rfl; exact rfl)
              | ((with_reducible apply w_pure (v := .func _ _ _)); exact rfl; exact rfl))
            | ((with_reducible apply g_gd); first
              | ((with_reducible apply w_want); exact rfl))
            | with_reducible refine w_seq ?_
            | with_reducible refine w_nil ?_
            | with_reducible refine w_region ?_)
          refine w_rf (check_run A1 hM'.1 (by have := lenR hM'.1; omega)) (fun _ => rfl) (sn_cons rv_sn sn_nil) ?_
          rintro _ rfl
          repeat' (first
            | ((with_reducible apply g_op); first
              | ((with_reducible apply g_move); first
                | ((with_reducible apply w_pure (v := .int _ _)); exact rfl; exact rfl)
                | ((with_reducible apply w_pure (v := .func _ _ _)); exact rfl; exact rfl))
              | ((with_reducible apply g_bin); first
                | ((with_reducible apply w_wrap); exact rfl; exact rfl; first | exact i64_in _ (by omega) | exact u64_in _ (by omega) | exact u8_in _ (by omega))
                | ((with_reducible apply w_pure (v := .bool _)); exact rfl; exact rfl))
              | ((with_reducible apply g_pick); first
                | ((with_reducible apply w_pk0 (v := .bool _)); exact rfl; exact rfl; (first | assumption | exact decide_eq_true (by assumption) | exact decide_eq_false (by assumption) | exact decide_eq_true (by omega) | exact decide_eq_false (by omega) | exact beq_iff_eq.2 (by omega) | exact beq_eq_false_iff_ne.2 (by omega) | exact bne_iff_ne.2 (by omega) | exact bne_eq_false_iff_eq.2 (by omega))))
              | ((with_reducible apply g_assign); first
                | ((with_reducible apply w_pure (v := .int _ _)); exact rfl; exact rfl)
                | ((with_reducible apply w_pure (v := .func _ _ _)); exact rfl; exact rfl)))
            | ((with_reducible apply g_gd); first
              | ((with_reducible apply w_want); exact rfl))
            | with_reducible refine w_nil ?_
            | with_reducible refine w_region ?_
            | with_reducible refine w_skip ?_
            | with_reducible refine w_blk ?_
            | ((with_reducible apply w_no); exact rfl))
          exact ih (D.set kk true, A1) _ _ _ (by repeat' (first | with_reducible exact Fr.mix | with_reducible exact Fr.rfl' | with_reducible refine Fr.put ?_ ?_ | with_reducible refine Fr.mix2 ?_ ?_ | with_reducible refine Fr.put0 ?_ | exact rfl)) ⟨.inl rfl, by push_cast; rfl, hM', hdo', by simp (disch := omega) only [upd_ne]; exact hgr, by simp (disch := omega) only [upd_ne, upd_same], by omega⟩
      · obtain ⟨kk, hkk⟩ : ∃ kk : Nat, (i : Int) - X.length = (kk : Int) := ⟨i - X.length, by omega⟩
        have hkN : kk < NN := by omega
        have hid : 0 + ((kk : Int)).toNat * 1 = kk * 1 + 0 := by omega
        repeat' (first
          | ((with_reducible apply g_op); first
            | ((with_reducible apply g_move); first
              | ((with_reducible apply w_pure (v := .int _ _)); exact rfl; exact rfl)
              | ((with_reducible apply w_pure (v := .func _ _ _)); exact rfl; exact rfl))
            | ((with_reducible apply g_bin); first
              | ((with_reducible apply w_wrap); exact rfl; exact rfl; first | exact i64_in _ (by omega) | exact u64_in _ (by omega) | exact u8_in _ (by omega))
              | ((with_reducible apply w_pure (v := .bool _)); exact rfl; exact rfl))
            | ((with_reducible apply g_assign); first
              | ((with_reducible apply w_pure (v := .int _ _)); exact rfl; exact rfl))
            | ((with_reducible apply g_call); first
              | ((with_reducible apply w_call (v := .int _ _)); exact rfl)))
          | with_reducible refine w_seq ?_
          | with_reducible refine w_nil ?_
          | with_reducible refine w_region ?_
          | with_reducible refine w_skip ?_
          | with_reducible refine w_block ?_
          | ((with_reducible apply w_ifd); exact rfl; all_goals (intro hc; first | (exfalso; omega) | skip)))
        simp only [hkk]
        obtain ⟨dk, hdk⟩ : ∃ dk, D[kk]? = some dk := ⟨_, List.getElem?_eq_getElem (by have := hM.2.1; omega)⟩
        refine w_aix (nn := 16) (sz := 1) (e := 4) rfl rfl rfl rfl ⟨by omega, by omega⟩ ?_
        repeat' (first
          | fail)
        refine w_load (v := .bool dk) rfl hgD (by rw [hid]; exact part_flat (enc := bc) (fun _ => rfl) hdk rfl) ?_
        cases dk with
        | true =>
          repeat' (first
            | ((with_reducible apply g_op); first
              | ((with_reducible apply g_move); first
                | ((with_reducible apply w_pure (v := .int _ _)); exact rfl; exact rfl))
              | ((with_reducible apply g_bin); first
                | ((with_reducible apply w_wrap); exact rfl; exact rfl; first | exact i64_in _ (by omega) | exact u64_in _ (by omega) | exact u8_in _ (by omega)))
              | ((with_reducible apply g_assign); first
                | ((with_reducible apply w_pure (v := .int _ _)); exact rfl; exact rfl)))
            | with_reducible refine w_nil ?_
            | with_reducible refine w_region ?_
            | ((with_reducible apply w_exit); exact rfl)
            | ((with_reducible apply w_yes); exact rfl))
          refine ih (D, l) _ _ _ (by repeat' (first | with_reducible exact Fr.mix | with_reducible exact Fr.rfl' | with_reducible refine Fr.put ?_ ?_ | with_reducible refine Fr.mix2 ?_ ?_ | with_reducible refine Fr.put0 ?_ | exact rfl)) ⟨hv, by push_cast; rfl, hM, fun k h1 h2 => ?_, hgr, hgD, hn2⟩
          by_cases e : k = kk
          · rw [e]; exact hdk
          · exact hdo k h1 (by omega)
        | false =>
          obtain ⟨ha, hM'⟩ := hM.add hmr hNr hkN hdk
          obtain ⟨hmx, _⟩ := pg1_may hmr (k := (kk : Int)) (by omega)
          have hdo' : ∀ k, k < NN → X.length + k < i + 1 → (D.set kk true)[k]? = some true := fun k h1 h2 => by
            rw [List.getElem?_set]
            by_cases e : kk = k
            · rw [if_pos e, if_pos (by have := hM.2.1; omega)]
            · rw [if_neg e]; exact hdo k h1 (by omega)
          repeat' (first
            | ((with_reducible apply g_op); first
              | ((with_reducible apply g_move); first
                | ((with_reducible apply w_pure (v := .int _ _)); exact rfl; exact rfl)))
            | with_reducible refine w_seq ?_
            | with_reducible refine w_nil ?_
            | with_reducible refine w_region ?_
            | with_reducible refine w_skip ?_
            | ((with_reducible apply w_no); exact rfl))
          refine w_aix (nn := 16) (sz := 1) (e := 4) rfl rfl rfl rfl ⟨by omega, by omega⟩ ?_
          refine w_store (us := [.bool true]) (ws := (D.set kk true).flatMap bc) rfl rfl hgD (by omega) rfl rfl (by rw [hid]; exact wr_flat (enc := bc) (sz := 1) (c := 0) (us := [.bool true]) (y := false) (y' := true) (fun _ => rfl) (show 1 ≤ 1 by decide) rfl hdk) ?_
          repeat' (first
            | ((with_reducible apply g_op); first
              | ((with_reducible apply g_load); first
                | ((with_reducible apply w_load (v := .int _ _)); exact rfl; (first | assumption | (simp (disch := omega) only [upd_same, upd_ne]; first | done | assumption | exact rfl) | exact rfl); exact rfl)
                | ((with_reducible apply w_load (v := .agg #[_, _, _, _, _, _])); exact rfl; (first | assumption | (simp (disch := omega) only [upd_same, upd_ne]; first | done | assumption | exact rfl) | exact rfl); exact rfl))
              | ((with_reducible apply g_move); first
                | ((with_reducible apply w_pure (v := .int _ _)); exact rfl; exact rfl))
              | ((with_reducible apply g_bin); first
                | ((with_reducible apply w_wrap); exact rfl; exact rfl; first | exact i64_in _ (by omega) | exact u64_in _ (by omega) | exact u8_in _ (by omega))
                | ((with_reducible apply w_pure (v := .bool _)); exact rfl; exact rfl))
              | ((with_reducible apply g_fld); first
                | ((with_reducible apply w_fldp (o := 0)); exact rfl; exact rfl; exact rfl; exact (by decide))
                | ((with_reducible apply w_fldp (o := 1)); exact rfl; exact rfl; exact rfl; exact (by decide))
                | ((with_reducible apply w_fldp (o := 3)); exact rfl; exact rfl; exact rfl; exact (by decide))
                | ((with_reducible apply w_fldp (o := 5)); exact rfl; exact rfl; exact rfl; exact (by decide)))
              | ((with_reducible apply g_store); first
                | ((with_reducible apply w_store (us := [.int _ _]) (ws := [_, _, _, _, _, _])); exact rfl; exact rfl; (first | assumption | (simp (disch := omega) only [upd_same, upd_ne]; first | done | assumption | exact rfl) | exact rfl); omega; exact rfl; exact rfl; exact rfl)
                | ((with_reducible apply w_store (us := [_, _, _, _, _, _]) (ws := [_, _, _, _, _, _])); exact rfl; exact rfl; (first | assumption | (simp (disch := omega) only [upd_same, upd_ne]; first | done | assumption | exact rfl) | exact rfl); omega; exact rfl; exact rfl; exact rfl))
              | ((with_reducible apply w_alloc (ls := [_, _, _, _, _, _])); exact rfl; exact rfl))
            | with_reducible refine w_seq ?_
            | with_reducible refine w_nil ?_
            | with_reducible refine w_region ?_
            | ((with_reducible apply w_ifd); exact rfl; all_goals (intro hc; first | (exfalso; omega) | skip)))
          have hx : pg1 r (kk : Int) = ⟨r.f + kk, r.f + kk + 1, r.p, r.k, r.l, (r.g+kk)⟩ := by unfold pg1; rw [if_pos hrk]
          rw [hx] at ha hM' hmx
          refine w_pure (v := V) rfl rfl ?_
          repeat' (first
            | ((with_reducible apply g_op); first
              | ((with_reducible apply g_load); first
                | ((with_reducible apply w_load (v := .agg #[_, _, _, _, _, _])); exact rfl; (first | assumption | (simp (disch := omega) only [upd_same, upd_ne]; first | done | assumption | exact rfl) | exact rfl); exact rfl))))
          refine w_rf (add_run l ⟨r.f + kk, r.f + kk + 1, r.p, r.k, r.l, (r.g+kk)⟩ (by have := lenR hM.1; omega)) (fun _ => rfl) (sn_cons (lv_sn hv) (sn_cons (rg_sn ⟨r.f + kk, r.f + kk + 1, r.p, r.k, r.l, (r.g+kk)⟩) sn_nil)) ?_
          rintro _ rfl
          generalize addS l ⟨r.f + kk, r.f + kk + 1, r.p, r.k, r.l, (r.g+kk)⟩ = A at *
          obtain ⟨A1, A2⟩ := A
          dsimp only at ha hM'
          subst ha
          repeat' (first
            | ((with_reducible apply g_op); first
              | ((with_reducible apply g_move); first
                | ((with_reducible apply w_pure (v := .int _ _)); exact rfl; exact rfl)
                | ((with_reducible apply w_pure (v := .bool _)); exact rfl; exact rfl)
                | ((with_reducible apply w_pure (v := .tuple _)); exact rfl; exact rfl)
                | ((with_reducible apply w_pure (v := .func _ _ _)); exact rfl; exact rfl))
              | ((with_reducible apply g_bin); first
                | ((with_reducible apply w_pure (v := .bool _)); exact rfl; exact rfl))
              | ((with_reducible apply g_assign); first
                | ((with_reducible apply w_pure (v := .int _ _)); exact rfl; exact rfl)
                | ((with_reducible apply w_pure (v := .func _ _ _)); exact rfl; exact rfl))
              | ((with_reducible apply w_pure (v := .int _ _)); exact rfl; exact rfl)
              | ((with_reducible apply w_pure (v := .func _ _ _)); exact rfl; exact rfl))
            | ((with_reducible apply g_gd); first
              | ((with_reducible apply w_want); exact rfl))
            | with_reducible refine w_seq ?_
            | with_reducible refine w_nil ?_
            | with_reducible refine w_region ?_)
          refine w_rf (check_run A1 hM'.1 (by have := lenR hM'.1; omega)) (fun _ => rfl) (sn_cons rv_sn sn_nil) ?_
          rintro _ rfl
          repeat' (first
            | ((with_reducible apply g_op); first
              | ((with_reducible apply g_move); first
                | ((with_reducible apply w_pure (v := .int _ _)); exact rfl; exact rfl)
                | ((with_reducible apply w_pure (v := .func _ _ _)); exact rfl; exact rfl))
              | ((with_reducible apply g_bin); first
                | ((with_reducible apply w_wrap); exact rfl; exact rfl; first | exact i64_in _ (by omega) | exact u64_in _ (by omega) | exact u8_in _ (by omega))
                | ((with_reducible apply w_pure (v := .bool _)); exact rfl; exact rfl))
              | ((with_reducible apply g_pick); first
                | ((with_reducible apply w_pk0 (v := .bool _)); exact rfl; exact rfl; (first | assumption | exact decide_eq_true (by assumption) | exact decide_eq_false (by assumption) | exact decide_eq_true (by omega) | exact decide_eq_false (by omega) | exact beq_iff_eq.2 (by omega) | exact beq_eq_false_iff_ne.2 (by omega) | exact bne_iff_ne.2 (by omega) | exact bne_eq_false_iff_eq.2 (by omega))))
              | ((with_reducible apply g_assign); first
                | ((with_reducible apply w_pure (v := .int _ _)); exact rfl; exact rfl)
                | ((with_reducible apply w_pure (v := .func _ _ _)); exact rfl; exact rfl)))
            | ((with_reducible apply g_gd); first
              | ((with_reducible apply w_want); exact rfl))
            | with_reducible refine w_nil ?_
            | with_reducible refine w_region ?_
            | with_reducible refine w_skip ?_
            | with_reducible refine w_blk ?_
            | ((with_reducible apply w_no); exact rfl))
          exact ih (D.set kk true, A1) _ _ _ (by repeat' (first | with_reducible exact Fr.mix | with_reducible exact Fr.rfl' | with_reducible refine Fr.put ?_ ?_ | with_reducible refine Fr.mix2 ?_ ?_ | with_reducible refine Fr.put0 ?_ | exact rfl)) ⟨.inl rfl, by push_cast; rfl, hM', hdo', by simp (disch := omega) only [upd_ne]; exact hgr, by simp (disch := omega) only [upd_ne, upd_same], by omega⟩
    · rintro ⟨D, l⟩ σ g2 n2 ⟨hv, k13, hM, hdo, hgr, hgD, hn2⟩
      dsimp only at hv hM hdo hgD
      have hl1 : l = [r] := hM.all hmr hNr fun k hk => hdo k hk (by omega)
      subst hl1
      obtain ⟨V, k11⟩ : ∃ V, σ 11 = V := ⟨_, rfl⟩
      rw [k11] at hv
      refine w_keep (i := 11) k11 (w_keep (i := 13) k13 ?_)
      rcases hv with hv | ⟨_, hv⟩
      · subst hv
        repeat' (first
          | ((with_reducible apply g_op); first
            | ((with_reducible apply g_move); first
              | ((with_reducible apply w_pure (v := .int _ _)); exact rfl; exact rfl)
              | ((with_reducible apply w_pure (v := .func _ _ _)); exact rfl; exact rfl))
            | ((with_reducible apply g_bin); first
              | ((with_reducible apply w_wrap); exact rfl; exact rfl; first | exact i64_in _ (by omega) | exact u64_in _ (by omega) | exact u8_in _ (by omega))
              | ((with_reducible apply w_pure (v := .bool _)); exact rfl; exact rfl))
            | ((with_reducible apply g_call); first
              | ((with_reducible apply w_call (v := .int _ _)); exact rfl)))
          | with_reducible refine w_seq ?_
          | with_reducible refine w_nil ?_
          | with_reducible refine w_region ?_
          | ((with_reducible apply w_exit); exact rfl)
          | ((with_reducible apply w_ifd); exact rfl; all_goals (intro hc; first | (exfalso; omega) | skip)))
        refine w_rf (same_run [r] [r] (by simp) (by simp)) (fun _ => rfl) (sn_cons rv_sn (sn_cons rv_sn sn_nil)) ?_
        rintro _ ⟨bb, rfl, hbb⟩
        obtain rfl : bb = true := hbb.2 rfl
        repeat' (first
          | ((with_reducible apply g_op); first
            | ((with_reducible apply g_move); first
              | ((with_reducible apply w_pure (v := .int _ _)); exact rfl; exact rfl)
              | ((with_reducible apply w_pure (v := .bool _)); exact rfl; exact rfl)
              | ((with_reducible apply w_pure (v := .func _ _ _)); exact rfl; exact rfl))
            | ((with_reducible apply g_bin); first
              | ((with_reducible apply w_pure (v := .bool _)); exact rfl; exact rfl))
            | ((with_reducible apply g_pick); first
              | ((with_reducible apply w_pk1 (v := .bool _)); exact rfl; exact rfl; (first | assumption | exact decide_eq_true (by assumption) | exact decide_eq_false (by assumption) | exact decide_eq_true (by omega) | exact decide_eq_false (by omega) | exact beq_iff_eq.2 (by omega) | exact beq_eq_false_iff_ne.2 (by omega) | exact bne_iff_ne.2 (by omega) | exact bne_eq_false_iff_eq.2 (by omega))))
            | ((with_reducible apply g_assign); first
              | ((with_reducible apply w_pure (v := .bool _)); exact rfl; exact rfl))
            | ((with_reducible apply g_call); first
              | ((with_reducible apply w_call (v := .int _ _)); exact rfl))
            | ((with_reducible apply w_pure (v := .bool _)); exact rfl; exact rfl))
          | ((with_reducible apply g_gd); first
            | ((with_reducible apply w_want); exact rfl))
          | with_reducible refine w_seq ?_
          | with_reducible refine w_nil ?_
          | with_reducible refine w_region ?_
          | ((with_reducible apply w_ret (v := .bool _)); exact rfl))
        rfl
      · cases hv
    · exact ⟨.inr ⟨rfl, rfl⟩, rfl, Made.nil r NN, fun k _ h => by omega, by simp (disch := omega) only [upd_ne]; exact hgr0, by exact upd_same, by omega⟩
  · repeat' (first
      | ((with_reducible apply g_op); first
        | ((with_reducible apply g_load); first
          | ((with_reducible apply w_load (v := .int _ _)); exact rfl; (first | assumption | (simp (disch := omega) only [upd_same, upd_ne]; first | done | assumption | exact rfl) | exact rfl); exact rfl)
          | ((with_reducible apply w_load (v := .agg #[_, _, _, _, _, _])); exact rfl; (first | assumption | (simp (disch := omega) only [upd_same, upd_ne]; first | done | assumption | exact rfl) | exact rfl); exact rfl))
        | ((with_reducible apply g_move); first
          | ((with_reducible apply w_pure (v := .int _ _)); exact rfl; exact rfl))
        | ((with_reducible apply g_bin); first
          | ((with_reducible apply w_and (j := 1) (c1 := 2)); exact rfl; exact rfl; exact rfl; exact rfl; exact rfl; exact (by decide); exact (by decide); exact (by decide))
          | ((with_reducible apply w_and (j := 3) (c1 := 8)); exact rfl; exact rfl; exact rfl; exact rfl; exact rfl; exact (by decide); exact (by decide); exact (by decide))
          | ((with_reducible apply w_and (j := 4) (c1 := 16)); exact rfl; exact rfl; exact rfl; exact rfl; exact rfl; exact (by decide); exact (by decide); exact (by decide))
          | ((with_reducible apply w_and (j := 6) (c1 := 64)); exact rfl; exact rfl; exact rfl; exact rfl; exact rfl; exact (by decide); exact (by decide); exact (by decide))
          | ((with_reducible apply w_wrap); exact rfl; exact rfl; first | exact i64_in _ (by omega) | exact u64_in _ (by omega) | exact u8_in _ (by omega))
          | ((with_reducible apply w_pure (v := .bool _)); exact rfl; exact rfl))
        | ((with_reducible apply g_assign); first
          | ((with_reducible apply w_pure (v := .int _ _)); exact rfl; exact rfl)
          | ((with_reducible apply w_pure (v := .bool _)); exact rfl; exact rfl))
        | ((with_reducible apply g_store); first
          | ((with_reducible apply w_store (us := [_, _, _, _, _, _]) (ws := [_, _, _, _, _, _])); exact rfl; exact rfl; (first | assumption | (simp (disch := omega) only [upd_same, upd_ne]; first | done | assumption | exact rfl) | exact rfl); omega; exact rfl; exact rfl; exact rfl))
        | ((with_reducible apply g_build); first
          | ((with_reducible apply w_pure (v := .agg #[.int _ _, .int _ _, .int _ _, .int _ _, .int _ _, .int _ _])); exact rfl; exact rfl))
        | ((with_reducible apply w_alloc (ls := [_, _, _, _, _, _])); exact rfl; exact rfl)
        | ((with_reducible apply w_pure (v := .pointer _)); exact rfl; exact rfl))
      | with_reducible refine w_seq ?_
      | with_reducible refine w_nil ?_
      | with_reducible refine w_region ?_
      | with_reducible refine w_skip ?_
      | ((with_reducible apply w_ifd); exact rfl; all_goals (intro hc; first | (exfalso; omega) | skip)))
    simp only [hNN]
    refine w_rf (add_run [] ⟨a % 64, a % 64 + NN, c % 8, 2, -1, 0⟩ (by simp)) (fun _ => rfl) (sn_cons nil_sn (sn_cons (rg_sn ⟨a % 64, a % 64 + NN, c % 8, 2, -1, 0⟩) sn_nil)) ?_
    rintro _ rfl
    obtain ⟨r, hr⟩ : ∃ r : Rg, r = ⟨a % 64, a % 64 + NN, c % 8, 2, -1, 0⟩ := ⟨_, rfl⟩
    have hmr : may r = true := by rw [may_iff, hr]; dsimp only; omega
    have hrf0 : a % 64 = r.f := by rw [hr]
    have hNr : (NN : Int) = r.t - r.f := by rw [hr]; dsimp only; omega
    have hrk : ¬ r.k = 1 := by rw [hr]; show ¬ (2 : Int) = 1; decide
    have hrg : 0 ≤ r.g ∧ r.g < 256 := by rw [hr]; show (0 : Int) ≤ 0 ∧ (0 : Int) < 256; decide
    rw [← hr, addS_one hmr]
    refine w_gen (fun G M => G (n + 1) = some (.cells 23 [.int .i64 r.f, .int .i64 r.t, .int .i64 r.p, .int .i64 r.k, .int .i64 r.l, .int .i64 r.g]) ∧ n + 2 ≤ M) ⟨by rw [hr]; exact upd_same, by omega⟩ ?_
    rintro G c0 ⟨hgr0, hc0⟩
    simp only [hrf0]
    repeat' (first
      | ((with_reducible apply g_op); first
        | ((with_reducible apply g_move); first
          | ((with_reducible apply w_pure (v := .tuple _)); exact rfl; exact rfl))
        | ((with_reducible apply g_assign); first
          | ((with_reducible apply w_pure (v := .int _ _)); exact rfl; exact rfl)
          | ((with_reducible apply w_pure (v := .slice _ _ _)); exact rfl; exact rfl)
          | ((with_reducible apply w_pure (v := .func _ _ _)); exact rfl; exact rfl))
        | ((with_reducible apply w_pure (v := .int _ _)); exact rfl; exact rfl)
        | ((with_reducible apply w_pure (v := .func _ _ _)); exact rfl; exact rfl))
      | with_reducible refine w_seq ?_
      | with_reducible refine w_nil ?_
      | with_reducible refine w_region ?_)
    refine w_alloc (ls := (List.replicate 16 false).flatMap bc) rfl rfl ?_
    repeat' (first
      | ((with_reducible apply g_op); first
        | ((with_reducible apply g_assign); first
          | ((with_reducible apply w_pure (v := .int _ _)); exact rfl; exact rfl)))
      | with_reducible refine w_seq ?_
      | with_reducible refine w_nil ?_
      | with_reducible refine w_region ?_
      | with_reducible refine w_block ?_)
    refine w_cntK [(4, 4), (11, 11), (13, 17), (51, 113)] (X.length + NN) (fun i (b : List Bool × List Rg) σ g' n' => LV (σ 11) b.2 ∧ σ 13 = .int .i64 (i : Nat) ∧ Made r NN b.1 b.2 ∧ (∀ k, k < NN → X.length + k < i → b.1[k]? = some true) ∧ g' (n + 1) = some (.cells 23 [.int .i64 r.f, .int .i64 r.t, .int .i64 r.p, .int .i64 r.k, .int .i64 r.l, .int .i64 r.g]) ∧ g' c0 = some (.cells 38 (b.1.flatMap bc)) ∧ c0 < n') ?_ ?_ (List.replicate 16 false, []) ?_
    · rintro i ⟨D, l⟩ σ g2 n2 hi ⟨hv, k13, hM, hdo, hgr, hgD, hn2⟩ ih
      dsimp only at hv hM hdo hgD
      obtain ⟨V, k11⟩ : ∃ V, σ 11 = V := ⟨_, rfl⟩
      rw [k11] at hv
      refine w_keep (i := 11) k11 (w_keep (i := 13) k13 ?_)
      by_cases hiL : i < X.length
      · obtain ⟨y, hy⟩ : ∃ y, X[i]? = some y := ⟨_, List.getElem?_eq_getElem hiL⟩
        repeat' (first
          | ((with_reducible apply g_op); first
            | ((with_reducible apply g_load); first
              | ((with_reducible apply w_fl (v := .int _ _)); exact rfl; exact (fun _ => rfl); assumption; exact rfl))
            | ((with_reducible apply g_move); first
              | ((with_reducible apply w_pure (v := .int _ _)); exact rfl; exact rfl)
              | ((with_reducible apply w_pure (v := .func _ _ _)); exact rfl; exact rfl))
            | ((with_reducible apply g_bin); first
              | ((with_reducible apply w_wrap); exact rfl; exact rfl; first | exact i64_in _ (by omega) | exact u64_in _ (by omega) | exact u8_in _ (by omega))
              | ((with_reducible apply w_pure (v := .bool _)); exact rfl; exact rfl))
            | ((with_reducible apply g_assign); first
              | ((with_reducible apply w_pure (v := .int _ _)); exact rfl; exact rfl))
            | ((with_reducible apply g_call); first
              | ((with_reducible apply w_call (v := .int _ _)); exact rfl))
            | ((with_reducible apply g_ix); first
              | ((with_reducible apply w_fx (sz := 1)); exact rfl; exact rfl; exact rfl; exact rfl; exact rfl; exact (fun _ => rfl); assumption; exact rfl)))
          | with_reducible refine w_seq ?_
          | with_reducible refine w_nil ?_
          | with_reducible refine w_region ?_
          | with_reducible refine w_skip ?_
          | with_reducible refine w_block ?_
          | ((with_reducible apply w_ifd); exact rfl; all_goals (intro hc; first | (exfalso; omega) | skip)))
        have ht := tmod_in y (c := (NN : Int)) (by omega)
        refine w_remt rfl rfl rfl rfl (by omega) ?_
        generalize y.tmod (NN : Int) = tm at *
        have h1 := Int.emod_nonneg (tm + NN) (show (NN : Int) ≠ 0 by omega)
        have h2 := Int.emod_lt_of_pos (tm + NN) (show (0 : Int) < NN by omega)
        obtain ⟨kk, hkk⟩ : ∃ kk : Nat, (tm + NN) % (NN : Int) = (kk : Int) := ⟨((tm + NN) % (NN : Int)).toNat, by omega⟩
        have hkN : kk < NN := by omega
        have hid : 0 + ((kk : Int)).toNat * 1 = kk * 1 + 0 := by omega
        repeat' (first
          | ((with_reducible apply g_op); first
            | ((with_reducible apply g_move); first
              | ((with_reducible apply w_pure (v := .int _ _)); exact rfl; exact rfl))
            | ((with_reducible apply g_bin); first
              | ((with_reducible apply w_mod); exact rfl; exact rfl; exact rfl; exact rfl; exact rfl; omega; omega)
              | ((with_reducible apply w_wrap); exact rfl; exact rfl; first | exact i64_in _ (by omega) | exact u64_in _ (by omega) | exact u8_in _ (by omega)))
            | ((with_reducible apply g_assign); first
              | ((with_reducible apply w_pure (v := .int _ _)); exact rfl; exact rfl)))
          | with_reducible refine w_seq ?_
          | with_reducible refine w_nil ?_
          | with_reducible refine w_region ?_)
        simp only [hkk]
        obtain ⟨dk, hdk⟩ : ∃ dk, D[kk]? = some dk := ⟨_, List.getElem?_eq_getElem (by have := hM.2.1; omega)⟩
        refine w_aix (nn := 16) (sz := 1) (e := 4) rfl rfl rfl rfl ⟨by omega, by omega⟩ ?_
        repeat' (first
          | fail)
        refine w_load (v := .bool dk) rfl hgD (by rw [hid]; exact part_flat (enc := bc) (fun _ => rfl) hdk rfl) ?_
        cases dk with
        | true =>
          repeat' (first
            | ((with_reducible apply g_op); first
              | ((with_reducible apply g_move); first
                | ((with_reducible apply w_pure (v := .int _ _)); exact rfl; exact rfl))
              | ((with_reducible apply g_bin); first
                | ((with_reducible apply w_wrap); exact rfl; exact rfl; first | exact i64_in _ (by omega) | exact u64_in _ (by omega) | exact u8_in _ (by omega)))
              | ((with_reducible apply g_assign); first
                | ((with_reducible apply w_pure (v := .int _ _)); exact rfl; exact rfl)))
            | with_reducible refine w_nil ?_
            | with_reducible refine w_region ?_
            | ((with_reducible apply w_exit); exact rfl)
            | ((with_reducible apply w_yes); exact rfl))
          refine ih (D, l) _ _ _ (by repeat' (first | with_reducible exact Fr.mix | with_reducible exact Fr.rfl' | with_reducible refine Fr.put ?_ ?_ | with_reducible refine Fr.mix2 ?_ ?_ | with_reducible refine Fr.put0 ?_ | exact rfl)) ⟨hv, by push_cast; rfl, hM, fun k h1 h2 => ?_, hgr, hgD, hn2⟩
          by_cases e : k = kk
          · rw [e]; exact hdk
          · exact hdo k h1 (by omega)
        | false =>
          obtain ⟨ha, hM'⟩ := hM.add hmr hNr hkN hdk
          obtain ⟨hmx, _⟩ := pg1_may hmr (k := (kk : Int)) (by omega)
          have hdo' : ∀ k, k < NN → X.length + k < i + 1 → (D.set kk true)[k]? = some true := fun k h1 h2 => by
            rw [List.getElem?_set]
            by_cases e : kk = k
            · rw [if_pos e, if_pos (by have := hM.2.1; omega)]
            · rw [if_neg e]; exact hdo k h1 (by omega)
          repeat' (first
            | ((with_reducible apply g_op); first
              | ((with_reducible apply g_move); first
                | ((with_reducible apply w_pure (v := .int _ _)); exact rfl; exact rfl)))
            | with_reducible refine w_seq ?_
            | with_reducible refine w_nil ?_
            | with_reducible refine w_region ?_
            | with_reducible refine w_skip ?_
            | ((with_reducible apply w_no); exact rfl))
          refine w_aix (nn := 16) (sz := 1) (e := 4) rfl rfl rfl rfl ⟨by omega, by omega⟩ ?_
          refine w_store (us := [.bool true]) (ws := (D.set kk true).flatMap bc) rfl rfl hgD (by omega) rfl rfl (by rw [hid]; exact wr_flat (enc := bc) (sz := 1) (c := 0) (us := [.bool true]) (y := false) (y' := true) (fun _ => rfl) (show 1 ≤ 1 by decide) rfl hdk) ?_
          repeat' (first
            | ((with_reducible apply g_op); first
              | ((with_reducible apply g_load); first
                | ((with_reducible apply w_load (v := .int _ _)); exact rfl; (first | assumption | (simp (disch := omega) only [upd_same, upd_ne]; first | done | assumption | exact rfl) | exact rfl); exact rfl)
                | ((with_reducible apply w_load (v := .agg #[_, _, _, _, _, _])); exact rfl; (first | assumption | (simp (disch := omega) only [upd_same, upd_ne]; first | done | assumption | exact rfl) | exact rfl); exact rfl))
              | ((with_reducible apply g_move); first
                | ((with_reducible apply w_pure (v := .int _ _)); exact rfl; exact rfl))
              | ((with_reducible apply g_bin); first
                | ((with_reducible apply w_wrap); exact rfl; exact rfl; first | exact i64_in _ (by omega) | exact u64_in _ (by omega) | exact u8_in _ (by omega))
                | ((with_reducible apply w_pure (v := .bool _)); exact rfl; exact rfl))
              | ((with_reducible apply g_fld); first
                | ((with_reducible apply w_fldp (o := 0)); exact rfl; exact rfl; exact rfl; exact (by decide))
                | ((with_reducible apply w_fldp (o := 1)); exact rfl; exact rfl; exact rfl; exact (by decide))
                | ((with_reducible apply w_fldp (o := 3)); exact rfl; exact rfl; exact rfl; exact (by decide)))
              | ((with_reducible apply g_store); first
                | ((with_reducible apply w_store (us := [.int _ _]) (ws := [_, _, _, _, _, _])); exact rfl; exact rfl; (first | assumption | (simp (disch := omega) only [upd_same, upd_ne]; first | done | assumption | exact rfl) | exact rfl); omega; exact rfl; exact rfl; exact rfl)
                | ((with_reducible apply w_store (us := [_, _, _, _, _, _]) (ws := [_, _, _, _, _, _])); exact rfl; exact rfl; (first | assumption | (simp (disch := omega) only [upd_same, upd_ne]; first | done | assumption | exact rfl) | exact rfl); omega; exact rfl; exact rfl; exact rfl))
              | ((with_reducible apply w_alloc (ls := [_, _, _, _, _, _])); exact rfl; exact rfl))
            | with_reducible refine w_seq ?_
            | with_reducible refine w_nil ?_
            | with_reducible refine w_region ?_
            | with_reducible refine w_skip ?_
            | ((with_reducible apply w_ifd); exact rfl; all_goals (intro hc; first | (exfalso; omega) | skip)))
          have hx : pg1 r (kk : Int) = ⟨r.f + kk, r.f + kk + 1, r.p, r.k, r.l, r.g⟩ := by unfold pg1; rw [if_neg hrk]
          rw [hx] at ha hM' hmx
          refine w_pure (v := V) rfl rfl ?_
          repeat' (first
            | ((with_reducible apply g_op); first
              | ((with_reducible apply g_load); first
                | ((with_reducible apply w_load (v := .agg #[_, _, _, _, _, _])); exact rfl; (first | assumption | (simp (disch := omega) only [upd_same, upd_ne]; first | done | assumption | exact rfl) | exact rfl); exact rfl))))
          refine w_rf (add_run l ⟨r.f + kk, r.f + kk + 1, r.p, r.k, r.l, r.g⟩ (by have := lenR hM.1; omega)) (fun _ => rfl) (sn_cons (lv_sn hv) (sn_cons (rg_sn ⟨r.f + kk, r.f + kk + 1, r.p, r.k, r.l, r.g⟩) sn_nil)) ?_
          rintro _ rfl
          generalize addS l ⟨r.f + kk, r.f + kk + 1, r.p, r.k, r.l, r.g⟩ = A at *
          obtain ⟨A1, A2⟩ := A
          dsimp only at ha hM'
          subst ha
          repeat' (first
            | ((with_reducible apply g_op); first
              | ((with_reducible apply g_move); first
                | ((with_reducible apply w_pure (v := .int _ _)); exact rfl; exact rfl)
                | ((with_reducible apply w_pure (v := .bool _)); exact rfl; exact rfl)
                | ((with_reducible apply w_pure (v := .tuple _)); exact rfl; exact rfl)
                | ((with_reducible apply w_pure (v := .func _ _ _)); exact rfl; exact rfl))
              | ((with_reducible apply g_bin); first
                | ((with_reducible apply w_pure (v := .bool _)); exact rfl; exact rfl))
              | ((with_reducible apply g_assign); first
                | ((with_reducible apply w_pure (v := .int _ _)); exact rfl; exact rfl)
                | ((with_reducible apply w_pure (v := .func _ _ _)); exact rfl; exact rfl))
              | ((with_reducible apply w_pure (v := .int _ _)); exact rfl; exact rfl)
              | ((with_reducible apply w_pure (v := .func _ _ _)); exact rfl; exact rfl))
            | ((with_reducible apply g_gd); first
              | ((with_reducible apply w_want); exact rfl))
            | with_reducible refine w_seq ?_
            | with_reducible refine w_nil ?_
            | with_reducible refine w_region ?_)
          refine w_rf (check_run A1 hM'.1 (by have := lenR hM'.1; omega)) (fun _ => rfl) (sn_cons rv_sn sn_nil) ?_
          rintro _ rfl
          repeat' (first
            | ((with_reducible apply g_op); first
              | ((with_reducible apply g_move); first
                | ((with_reducible apply w_pure (v := .int _ _)); exact rfl; exact rfl)
                | ((with_reducible apply w_pure (v := .func _ _ _)); exact rfl; exact rfl))
              | ((with_reducible apply g_bin); first
                | ((with_reducible apply w_wrap); exact rfl; exact rfl; first | exact i64_in _ (by omega) | exact u64_in _ (by omega) | exact u8_in _ (by omega))
                | ((with_reducible apply w_pure (v := .bool _)); exact rfl; exact rfl))
              | ((with_reducible apply g_pick); first
                | ((with_reducible apply w_pk0 (v := .bool _)); exact rfl; exact rfl; (first | assumption | exact decide_eq_true (by assumption) | exact decide_eq_false (by assumption) | exact decide_eq_true (by omega) | exact decide_eq_false (by omega) | exact beq_iff_eq.2 (by omega) | exact beq_eq_false_iff_ne.2 (by omega) | exact bne_iff_ne.2 (by omega) | exact bne_eq_false_iff_eq.2 (by omega))))
              | ((with_reducible apply g_assign); first
                | ((with_reducible apply w_pure (v := .int _ _)); exact rfl; exact rfl)
                | ((with_reducible apply w_pure (v := .func _ _ _)); exact rfl; exact rfl)))
            | ((with_reducible apply g_gd); first
              | ((with_reducible apply w_want); exact rfl))
            | with_reducible refine w_nil ?_
            | with_reducible refine w_region ?_
            | with_reducible refine w_skip ?_
            | with_reducible refine w_blk ?_
            | ((with_reducible apply w_no); exact rfl))
          exact ih (D.set kk true, A1) _ _ _ (by repeat' (first | with_reducible exact Fr.mix | with_reducible exact Fr.rfl' | with_reducible refine Fr.put ?_ ?_ | with_reducible refine Fr.mix2 ?_ ?_ | with_reducible refine Fr.put0 ?_ | exact rfl)) ⟨.inl rfl, by push_cast; rfl, hM', hdo', by simp (disch := omega) only [upd_ne]; exact hgr, by simp (disch := omega) only [upd_ne, upd_same], by omega⟩
      · obtain ⟨kk, hkk⟩ : ∃ kk : Nat, (i : Int) - X.length = (kk : Int) := ⟨i - X.length, by omega⟩
        have hkN : kk < NN := by omega
        have hid : 0 + ((kk : Int)).toNat * 1 = kk * 1 + 0 := by omega
        repeat' (first
          | ((with_reducible apply g_op); first
            | ((with_reducible apply g_move); first
              | ((with_reducible apply w_pure (v := .int _ _)); exact rfl; exact rfl)
              | ((with_reducible apply w_pure (v := .func _ _ _)); exact rfl; exact rfl))
            | ((with_reducible apply g_bin); first
              | ((with_reducible apply w_wrap); exact rfl; exact rfl; first | exact i64_in _ (by omega) | exact u64_in _ (by omega) | exact u8_in _ (by omega))
              | ((with_reducible apply w_pure (v := .bool _)); exact rfl; exact rfl))
            | ((with_reducible apply g_assign); first
              | ((with_reducible apply w_pure (v := .int _ _)); exact rfl; exact rfl))
            | ((with_reducible apply g_call); first
              | ((with_reducible apply w_call (v := .int _ _)); exact rfl)))
          | with_reducible refine w_seq ?_
          | with_reducible refine w_nil ?_
          | with_reducible refine w_region ?_
          | with_reducible refine w_skip ?_
          | with_reducible refine w_block ?_
          | ((with_reducible apply w_ifd); exact rfl; all_goals (intro hc; first | (exfalso; omega) | skip)))
        simp only [hkk]
        obtain ⟨dk, hdk⟩ : ∃ dk, D[kk]? = some dk := ⟨_, List.getElem?_eq_getElem (by have := hM.2.1; omega)⟩
        refine w_aix (nn := 16) (sz := 1) (e := 4) rfl rfl rfl rfl ⟨by omega, by omega⟩ ?_
        repeat' (first
          | fail)
        refine w_load (v := .bool dk) rfl hgD (by rw [hid]; exact part_flat (enc := bc) (fun _ => rfl) hdk rfl) ?_
        cases dk with
        | true =>
          repeat' (first
            | ((with_reducible apply g_op); first
              | ((with_reducible apply g_move); first
                | ((with_reducible apply w_pure (v := .int _ _)); exact rfl; exact rfl))
              | ((with_reducible apply g_bin); first
                | ((with_reducible apply w_wrap); exact rfl; exact rfl; first | exact i64_in _ (by omega) | exact u64_in _ (by omega) | exact u8_in _ (by omega)))
              | ((with_reducible apply g_assign); first
                | ((with_reducible apply w_pure (v := .int _ _)); exact rfl; exact rfl)))
            | with_reducible refine w_nil ?_
            | with_reducible refine w_region ?_
            | ((with_reducible apply w_exit); exact rfl)
            | ((with_reducible apply w_yes); exact rfl))
          refine ih (D, l) _ _ _ (by repeat' (first | with_reducible exact Fr.mix | with_reducible exact Fr.rfl' | with_reducible refine Fr.put ?_ ?_ | with_reducible refine Fr.mix2 ?_ ?_ | with_reducible refine Fr.put0 ?_ | exact rfl)) ⟨hv, by push_cast; rfl, hM, fun k h1 h2 => ?_, hgr, hgD, hn2⟩
          by_cases e : k = kk
          · rw [e]; exact hdk
          · exact hdo k h1 (by omega)
        | false =>
          obtain ⟨ha, hM'⟩ := hM.add hmr hNr hkN hdk
          obtain ⟨hmx, _⟩ := pg1_may hmr (k := (kk : Int)) (by omega)
          have hdo' : ∀ k, k < NN → X.length + k < i + 1 → (D.set kk true)[k]? = some true := fun k h1 h2 => by
            rw [List.getElem?_set]
            by_cases e : kk = k
            · rw [if_pos e, if_pos (by have := hM.2.1; omega)]
            · rw [if_neg e]; exact hdo k h1 (by omega)
          repeat' (first
            | ((with_reducible apply g_op); first
              | ((with_reducible apply g_move); first
                | ((with_reducible apply w_pure (v := .int _ _)); exact rfl; exact rfl)))
            | with_reducible refine w_seq ?_
            | with_reducible refine w_nil ?_
            | with_reducible refine w_region ?_
            | with_reducible refine w_skip ?_
            | ((with_reducible apply w_no); exact rfl))
          refine w_aix (nn := 16) (sz := 1) (e := 4) rfl rfl rfl rfl ⟨by omega, by omega⟩ ?_
          refine w_store (us := [.bool true]) (ws := (D.set kk true).flatMap bc) rfl rfl hgD (by omega) rfl rfl (by rw [hid]; exact wr_flat (enc := bc) (sz := 1) (c := 0) (us := [.bool true]) (y := false) (y' := true) (fun _ => rfl) (show 1 ≤ 1 by decide) rfl hdk) ?_
          repeat' (first
            | ((with_reducible apply g_op); first
              | ((with_reducible apply g_load); first
                | ((with_reducible apply w_load (v := .int _ _)); exact rfl; (first | assumption | (simp (disch := omega) only [upd_same, upd_ne]; first | done | assumption | exact rfl) | exact rfl); exact rfl)
                | ((with_reducible apply w_load (v := .agg #[_, _, _, _, _, _])); exact rfl; (first | assumption | (simp (disch := omega) only [upd_same, upd_ne]; first | done | assumption | exact rfl) | exact rfl); exact rfl))
              | ((with_reducible apply g_move); first
                | ((with_reducible apply w_pure (v := .int _ _)); exact rfl; exact rfl))
              | ((with_reducible apply g_bin); first
                | ((with_reducible apply w_wrap); exact rfl; exact rfl; first | exact i64_in _ (by omega) | exact u64_in _ (by omega) | exact u8_in _ (by omega))
                | ((with_reducible apply w_pure (v := .bool _)); exact rfl; exact rfl))
              | ((with_reducible apply g_fld); first
                | ((with_reducible apply w_fldp (o := 0)); exact rfl; exact rfl; exact rfl; exact (by decide))
                | ((with_reducible apply w_fldp (o := 1)); exact rfl; exact rfl; exact rfl; exact (by decide))
                | ((with_reducible apply w_fldp (o := 3)); exact rfl; exact rfl; exact rfl; exact (by decide)))
              | ((with_reducible apply g_store); first
                | ((with_reducible apply w_store (us := [.int _ _]) (ws := [_, _, _, _, _, _])); exact rfl; exact rfl; (first | assumption | (simp (disch := omega) only [upd_same, upd_ne]; first | done | assumption | exact rfl) | exact rfl); omega; exact rfl; exact rfl; exact rfl)
                | ((with_reducible apply w_store (us := [_, _, _, _, _, _]) (ws := [_, _, _, _, _, _])); exact rfl; exact rfl; (first | assumption | (simp (disch := omega) only [upd_same, upd_ne]; first | done | assumption | exact rfl) | exact rfl); omega; exact rfl; exact rfl; exact rfl))
              | ((with_reducible apply w_alloc (ls := [_, _, _, _, _, _])); exact rfl; exact rfl))
            | with_reducible refine w_seq ?_
            | with_reducible refine w_nil ?_
            | with_reducible refine w_region ?_
            | with_reducible refine w_skip ?_
            | ((with_reducible apply w_ifd); exact rfl; all_goals (intro hc; first | (exfalso; omega) | skip)))
          have hx : pg1 r (kk : Int) = ⟨r.f + kk, r.f + kk + 1, r.p, r.k, r.l, r.g⟩ := by unfold pg1; rw [if_neg hrk]
          rw [hx] at ha hM' hmx
          refine w_pure (v := V) rfl rfl ?_
          repeat' (first
            | ((with_reducible apply g_op); first
              | ((with_reducible apply g_load); first
                | ((with_reducible apply w_load (v := .agg #[_, _, _, _, _, _])); exact rfl; (first | assumption | (simp (disch := omega) only [upd_same, upd_ne]; first | done | assumption | exact rfl) | exact rfl); exact rfl))))
          refine w_rf (add_run l ⟨r.f + kk, r.f + kk + 1, r.p, r.k, r.l, r.g⟩ (by have := lenR hM.1; omega)) (fun _ => rfl) (sn_cons (lv_sn hv) (sn_cons (rg_sn ⟨r.f + kk, r.f + kk + 1, r.p, r.k, r.l, r.g⟩) sn_nil)) ?_
          rintro _ rfl
          generalize addS l ⟨r.f + kk, r.f + kk + 1, r.p, r.k, r.l, r.g⟩ = A at *
          obtain ⟨A1, A2⟩ := A
          dsimp only at ha hM'
          subst ha
          repeat' (first
            | ((with_reducible apply g_op); first
              | ((with_reducible apply g_move); first
                | ((with_reducible apply w_pure (v := .int _ _)); exact rfl; exact rfl)
                | ((with_reducible apply w_pure (v := .bool _)); exact rfl; exact rfl)
                | ((with_reducible apply w_pure (v := .tuple _)); exact rfl; exact rfl)
                | ((with_reducible apply w_pure (v := .func _ _ _)); exact rfl; exact rfl))
              | ((with_reducible apply g_bin); first
                | ((with_reducible apply w_pure (v := .bool _)); exact rfl; exact rfl))
              | ((with_reducible apply g_assign); first
                | ((with_reducible apply w_pure (v := .int _ _)); exact rfl; exact rfl)
                | ((with_reducible apply w_pure (v := .func _ _ _)); exact rfl; exact rfl))
              | ((with_reducible apply w_pure (v := .int _ _)); exact rfl; exact rfl)
              | ((with_reducible apply w_pure (v := .func _ _ _)); exact rfl; exact rfl))
            | ((with_reducible apply g_gd); first
              | ((with_reducible apply w_want); exact rfl))
            | with_reducible refine w_seq ?_
            | with_reducible refine w_nil ?_
            | with_reducible refine w_region ?_)
          refine w_rf (check_run A1 hM'.1 (by have := lenR hM'.1; omega)) (fun _ => rfl) (sn_cons rv_sn sn_nil) ?_
          rintro _ rfl
          repeat' (first
            | ((with_reducible apply g_op); first
              | ((with_reducible apply g_move); first
                | ((with_reducible apply w_pure (v := .int _ _)); exact rfl; exact rfl)
                | ((with_reducible apply w_pure (v := .func _ _ _)); exact rfl; exact rfl))
              | ((with_reducible apply g_bin); first
                | ((with_reducible apply w_wrap); exact rfl; exact rfl; first | exact i64_in _ (by omega) | exact u64_in _ (by omega) | exact u8_in _ (by omega))
                | ((with_reducible apply w_pure (v := .bool _)); exact rfl; exact rfl))
              | ((with_reducible apply g_pick); first
                | ((with_reducible apply w_pk0 (v := .bool _)); exact rfl; exact rfl; (first | assumption | exact decide_eq_true (by assumption) | exact decide_eq_false (by assumption) | exact decide_eq_true (by omega) | exact decide_eq_false (by omega) | exact beq_iff_eq.2 (by omega) | exact beq_eq_false_iff_ne.2 (by omega) | exact bne_iff_ne.2 (by omega) | exact bne_eq_false_iff_eq.2 (by omega))))
              | ((with_reducible apply g_assign); first
                | ((with_reducible apply w_pure (v := .int _ _)); exact rfl; exact rfl)
                | ((with_reducible apply w_pure (v := .func _ _ _)); exact rfl; exact rfl)))
            | ((with_reducible apply g_gd); first
              | ((with_reducible apply w_want); exact rfl))
            | with_reducible refine w_nil ?_
            | with_reducible refine w_region ?_
            | with_reducible refine w_skip ?_
            | with_reducible refine w_blk ?_
            | ((with_reducible apply w_no); exact rfl))
          exact ih (D.set kk true, A1) _ _ _ (by repeat' (first | with_reducible exact Fr.mix | with_reducible exact Fr.rfl' | with_reducible refine Fr.put ?_ ?_ | with_reducible refine Fr.mix2 ?_ ?_ | with_reducible refine Fr.put0 ?_ | exact rfl)) ⟨.inl rfl, by push_cast; rfl, hM', hdo', by simp (disch := omega) only [upd_ne]; exact hgr, by simp (disch := omega) only [upd_ne, upd_same], by omega⟩
    · rintro ⟨D, l⟩ σ g2 n2 ⟨hv, k13, hM, hdo, hgr, hgD, hn2⟩
      dsimp only at hv hM hdo hgD
      have hl1 : l = [r] := hM.all hmr hNr fun k hk => hdo k hk (by omega)
      subst hl1
      obtain ⟨V, k11⟩ : ∃ V, σ 11 = V := ⟨_, rfl⟩
      rw [k11] at hv
      refine w_keep (i := 11) k11 (w_keep (i := 13) k13 ?_)
      rcases hv with hv | ⟨_, hv⟩
      · subst hv
        repeat' (first
          | ((with_reducible apply g_op); first
            | ((with_reducible apply g_move); first
              | ((with_reducible apply w_pure (v := .int _ _)); exact rfl; exact rfl)
              | ((with_reducible apply w_pure (v := .func _ _ _)); exact rfl; exact rfl))
            | ((with_reducible apply g_bin); first
              | ((with_reducible apply w_wrap); exact rfl; exact rfl; first | exact i64_in _ (by omega) | exact u64_in _ (by omega) | exact u8_in _ (by omega))
              | ((with_reducible apply w_pure (v := .bool _)); exact rfl; exact rfl))
            | ((with_reducible apply g_call); first
              | ((with_reducible apply w_call (v := .int _ _)); exact rfl)))
          | with_reducible refine w_seq ?_
          | with_reducible refine w_nil ?_
          | with_reducible refine w_region ?_
          | ((with_reducible apply w_exit); exact rfl)
          | ((with_reducible apply w_ifd); exact rfl; all_goals (intro hc; first | (exfalso; omega) | skip)))
        refine w_rf (same_run [r] [r] (by simp) (by simp)) (fun _ => rfl) (sn_cons rv_sn (sn_cons rv_sn sn_nil)) ?_
        rintro _ ⟨bb, rfl, hbb⟩
        obtain rfl : bb = true := hbb.2 rfl
        repeat' (first
          | ((with_reducible apply g_op); first
            | ((with_reducible apply g_move); first
              | ((with_reducible apply w_pure (v := .int _ _)); exact rfl; exact rfl)
              | ((with_reducible apply w_pure (v := .bool _)); exact rfl; exact rfl)
              | ((with_reducible apply w_pure (v := .func _ _ _)); exact rfl; exact rfl))
            | ((with_reducible apply g_bin); first
              | ((with_reducible apply w_pure (v := .bool _)); exact rfl; exact rfl))
            | ((with_reducible apply g_pick); first
              | ((with_reducible apply w_pk1 (v := .bool _)); exact rfl; exact rfl; (first | assumption | exact decide_eq_true (by assumption) | exact decide_eq_false (by assumption) | exact decide_eq_true (by omega) | exact decide_eq_false (by omega) | exact beq_iff_eq.2 (by omega) | exact beq_eq_false_iff_ne.2 (by omega) | exact bne_iff_ne.2 (by omega) | exact bne_eq_false_iff_eq.2 (by omega))))
            | ((with_reducible apply g_assign); first
              | ((with_reducible apply w_pure (v := .bool _)); exact rfl; exact rfl))
            | ((with_reducible apply g_call); first
              | ((with_reducible apply w_call (v := .int _ _)); exact rfl))
            | ((with_reducible apply w_pure (v := .bool _)); exact rfl; exact rfl))
          | ((with_reducible apply g_gd); first
            | ((with_reducible apply w_want); exact rfl))
          | with_reducible refine w_seq ?_
          | with_reducible refine w_nil ?_
          | with_reducible refine w_region ?_
          | ((with_reducible apply w_ret (v := .bool _)); exact rfl))
        rfl
      · cases hv
    · exact ⟨.inr ⟨rfl, rfl⟩, rfl, Made.nil r NN, fun k _ h => by omega, by simp (disch := omega) only [upd_ne]; exact hgr0, by exact upd_same, by omega⟩
theorem proved (x0 : Int × Int × Int × Int) (x1 : List Int) (hX : x1.length ≤ 20000000000000) : Rn Try.prog tab 4 [.agg ((kPair (kInt .i64) (kPair (kInt .i64) (kPair (kInt .i64) (kInt .i64)))).enc x0).toArray, fz tg x1.length (x1.flatMap (kInt .i64).enc)] (fun _ => none) 0 0 (fun v _ _ => v = .bool true) := by
  obtain ⟨a, b, c, d⟩ := x0
  exact walk a b c d x1 hX (fun _ => none) 0
end Go.Proofs.Ytnlgindlmlbfiaa.L.RegionOnce

