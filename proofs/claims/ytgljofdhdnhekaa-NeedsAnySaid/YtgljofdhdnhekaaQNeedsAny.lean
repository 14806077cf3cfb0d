/- NeedsAny: walked, and its plain law. -/
import Derived.Test.Ytgljofdhdnhekaac12N
namespace Go.Proofs.Ytgljofdhdnhekaa.L.NeedsAny
open Go.L1 Go.IntWalk Go.Proofs.Ytgljofdhdnhekaa.L
set_option linter.unusedVariables false
set_option linter.unusedSimpArgs false
set_option maxHeartbeats 4000000
def tab : Tb := L.T
theorem tabok : ∀ C : Cx, C.P = Try.prog → TbOk C tab := L.tabok
def anyAt (x : Lib) : Lib := ⟨shortS x.name, (x.nd.take 6).map shortS⟩
def anyS (X : List Lib) : List Lib := (X.take 10).map anyAt
theorem any_fits (X : List Lib) : Fits (anyS X) := by
  refine ⟨by simp [anyS]; omega, fun x hx => ?_⟩
  obtain ⟨y, _, rfl⟩ := List.mem_map.1 hx
  simp [anyAt]; omega
theorem walk (X : List Lib) (root : ByteArray) (g : Nat → Option Ob) (n : Nat) : Rn Try.prog T 5 [lv tg X, .string root] g n n (fun v _ _ => v = .bool true) := by
  refine c_open Try.func5 rfl rfl rfl rfl rfl rfl ?_
  repeat' (first
    | ((with_reducible apply g_op); first
      | ((with_reducible apply g_assign); first
        | ((with_reducible apply w_pure (v := .bool _)); exact rfl; exact rfl)))
    | with_reducible refine w_seq ?_
    | with_reducible refine w_nil ?_
    | with_reducible refine w_region ?_)
  refine w_rf awake_run (fun _ => rfl) sn_nil ?_
  rintro _ rfl
  repeat' (first
    | ((with_reducible apply g_op); first
      | ((with_reducible apply g_assign); first
        | ((with_reducible apply w_pure (v := .int _ _)); exact rfl; exact rfl)
        | ((with_reducible apply w_pure (v := .bool _)); exact rfl; exact rfl)
        | ((with_reducible apply w_pure (v := .slice _ _ _)); exact rfl; exact rfl)))
    | with_reducible refine w_seq ?_
    | with_reducible refine w_nil ?_
    | with_reducible refine w_region ?_
    | with_reducible refine w_block ?_)
  refine w_cntK [(6, 9), (17, 65)] (min X.length 10) (fun i (b : List PL × Option Nat) σ g' n' => σ 6 = ov b.2 b.1.length ∧ σ 7 = .int .i64 (i : Nat)
    ∧ Nest g' n n' b.2 b.1 ∧ b.1.map Prod.fst = (X.take i).map anyAt ∧ n ≤ n') ?_ ?_ ([], none) ⟨rfl, rfl, ⟨rfl, fun p hp => by cases hp⟩, rfl, by omega⟩
  · rintro i ⟨ps, o⟩ σ gl nl hi ⟨k6, k7, hs, hm, hn1⟩ ih
    dsimp only at k6 hs hm
    refine w_keep (i := 6) k6 (w_keep (i := 7) k7 ?_)
    have hpl : ps.length = i := by have := congrArg List.length hm; simp at this; omega
    obtain ⟨x, hx⟩ : ∃ x, X[i]? = some x := ⟨_, List.getElem?_eq_getElem (by omega)⟩
    have hxi : X.take (i + 1) = X.take i ++ [x] := by rw [List.take_add_one, hx]; rfl
    repeat' (first
      | ((with_reducible apply g_op); first
        | ((with_reducible apply g_load); first
          | ((with_reducible apply w_fl (v := .string _)); exact rfl; exact (fun _ => rfl); assumption; exact rfl))
        | ((with_reducible apply g_move); first
          | ((with_reducible apply w_pure (v := .int _ _)); exact rfl; exact rfl)
          | ((with_reducible apply w_pure (v := .bool _)); exact rfl; exact rfl)
          | ((with_reducible apply w_pure (v := .func _ _ _)); exact rfl; exact rfl))
        | ((with_reducible apply g_bin); first
          | ((with_reducible apply w_pure (v := .bool _)); exact rfl; exact rfl))
        | ((with_reducible apply g_fld); first
          | ((with_reducible apply w_ffld (o := 0)); exact rfl; exact rfl; exact rfl; exact (by decide)))
        | ((with_reducible apply g_pick); first
          | ((with_reducible apply w_pk1 (v := .bool _)); exact rfl; exact rfl; (first | assumption | exact decide_eq_true (by assumption) | exact decide_eq_false (by assumption) | exact decide_eq_true (by omega) | exact decide_eq_false (by omega) | exact beq_iff_eq.2 (by omega) | exact beq_eq_false_iff_ne.2 (by omega) | exact bne_iff_ne.2 (by omega) | exact bne_eq_false_iff_eq.2 (by omega))))
        | ((with_reducible apply g_call); first
          | ((with_reducible apply w_call (v := .int _ _)); exact rfl))
        | ((with_reducible apply g_ix); first
          | ((with_reducible apply w_fx (sz := 2)); exact rfl; exact rfl; exact rfl; exact rfl; exact rfl; exact (fun _ => rfl); assumption; exact rfl)))
      | ((with_reducible apply g_gd); first
        | ((with_reducible apply w_gd_t); exact rfl; all_goals (intro hc; first | (exfalso; omega) | skip)))
      | with_reducible refine w_seq ?_
      | with_reducible refine w_nil ?_
      | with_reducible refine w_region ?_
      | with_reducible refine w_skip ?_
      | with_reducible refine w_block ?_
      | ((with_reducible apply w_ifd); exact rfl; all_goals (intro hc; first | (exfalso; omega) | skip)))
    refine w_rq (short_run _ _ _ _) (fun _ => rfl) ?_
    rintro _ rfl
    repeat' (first
      | ((with_reducible apply g_op); first
        | ((with_reducible apply g_assign); first
          | ((with_reducible apply w_pure (v := .int _ _)); exact rfl; exact rfl))
        | ((with_reducible apply g_store); first
          | ((with_reducible apply w_store (us := [_, _]) (ws := [_, _])); exact rfl; exact rfl; (first | assumption | (simp (disch := omega) only [upd_same, upd_ne]; first | done | assumption | exact rfl) | exact rfl); omega; exact rfl; exact rfl; exact rfl))
        | ((with_reducible apply g_build); first
          | ((with_reducible apply w_pure (v := .agg #[_, _])); exact rfl; exact rfl))
        | ((with_reducible apply w_alloc (ls := [_, _])); exact rfl; exact rfl))
      | with_reducible refine w_seq ?_
      | with_reducible refine w_nil ?_
      | with_reducible refine w_region ?_)
    have hia : (anyAt x).nd = (x.nd.take 6).map shortS := rfl
    refine w_meetK [(9, 9), (34, 61)] (fun σ' g' n' => ∃ q, g' nl = some (.cells 27 [.string (shortS x.name), ov q (anyAt x).nd.length]) ∧ Own g' (nl + 1) n' 9 ts q (anyAt x).nd ∧ (∀ j, j < nl → g' j = gl j) ∧ nl + 1 ≤ n') ?_ ?_
    · intro K Q hK
      repeat' (first
        | with_reducible refine w_block ?_)
      refine w_cntK [(9, 9), (34, 61)] (min x.nd.length 6) (fun k (b : List ByteArray × Option Nat) σ g' n' => σ 9 = .int .i64 (k : Nat) ∧ g' nl = some (.cells 27 [.string (shortS x.name), ov b.2 b.1.length]) ∧ Own g' (nl + 1) n' 9 ts b.2 b.1 ∧ b.1 = (x.nd.take k).map shortS ∧ (∀ j, j < nl → g' j = gl j) ∧ nl + 1 ≤ n') ?_ ?_ ([], none) ⟨rfl, by simp (disch := omega) only [upd_same, upd_ne]; rfl, rfl, rfl, fun j hj => by simp (disch := omega) only [upd_ne], by omega⟩
      · rintro k ⟨ns, q⟩ σ2 g2 n2 hk ⟨k9, hg2, ho2, hns, hf2, hn2⟩ ih2
        dsimp only at hg2 ho2 hns
        refine w_keep (i := 9) k9 ?_
        obtain ⟨a, ha⟩ : ∃ a, x.nd[k]? = some a := ⟨_, List.getElem?_eq_getElem (by omega)⟩
        have hnl : ns.length = k := by rw [hns]; simp; omega
        have hns' : ns ++ [shortS a] = (x.nd.take (k + 1)).map shortS := by rw [hns, List.take_add_one, ha]; simp
        cases q with
        | none =>
          simp only [ov_none] at hg2
          have e0 : ns = [] := ho2
          subst e0
          repeat' (first
            | ((with_reducible apply g_op); first
              | ((with_reducible apply g_load); first
                | ((with_reducible apply w_fl (v := .string _)); exact rfl; exact (fun _ => rfl); assumption; exact rfl)
                | ((with_reducible apply w_fl (v := .func _ _ _)); exact rfl; exact (fun _ => rfl); assumption; exact rfl)
                | ((with_reducible apply w_load (v := .slice _ _ _)); exact rfl; (first | assumption | (simp (disch := omega) only [upd_same, upd_ne]; first | done | assumption | exact rfl) | exact rfl); exact rfl))
              | ((with_reducible apply g_move); first
                | ((with_reducible apply w_pure (v := .int _ _)); exact rfl; exact rfl)
                | ((with_reducible apply w_pure (v := .bool _)); exact rfl; exact rfl)
                | ((with_reducible apply w_pure (v := .func _ _ _)); exact rfl; exact rfl))
              | ((with_reducible apply g_bin); first
                | ((with_reducible apply w_pure (v := .bool _)); exact rfl; exact rfl))
              | ((with_reducible apply g_fld); first
                | ((with_reducible apply w_fldp (o := 1)); exact rfl; exact rfl; exact rfl; exact (by decide))
                | ((with_reducible apply w_ffld (o := 1)); exact rfl; exact rfl; exact rfl; exact (by decide)))
              | ((with_reducible apply g_pick); first
                | ((with_reducible apply w_pk1 (v := .bool _)); exact rfl; exact rfl; (first | assumption | exact decide_eq_true (by assumption) | exact decide_eq_false (by assumption) | exact decide_eq_true (by omega) | exact decide_eq_false (by omega) | exact beq_iff_eq.2 (by omega) | exact beq_eq_false_iff_ne.2 (by omega) | exact bne_iff_ne.2 (by omega) | exact bne_eq_false_iff_eq.2 (by omega))))
              | ((with_reducible apply g_call); first
                | ((with_reducible apply w_call (v := .int _ _)); exact rfl))
              | ((with_reducible apply g_ix); first
                | ((with_reducible apply w_fx (sz := 1)); exact rfl; exact rfl; exact rfl; exact rfl; exact rfl; exact (fun _ => rfl); assumption; exact rfl)
                | ((with_reducible apply w_fx (sz := 2)); exact rfl; exact rfl; exact rfl; exact rfl; exact rfl; exact (fun _ => rfl); assumption; exact rfl)))
            | ((with_reducible apply g_gd); first
              | ((with_reducible apply w_gd_t); exact rfl; all_goals (intro hc; first | (exfalso; omega) | skip)))
            | with_reducible refine w_seq ?_
            | with_reducible refine w_nil ?_
            | with_reducible refine w_region ?_
            | with_reducible refine w_skip ?_
            | with_reducible refine w_block ?_
            | ((with_reducible apply w_draw); kernel_rfl; kernel_rfl)
            | ((with_reducible apply w_ifd); exact rfl; all_goals (intro hc; first | (exfalso; omega) | skip)))
          refine w_rq (short_run _ _ _ _) (fun _ => rfl) ?_
          rintro _ rfl
          repeat' (first
            | ((with_reducible apply g_op); first
              | ((with_reducible apply g_move); first
                | ((with_reducible apply w_pure (v := .int _ _)); exact rfl; exact rfl))
              | ((with_reducible apply g_bin); first
                | ((with_reducible apply w_wrap); exact rfl; exact rfl; first | exact i64_in _ (by omega) | exact u64_in _ (by omega) | exact u8_in _ (by omega)))
              | ((with_reducible apply g_fld); first
                | ((with_reducible apply w_fldp (o := 1)); exact rfl; exact rfl; exact rfl; exact (by decide)))
              | ((with_reducible apply g_assign); first
                | ((with_reducible apply w_pure (v := .int _ _)); exact rfl; exact rfl))
              | ((with_reducible apply g_call); first
                | ((with_reducible apply w_app0 (ns := [_])); exact rfl; exact rfl; exact rfl; exact rfl; exact rfl; exact rfl; (first | assumption | (simp (disch := omega) only [upd_same, upd_ne]; first | done | assumption | exact rfl) | exact rfl); exact rfl; exact rfl; exact (by decide); exact ⟨by decide, by decide⟩))
              | ((with_reducible apply g_store); first
                | ((with_reducible apply w_store (us := [.slice _ _ _]) (ws := [_, _])); exact rfl; exact rfl; (first | assumption | (simp (disch := omega) only [upd_same, upd_ne]; first | done | assumption | exact rfl) | exact rfl); omega; exact rfl; exact rfl; exact rfl))
              | ((with_reducible apply w_bsl (ls := [_])); exact rfl; exact rfl; exact rfl; exact ⟨by decide, rfl⟩; exact rfl))
            | with_reducible refine w_nil ?_
            | with_reducible refine w_region ?_
            | with_reducible refine w_blk ?_)
          refine ih2 ([shortS a], some (n2 + 1)) _ _ _ (by repeat' (first | with_reducible exact Fr.mix | with_reducible exact Fr.rfl' | with_reducible refine Fr.put ?_ ?_ | with_reducible refine Fr.mix2 ?_ ?_ | with_reducible refine Fr.put0 ?_ | exact rfl)) ⟨rfl, ?_, ⟨by simp, by omega, by omega, ?_⟩, hns', fun j hj => by simp (disch := omega) only [upd_ne]; exact hf2 j hj, by omega⟩
          · simp (disch := omega) only [upd_same, upd_ne]; rfl
          · simp (disch := omega) only [upd_same, upd_ne]; rfl
        | some q =>
          simp only [ov_some] at hg2
          have ho3 := ho2.2.1
          have ho4 := ho2.2.2.1
          repeat' (first
            | ((with_reducible apply g_op); first
              | ((with_reducible apply g_load); first
                | ((with_reducible apply w_fl (v := .string _)); exact rfl; exact (fun _ => rfl); assumption; exact rfl)
                | ((with_reducible apply w_fl (v := .func _ _ _)); exact rfl; exact (fun _ => rfl); assumption; exact rfl)
                | ((with_reducible apply w_load (v := .slice _ _ _)); exact rfl; (first | assumption | (simp (disch := omega) only [upd_same, upd_ne]; first | done | assumption | exact rfl) | exact rfl); exact rfl))
              | ((with_reducible apply g_move); first
                | ((with_reducible apply w_pure (v := .int _ _)); exact rfl; exact rfl)
                | ((with_reducible apply w_pure (v := .bool _)); exact rfl; exact rfl)
                | ((with_reducible apply w_pure (v := .func _ _ _)); exact rfl; exact rfl))
              | ((with_reducible apply g_bin); first
                | ((with_reducible apply w_pure (v := .bool _)); exact rfl; exact rfl))
              | ((with_reducible apply g_fld); first
                | ((with_reducible apply w_fldp (o := 1)); exact rfl; exact rfl; exact rfl; exact (by decide))
                | ((with_reducible apply w_ffld (o := 1)); exact rfl; exact rfl; exact rfl; exact (by decide)))
              | ((with_reducible apply g_pick); first
                | ((with_reducible apply w_pk1 (v := .bool _)); exact rfl; exact rfl; (first | assumption | exact decide_eq_true (by assumption) | exact decide_eq_false (by assumption) | exact decide_eq_true (by omega) | exact decide_eq_false (by omega) | exact beq_iff_eq.2 (by omega) | exact beq_eq_false_iff_ne.2 (by omega) | exact bne_iff_ne.2 (by omega) | exact bne_eq_false_iff_eq.2 (by omega))))
              | ((with_reducible apply g_call); first
                | ((with_reducible apply w_call (v := .int _ _)); exact rfl))
              | ((with_reducible apply g_ix); first
                | ((with_reducible apply w_fx (sz := 1)); exact rfl; exact rfl; exact rfl; exact rfl; exact rfl; exact (fun _ => rfl); assumption; exact rfl)
                | ((with_reducible apply w_fx (sz := 2)); exact rfl; exact rfl; exact rfl; exact rfl; exact rfl; exact (fun _ => rfl); assumption; exact rfl)))
            | ((with_reducible apply g_gd); first
              | ((with_reducible apply w_gd_t); exact rfl; all_goals (intro hc; first | (exfalso; omega) | skip)))
            | with_reducible refine w_seq ?_
            | with_reducible refine w_nil ?_
            | with_reducible refine w_region ?_
            | with_reducible refine w_skip ?_
            | with_reducible refine w_block ?_
            | ((with_reducible apply w_draw); kernel_rfl; kernel_rfl)
            | ((with_reducible apply w_ifd); exact rfl; all_goals (intro hc; first | (exfalso; omega) | skip)))
          refine w_rq (short_run _ _ _ _) (fun _ => rfl) ?_
          rintro _ rfl
          repeat' (first
            | ((with_reducible apply g_op); first
              | ((with_reducible apply w_bsl (ls := [_])); exact rfl; exact rfl; exact rfl; exact ⟨by decide, rfl⟩; exact rfl)))
          refine w_own2 (enc := ts) (y := shortS a) (by_ := 16) (sz := 1) (lo := nl + 1) (o := some q) (xs := ns) (ho2.later (by omega) (fun j h1 h2 => upd_ne (by omega))) rfl rfl rfl rfl rfl rfl (fun _ => rfl) upd_same rfl rfl rfl (by omega) (by omega) ?_
          intro g' h1 h2 h3
          have c1 : g' nl = some (Ob.cells 27 [.string (shortS x.name), slc q 0 ns.length]) := by
            rw [h1 nl (by omega) (by simp; omega), upd_ne (by omega)]; exact hg2
          repeat' (first
            | ((with_reducible apply g_op); first
              | ((with_reducible apply g_move); first
                | ((with_reducible apply w_pure (v := .int _ _)); exact rfl; exact rfl))
              | ((with_reducible apply g_bin); first
                | ((with_reducible apply w_wrap); exact rfl; exact rfl; first | exact i64_in _ (by omega) | exact u64_in _ (by omega) | exact u8_in _ (by omega)))
              | ((with_reducible apply g_fld); first
                | ((with_reducible apply w_fldp (o := 1)); exact rfl; exact rfl; exact rfl; exact (by decide)))
              | ((with_reducible apply g_assign); first
                | ((with_reducible apply w_pure (v := .int _ _)); exact rfl; exact rfl))
              | ((with_reducible apply g_store); first
                | ((with_reducible apply w_store (us := [.slice _ _ _]) (ws := [_, _])); exact rfl; exact rfl; (first | assumption | (simp (disch := omega) only [upd_same, upd_ne]; first | done | assumption | exact rfl) | exact rfl); omega; exact rfl; exact rfl; exact rfl)))
            | with_reducible refine w_nil ?_
            | with_reducible refine w_region ?_
            | with_reducible refine w_blk ?_)
          refine ih2 (ns ++ [shortS a], some (n2 + 1)) _ _ _ (by repeat' (first | with_reducible exact Fr.mix | with_reducible exact Fr.rfl' | with_reducible refine Fr.put ?_ ?_ | with_reducible refine Fr.mix2 ?_ ?_ | with_reducible refine Fr.put0 ?_ | exact rfl)) ⟨rfl, ?_, h3.later (by omega) (fun j h1 h2 => upd_ne (by omega)), hns', fun j hj => ?_, by omega⟩
          · simp (disch := omega) only [upd_same, upd_ne]; rfl
          · rw [upd_ne (by omega), h1 j (by omega) (by simp; omega), upd_ne (by omega)]; exact hf2 j hj
      · rintro ⟨ns, q⟩ σ2 g2 n2 ⟨k9, hg2, ho2, hns, hf2, hn2⟩
        dsimp only at hg2 ho2 hns
        refine w_keep (i := 9) k9 ?_
        have e1 : ns = (anyAt x).nd := by rw [hia, hns]; congr 1; rw [List.take_eq_take_iff]; omega
        rw [e1] at hg2 ho2
        repeat' (first
          | ((with_reducible apply g_op); first
            | ((with_reducible apply g_load); first
              | ((with_reducible apply w_fl (v := .func _ _ _)); exact rfl; exact (fun _ => rfl); assumption; exact rfl))
            | ((with_reducible apply g_move); first
              | ((with_reducible apply w_pure (v := .int _ _)); exact rfl; exact rfl)
              | ((with_reducible apply w_pure (v := .bool _)); exact rfl; exact rfl)
              | ((with_reducible apply w_pure (v := .func _ _ _)); exact rfl; exact rfl))
            | ((with_reducible apply g_bin); first
              | ((with_reducible apply w_pure (v := .bool _)); exact rfl; exact rfl))
            | ((with_reducible apply g_fld); first
              | ((with_reducible apply w_ffld (o := 1)); exact rfl; exact rfl; exact rfl; exact (by decide)))
            | ((with_reducible apply g_pick); first
              | ((with_reducible apply w_pk1 (v := .bool _)); exact rfl; exact rfl; (first | assumption | exact decide_eq_true (by assumption) | exact decide_eq_false (by assumption) | exact decide_eq_true (by omega) | exact decide_eq_false (by omega) | exact beq_iff_eq.2 (by omega) | exact beq_eq_false_iff_ne.2 (by omega) | exact bne_iff_ne.2 (by omega) | exact bne_eq_false_iff_eq.2 (by omega)))
              | ((with_reducible apply w_pk0 (v := .bool _)); exact rfl; exact rfl; (first | assumption | exact decide_eq_true (by assumption) | exact decide_eq_false (by assumption) | exact decide_eq_true (by omega) | exact decide_eq_false (by omega) | exact beq_iff_eq.2 (by omega) | exact beq_eq_false_iff_ne.2 (by omega) | exact bne_iff_ne.2 (by omega) | exact bne_eq_false_iff_eq.2 (by omega))))
            | ((with_reducible apply g_call); first
              | ((with_reducible apply w_call (v := .int _ _)); exact rfl))
            | ((with_reducible apply g_ix); first
              | ((with_reducible apply w_fx (sz := 2)); exact rfl; exact rfl; exact rfl; exact rfl; exact rfl; exact (fun _ => rfl); assumption; exact rfl)))
          | ((with_reducible apply g_gd); first
            | ((with_reducible apply w_gd_t); exact rfl; all_goals (intro hc; first | (exfalso; omega) | skip)))
          | with_reducible refine w_seq ?_
          | with_reducible refine w_nil ?_
          | with_reducible refine w_region ?_
          | ((with_reducible apply w_exit); exact rfl)
          | ((with_reducible apply w_no); exact rfl)
          | ((with_reducible apply w_ifd); exact rfl; all_goals (intro hc; first | (exfalso; omega) | skip)))
        all_goals exact hK _ _ _ (by repeat' (first | with_reducible exact Fr.mix | with_reducible exact Fr.rfl' | with_reducible refine Fr.put ?_ ?_ | with_reducible refine Fr.mix2 ?_ ?_ | with_reducible refine Fr.put0 ?_ | exact rfl)) ⟨q, hg2, ho2, hf2, hn2⟩
    · rintro σ2 g2 n2 ⟨q, hg2, ho2, hf2, hn2⟩
      have hm' : ∀ q, (ps ++ [(anyAt x, q)]).map Prod.fst = (X.take (i + 1)).map anyAt := fun q => by rw [List.map_append, hm, hxi, List.map_append]; rfl
      cases o with
      | none =>
        have e0 : ps = [] := hs.out
        subst e0
        simp only [ov_none] at k6
        cases q with
        | none =>
          simp only [ov_none] at hg2
          repeat' (first
            | ((with_reducible apply g_op); first
              | ((with_reducible apply g_load); first
                | ((with_reducible apply w_load (v := .agg #[_, _])); exact rfl; (first | assumption | (simp (disch := omega) only [upd_same, upd_ne]; first | done | assumption | exact rfl) | exact rfl); exact rfl))
              | ((with_reducible apply g_move); first
                | ((with_reducible apply w_pure (v := .int _ _)); exact rfl; exact rfl)
                | ((with_reducible apply w_pure (v := .slice _ _ _)); exact rfl; exact rfl))
              | ((with_reducible apply g_bin); first
                | ((with_reducible apply w_wrap); exact rfl; exact rfl; first | exact i64_in _ (by omega) | exact u64_in _ (by omega) | exact u8_in _ (by omega)))
              | ((with_reducible apply g_assign); first
                | ((with_reducible apply w_pure (v := .int _ _)); exact rfl; exact rfl)
                | ((with_reducible apply w_pure (v := .slice _ _ _)); exact rfl; exact rfl))
              | ((with_reducible apply g_call); first
                | ((with_reducible apply w_app0 (ns := [_, _])); exact rfl; exact rfl; exact rfl; exact rfl; exact rfl; exact rfl; (first | assumption | (simp (disch := omega) only [upd_same, upd_ne]; first | done | assumption | exact rfl) | exact rfl); exact rfl; exact rfl; exact (by decide); exact ⟨by decide, by decide⟩))
              | ((with_reducible apply w_bsl (ls := [_, _])); exact rfl; exact rfl; exact rfl; exact ⟨by decide, rfl⟩; exact rfl))
            | with_reducible refine w_nil ?_
            | with_reducible refine w_region ?_
            | with_reducible refine w_blk ?_)
          refine ih ([(anyAt x, none)], some (n2 + 1)) _ _ _ (by repeat' (first | with_reducible exact Fr.mix | with_reducible exact Fr.rfl' | with_reducible refine Fr.put ?_ ?_ | with_reducible refine Fr.mix2 ?_ ?_ | with_reducible refine Fr.put0 ?_ | exact rfl)) ⟨rfl, by push_cast; rfl, ⟨⟨by simp, by omega, by omega, ?_⟩, fun p hp => ?_⟩, hm' _, by omega⟩
          · simp (disch := omega) only [upd_same, upd_ne]; rfl
          · rw [List.mem_singleton] at hp
            subst hp
            refine own_lo (own_at ho2 (by omega) fun a ha => ?_) (by omega)
            cases ha <;> (
            have := ho2.2.2.1
            simp (disch := omega) only [upd_ne])
        | some q =>
          simp only [ov_some] at hg2
          repeat' (first
            | ((with_reducible apply g_op); first
              | ((with_reducible apply g_load); first
                | ((with_reducible apply w_load (v := .agg #[_, _])); exact rfl; (first | assumption | (simp (disch := omega) only [upd_same, upd_ne]; first | done | assumption | exact rfl) | exact rfl); exact rfl))
              | ((with_reducible apply g_move); first
                | ((with_reducible apply w_pure (v := .int _ _)); exact rfl; exact rfl)
                | ((with_reducible apply w_pure (v := .slice _ _ _)); exact rfl; exact rfl))
              | ((with_reducible apply g_bin); first
                | ((with_reducible apply w_wrap); exact rfl; exact rfl; first | exact i64_in _ (by omega) | exact u64_in _ (by omega) | exact u8_in _ (by omega)))
              | ((with_reducible apply g_assign); first
                | ((with_reducible apply w_pure (v := .int _ _)); exact rfl; exact rfl)
                | ((with_reducible apply w_pure (v := .slice _ _ _)); exact rfl; exact rfl))
              | ((with_reducible apply g_call); first
                | ((with_reducible apply w_app0 (ns := [_, _])); exact rfl; exact rfl; exact rfl; exact rfl; exact rfl; exact rfl; (first | assumption | (simp (disch := omega) only [upd_same, upd_ne]; first | done | assumption | exact rfl) | exact rfl); exact rfl; exact rfl; exact (by decide); exact ⟨by decide, by decide⟩))
              | ((with_reducible apply w_bsl (ls := [_, _])); exact rfl; exact rfl; exact rfl; exact ⟨by decide, rfl⟩; exact rfl))
            | with_reducible refine w_nil ?_
            | with_reducible refine w_region ?_
            | with_reducible refine w_blk ?_)
          refine ih ([(anyAt x, some q)], some (n2 + 1)) _ _ _ (by repeat' (first | with_reducible exact Fr.mix | with_reducible exact Fr.rfl' | with_reducible refine Fr.put ?_ ?_ | with_reducible refine Fr.mix2 ?_ ?_ | with_reducible refine Fr.put0 ?_ | exact rfl)) ⟨rfl, by push_cast; rfl, ⟨⟨by simp, by omega, by omega, ?_⟩, fun p hp => ?_⟩, hm' _, by omega⟩
          · simp (disch := omega) only [upd_same, upd_ne]; rfl
          · rw [List.mem_singleton] at hp
            subst hp
            refine own_lo (own_at ho2 (by omega) fun a ha => ?_) (by omega)
            cases ha <;> (
            have := ho2.2.2.1
            simp (disch := omega) only [upd_ne])
      | some o =>
        simp only [ov_some] at k6
        have hol := hs.out.2.2.1
        have hol2 := hs.out.2.1
        cases q with
        | none =>
          simp only [ov_none] at hg2
          repeat' (first
            | ((with_reducible apply g_op); first
              | ((with_reducible apply g_load); first
                | ((with_reducible apply w_load (v := .agg #[_, _])); exact rfl; (first | assumption | (simp (disch := omega) only [upd_same, upd_ne]; first | done | assumption | exact rfl) | exact rfl); exact rfl))
              | ((with_reducible apply g_move); first
                | ((with_reducible apply w_pure (v := .slice _ _ _)); exact rfl; exact rfl))
              | ((with_reducible apply w_bsl (ls := [_, _])); exact rfl; exact rfl; exact rfl; exact ⟨by decide, rfl⟩; exact rfl))
            | with_reducible refine w_region ?_)
          refine w_own2 (enc := encP) (y := (anyAt x, none)) (by_ := 40) (sz := 2) (lo := n) (o := some o) (xs := ps) (own_at hs.out (by omega) fun a ha => by cases ha; rw [upd_ne (by omega)]; exact hf2 o (by omega)) rfl rfl rfl rfl rfl rfl (fun _ => rfl) upd_same rfl rfl rfl (by omega) (by omega) ?_
          intro g' h1 h2 h3
          repeat' (first
            | ((with_reducible apply g_op); first
              | ((with_reducible apply g_move); first
                | ((with_reducible apply w_pure (v := .int _ _)); exact rfl; exact rfl))
              | ((with_reducible apply g_bin); first
                | ((with_reducible apply w_wrap); exact rfl; exact rfl; first | exact i64_in _ (by omega) | exact u64_in _ (by omega) | exact u8_in _ (by omega)))
              | ((with_reducible apply g_assign); first
                | ((with_reducible apply w_pure (v := .int _ _)); exact rfl; exact rfl)
                | ((with_reducible apply w_pure (v := .slice _ _ _)); exact rfl; exact rfl)))
            | with_reducible refine w_nil ?_
            | with_reducible refine w_region ?_
            | with_reducible refine w_blk ?_)
          refine ih (ps ++ [(anyAt x, none)], some (n2 + 1)) _ _ _ (by repeat' (first | with_reducible exact Fr.mix | with_reducible exact Fr.rfl' | with_reducible refine Fr.put ?_ ?_ | with_reducible refine Fr.mix2 ?_ ?_ | with_reducible refine Fr.put0 ?_ | exact rfl)) ⟨rfl, by push_cast; rfl, ⟨h3.later (by omega) (fun j h1 h2 => rfl), fun p hp => ?_⟩, hm' _, by omega⟩
          rcases List.mem_append.1 hp with hp | hp
          · have hip := hs.ins p hp
            refine own_at hip (by omega) fun a ha => ?_
            rw [ha] at hip
            have hne := own_ne hip hs.out (by decide)
            have := hip.2.2.1
            rw [h1 a (by omega) (by simpa using hne), upd_ne (by omega)]
            exact hf2 a (by omega)
          · rw [List.mem_singleton] at hp
            subst hp
            refine own_lo (own_at ho2 (by omega) fun a ha => ?_) (by omega)
            cases ha <;> (
            have := ho2.2.2.1
            have := ho2.2.1
            rw [h1 _ (by omega) (by simp; omega), upd_ne (by omega)])
        | some q =>
          simp only [ov_some] at hg2
          repeat' (first
            | ((with_reducible apply g_op); first
              | ((with_reducible apply g_load); first
                | ((with_reducible apply w_load (v := .agg #[_, _])); exact rfl; (first | assumption | (simp (disch := omega) only [upd_same, upd_ne]; first | done | assumption | exact rfl) | exact rfl); exact rfl))
              | ((with_reducible apply g_move); first
                | ((with_reducible apply w_pure (v := .slice _ _ _)); exact rfl; exact rfl))
              | ((with_reducible apply w_bsl (ls := [_, _])); exact rfl; exact rfl; exact rfl; exact ⟨by decide, rfl⟩; exact rfl))
            | with_reducible refine w_region ?_)
          refine w_own2 (enc := encP) (y := (anyAt x, some q)) (by_ := 40) (sz := 2) (lo := n) (o := some o) (xs := ps) (own_at hs.out (by omega) fun a ha => by cases ha; rw [upd_ne (by omega)]; exact hf2 o (by omega)) rfl rfl rfl rfl rfl rfl (fun _ => rfl) upd_same rfl rfl rfl (by omega) (by omega) ?_
          intro g' h1 h2 h3
          repeat' (first
            | ((with_reducible apply g_op); first
              | ((with_reducible apply g_move); first
                | ((with_reducible apply w_pure (v := .int _ _)); exact rfl; exact rfl))
              | ((with_reducible apply g_bin); first
                | ((with_reducible apply w_wrap); exact rfl; exact rfl; first | exact i64_in _ (by omega) | exact u64_in _ (by omega) | exact u8_in _ (by omega)))
              | ((with_reducible apply g_assign); first
                | ((with_reducible apply w_pure (v := .int _ _)); exact rfl; exact rfl)
                | ((with_reducible apply w_pure (v := .slice _ _ _)); exact rfl; exact rfl)))
            | with_reducible refine w_nil ?_
            | with_reducible refine w_region ?_
            | with_reducible refine w_blk ?_)
          refine ih (ps ++ [(anyAt x, some q)], some (n2 + 1)) _ _ _ (by repeat' (first | with_reducible exact Fr.mix | with_reducible exact Fr.rfl' | with_reducible refine Fr.put ?_ ?_ | with_reducible refine Fr.mix2 ?_ ?_ | with_reducible refine Fr.put0 ?_ | exact rfl)) ⟨rfl, by push_cast; rfl, ⟨h3.later (by omega) (fun j h1 h2 => rfl), fun p hp => ?_⟩, hm' _, by omega⟩
          rcases List.mem_append.1 hp with hp | hp
          · have hip := hs.ins p hp
            refine own_at hip (by omega) fun a ha => ?_
            rw [ha] at hip
            have hne := own_ne hip hs.out (by decide)
            have := hip.2.2.1
            rw [h1 a (by omega) (by simpa using hne), upd_ne (by omega)]
            exact hf2 a (by omega)
          · rw [List.mem_singleton] at hp
            subst hp
            refine own_lo (own_at ho2 (by omega) fun a ha => ?_) (by omega)
            cases ha <;> (
            have := ho2.2.2.1
            have := ho2.2.1
            rw [h1 _ (by omega) (by simp; omega), upd_ne (by omega)])
  · rintro ⟨ps, o⟩ σ gl nl ⟨k6, k7, hs, hm, hn1⟩
    dsimp only at k6 hs hm
    refine w_keep (i := 6) k6 (w_keep (i := 7) k7 ?_)
    have hfin : anyS X = ps.map Prod.fst := by rw [hm, anyS]; congr 1; rw [List.take_eq_take_iff]; omega
    have hfit := any_fits X
    have hsn := nest_fz (lo' := 0) hs hfin (by omega) tg
    have e1 := order_eq (anyS X) (shortS root)
    have e2 := (rel_wk (anyS X) (shortS root)).missing
    have e3 := round_eq (anyS X) (shortS root)
    have b1 := missing_len (anyS X) (shortS root) hfit
    have b2 := names_len (anyS X) (shortS root) hfit
    have b3 := order_len (anyS X) (shortS root) hfit
    generalize hA : orderS (anyS X) (shortS root) = A at *
    repeat' (first
      | ((with_reducible apply g_op); first
        | ((with_reducible apply g_move); first
          | ((with_reducible apply w_pure (v := .int _ _)); exact rfl; exact rfl)
          | ((with_reducible apply w_pure (v := .bool _)); exact rfl; exact rfl)
          | ((with_reducible apply w_pure (v := .string _)); exact rfl; exact rfl)
          | ((with_reducible apply w_pure (v := .func _ _ _)); exact rfl; exact rfl))
        | ((with_reducible apply g_bin); first
          | ((with_reducible apply w_pure (v := .bool _)); exact rfl; exact rfl))
        | ((with_reducible apply g_pick); first
          | ((with_reducible apply w_pk1 (v := .bool _)); exact rfl; exact rfl; (first | assumption | exact decide_eq_true (by assumption) | exact decide_eq_false (by assumption) | exact decide_eq_true (by omega) | exact decide_eq_false (by omega) | exact beq_iff_eq.2 (by omega) | exact beq_eq_false_iff_ne.2 (by omega) | exact bne_iff_ne.2 (by omega) | exact bne_eq_false_iff_eq.2 (by omega)))
          | ((with_reducible apply w_pk0 (v := .bool _)); exact rfl; exact rfl; (first | assumption | exact decide_eq_true (by assumption) | exact decide_eq_false (by assumption) | exact decide_eq_true (by omega) | exact decide_eq_false (by omega) | exact beq_iff_eq.2 (by omega) | exact beq_eq_false_iff_ne.2 (by omega) | exact bne_iff_ne.2 (by omega) | exact bne_eq_false_iff_eq.2 (by omega))))
        | ((with_reducible apply g_call); first
          | ((with_reducible apply w_call (v := .int _ _)); exact rfl)))
      | ((with_reducible apply g_gd); first
        | ((with_reducible apply w_gd_t); exact rfl; all_goals (intro hc; first | (exfalso; omega) | skip)))
      | with_reducible refine w_seq ?_
      | with_reducible refine w_nil ?_
      | with_reducible refine w_region ?_
      | ((with_reducible apply w_exit); exact rfl)
      | ((with_reducible apply w_no); exact rfl)
      | ((with_reducible apply w_ifd); exact rfl; all_goals (intro hc; first | (exfalso; omega) | skip)))
    all_goals (
      refine w_rq (short_run _ _ _ _) (fun _ => rfl) ?_
      rintro _ rfl
      repeat' (first
        | ((with_reducible apply g_op); first
          | ((with_reducible apply g_move); first
            | ((with_reducible apply w_pure (v := .string _)); exact rfl; exact rfl)
            | ((with_reducible apply w_pure (v := ov _ _)); exact rfl; exact rfl))
          | ((with_reducible apply g_assign); first
            | ((with_reducible apply w_pure (v := .string _)); exact rfl; exact rfl)))
        | with_reducible refine w_seq ?_
        | with_reducible refine w_nil ?_
        | with_reducible refine w_region ?_)
      refine w_rf (order_run (anyS X) (shortS root) hfit) (fun _ => rfl) (sn_cons hsn (sn_cons (sn_plain rfl) sn_nil)) ?_
      rintro _ rfl
      rw [hA]
      repeat' (first
        | ((with_reducible apply g_op); first
          | ((with_reducible apply g_move); first
            | ((with_reducible apply w_pure (v := .string _)); exact rfl; exact rfl)
            | ((with_reducible apply w_pure (v := .tuple _)); exact rfl; exact rfl)
            | ((with_reducible apply w_pure (v := ov _ _)); exact rfl; exact rfl))
          | ((with_reducible apply g_assign); first
            | ((with_reducible apply w_pure (v := .int _ _)); exact rfl; exact rfl)
            | ((with_reducible apply w_pure (v := .func _ _ _)); exact rfl; exact rfl))
          | ((with_reducible apply w_pure (v := .int _ _)); exact rfl; exact rfl)
          | ((with_reducible apply w_pure (v := .func _ _ _)); exact rfl; exact rfl))
        | with_reducible refine w_seq ?_
        | with_reducible refine w_nil ?_
        | with_reducible refine w_region ?_)
      refine w_rf (rorder_run (anyS X) (shortS root) hfit) (fun _ => rfl) (sn_cons hsn (sn_cons (sn_plain rfl) sn_nil)) ?_
      rintro _ rfl
      rw [← e1]
      repeat' (first
        | ((with_reducible apply g_op); first
          | ((with_reducible apply g_move); first
            | ((with_reducible apply w_pure (v := .tuple _)); exact rfl; exact rfl)
            | ((with_reducible apply w_pure (v := .func _ _ _)); exact rfl; exact rfl))
          | ((with_reducible apply g_assign); first
            | ((with_reducible apply w_pure (v := .int _ _)); exact rfl; exact rfl)
            | ((with_reducible apply w_pure (v := .func _ _ _)); exact rfl; exact rfl))
          | ((with_reducible apply w_pure (v := .int _ _)); exact rfl; exact rfl)
          | ((with_reducible apply w_pure (v := .func _ _ _)); exact rfl; exact rfl))
        | with_reducible refine w_seq ?_
        | with_reducible refine w_nil ?_
        | with_reducible refine w_region ?_)
      refine w_rf (texts_run A.1 A.1 (by omega) (by omega)) (fun _ => rfl) (sn_cons (sn_fzp (.inl rfl) (all_flat ts_plain _)) (sn_cons (sn_fzp (.inl rfl) (all_flat ts_plain _)) sn_nil)) ?_
      rintro _ rfl
      rw [decide_eq_true rfl]
      repeat' (first
        | ((with_reducible apply g_op); first
          | ((with_reducible apply g_move); first
            | ((with_reducible apply w_pure (v := .string _)); exact rfl; exact rfl)
            | ((with_reducible apply w_pure (v := ov _ _)); exact rfl; exact rfl))
          | ((with_reducible apply g_assign); first
            | ((with_reducible apply w_pure (v := .bool _)); exact rfl; exact rfl)))
        | with_reducible refine w_seq ?_
        | with_reducible refine w_nil ?_
        | with_reducible refine w_region ?_)
      refine w_rf (missing_run (anyS X) (shortS root) hfit) (fun _ => rfl) (sn_cons hsn (sn_cons (sn_plain rfl) sn_nil)) ?_
      rintro _ rfl
      repeat' (first
        | ((with_reducible apply g_op); first
          | ((with_reducible apply g_move); first
            | ((with_reducible apply w_pure (v := .string _)); exact rfl; exact rfl)
            | ((with_reducible apply w_pure (v := ov _ _)); exact rfl; exact rfl))))
      refine w_rf (of_run (anyS X) (shortS root) hfit) (fun _ => rfl) (sn_cons hsn (sn_cons (sn_plain rfl) sn_nil)) ?_
      rintro _ rfl
      unfold ofV
      rw [← e2]
      repeat' (first
        | ((with_reducible apply g_op); first
          | ((with_reducible apply w_pure (v := .func _ _ _)); exact rfl; exact rfl)))
      refine w_rf (texts_run (wk (anyS X) (shortS root)).missing (wk (anyS X) (shortS root)).missing (by omega) (by omega)) (fun _ => rfl) (sn_cons (sn_fzp (.inl rfl) (all_flat ts_plain _)) (sn_cons (sn_fzp (.inl rfl) (all_flat ts_plain _)) sn_nil)) ?_
      rintro _ rfl
      rw [decide_eq_true rfl]
      repeat' (first
        | ((with_reducible apply g_op); first
          | ((with_reducible apply g_move); first
            | ((with_reducible apply w_pure (v := .int _ _)); exact rfl; exact rfl)
            | ((with_reducible apply w_pure (v := .bool _)); exact rfl; exact rfl)
            | ((with_reducible apply w_pure (v := .string _)); exact rfl; exact rfl)
            | ((with_reducible apply w_pure (v := ov _ _)); exact rfl; exact rfl))
          | ((with_reducible apply g_bin); first
            | ((with_reducible apply w_pure (v := .bool _)); exact rfl; exact rfl))
          | ((with_reducible apply g_assign); first
            | ((with_reducible apply w_pure (v := .bool _)); exact rfl; exact rfl))
          | ((with_reducible apply w_pure (v := .bool _)); exact rfl; exact rfl))
        | ((with_reducible apply g_gd); first
          | ((with_reducible apply w_want); exact rfl)
          | ((with_reducible apply w_gd_t); exact rfl; all_goals (intro hc; first | (exfalso; omega) | skip)))
        | with_reducible refine w_seq ?_
        | with_reducible refine w_nil ?_
        | with_reducible refine w_region ?_)
      refine w_rf (round_run (anyS X) (shortS root) hfit _ _ e3) (fun _ => rfl) (sn_cons hsn (sn_cons (sn_plain rfl) sn_nil)) ?_
      rintro _ rfl
      repeat' (first
        | ((with_reducible apply g_op); first
          | ((with_reducible apply g_move); first
            | ((with_reducible apply w_pure (v := .string _)); exact rfl; exact rfl)
            | ((with_reducible apply w_pure (v := ov _ _)); exact rfl; exact rfl)))
        | ((with_reducible apply g_gd); first
          | ((with_reducible apply w_gd_t); exact rfl; all_goals (intro hc; first | (exfalso; omega) | skip))))
      refine w_rf (rround_run (anyS X) (shortS root) hfit) (fun _ => rfl) (sn_cons hsn (sn_cons (sn_plain rfl) sn_nil)) ?_
      rintro _ rfl
      generalize rroundS (anyS X) (shortS root) = B
      cases B <;> (
        repeat' (first
          | ((with_reducible apply g_op); first
            | ((with_reducible apply g_bin); first
              | ((with_reducible apply w_pure (v := .bool _)); exact rfl; exact rfl))
            | ((with_reducible apply g_pick); first
              | ((with_reducible apply w_pk1 (v := .bool _)); exact rfl; exact rfl; (first | assumption | exact decide_eq_true (by assumption) | exact decide_eq_false (by assumption) | exact decide_eq_true (by omega) | exact decide_eq_false (by omega) | exact beq_iff_eq.2 (by omega) | exact beq_eq_false_iff_ne.2 (by omega) | exact bne_iff_ne.2 (by omega) | exact bne_eq_false_iff_eq.2 (by omega))))
            | ((with_reducible apply g_assign); first
              | ((with_reducible apply w_pure (v := .bool _)); exact rfl; exact rfl)))
          | ((with_reducible apply g_gd); first
            | ((with_reducible apply w_gd_t); exact rfl; all_goals (intro hc; first | (exfalso; omega) | skip)))
          | with_reducible refine w_nil ?_
          | ((with_reducible apply w_ret (v := .bool _)); exact rfl))
        rfl))
theorem proved (x0 : List (ByteArray × List ByteArray)) (x1 : ByteArray) {p q : Prop} (w0 : p) (w1 : q) : Rn Try.prog tab 5 [fz tg x0.length (x0.flatMap (kPair kStr (kList kStr)).enc), .string x1] (fun _ => none) 0 0 (fun v _ _ => v = .bool true) := by
  have h := walk (x0.map fun p => ⟨p.1, p.2⟩) x1 (fun _ => none) 0
  have e : lv tg (x0.map fun p => (⟨p.1, p.2⟩ : Lib)) = fz tg x0.length (x0.flatMap (kPair kStr (kList kStr)).enc) := by
    unfold lv
    rw [List.length_map, List.flatMap_map]; rfl
  rw [e] at h
  exact h
end Go.Proofs.Ytgljofdhdnhekaa.L.NeedsAny

