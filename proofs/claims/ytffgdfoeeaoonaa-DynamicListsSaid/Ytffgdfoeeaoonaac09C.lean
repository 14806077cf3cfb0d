/- dynamic.Name, Names, Same; slices.Equal, SameTexts, short. -/
import Derived.Test.Ytffgdfoeeaoonaac09B
import Derived.Test.YtffgdfoeeaoonaaoctT
namespace Go.Proofs.Ytffgdfoeeaoonaa.L
open Go.L1 Go.IntWalk
set_option linter.unusedVariables false
set_option linter.unusedSimpArgs false
set_option maxHeartbeats 4000000
def nameS (s : ByteArray) (d : Dyn) (a : Int) : ByteArray × Bool := if d.f1 < 0 ∨ d.f1 > s.size then (Oct.noneB, false) else Oct.textV ((s.extract d.f1.toNat s.size).extract 0 (min ((s.extract d.f1.toNat s.size).size : Int) (max d.f2 0)).toNat) a 24
theorem name_run (s : ByteArray) (d : Dyn) (a : Int) (hs : s.size ≤ 1000000) (ha : a ≤ 9223372036854775807) : Rf Try.prog T 14 [.string s, d.v tg, .int .i64 a] (fun v => v = .tuple #[.string (nameS s d a).1, .bool (nameS s d a).2]) := by
  refine c_froz Try.func14 rfl rfl rfl rfl rfl rfl ?_
  intro g n
  by_cases h : d.f1 < 0 ∨ d.f1 > s.size
  · have hv : nameS s d a = (Oct.noneB, false) := if_pos h
    rw [hv]
    repeat' (first
      | ((with_reducible apply g_op); first
        | ((with_reducible apply g_load); first
          | ((with_reducible apply w_load (v := .int _ _)); exact rfl; (first | assumption | (simp (disch := omega) only [upd_same, upd_ne]; first | done | assumption | exact rfl) | exact rfl); exact rfl))
        | ((with_reducible apply g_move); first
          | ((with_reducible apply w_pure (v := .bool _)); exact rfl; exact rfl)
          | ((with_reducible apply w_pure (v := .string _)); exact rfl; exact rfl))
        | ((with_reducible apply g_bin); first
          | ((with_reducible apply w_pure (v := .bool _)); exact rfl; exact rfl))
        | ((with_reducible apply g_fld); first
          | ((with_reducible apply w_fldp (o := 1)); exact rfl; exact rfl; exact rfl; exact (by decide)))
        | ((with_reducible apply g_pick); first
          | ((with_reducible apply w_pk1 (v := .bool _)); exact rfl; exact rfl; (first | assumption | exact decide_eq_true (by assumption) | exact decide_eq_false (by assumption) | exact decide_eq_true (by omega) | exact decide_eq_false (by omega) | exact beq_iff_eq.2 (by omega) | exact beq_eq_false_iff_ne.2 (by omega) | exact bne_iff_ne.2 (by omega) | exact bne_eq_false_iff_eq.2 (by omega)))
          | ((with_reducible apply w_pk0 (v := .bool _)); exact rfl; exact rfl; (first | assumption | exact decide_eq_true (by assumption) | exact decide_eq_false (by assumption) | exact decide_eq_true (by omega) | exact decide_eq_false (by omega) | exact beq_iff_eq.2 (by omega) | exact beq_eq_false_iff_ne.2 (by omega) | exact bne_iff_ne.2 (by omega) | exact bne_eq_false_iff_eq.2 (by omega))))
        | ((with_reducible apply g_assign); first
          | ((with_reducible apply w_pure (v := .bool _)); exact rfl; exact rfl)
          | ((with_reducible apply w_pure (v := .string _)); exact rfl; exact rfl))
        | ((with_reducible apply g_call); first
          | ((with_reducible apply w_call (v := .int _ _)); exact rfl))
        | ((with_reducible apply g_box); first
          | ((with_reducible apply w_box (vs := [_, _, _, _, _, _, _, _, _])); exact rfl; exact rfl)))
      | ((with_reducible apply g_gd); first
        | ((with_reducible apply w_gd_f); exact rfl; all_goals (intro hc; first | (exfalso; omega) | skip)))
      | with_reducible refine w_seq ?_
      | with_reducible refine w_nil ?_
      | with_reducible refine w_region ?_
      | ((with_reducible apply w_yes); exact rfl)
      | ((with_reducible apply w_ifd); exact rfl; all_goals (intro hc; first | (exfalso; omega) | skip))
      | ((with_reducible apply w_ret (v := .tuple #[.string _, .bool _])); exact rfl))
    all_goals exact fr_plain rfl rfl
  · have hv : nameS s d a = Oct.textV ((s.extract d.f1.toNat s.size).extract 0 (min ((s.extract d.f1.toNat s.size).size : Int) (max d.f2 0)).toNat) a 24 := if_neg h
    rw [hv]
    have z1 : (s.extract d.f1.toNat s.size).size = s.size - d.f1.toNat := by rw [ByteArray.size_extract]; omega
    repeat' (first
      | ((with_reducible apply g_op); first
        | ((with_reducible apply g_load); first
          | ((with_reducible apply w_load (v := .int _ _)); exact rfl; (first | assumption | (simp (disch := omega) only [upd_same, upd_ne]; first | done | assumption | exact rfl) | exact rfl); exact rfl))
        | ((with_reducible apply g_move); first
          | ((with_reducible apply w_pure (v := .int _ _)); exact rfl; exact rfl)
          | ((with_reducible apply w_pure (v := .bool _)); exact rfl; exact rfl)
          | ((with_reducible apply w_pure (v := .string _)); exact rfl; exact rfl))
        | ((with_reducible apply g_bin); first
          | ((with_reducible apply w_pure (v := .bool _)); exact rfl; exact rfl))
        | ((with_reducible apply g_fld); first
          | ((with_reducible apply w_fldp (o := 1)); exact rfl; exact rfl; exact rfl; exact (by decide))
          | ((with_reducible apply w_fldp (o := 2)); exact rfl; exact rfl; exact rfl; exact (by decide)))
        | ((with_reducible apply g_pick); first
          | ((with_reducible apply w_pk0 (v := .bool _)); exact rfl; exact rfl; (first | assumption | exact decide_eq_true (by assumption) | exact decide_eq_false (by assumption) | exact decide_eq_true (by omega) | exact decide_eq_false (by omega) | exact beq_iff_eq.2 (by omega) | exact beq_eq_false_iff_ne.2 (by omega) | exact bne_iff_ne.2 (by omega) | exact bne_eq_false_iff_eq.2 (by omega))))
        | ((with_reducible apply g_assign); first
          | ((with_reducible apply w_pure (v := .bool _)); exact rfl; exact rfl)
          | ((with_reducible apply w_pure (v := .string _)); exact rfl; exact rfl))
        | ((with_reducible apply g_call); first
          | ((with_reducible apply w_max); exact rfl; exact rfl)
          | ((with_reducible apply w_min); exact rfl; exact rfl)
          | ((with_reducible apply w_call (v := .int _ _)); exact rfl))
        | ((with_reducible apply g_box); first
          | ((with_reducible apply w_box (vs := [_, _, _, _, _, _, _, _, _])); exact rfl; exact rfl))
        | ((with_reducible apply w_ssl); exact rfl; exact rfl; (first | exact rfl | exact num_of (by omega)); (first | exact rfl | exact num_of (by omega)); omega))
      | ((with_reducible apply g_gd); first
        | ((with_reducible apply w_gd_f); exact rfl; all_goals (intro hc; first | (exfalso; omega) | skip)))
      | with_reducible refine w_seq ?_
      | with_reducible refine w_nil ?_
      | with_reducible refine w_region ?_
      | with_reducible refine w_skip ?_
      | ((with_reducible apply w_ifd); exact rfl; all_goals (intro hc; first | (exfalso; omega) | skip)))
    refine w_rq (Oct.text_run _ a 24 (by rw [ByteArray.size_extract]; omega) (by decide) ha _ _ _) (fun _ => rfl) ?_
    rintro _ rfl
    repeat' (first
      | ((with_reducible apply g_op); first
        | ((with_reducible apply g_assign); first
          | ((with_reducible apply w_pure (v := .bool _)); exact rfl; exact rfl)
          | ((with_reducible apply w_pure (v := .string _)); exact rfl; exact rfl))
        | ((with_reducible apply w_pure (v := .bool _)); exact rfl; exact rfl)
        | ((with_reducible apply w_pure (v := .string _)); exact rfl; exact rfl))
      | with_reducible refine w_nil ?_
      | ((with_reducible apply w_ret (v := .tuple #[.string _, .bool _])); exact rfl))
    exact fr_plain rfl rfl
def ts (s : ByteArray) : List Value := [.string s]
abbrev tv (s : Array Value) (l : List ByteArray) : Value := fz s l.length (l.flatMap ts)
def namesGo (s : ByteArray) (d : Dyn) : List Int → List ByteArray → Option (List ByteArray)
  | [], acc => some acc
  | a :: l, acc => if (nameS s d a).2 = true ∧ (nameS s d a).1 ≠ ⟨#[]⟩ then namesGo s d l (acc ++ [(nameS s d a).1]) else none
def namesE : Option (List ByteArray) → List ByteArray × Int
  | some l => (l, 0)
  | none => ([], 17)
def namesS (s : ByteArray) (d : Dyn) : List ByteArray × Int := namesE (namesGo s d d.nd [])
theorem names_run (s : ByteArray) (d : Dyn) (hs : s.size ≤ 1000000) (hd : d.nd.length ≤ 1000) (hw : ∀ x ∈ d.nd, x ≤ 9223372036854775807) : Rf Try.prog T 15 [.string s, d.v tg] (fun v => v = .tuple #[tv #[] (namesS s d).1, .int .i64 (namesS s d).2]) := by
  refine c_froz Try.func15 rfl rfl rfl rfl rfl rfl ?_
  intro g n
  obtain ⟨R, hR⟩ : ∃ R, R = namesGo s d d.nd [] := ⟨_, rfl⟩
  unfold namesS
  rw [← hR]
  repeat' (first
    | ((with_reducible apply g_op); first
      | ((with_reducible apply g_load); first
        | ((with_reducible apply w_load (v := .func _ _ _)); exact rfl; (first | assumption | (simp (disch := omega) only [upd_same, upd_ne]; first | done | assumption | exact rfl) | exact rfl); exact rfl))
      | ((with_reducible apply g_move); first
        | ((with_reducible apply w_pure (v := .int _ _)); exact rfl; exact rfl))
      | ((with_reducible apply g_fld); first
        | ((with_reducible apply w_fldp (o := 0)); exact rfl; exact rfl; exact rfl; exact (by decide)))
      | ((with_reducible apply g_assign); first
        | ((with_reducible apply w_pure (v := .int _ _)); exact rfl; exact rfl)
        | ((with_reducible apply w_pure (v := .slice _ _ _)); exact rfl; exact rfl))
      | ((with_reducible apply g_call); first
        | ((with_reducible apply w_call (v := .int _ _)); exact rfl))
      | ((with_reducible apply g_box); first
        | ((with_reducible apply w_box (vs := [_, _, _, _, _, _, _, _, _])); exact rfl; exact rfl)))
    | with_reducible refine w_seq ?_
    | with_reducible refine w_nil ?_
    | with_reducible refine w_region ?_
    | with_reducible refine w_block ?_)
  refine w_rng d.nd (fun i rest (b : List ByteArray × Option Nat) σ g' n' => σ 0 = .string s ∧ σ 3 = ptr n 0 ∧ σ 6 = ov b.2 b.1.length ∧ σ 12 = iv tg d.nd ∧ σ 13 = .int .i64 d.nd.length ∧ σ 14 = .int .i64 (i : Nat)
    ∧ g' n = some (.cells 26 (d.c tg)) ∧ Own g' (n + 1) n' 9 ts b.2 b.1 ∧ namesGo s d rest b.1 = R ∧ b.1.length ≤ i ∧ n + 1 ≤ n') ?_ ?_ ([], none) ⟨rfl, rfl, rfl, rfl, rfl, rfl, by simp (disch := omega) only [upd_same, upd_ne]; rfl, Own.nil, hR.symm, by simp, by omega⟩
  · intro i x rest b σ gl nl hx hlt hI ih; obtain ⟨k0, k3, k6, k12, k13, k14, hg, ho, hgo, hbl, hn⟩ := hI; (try dsimp only at k0 k3 k6 k12 k13 k14 hg ho hgo hbl hn); refine w_keep (i := 0) k0 (w_keep (i := 3) k3 (w_keep (i := 6) k6 (w_keep (i := 12) k12 (w_keep (i := 13) k13 (w_keep (i := 14) k14 ?_)))))
    obtain ⟨b, o⟩ := b
    dsimp only at ho hgo hbl hn k6
    simp only [namesGo] at hgo
    repeat' (first
      | ((with_reducible apply g_op); first
        | ((with_reducible apply g_load); first
          | ((with_reducible apply w_fl (v := .int _ _)); exact rfl; exact (fun _ => rfl); assumption; exact rfl)
          | ((with_reducible apply w_load (v := .agg #[_, _, _, _, _, _, _, _, _])); exact rfl; (first | assumption | (simp (disch := omega) only [upd_same, upd_ne]; first | done | assumption | exact rfl) | exact rfl); exact rfl))
        | ((with_reducible apply g_move); first
          | ((with_reducible apply w_pure (v := .int _ _)); exact rfl; exact rfl)
          | ((with_reducible apply w_pure (v := .string _)); exact rfl; exact rfl))
        | ((with_reducible apply g_bin); first
          | ((with_reducible apply w_pure (v := .bool _)); exact rfl; exact rfl))
        | ((with_reducible apply g_assign); first
          | ((with_reducible apply w_pure (v := .int _ _)); exact rfl; exact rfl))
        | ((with_reducible apply g_ix); first
          | ((with_reducible apply w_fx (sz := 1)); exact rfl; exact rfl; exact rfl; exact rfl; exact rfl; exact (fun _ => rfl); assumption; exact rfl)))
      | with_reducible refine w_seq ?_
      | with_reducible refine w_nil ?_
      | with_reducible refine w_region ?_
      | with_reducible refine w_skip ?_
      | with_reducible refine w_block ?_
      | ((with_reducible apply w_ifd); exact rfl; all_goals (intro hc; first | (exfalso; omega) | skip)))
    refine w_rf (name_run s d x hs (hw x (List.mem_of_getElem? hx))) (fun _ => rfl) (sn_cons (sn_plain rfl) (sn_cons (sn_agg (l := [_, _, _, _, _, _, _, _, _]) (sn_cons (iv_sn) (sn_plains rfl))) (sn_cons (sn_plain rfl) sn_nil))) ?_
    rintro _ rfl
    generalize nameS s d x = t at *
    obtain ⟨t, is⟩ := t
    dsimp only at hgo ⊢
    cases is with
    | false =>
      rw [if_neg (by simp)] at hgo
      subst hgo
      repeat' (first
        | ((with_reducible apply g_op); first
          | ((with_reducible apply g_move); first
            | ((with_reducible apply w_pure (v := .bool _)); exact rfl; exact rfl)
            | ((with_reducible apply w_pure (v := .tuple _)); exact rfl; exact rfl))
          | ((with_reducible apply g_assign); first
            | ((with_reducible apply w_pure (v := .int _ _)); exact rfl; exact rfl)
            | ((with_reducible apply w_pure (v := .bool _)); exact rfl; exact rfl)
            | ((with_reducible apply w_pure (v := .slice _ _ _)); exact rfl; exact rfl)
            | ((with_reducible apply w_pure (v := .string _)); exact rfl; exact rfl))
          | ((with_reducible apply w_pure (v := .bool _)); exact rfl; exact rfl)
          | ((with_reducible apply w_pure (v := .string _)); exact rfl; exact rfl))
        | ((with_reducible apply g_gd); first
          | ((with_reducible apply w_pass); exact rfl))
        | with_reducible refine w_seq ?_
        | with_reducible refine w_nil ?_
        | with_reducible refine w_region ?_
        | ((with_reducible apply w_yes); exact rfl)
        | ((with_reducible apply w_ret (v := .tuple #[.slice _ _ _, .int _ _])); exact rfl))
      exact ⟨_, sn_tuple (l := [_, _]) (sn_cons sn_none (sn_cons (sn_plain rfl) sn_nil)), rfl⟩
    | true =>
      by_cases ht : t = ⟨#[]⟩
      · rw [if_neg (by simp [ht])] at hgo
        subst hgo
        repeat' (first
          | ((with_reducible apply g_op); first
            | ((with_reducible apply g_move); first
              | ((with_reducible apply w_pure (v := .bool _)); exact rfl; exact rfl)
              | ((with_reducible apply w_pure (v := .string _)); exact rfl; exact rfl)
              | ((with_reducible apply w_pure (v := .tuple _)); exact rfl; exact rfl)
              | ((with_reducible apply w_pure (v := ov _ _)); exact rfl; exact rfl))
            | ((with_reducible apply g_bin); first
              | ((with_reducible apply w_teq); exact rfl; exact rfl; exact rfl; exact rfl; exact rfl))
            | ((with_reducible apply g_assign); first
              | ((with_reducible apply w_pure (v := .int _ _)); exact rfl; exact rfl)
              | ((with_reducible apply w_pure (v := .bool _)); exact rfl; exact rfl)
              | ((with_reducible apply w_pure (v := .slice _ _ _)); exact rfl; exact rfl)
              | ((with_reducible apply w_pure (v := .string _)); exact rfl; exact rfl))
            | ((with_reducible apply w_bsl (ls := [_])); exact rfl; exact rfl; exact rfl; exact ⟨by decide, rfl⟩; exact rfl)
            | ((with_reducible apply w_pure (v := .bool _)); exact rfl; exact rfl)
            | ((with_reducible apply w_pure (v := .string _)); exact rfl; exact rfl))
          | ((with_reducible apply g_gd); first
            | ((with_reducible apply w_want); exact rfl))
          | with_reducible refine w_seq ?_
          | with_reducible refine w_nil ?_
          | with_reducible refine w_region ?_
          | with_reducible refine w_skip ?_
          | ((with_reducible apply w_ifd); exact rfl; all_goals (intro hc; first | (exfalso; omega) | skip))
          | ((with_reducible apply w_ret (v := .tuple #[.slice _ _ _, .int _ _])); exact rfl))
        all_goals first | exact absurd ht (by assumption) | skip
        exact ⟨_, sn_tuple (l := [_, _]) (sn_cons sn_none (sn_cons (sn_plain rfl) sn_nil)), rfl⟩
      · rw [if_pos ⟨rfl, ht⟩] at hgo
        cases o with
        | none =>
          have hb0 : b = [] := ho
          subst hb0
          repeat' (first
            | ((with_reducible apply g_op); first
              | ((with_reducible apply g_move); first
                | ((with_reducible apply w_pure (v := .int _ _)); exact rfl; exact rfl)
                | ((with_reducible apply w_pure (v := .bool _)); exact rfl; exact rfl)
                | ((with_reducible apply w_pure (v := .slice _ _ _)); exact rfl; exact rfl)
                | ((with_reducible apply w_pure (v := .string _)); exact rfl; exact rfl)
                | ((with_reducible apply w_pure (v := .tuple _)); exact rfl; exact rfl))
              | ((with_reducible apply g_bin); first
                | ((with_reducible apply w_wrap); exact rfl; exact rfl; first | exact i64_in _ (by omega) | exact u64_in _ (by omega) | exact u8_in _ (by omega))
                | ((with_reducible apply w_teq); exact rfl; exact rfl; exact rfl; exact rfl; exact rfl))
              | ((with_reducible apply g_assign); first
                | ((with_reducible apply w_pure (v := .int _ _)); exact rfl; exact rfl)
                | ((with_reducible apply w_pure (v := .bool _)); exact rfl; exact rfl)
                | ((with_reducible apply w_pure (v := .slice _ _ _)); exact rfl; exact rfl)
                | ((with_reducible apply w_pure (v := .string _)); exact rfl; exact rfl))
              | ((with_reducible apply g_call); first
                | ((with_reducible apply w_app0 (ns := [_])); exact rfl; exact rfl; exact rfl; exact rfl; exact rfl; exact rfl; (first | assumption | (simp (disch := omega) only [upd_same, upd_ne]; first | done | assumption | exact rfl) | exact rfl); exact rfl; exact rfl; exact (by decide); exact ⟨by decide, by decide⟩))
              | ((with_reducible apply w_bsl (ls := [_])); exact rfl; exact rfl; exact rfl; exact ⟨by decide, rfl⟩; exact rfl)
              | ((with_reducible apply w_pure (v := .bool _)); exact rfl; exact rfl)
              | ((with_reducible apply w_pure (v := .string _)); exact rfl; exact rfl))
            | ((with_reducible apply g_gd); first
              | ((with_reducible apply w_want); exact rfl))
            | with_reducible refine w_seq ?_
            | with_reducible refine w_nil ?_
            | with_reducible refine w_region ?_
            | with_reducible refine w_skip ?_
            | with_reducible refine w_blk ?_
            | ((with_reducible apply w_ifd); exact rfl; all_goals (intro hc; first | (exfalso; omega) | skip))
            | ((with_reducible apply w_ret (v := .tuple #[.slice _ _ _, .int _ _])); exact rfl))
          all_goals first | exact absurd (by assumption) ht | skip
          refine ih ([t], some (nl + 1)) _ _ _ ⟨rfl, rfl, rfl, rfl, rfl, rfl, ?_, ⟨by simp, by omega, by omega, ?_⟩, hgo, by simp, by omega⟩
          · simp (disch := omega) only [upd_ne]; exact hg
          · simp (disch := omega) only [upd_same, upd_ne]; rfl
        | some o =>
          simp only [ov] at k6
          repeat' (first
            | ((with_reducible apply g_op); first
              | ((with_reducible apply g_move); first
                | ((with_reducible apply w_pure (v := .bool _)); exact rfl; exact rfl)
                | ((with_reducible apply w_pure (v := .slice _ _ _)); exact rfl; exact rfl)
                | ((with_reducible apply w_pure (v := .string _)); exact rfl; exact rfl)
                | ((with_reducible apply w_pure (v := .tuple _)); exact rfl; exact rfl))
              | ((with_reducible apply g_bin); first
                | ((with_reducible apply w_teq); exact rfl; exact rfl; exact rfl; exact rfl; exact rfl))
              | ((with_reducible apply g_assign); first
                | ((with_reducible apply w_pure (v := .int _ _)); exact rfl; exact rfl)
                | ((with_reducible apply w_pure (v := .bool _)); exact rfl; exact rfl)
                | ((with_reducible apply w_pure (v := .slice _ _ _)); exact rfl; exact rfl)
                | ((with_reducible apply w_pure (v := .string _)); exact rfl; exact rfl))
              | ((with_reducible apply w_bsl (ls := [_])); exact rfl; exact rfl; exact rfl; exact ⟨by decide, rfl⟩; exact rfl)
              | ((with_reducible apply w_pure (v := .bool _)); exact rfl; exact rfl)
              | ((with_reducible apply w_pure (v := .string _)); exact rfl; exact rfl))
            | ((with_reducible apply g_gd); first
              | ((with_reducible apply w_want); exact rfl))
            | with_reducible refine w_seq ?_
            | with_reducible refine w_nil ?_
            | with_reducible refine w_region ?_
            | with_reducible refine w_skip ?_
            | ((with_reducible apply w_ifd); exact rfl; all_goals (intro hc; first | (exfalso; omega) | skip))
            | ((with_reducible apply w_ret (v := .tuple #[.slice _ _ _, .int _ _])); exact rfl))
          all_goals first | exact absurd (by assumption) ht | skip
          refine w_own1 (enc := ts) (y := t) (by_ := 16) (sz := 1) (lo := n + 1) (o := some o) (xs := b) (ho.later (by omega) (fun j h1 h2 => upd_ne (by omega))) rfl rfl rfl rfl rfl rfl (fun _ => rfl) upd_same rfl rfl rfl (by omega) (by omega) ?_
          intro g' h1 h2 h3
          simp only [ov]
          repeat' (first
            | ((with_reducible apply g_op); first
              | ((with_reducible apply g_move); first
                | ((with_reducible apply w_pure (v := .int _ _)); exact rfl; exact rfl))
              | ((with_reducible apply g_bin); first
                | ((with_reducible apply w_wrap); exact rfl; exact rfl; first | exact i64_in _ (by omega) | exact u64_in _ (by omega) | exact u8_in _ (by omega)))
              | ((with_reducible apply g_assign); first
                | ((with_reducible apply w_pure (v := .slice _ _ _)); exact rfl; exact rfl)))
            | with_reducible refine w_nil ?_
            | with_reducible refine w_region ?_
            | with_reducible refine w_blk ?_)
          refine ih (b ++ [t], some (nl + 1)) _ _ _ ⟨rfl, rfl, rfl, rfl, rfl, rfl, ?_, h3, hgo, by simp; omega, by omega⟩
          rw [h1 n (by omega) (by have := ho.2.1; simp; omega), upd_ne (by omega)]
          exact hg
  · intro b σ gl nl hI; obtain ⟨k0, k3, k6, k12, k13, k14, hg, ho, hgo, hbl, hn⟩ := hI; (try dsimp only at k0 k3 k6 k12 k13 k14 hg ho hgo hbl hn); refine w_keep (i := 0) k0 (w_keep (i := 3) k3 (w_keep (i := 6) k6 (w_keep (i := 12) k12 (w_keep (i := 13) k13 (w_keep (i := 14) k14 ?_)))))
    obtain ⟨b, o⟩ := b
    dsimp only at ho hgo hbl hn k6
    have hgo : some b = R := hgo
    subst hgo
    cases o <;> simp only [ov] at k6 <;> (
    repeat' (first
      | ((with_reducible apply g_op); first
        | ((with_reducible apply g_move); first
          | ((with_reducible apply w_pure (v := .slice _ _ _)); exact rfl; exact rfl))
        | ((with_reducible apply g_bin); first
          | ((with_reducible apply w_pure (v := .bool _)); exact rfl; exact rfl))
        | ((with_reducible apply g_assign); first
          | ((with_reducible apply w_pure (v := .int _ _)); exact rfl; exact rfl)
          | ((with_reducible apply w_pure (v := .slice _ _ _)); exact rfl; exact rfl)))
      | with_reducible refine w_seq ?_
      | with_reducible refine w_nil ?_
      | with_reducible refine w_region ?_
      | ((with_reducible apply w_exit); exact rfl)
      | ((with_reducible apply w_ifd); exact rfl; all_goals (intro hc; first | (exfalso; omega) | skip))
      | ((with_reducible apply w_ret (v := .tuple #[.slice _ _ _, .int _ _])); exact rfl))
    exact ⟨_, sn_tuple (l := [_, _]) (sn_cons (ho.fz (sz := 1) (by omega) rfl (by decide) (fun _ => rfl) (sn_plains (all_flat (fun _ => rfl) b))) (sn_cons (sn_plain rfl) sn_nil)), rfl⟩)
theorem equal_run (l k : List Int) (hl : l.length ≤ 5000) (hk : k.length ≤ 5000) : Rf Try.prog T 23 [iv tg l, iv tg k] (fun v => v = .bool (decide (l = k))) := by
  refine c_froz Try.func23 rfl rfl rfl rfl rfl rfl ?_
  intro g n
  by_cases hlen : l.length = k.length
  · repeat' (first
      | ((with_reducible apply g_op); first
        | ((with_reducible apply g_move); first
          | ((with_reducible apply w_pure (v := .int _ _)); exact rfl; exact rfl)
          | ((with_reducible apply w_pure (v := .func _ _ _)); exact rfl; exact rfl))
        | ((with_reducible apply g_bin); first
          | ((with_reducible apply w_pure (v := .bool _)); exact rfl; exact rfl))
        | ((with_reducible apply g_assign); first
          | ((with_reducible apply w_pure (v := .bool _)); exact rfl; exact rfl))
        | ((with_reducible apply g_call); first
          | ((with_reducible apply w_call (v := .int _ _)); exact rfl)))
      | with_reducible refine w_seq ?_
      | with_reducible refine w_nil ?_
      | with_reducible refine w_region ?_
      | with_reducible refine w_skip ?_
      | with_reducible refine w_block ?_
      | ((with_reducible apply w_ifn); exact rfl; all_goals (intro hc; first | (exfalso; omega) | skip)))
    refine w_cnt l.length (fun i (_ : Unit) σ g' n' => σ 0 = iv tg l ∧ σ 1 = iv tg k ∧ σ 12 = .int .i64 l.length ∧ σ 13 = .int .i64 (i : Nat) ∧ l.take i = k.take i) ?_ ?_ () ⟨rfl, rfl, rfl, rfl, rfl⟩
    · rintro i _ σ g2 n2 hlt ⟨k0, k1, k12, k13, hpre⟩ ih
      refine w_keep (i := 0) k0 (w_keep (i := 1) k1 (w_keep (i := 12) k12 (w_keep (i := 13) k13 ?_)))
      obtain ⟨x, hx⟩ : ∃ x, l[i]? = some x := ⟨_, List.getElem?_eq_getElem hlt⟩
      obtain ⟨y, hy⟩ : ∃ y, k[i]? = some y := ⟨_, List.getElem?_eq_getElem (by omega)⟩
      by_cases hxy : x = y
      · subst hxy
        repeat' (first
          | ((with_reducible apply g_op); first
            | ((with_reducible apply g_load); first
              | ((with_reducible apply w_fl (v := .int _ _)); exact rfl; exact (fun _ => rfl); assumption; exact rfl))
            | ((with_reducible apply g_move); first
              | ((with_reducible apply w_pure (v := .int _ _)); exact rfl; exact rfl)
              | ((with_reducible apply w_pure (v := .func _ _ _)); exact rfl; exact rfl))
            | ((with_reducible apply g_bin); first
              | ((with_reducible apply w_wrap); exact rfl; exact rfl; first | exact i64_in _ (by omega) | exact u64_in _ (by omega) | exact u8_in _ (by omega))
              | ((with_reducible apply w_pure (v := .bool _)); exact rfl; exact rfl))
            | ((with_reducible apply g_assign); first
              | ((with_reducible apply w_pure (v := .int _ _)); exact rfl; exact rfl))
            | ((with_reducible apply g_ix); first
              | ((with_reducible apply w_fx (sz := 1)); exact rfl; exact rfl; exact rfl; exact rfl; exact rfl; exact (fun _ => rfl); assumption; exact rfl)))
          | with_reducible refine w_seq ?_
          | with_reducible refine w_nil ?_
          | with_reducible refine w_region ?_
          | with_reducible refine w_skip ?_
          | with_reducible refine w_block ?_
          | with_reducible refine w_blk ?_
          | ((with_reducible apply w_draw); kernel_rfl; kernel_rfl)
          | ((with_reducible apply w_ifd); exact rfl; all_goals (intro hc; first | (exfalso; omega) | skip))
          | ((with_reducible apply w_ifn); exact rfl; all_goals (intro hc; first | (exfalso; omega) | skip)))
        refine ih () _ _ _ ⟨rfl, rfl, rfl, rfl, ?_⟩
        rw [List.take_add_one, List.take_add_one, hpre, hx, hy]
      · repeat' (first
          | ((with_reducible apply g_op); first
            | ((with_reducible apply g_load); first
              | ((with_reducible apply w_fl (v := .int _ _)); exact rfl; exact (fun _ => rfl); assumption; exact rfl))
            | ((with_reducible apply g_move); first
              | ((with_reducible apply w_pure (v := .int _ _)); exact rfl; exact rfl)
              | ((with_reducible apply w_pure (v := .func _ _ _)); exact rfl; exact rfl))
            | ((with_reducible apply g_bin); first
              | ((with_reducible apply w_pure (v := .bool _)); exact rfl; exact rfl))
            | ((with_reducible apply g_assign); first
              | ((with_reducible apply w_pure (v := .int _ _)); exact rfl; exact rfl)
              | ((with_reducible apply w_pure (v := .bool _)); exact rfl; exact rfl))
            | ((with_reducible apply g_ix); first
              | ((with_reducible apply w_fx (sz := 1)); exact rfl; exact rfl; exact rfl; exact rfl; exact rfl; exact (fun _ => rfl); assumption; exact rfl)))
          | with_reducible refine w_seq ?_
          | with_reducible refine w_nil ?_
          | with_reducible refine w_region ?_
          | with_reducible refine w_skip ?_
          | with_reducible refine w_block ?_
          | ((with_reducible apply w_draw); kernel_rfl; kernel_rfl)
          | ((with_reducible apply w_ifd); exact rfl; all_goals (intro hc; first | (exfalso; omega) | skip))
          | ((with_reducible apply w_ifn); exact rfl; all_goals (intro hc; first | (exfalso; omega) | skip))
          | ((with_reducible apply w_ret (v := .bool _)); exact rfl))
        refine fr_plain rfl (congrArg Value.bool (decide_eq_false ?_).symm)
        intro e
        subst e
        rw [hx] at hy
        exact hxy (Option.some.inj hy)
    · rintro _ σ g2 n2 ⟨k0, k1, k12, k13, hpre⟩
      refine w_keep (i := 0) k0 (w_keep (i := 1) k1 (w_keep (i := 12) k12 (w_keep (i := 13) k13 ?_)))
      repeat' (first
        | ((with_reducible apply g_op); first
          | ((with_reducible apply g_bin); first
            | ((with_reducible apply w_pure (v := .bool _)); exact rfl; exact rfl))
          | ((with_reducible apply g_assign); first
            | ((with_reducible apply w_pure (v := .bool _)); exact rfl; exact rfl)))
        | with_reducible refine w_seq ?_
        | with_reducible refine w_nil ?_
        | with_reducible refine w_region ?_
        | ((with_reducible apply w_exit); exact rfl)
        | ((with_reducible apply w_ifd); exact rfl; all_goals (intro hc; first | (exfalso; omega) | skip))
        | ((with_reducible apply w_ret (v := .bool _)); exact rfl))
      refine fr_plain rfl (congrArg Value.bool (decide_eq_true ?_).symm)
      rw [List.take_length, List.take_of_length_le (by omega)] at hpre
      exact hpre
  · repeat' (first
      | ((with_reducible apply g_op); first
        | ((with_reducible apply g_move); first
          | ((with_reducible apply w_pure (v := .func _ _ _)); exact rfl; exact rfl))
        | ((with_reducible apply g_bin); first
          | ((with_reducible apply w_pure (v := .bool _)); exact rfl; exact rfl))
        | ((with_reducible apply g_assign); first
          | ((with_reducible apply w_pure (v := .bool _)); exact rfl; exact rfl))
        | ((with_reducible apply g_call); first
          | ((with_reducible apply w_call (v := .int _ _)); exact rfl)))
      | with_reducible refine w_seq ?_
      | with_reducible refine w_nil ?_
      | with_reducible refine w_region ?_
      | ((with_reducible apply w_ifn); exact rfl; all_goals (intro hc; first | (exfalso; omega) | skip))
      | ((with_reducible apply w_ret (v := .bool _)); exact rfl))
    exact fr_plain rfl (congrArg Value.bool (decide_eq_false fun e => hlen (by rw [e])).symm)
theorem texts_run (l k : List ByteArray) (hl : l.length ≤ 5000) (hk : k.length ≤ 5000) : Rf Try.prog T 16 [tv tg l, tv tg k] (fun v => v = .bool (decide (l = k))) := by
  refine c_froz Try.func16 rfl rfl rfl rfl rfl rfl ?_
  intro g n
  by_cases hlen : l.length = k.length
  · repeat' (first
      | ((with_reducible apply g_op); first
        | ((with_reducible apply g_move); first
          | ((with_reducible apply w_pure (v := .func _ _ _)); exact rfl; exact rfl))
        | ((with_reducible apply g_bin); first
          | ((with_reducible apply w_pure (v := .bool _)); exact rfl; exact rfl))
        | ((with_reducible apply g_assign); first
          | ((with_reducible apply w_pure (v := .int _ _)); exact rfl; exact rfl)
          | ((with_reducible apply w_pure (v := .bool _)); exact rfl; exact rfl))
        | ((with_reducible apply g_call); first
          | ((with_reducible apply w_call (v := .int _ _)); exact rfl)))
      | with_reducible refine w_seq ?_
      | with_reducible refine w_nil ?_
      | with_reducible refine w_region ?_
      | with_reducible refine w_skip ?_
      | with_reducible refine w_block ?_
      | ((with_reducible apply w_ifn); exact rfl; all_goals (intro hc; first | (exfalso; omega) | skip)))
    refine w_cnt l.length (fun i (_ : Unit) σ g' n' => σ 0 = tv tg l ∧ σ 1 = tv tg k ∧ σ 5 = .int .i64 (i : Nat) ∧ l.take i = k.take i) ?_ ?_ () ⟨rfl, rfl, rfl, rfl⟩
    · rintro i _ σ g2 n2 hlt ⟨k0, k1, k5, hpre⟩ ih
      refine w_keep (i := 0) k0 (w_keep (i := 1) k1 (w_keep (i := 5) k5 ?_))
      obtain ⟨x, hx⟩ : ∃ x, l[i]? = some x := ⟨_, List.getElem?_eq_getElem hlt⟩
      obtain ⟨y, hy⟩ : ∃ y, k[i]? = some y := ⟨_, List.getElem?_eq_getElem (by omega)⟩
      by_cases hxy : x = y
      · subst hxy
        repeat' (first
          | ((with_reducible apply g_op); first
            | ((with_reducible apply g_load); first
              | ((with_reducible apply w_fl (v := .string _)); exact rfl; exact (fun _ => rfl); assumption; exact rfl))
            | ((with_reducible apply g_move); first
              | ((with_reducible apply w_pure (v := .int _ _)); exact rfl; exact rfl)
              | ((with_reducible apply w_pure (v := .func _ _ _)); exact rfl; exact rfl))
            | ((with_reducible apply g_bin); first
              | ((with_reducible apply w_wrap); exact rfl; exact rfl; first | exact i64_in _ (by omega) | exact u64_in _ (by omega) | exact u8_in _ (by omega))
              | ((with_reducible apply w_tne); exact rfl; exact rfl; exact rfl; exact rfl; exact rfl)
              | ((with_reducible apply w_pure (v := .bool _)); exact rfl; exact rfl))
            | ((with_reducible apply g_assign); first
              | ((with_reducible apply w_pure (v := .int _ _)); exact rfl; exact rfl)
              | ((with_reducible apply w_pure (v := .bool _)); exact rfl; exact rfl))
            | ((with_reducible apply g_call); first
              | ((with_reducible apply w_call (v := .int _ _)); exact rfl))
            | ((with_reducible apply g_ix); first
              | ((with_reducible apply w_fx (sz := 1)); exact rfl; exact rfl; exact rfl; exact rfl; exact rfl; exact (fun _ => rfl); assumption; exact rfl)))
          | with_reducible refine w_seq ?_
          | with_reducible refine w_nil ?_
          | with_reducible refine w_region ?_
          | with_reducible refine w_skip ?_
          | with_reducible refine w_block ?_
          | with_reducible refine w_blk ?_
          | ((with_reducible apply w_draw); kernel_rfl; kernel_rfl)
          | ((with_reducible apply w_ifd); exact rfl; all_goals (intro hc; first | (exfalso; omega) | skip))
          | ((with_reducible apply w_ret (v := .bool _)); exact rfl))
        all_goals first | exact absurd rfl (by assumption) | skip
        refine ih () _ _ _ ⟨rfl, rfl, rfl, ?_⟩
        rw [List.take_add_one, List.take_add_one, hpre, hx, hy]
      · repeat' (first
          | ((with_reducible apply g_op); first
            | ((with_reducible apply g_load); first
              | ((with_reducible apply w_fl (v := .string _)); exact rfl; exact (fun _ => rfl); assumption; exact rfl))
            | ((with_reducible apply g_move); first
              | ((with_reducible apply w_pure (v := .int _ _)); exact rfl; exact rfl)
              | ((with_reducible apply w_pure (v := .func _ _ _)); exact rfl; exact rfl))
            | ((with_reducible apply g_bin); first
              | ((with_reducible apply w_wrap); exact rfl; exact rfl; first | exact i64_in _ (by omega) | exact u64_in _ (by omega) | exact u8_in _ (by omega))
              | ((with_reducible apply w_tne); exact rfl; exact rfl; exact rfl; exact rfl; exact rfl)
              | ((with_reducible apply w_pure (v := .bool _)); exact rfl; exact rfl))
            | ((with_reducible apply g_assign); first
              | ((with_reducible apply w_pure (v := .int _ _)); exact rfl; exact rfl)
              | ((with_reducible apply w_pure (v := .bool _)); exact rfl; exact rfl))
            | ((with_reducible apply g_call); first
              | ((with_reducible apply w_call (v := .int _ _)); exact rfl))
            | ((with_reducible apply g_ix); first
              | ((with_reducible apply w_fx (sz := 1)); exact rfl; exact rfl; exact rfl; exact rfl; exact rfl; exact (fun _ => rfl); assumption; exact rfl)))
          | with_reducible refine w_seq ?_
          | with_reducible refine w_nil ?_
          | with_reducible refine w_region ?_
          | with_reducible refine w_skip ?_
          | with_reducible refine w_block ?_
          | with_reducible refine w_blk ?_
          | ((with_reducible apply w_draw); kernel_rfl; kernel_rfl)
          | ((with_reducible apply w_ifd); exact rfl; all_goals (intro hc; first | (exfalso; omega) | skip))
          | ((with_reducible apply w_ret (v := .bool _)); exact rfl))
        all_goals first | exact absurd (by assumption) hxy | (exfalso; apply hxy; simp_all; done) | skip
        refine fr_plain rfl (congrArg Value.bool (decide_eq_false ?_).symm)
        intro e
        subst e
        rw [hx] at hy
        exact hxy (Option.some.inj hy)
    · rintro _ σ g2 n2 ⟨k0, k1, k5, hpre⟩
      refine w_keep (i := 0) k0 (w_keep (i := 1) k1 (w_keep (i := 5) k5 ?_))
      repeat' (first
        | ((with_reducible apply g_op); first
          | ((with_reducible apply g_move); first
            | ((with_reducible apply w_pure (v := .int _ _)); exact rfl; exact rfl)
            | ((with_reducible apply w_pure (v := .func _ _ _)); exact rfl; exact rfl))
          | ((with_reducible apply g_bin); first
            | ((with_reducible apply w_pure (v := .bool _)); exact rfl; exact rfl))
          | ((with_reducible apply g_assign); first
            | ((with_reducible apply w_pure (v := .bool _)); exact rfl; exact rfl))
          | ((with_reducible apply g_call); first
            | ((with_reducible apply w_call (v := .int _ _)); exact rfl)))
        | with_reducible refine w_seq ?_
        | with_reducible refine w_nil ?_
        | with_reducible refine w_region ?_
        | ((with_reducible apply w_exit); exact rfl)
        | ((with_reducible apply w_ifd); exact rfl; all_goals (intro hc; first | (exfalso; omega) | skip))
        | ((with_reducible apply w_ret (v := .bool _)); exact rfl))
      refine fr_plain rfl (congrArg Value.bool (decide_eq_true ?_).symm)
      rw [List.take_length, List.take_of_length_le (by omega)] at hpre
      exact hpre
  · repeat' (first
      | ((with_reducible apply g_op); first
        | ((with_reducible apply g_move); first
          | ((with_reducible apply w_pure (v := .func _ _ _)); exact rfl; exact rfl))
        | ((with_reducible apply g_bin); first
          | ((with_reducible apply w_pure (v := .bool _)); exact rfl; exact rfl))
        | ((with_reducible apply g_assign); first
          | ((with_reducible apply w_pure (v := .bool _)); exact rfl; exact rfl))
        | ((with_reducible apply g_call); first
          | ((with_reducible apply w_call (v := .int _ _)); exact rfl)))
      | with_reducible refine w_seq ?_
      | with_reducible refine w_nil ?_
      | with_reducible refine w_region ?_
      | ((with_reducible apply w_ifn); exact rfl; all_goals (intro hc; first | (exfalso; omega) | skip))
      | ((with_reducible apply w_ret (v := .bool _)); exact rfl))
    exact fr_plain rfl (congrArg Value.bool (decide_eq_false fun e => hlen (by rw [e])).symm)
end Go.Proofs.Ytffgdfoeeaoonaa.L

