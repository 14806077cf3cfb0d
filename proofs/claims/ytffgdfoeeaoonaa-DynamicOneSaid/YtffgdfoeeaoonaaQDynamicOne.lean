/- DynamicOne: walked, and its plain law. -/
import Derived.Test.Ytffgdfoeeaoonaac09R
import Derived.Test.YtffgdfoeeaoonaarefF
import Derived.Test.YtffgdfoeeaoonaarefP
namespace Go.Proofs.Ytffgdfoeeaoonaa.L.DynamicOne
open Go.L1 Go.IntWalk Go.Proofs.Ytffgdfoeeaoonaa.L
set_option linter.unusedVariables false
set_option linter.unusedSimpArgs false
set_option maxHeartbeats 4000000
def tab : Tb := L.T
theorem tabok : ∀ C : Cx, C.P = Try.prog → TbOk C tab := L.tabok
def tags8 : List Int := [4, 5, 6, 7, 10, 14, 9, 11]
def lst (n : Nat) : List (Int × Int) := (List.range n).map fun i : Nat => (1, (i : Int))
theorem lst_size (n : Nat) : (bytesR (lst n)).size = 16 * n := by rw [bytesR_size]; simp [lst]
theorem put_size (x : Int) : (Oct.putB x (Oct.wid 8)).size = 8 := Oct.putB_size _ _
theorem lst_snoc (i : Nat) : bytesR (lst i) ++ Oct.putB 1 (Oct.wid 8) ++ Oct.putB i (Oct.wid 8) = bytesR (lst (i + 1)) := by
  unfold lst
  rw [List.range_succ, List.map_append, bytesR_app]
  simp only [List.map_cons, List.map_nil, bytesR, entry]
  rw [app_nil, app_assoc, Int.max_eq_left (by omega)]
  rfl
theorem end_is : Oct.fillV ⟨#[]⟩ 16 = bytesR [(0, 0)] := by decide +kernel
theorem one_is (t : Int) : Oct.putB t (Oct.wid 8) ++ Oct.putB 24 (Oct.wid 8) = bytesR [(t, 24)] := by
  rw [bytesR, bytesR, app_nil, entry]; rfl
theorem rd (l : List (Int × Int)) (h2 : ∀ e ∈ l, 0 ≤ e.1 ∧ e.1 < 18446744073709551616 ∧ e.2 < 18446744073709551616) (h3 : ∃ e ∈ l, e.1 = 0) : readS (bytesR l) = endD (goE l .zero []) := by
  have := read_ents l ⟨#[]⟩ h2 h3
  rwa [app_nil] at this
theorem rd1 (t : Int) (ht : t ∈ tags8) : (readS (bytesR [(t, 24)] ++ bytesR [(0, 0)])).2 = 0 := by
  rw [← bytesR_app, List.singleton_append]
  simp only [tags8, List.mem_cons, List.not_mem_nil, or_false] at ht
  rcases ht with rfl | rfl | rfl | rfl | rfl | rfl | rfl | rfl <;> (rw [rd _ (by decide) (by decide)]; decide +kernel)
theorem rd2 (t : Int) (ht : t ∈ tags8) : readS (bytesR [(t, 24)] ++ bytesR [(t, 24)] ++ bytesR [(0, 0)]) = (.zero, 17) := by
  rw [← bytesR_app, ← bytesR_app]
  simp only [tags8, List.mem_cons, List.not_mem_nil, or_false] at ht
  rcases ht with rfl | rfl | rfl | rfl | rfl | rfl | rfl | rfl <;> (rw [rd _ (by decide) (by decide)]; decide +kernel)
theorem rd0 : readS (bytesR [(0, 0)]) = (.zero, 0) := by rw [rd _ (by decide) (by decide)]; decide +kernel
theorem many : ∀ j : Nat, j < 8 → (if 60 + j ≤ 64 then (endD (goE (lst (60 + j) ++ [(0, 0)]) .zero [])).2 = 0 ∧ (endD (goE (lst (60 + j) ++ [(0, 0)]) .zero [])).1.nd.length = 60 + j else endD (goE (lst (60 + j) ++ [(0, 0)]) .zero []) = (.zero, 17)) := by decide +kernel
theorem rdn (j : Nat) (hj : j < 8) : if 60 + j ≤ 64 then ∃ d : Dyn, readS (bytesR (lst (60 + j)) ++ bytesR [(0, 0)]) = (d, 0) ∧ d.nd.length = 60 + j else readS (bytesR (lst (60 + j)) ++ bytesR [(0, 0)]) = (.zero, 17) := by
  rw [← bytesR_app, rd _ (by
    intro e he
    rcases List.mem_append.1 he with h | h
    · unfold lst at h
      obtain ⟨i, hi, rfl⟩ := List.mem_map.1 h
      have := List.mem_range.1 hi
      dsimp only; omega
    · simp at h; subst h; decide) ⟨(0, 0), by simp, rfl⟩]
  have hm := many j hj
  split
  · rename_i h
    rw [if_pos h] at hm
    generalize endD (goE (lst (60 + j) ++ [(0, 0)]) .zero []) = D at hm
    obtain ⟨d, e⟩ := D
    obtain ⟨h1, h2⟩ := hm
    exact ⟨d, by rw [show e = 0 from h1], h2⟩
  · rename_i h
    rw [if_neg h] at hm
    exact hm
theorem pick (x : Int) : ∃ t, t ∈ tags8 ∧ L1.part Try.prog 34 (tags8.flatMap uu) (0 + (x % 8).toNat * 1) = some (.int .u64 t) := by
  have h : (x % 8).toNat < 8 := by omega
  generalize (x % 8).toNat = i at h
  rw [part_one (by kernel_rfl)]
  have : ∀ i : Nat, i < 8 → ∃ t, t ∈ tags8 ∧ (tags8.flatMap uu)[0 + i * 1]? = some (.int .u64 t) := by
    intro i hi
    have : i = 0 ∨ i = 1 ∨ i = 2 ∨ i = 3 ∨ i = 4 ∨ i = 5 ∨ i = 6 ∨ i = 7 := by omega
    rcases this with rfl | rfl | rfl | rfl | rfl | rfl | rfl | rfl <;> exact ⟨_, by simp [tags8]; done, rfl⟩
  exact this i h
theorem w_ixp {P : Program} {T : Tb} {fn : Func} {k : List It} {σ : Env} {g : Nat → Option Ob} {n m : Nat} {Q : Value → (Nat → Option Ob) → Nat → Prop} {b : Bool} {all : Array Oper} {l : List Oper} {d : Option Tmp} {ty : TypeId} {pos : String} {af : Array Edge} {t : TypeId} {x j : Operand} {i off sz : Nat} {kd : IntKind} {q : Int} {ne : Nat × TypeId} (hx : ev σ x = .pointer (some ⟨i, off, none⟩)) (hj : ev σ j = .int kd q) (he : arrOf P t = some ne) (hs : szOf P ne.2 = some sz) (h0 : 0 ≤ q ∧ q < ne.1) (h : L1.Go P T fn (.ops b all l :: k) (put d (ptr i (off + q.toNat * sz)) σ) g n m Q) : L1.Go P T fn (.ops b all (⟨d, .indexAddr t x j, ty, pos, af, none⟩ :: l) :: k) σ g n m Q :=
  w_pure rfl (by simp only [op0, hx, hj, he, hs, Option.bind_some]; rw [if_pos h0]) h
theorem walk (x y : Int) (g : Nat → Option Ob) (s : Nat) : Rn Try.prog T 4 [.int .i64 x, .int .i64 y] g s s (fun v _ _ => v = .bool true) := by
  refine c_open Try.func4 rfl rfl rfl rfl rfl rfl ?_
  repeat' (first
    | ((with_reducible apply g_op); first
      | ((with_reducible apply g_assign); first
        | ((with_reducible apply w_pure (v := .bool _)); exact rfl; exact rfl)))
    | with_reducible refine w_seq ?_
    | with_reducible refine w_nil ?_
    | with_reducible refine w_region ?_)
  refine w_rf awake_run (fun _ => rfl) sn_nil ?_
  rintro v rfl
  repeat' (first
    | ((with_reducible apply g_op); first
      | ((with_reducible apply g_move); first
        | ((with_reducible apply w_pure (v := .int _ _)); exact rfl; exact rfl))
      | ((with_reducible apply g_bin); first
        | ((with_reducible apply w_and (j := 3) (c1 := 8)); exact rfl; exact rfl; exact rfl; exact rfl; exact rfl; exact (by decide); exact (by decide); exact (by decide)))
      | ((with_reducible apply g_assign); first
        | ((with_reducible apply w_pure (v := .bool _)); exact rfl; exact rfl))
      | ((with_reducible apply g_store); first
        | ((with_reducible apply w_store (us := [_, _, _, _, _, _, _, _]) (ws := [_, _, _, _, _, _, _, _])); exact rfl; exact rfl; (first | assumption | (simp (disch := omega) only [upd_same, upd_ne]; first | done | assumption | exact rfl) | exact rfl); omega; exact rfl; exact rfl; exact rfl))
      | ((with_reducible apply g_build); first
        | ((with_reducible apply w_pure (v := .agg #[_, _, _, _, _, _, _, _])); exact rfl; exact rfl))
      | ((with_reducible apply w_alloc (ls := [_, _, _, _, _, _, _, _])); exact rfl; exact rfl))
    | with_reducible refine w_seq ?_
    | with_reducible refine w_nil ?_
    | with_reducible refine w_region ?_)
  refine w_ixp (ne := (8, 34)) (sz := 1) rfl rfl rfl rfl ⟨by omega, by dsimp only; omega⟩ ?_
  obtain ⟨t, ht, hp⟩ := pick x
  refine w_load (v := .int .u64 t) rfl upd_same hp ?_
  have t0 : 0 ≤ t ∧ t < 18446744073709551616 := by simp only [tags8, List.mem_cons, List.not_mem_nil, or_false] at ht; omega
  repeat' (first
    | ((with_reducible apply g_op); first
      | ((with_reducible apply g_move); first
        | ((with_reducible apply w_pure (v := .int _ _)); exact rfl; exact rfl))
      | ((with_reducible apply g_assign); first
        | ((with_reducible apply w_pure (v := .int _ _)); exact rfl; exact rfl)))
    | with_reducible refine w_seq ?_
    | with_reducible refine w_nil ?_
    | with_reducible refine w_region ?_)
  refine w_rq (Oct.rput_run t 8 t0 _ _ _) (fun _ => rfl) ?_
  rintro _ rfl
  repeat' (first
    | fail)
  refine w_rq (Oct.rput_run 24 8 (by decide) _ _ _) (fun _ => rfl) ?_
  rintro _ rfl
  have z1 := put_size t
  have z2 := put_size 24
  repeat' (first
    | ((with_reducible apply g_op); first
      | ((with_reducible apply g_bin); first
        | ((with_reducible apply w_cat); exact rfl; exact rfl; exact rfl; exact rfl; exact rfl; omega))
      | ((with_reducible apply g_assign); first
        | ((with_reducible apply w_pure (v := .string _)); exact rfl; exact rfl)))
    | with_reducible refine w_seq ?_
    | with_reducible refine w_nil ?_
    | with_reducible refine w_region ?_)
  rw [one_is t]
  refine w_rq (Oct.rfill_run ⟨#[]⟩ 16 (by decide) (by decide) _ _ _) (fun _ => rfl) ?_
  rintro _ rfl
  rw [end_is]
  have z3 := bytesR_size [(t, 24)]
  have z4 := bytesR_size [(0, 0)]
  have z5 : (bytesR [(t, 24)] ++ bytesR [(t, 24)]).size = 32 := by rw [ByteArray.size_append, z3]; rfl
  simp only [List.length_singleton] at z3 z4
  repeat' (first
    | ((with_reducible apply g_op); first
      | ((with_reducible apply g_move); first
        | ((with_reducible apply w_pure (v := .string _)); exact rfl; exact rfl))
      | ((with_reducible apply g_bin); first
        | ((with_reducible apply w_cat); exact rfl; exact rfl; exact rfl; exact rfl; exact rfl; omega))
      | ((with_reducible apply g_assign); first
        | ((with_reducible apply w_pure (v := .string _)); exact rfl; exact rfl)))
    | with_reducible refine w_seq ?_
    | with_reducible refine w_nil ?_
    | with_reducible refine w_region ?_)
  refine w_rf (read_run _ (by rw [ByteArray.size_append]; omega)) (fun _ => rfl) (sn_cons (sn_plain rfl) sn_nil) ?_
  rintro _ rfl
  have e1 := rd1 t ht
  generalize readS (bytesR [(t, 24)] ++ bytesR [(0, 0)]) = D1 at e1 ⊢
  obtain ⟨D1, r1⟩ := D1
  have e1 : r1 = 0 := e1
  subst e1
  repeat' (first
    | ((with_reducible apply g_op); first
      | ((with_reducible apply g_move); first
        | ((with_reducible apply w_pure (v := .string _)); exact rfl; exact rfl)
        | ((with_reducible apply w_pure (v := .tuple _)); exact rfl; exact rfl))
      | ((with_reducible apply g_bin); first
        | ((with_reducible apply w_cat); exact rfl; exact rfl; exact rfl; exact rfl; exact rfl; omega))
      | ((with_reducible apply g_assign); first
        | ((with_reducible apply w_pure (v := .int _ _)); exact rfl; exact rfl))
      | ((with_reducible apply g_store); first
        | ((with_reducible apply w_store (us := [_, _, _, _, _, _, _, _, _]) (ws := [_, _, _, _, _, _, _, _, _])); exact rfl; exact rfl; (first | assumption | (simp (disch := omega) only [upd_same, upd_ne]; first | done | assumption | exact rfl) | exact rfl); omega; exact rfl; exact rfl; exact rfl))
      | ((with_reducible apply w_alloc (ls := [_, _, _, _, _, _, _, _, _])); exact rfl; exact rfl)
      | ((with_reducible apply w_pure (v := .int _ _)); exact rfl; exact rfl)
      | ((with_reducible apply w_pure (v := .agg _)); exact rfl; exact rfl))
    | with_reducible refine w_seq ?_
    | with_reducible refine w_nil ?_
    | with_reducible refine w_region ?_)
  refine w_rf (read_run _ (by rw [ByteArray.size_append, z5]; omega)) (fun _ => rfl) (sn_cons (sn_plain rfl) sn_nil) ?_
  rintro _ rfl
  rw [rd2 t ht]
  repeat' (first
    | ((with_reducible apply g_op); first
      | ((with_reducible apply g_move); first
        | ((with_reducible apply w_pure (v := .string _)); exact rfl; exact rfl)
        | ((with_reducible apply w_pure (v := .tuple _)); exact rfl; exact rfl))
      | ((with_reducible apply g_assign); first
        | ((with_reducible apply w_pure (v := .int _ _)); exact rfl; exact rfl))
      | ((with_reducible apply g_store); first
        | ((with_reducible apply w_store (us := [_, _, _, _, _, _, _, _, _]) (ws := [_, _, _, _, _, _, _, _, _])); exact rfl; exact rfl; (first | assumption | (simp (disch := omega) only [upd_same, upd_ne]; first | done | assumption | exact rfl) | exact rfl); omega; exact rfl; exact rfl; exact rfl))
      | ((with_reducible apply w_alloc (ls := [_, _, _, _, _, _, _, _, _])); exact rfl; exact rfl)
      | ((with_reducible apply w_pure (v := .int _ _)); exact rfl; exact rfl)
      | ((with_reducible apply w_pure (v := .agg _)); exact rfl; exact rfl))
    | with_reducible refine w_seq ?_
    | with_reducible refine w_nil ?_
    | with_reducible refine w_region ?_)
  refine w_rf (read_run _ (by omega)) (fun _ => rfl) (sn_cons (sn_plain rfl) sn_nil) ?_
  rintro _ rfl
  rw [rd0]
  repeat' (first
    | ((with_reducible apply g_op); first
      | ((with_reducible apply g_move); first
        | ((with_reducible apply w_pure (v := .int _ _)); exact rfl; exact rfl)
        | ((with_reducible apply w_pure (v := .tuple _)); exact rfl; exact rfl))
      | ((with_reducible apply g_bin); first
        | ((with_reducible apply w_and (j := 3) (c1 := 8)); exact rfl; exact rfl; exact rfl; exact rfl; exact rfl; exact (by decide); exact (by decide); exact (by decide))
        | ((with_reducible apply w_wrap); exact rfl; exact rfl; first | exact i64_in _ (by omega) | exact u64_in _ (by omega) | exact u8_in _ (by omega)))
      | ((with_reducible apply g_assign); first
        | ((with_reducible apply w_pure (v := .int _ _)); exact rfl; exact rfl)
        | ((with_reducible apply w_pure (v := .string _)); exact rfl; exact rfl))
      | ((with_reducible apply g_store); first
        | ((with_reducible apply w_store (us := [_, _, _, _, _, _, _, _, _]) (ws := [_, _, _, _, _, _, _, _, _])); exact rfl; exact rfl; (first | assumption | (simp (disch := omega) only [upd_same, upd_ne]; first | done | assumption | exact rfl) | exact rfl); omega; exact rfl; exact rfl; exact rfl))
      | ((with_reducible apply w_alloc (ls := [_, _, _, _, _, _, _, _, _])); exact rfl; exact rfl)
      | ((with_reducible apply w_pure (v := .int _ _)); exact rfl; exact rfl)
      | ((with_reducible apply w_pure (v := .agg _)); exact rfl; exact rfl))
    | with_reducible refine w_seq ?_
    | with_reducible refine w_nil ?_
    | with_reducible refine w_region ?_
    | with_reducible refine w_block ?_)
  obtain ⟨j, hj, hj8⟩ : ∃ j : Nat, y % 8 = j ∧ j < 8 := ⟨(y % 8).toNat, by omega, by omega⟩
  rw [hj]
  refine w_cnt (60 + j) (fun i (_ : Unit) σ g' n' => σ 5 = .bool true ∧ σ 9 = .string (bytesR [(0, 0)]) ∧ σ 11 = .int .i64 0 ∧ σ 13 = .int .i64 17 ∧ σ 14 = ptr (s + 3) 0 ∧ σ 15 = .int .i64 0 ∧ σ 16 = .int .i64 (60 + (j : Int)) ∧ σ 17 = .string (bytesR (lst i)) ∧ σ 18 = .int .i64 (i : Nat) ∧ g' (s + 3) = some (.cells 26 (Dyn.zero.c #[])) ∧ n' = s + 4) ?_ ?_ () ⟨rfl, rfl, rfl, rfl, rfl, rfl, rfl, rfl, rfl, by simp (disch := omega) only [upd_same, upd_ne]; rfl, rfl⟩
  · rintro i _ σ g2 n2 hlt ⟨k5, k9, k11, k13, k14, k15, k16, k17, k18, hg, rfl⟩ ih
    refine w_keep (i := 5) k5 (w_keep (i := 9) k9 (w_keep (i := 11) k11 (w_keep (i := 13) k13 (w_keep (i := 14) k14 (w_keep (i := 15) k15 (w_keep (i := 16) k16 (w_keep (i := 17) k17 (w_keep (i := 18) k18 ?_))))))))
    have hz := lst_size i
    repeat' (first
      | ((with_reducible apply g_op); first
        | ((with_reducible apply g_move); first
          | ((with_reducible apply w_pure (v := .int _ _)); exact rfl; exact rfl)
          | ((with_reducible apply w_pure (v := .string _)); exact rfl; exact rfl))
        | ((with_reducible apply g_bin); first
          | ((with_reducible apply w_pure (v := .bool _)); exact rfl; exact rfl)))
      | with_reducible refine w_seq ?_
      | with_reducible refine w_nil ?_
      | with_reducible refine w_region ?_
      | with_reducible refine w_skip ?_
      | with_reducible refine w_block ?_
      | ((with_reducible apply w_ifd); exact rfl; all_goals (intro hc; first | (exfalso; omega) | skip)))
    refine w_rq (Oct.rput_run 1 8 (by decide) _ _ _) (fun _ => rfl) ?_
    rintro _ rfl
    have z6 := put_size 1
    have z7 := put_size i
    have z8 : (bytesR (lst i) ++ Oct.putB 1 (Oct.wid 8)).size = 16 * i + 8 := by rw [ByteArray.size_append, hz, z6]
    repeat' (first
      | ((with_reducible apply g_op); first
        | ((with_reducible apply g_move); first
          | ((with_reducible apply w_pure (v := .int _ _)); exact rfl; exact rfl))
        | ((with_reducible apply g_bin); first
          | ((with_reducible apply w_cat); exact rfl; exact rfl; exact rfl; exact rfl; exact rfl; omega))
        | ((with_reducible apply w_conv); exact rfl; exact rfl; exact rfl; first | exact i64_in _ (by omega) | exact u64_in _ (by omega) | exact u8_in _ (by omega) | exact u32_in _ (by omega))))
    refine w_rq (Oct.rput_run i 8 (by omega) _ _ _) (fun _ => rfl) ?_
    rintro _ rfl
    repeat' (first
      | ((with_reducible apply g_op); first
        | ((with_reducible apply g_move); first
          | ((with_reducible apply w_pure (v := .int _ _)); exact rfl; exact rfl))
        | ((with_reducible apply g_bin); first
          | ((with_reducible apply w_wrap); exact rfl; exact rfl; first | exact i64_in _ (by omega) | exact u64_in _ (by omega) | exact u8_in _ (by omega))
          | ((with_reducible apply w_cat); exact rfl; exact rfl; exact rfl; exact rfl; exact rfl; omega))
        | ((with_reducible apply g_assign); first
          | ((with_reducible apply w_pure (v := .int _ _)); exact rfl; exact rfl)
          | ((with_reducible apply w_pure (v := .string _)); exact rfl; exact rfl)))
      | with_reducible refine w_nil ?_
      | with_reducible refine w_region ?_
      | with_reducible refine w_blk ?_)
    rw [lst_snoc]
    exact ih () _ _ _ ⟨rfl, rfl, rfl, rfl, rfl, rfl, rfl, rfl, rfl, hg, rfl⟩
  · rintro _ σ g2 n2 ⟨k5, k9, k11, k13, k14, k15, k16, k17, k18, hg, rfl⟩
    refine w_keep (i := 5) k5 (w_keep (i := 9) k9 (w_keep (i := 11) k11 (w_keep (i := 13) k13 (w_keep (i := 14) k14 (w_keep (i := 15) k15 (w_keep (i := 16) k16 (w_keep (i := 17) k17 (w_keep (i := 18) k18 ?_))))))))
    have hz := lst_size (60 + j)
    repeat' (first
      | ((with_reducible apply g_op); first
        | ((with_reducible apply g_move); first
          | ((with_reducible apply w_pure (v := .int _ _)); exact rfl; exact rfl)
          | ((with_reducible apply w_pure (v := .string _)); exact rfl; exact rfl))
        | ((with_reducible apply g_bin); first
          | ((with_reducible apply w_cat); exact rfl; exact rfl; exact rfl; exact rfl; exact rfl; omega)
          | ((with_reducible apply w_pure (v := .bool _)); exact rfl; exact rfl)))
      | with_reducible refine w_seq ?_
      | with_reducible refine w_nil ?_
      | with_reducible refine w_region ?_
      | ((with_reducible apply w_exit); exact rfl)
      | ((with_reducible apply w_ifd); exact rfl; all_goals (intro hc; first | (exfalso; omega) | skip)))
    refine w_rf (read_run _ (by rw [ByteArray.size_append]; omega)) (fun _ => rfl) (sn_cons (sn_plain rfl) sn_nil) ?_
    rintro _ rfl
    have hr := rdn j hj8
    by_cases h64 : 60 + j ≤ 64
    · rw [if_pos h64] at hr
      obtain ⟨d, hd1, hd2⟩ := hr
      rw [hd1]
      repeat' (first
        | ((with_reducible apply g_op); first
          | ((with_reducible apply g_load); first
            | ((with_reducible apply w_load (v := .agg #[_, _, _, _, _, _, _, _, _])); exact rfl; (first | assumption | (simp (disch := omega) only [upd_same, upd_ne]; first | done | assumption | exact rfl) | exact rfl); exact rfl))
          | ((with_reducible apply g_move); first
            | ((with_reducible apply w_pure (v := .int _ _)); exact rfl; exact rfl)
            | ((with_reducible apply w_pure (v := .bool _)); exact rfl; exact rfl)
            | ((with_reducible apply w_pure (v := .tuple _)); exact rfl; exact rfl))
          | ((with_reducible apply g_bin); first
            | ((with_reducible apply w_pure (v := .bool _)); exact rfl; exact rfl))
          | ((with_reducible apply g_pick); first
            | ((with_reducible apply w_pk1 (v := .bool _)); exact rfl; exact rfl; (first | assumption | exact decide_eq_true (by assumption) | exact decide_eq_false (by assumption) | exact decide_eq_true (by omega) | exact decide_eq_false (by omega) | exact beq_iff_eq.2 (by omega) | exact beq_eq_false_iff_ne.2 (by omega) | exact bne_iff_ne.2 (by omega) | exact bne_eq_false_iff_eq.2 (by omega))))
          | ((with_reducible apply g_assign); first
            | ((with_reducible apply w_pure (v := .int _ _)); exact rfl; exact rfl))
          | ((with_reducible apply g_store); first
            | ((with_reducible apply w_store (us := [_, _, _, _, _, _, _, _, _]) (ws := [_, _, _, _, _, _, _, _, _])); exact rfl; exact rfl; (first | assumption | (simp (disch := omega) only [upd_same, upd_ne]; first | done | assumption | exact rfl) | exact rfl); omega; exact rfl; exact rfl; exact rfl))
          | ((with_reducible apply w_alloc (ls := [_, _, _, _, _, _, _, _, _])); exact rfl; exact rfl)
          | ((with_reducible apply w_pure (v := .int _ _)); exact rfl; exact rfl)
          | ((with_reducible apply w_pure (v := .bool _)); exact rfl; exact rfl)
          | ((with_reducible apply w_pure (v := .agg _)); exact rfl; exact rfl))
        | ((with_reducible apply g_gd); first
          | ((with_reducible apply w_want); exact rfl))
        | with_reducible refine w_seq ?_
        | with_reducible refine w_nil ?_
        | with_reducible refine w_region ?_)
      refine w_rf (same_run .zero .zero (by decide) (by decide)) (fun _ => rfl) (sn_cons (sn_agg (l := [_, _, _, _, _, _, _, _, _]) (sn_cons iv_sn (sn_plains rfl))) (sn_cons (sn_agg (l := [_, _, _, _, _, _, _, _, _]) (sn_cons sn_none (sn_plains rfl))) sn_nil)) ?_
      rintro _ rfl
      rw [decide_eq_true rfl]
      repeat' (first
        | ((with_reducible apply g_op); first
          | ((with_reducible apply g_load); first
            | ((with_reducible apply w_load (v := .func _ _ _)); exact rfl; (first | assumption | (simp (disch := omega) only [upd_same, upd_ne]; first | done | assumption | exact rfl) | exact rfl); exact rfl))
          | ((with_reducible apply g_move); first
            | ((with_reducible apply w_pure (v := .int _ _)); exact rfl; exact rfl)
            | ((with_reducible apply w_pure (v := .bool _)); exact rfl; exact rfl)
            | ((with_reducible apply w_pure (v := .tuple _)); exact rfl; exact rfl))
          | ((with_reducible apply g_bin); first
            | ((with_reducible apply w_pure (v := .bool _)); exact rfl; exact rfl))
          | ((with_reducible apply g_fld); first
            | ((with_reducible apply w_fldp (o := 0)); exact rfl; exact rfl; exact rfl; exact (by decide)))
          | ((with_reducible apply g_pick); first
            | ((with_reducible apply w_pk1 (v := .bool _)); exact rfl; exact rfl; (first | assumption | exact decide_eq_true (by assumption) | exact decide_eq_false (by assumption) | exact decide_eq_true (by omega) | exact decide_eq_false (by omega) | exact beq_iff_eq.2 (by omega) | exact beq_eq_false_iff_ne.2 (by omega) | exact bne_iff_ne.2 (by omega) | exact bne_eq_false_iff_eq.2 (by omega)))
            | ((with_reducible apply w_pk0 (v := .bool _)); exact rfl; exact rfl; (first | assumption | exact decide_eq_true (by assumption) | exact decide_eq_false (by assumption) | exact decide_eq_true (by omega) | exact decide_eq_false (by omega) | exact beq_iff_eq.2 (by omega) | exact beq_eq_false_iff_ne.2 (by omega) | exact bne_iff_ne.2 (by omega) | exact bne_eq_false_iff_eq.2 (by omega))))
          | ((with_reducible apply g_assign); first
            | ((with_reducible apply w_pure (v := .bool _)); exact rfl; exact rfl))
          | ((with_reducible apply g_call); first
            | ((with_reducible apply w_call (v := .int _ _)); exact rfl))
          | ((with_reducible apply w_pure (v := .bool _)); exact rfl; exact rfl))
        | ((with_reducible apply g_gd); first
          | ((with_reducible apply w_want); exact rfl)
          | ((with_reducible apply w_gd_t); exact rfl; all_goals (intro hc; first | (exfalso; omega) | skip)))
        | with_reducible refine w_nil ?_
        | ((with_reducible apply w_ret (v := .bool _)); exact rfl))
      all_goals first | rfl | exact congrArg Value.bool (beq_iff_eq.2 (by omega)) | exact absurd (show true = decide (60 + (j : Int) ≤ 64) from (decide_eq_true (by omega)).symm) (by assumption) | trace_state
    · rw [if_neg h64] at hr
      rw [hr]
      repeat' (first
        | ((with_reducible apply g_op); first
          | ((with_reducible apply g_load); first
            | ((with_reducible apply w_load (v := .agg #[_, _, _, _, _, _, _, _, _])); exact rfl; (first | assumption | (simp (disch := omega) only [upd_same, upd_ne]; first | done | assumption | exact rfl) | exact rfl); exact rfl))
          | ((with_reducible apply g_move); first
            | ((with_reducible apply w_pure (v := .int _ _)); exact rfl; exact rfl)
            | ((with_reducible apply w_pure (v := .bool _)); exact rfl; exact rfl)
            | ((with_reducible apply w_pure (v := .tuple _)); exact rfl; exact rfl))
          | ((with_reducible apply g_bin); first
            | ((with_reducible apply w_pure (v := .bool _)); exact rfl; exact rfl))
          | ((with_reducible apply g_pick); first
            | ((with_reducible apply w_pk1 (v := .bool _)); exact rfl; exact rfl; (first | assumption | exact decide_eq_true (by assumption) | exact decide_eq_false (by assumption) | exact decide_eq_true (by omega) | exact decide_eq_false (by omega) | exact beq_iff_eq.2 (by omega) | exact beq_eq_false_iff_ne.2 (by omega) | exact bne_iff_ne.2 (by omega) | exact bne_eq_false_iff_eq.2 (by omega))))
          | ((with_reducible apply g_assign); first
            | ((with_reducible apply w_pure (v := .int _ _)); exact rfl; exact rfl))
          | ((with_reducible apply g_store); first
            | ((with_reducible apply w_store (us := [_, _, _, _, _, _, _, _, _]) (ws := [_, _, _, _, _, _, _, _, _])); exact rfl; exact rfl; (first | assumption | (simp (disch := omega) only [upd_same, upd_ne]; first | done | assumption | exact rfl) | exact rfl); omega; exact rfl; exact rfl; exact rfl))
          | ((with_reducible apply w_alloc (ls := [_, _, _, _, _, _, _, _, _])); exact rfl; exact rfl)
          | ((with_reducible apply w_pure (v := .int _ _)); exact rfl; exact rfl)
          | ((with_reducible apply w_pure (v := .bool _)); exact rfl; exact rfl)
          | ((with_reducible apply w_pure (v := .agg _)); exact rfl; exact rfl))
        | ((with_reducible apply g_gd); first
          | ((with_reducible apply w_want); exact rfl))
        | with_reducible refine w_seq ?_
        | with_reducible refine w_nil ?_
        | with_reducible refine w_region ?_)
      refine w_rf (same_run .zero .zero (by decide) (by decide)) (fun _ => rfl) (sn_cons (sn_agg (l := [_, _, _, _, _, _, _, _, _]) (sn_cons iv_sn (sn_plains rfl))) (sn_cons (sn_agg (l := [_, _, _, _, _, _, _, _, _]) (sn_cons sn_none (sn_plains rfl))) sn_nil)) ?_
      rintro _ rfl
      rw [decide_eq_true rfl]
      repeat' (first
        | ((with_reducible apply g_op); first
          | ((with_reducible apply g_move); first
            | ((with_reducible apply w_pure (v := .int _ _)); exact rfl; exact rfl)
            | ((with_reducible apply w_pure (v := .bool _)); exact rfl; exact rfl)
            | ((with_reducible apply w_pure (v := .tuple _)); exact rfl; exact rfl))
          | ((with_reducible apply g_bin); first
            | ((with_reducible apply w_pure (v := .bool _)); exact rfl; exact rfl))
          | ((with_reducible apply g_pick); first
            | ((with_reducible apply w_pk1 (v := .bool _)); exact rfl; exact rfl; (first | assumption | exact decide_eq_true (by assumption) | exact decide_eq_false (by assumption) | exact decide_eq_true (by omega) | exact decide_eq_false (by omega) | exact beq_iff_eq.2 (by omega) | exact beq_eq_false_iff_ne.2 (by omega) | exact bne_iff_ne.2 (by omega) | exact bne_eq_false_iff_eq.2 (by omega)))
            | ((with_reducible apply w_pk0 (v := .bool _)); exact rfl; exact rfl; (first | assumption | exact decide_eq_true (by assumption) | exact decide_eq_false (by assumption) | exact decide_eq_true (by omega) | exact decide_eq_false (by omega) | exact beq_iff_eq.2 (by omega) | exact beq_eq_false_iff_ne.2 (by omega) | exact bne_iff_ne.2 (by omega) | exact bne_eq_false_iff_eq.2 (by omega))))
          | ((with_reducible apply g_assign); first
            | ((with_reducible apply w_pure (v := .bool _)); exact rfl; exact rfl))
          | ((with_reducible apply w_pure (v := .bool _)); exact rfl; exact rfl))
        | ((with_reducible apply g_gd); first
          | ((with_reducible apply w_want); exact rfl)
          | ((with_reducible apply w_pass); exact rfl)
          | ((with_reducible apply w_gd_t); exact rfl; all_goals (intro hc; first | (exfalso; omega) | skip)))
        | with_reducible refine w_nil ?_
        | ((with_reducible apply w_ret (v := .bool _)); exact rfl))
      all_goals first | rfl | exact congrArg Value.bool (beq_iff_eq.2 (by omega)) | exact absurd (show false = decide (60 + (j : Int) ≤ 64) from (decide_eq_false (by omega)).symm) (by assumption) | trace_state
theorem proved (x0 x1 : Int) {p q : Prop} (w0 : p) (w1 : q) : Rn Try.prog tab 4 [.int .i64 x0, .int .i64 x1] (fun _ => none) 0 0 (fun v _ _ => v = .bool true) := walk x0 x1 _ 0
end Go.Proofs.Ytffgdfoeeaoonaa.L.DynamicOne

