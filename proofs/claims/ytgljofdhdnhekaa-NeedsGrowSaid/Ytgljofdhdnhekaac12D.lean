/- needs.walk: its walk. -/
import Derived.Test.Ytgljofdhdnhekaac12C
namespace Go.Proofs.Ytgljofdhdnhekaa.L
open Go.L1 Go.IntWalk
set_option linter.unusedVariables false
set_option linter.unusedSimpArgs false
set_option maxHeartbeats 4000000
theorem w_ret3 {P : Program} {T : Tb} {fn : Func} {k : List It} {σ : Env} {g : Nat → Option Ob} {n m : Nat} {Q : Value → (Nat → Option Ob) → Nat → Prop} {b1 b2 b3 : Tmp} {t1 t2 t3 : TypeId} {i1 i2 i3 o1 o2 o3 : Nat} {e1 e2 e3 : TypeId} {vs1 vs2 vs3 : List Value} {v1 v2 v3 : Value} (hr : fn.results.toList = [.cell b1 t1, .cell b2 t2, .cell b3 t3]) (h1 : σ b1 = ptr i1 o1) (h2 : σ b2 = ptr i2 o2) (h3 : σ b3 = ptr i3 o3) (g1 : g i1 = some (.cells e1 vs1)) (g2 : g i2 = some (.cells e2 vs2)) (g3 : g i3 = some (.cells e3 vs3)) (p1 : L1.part P t1 vs1 o1 = some v1) (p2 : L1.part P t2 vs2 o2 = some v2) (p3 : L1.part P t3 vs3 o3 = some v3) (hq : Q (.tuple #[v1, v2, v3]) g n) : L1.Go P T fn (.code .ret :: k) σ g n m Q :=
  w_ret (v := .tuple #[v1, v2, v3]) (H' := ⟨g, n, m⟩) (by simp [leave, hr, resList, loadAt, h1, h2, h3, g1, g2, g3, p1, p2, p3, packed]) hq
theorem goq_weak {P : Program} {T : Tb} {fn : Func} {k : List It} {σ : Env} {g : Nat → Option Ob} {n m : Nat} {Q Q' : Value → (Nat → Option Ob) → Nat → Prop} (h : L1.Go P T fn k σ g n m Q) (hq : ∀ v g n, Q v g n → Q' v g n) : L1.Go P T fn k σ g n m Q' := h.mono hq
theorem ov_cells (o : Option Nat) (k : Nat) : (ov o k).cells.toList = [ov o k] := by cases o <;> rfl
theorem ov_one (o : Option Nat) (k : Nat) : [ov o k].all one = true := by cases o <;> rfl
def dep (K : Int) (w : Wk) : Prop := ∀ x d, mget w.depth x = some d → 0 ≤ d ∧ d ≤ K
theorem meet_dep {t : Tbl} {w : Wk} {K : Int} (h : dep K w) (name : ByteArray) (deep : Int) (hd : 0 ≤ deep ∧ deep ≤ K) : dep K (meetS t w name deep) := by
  unfold meetS
  split
  · exact h
  · split
    · intro x d hx
      simp only [mget_put] at hx
      split at hx
      · cases hx; exact hd
      · exact h x d hx
    · exact h
theorem meet_keep {t : Tbl} {w : Wk} {k : Nat} {nm : ByteArray} {dp : Int} (h1 : w.names[k]? = some nm) (h2 : mget w.depth nm = some dp) (name : ByteArray) (deep : Int) : (meetS t w name deep).names[k]? = some nm ∧ mget (meetS t w name deep).depth nm = some dp ∧ (meetS t w name deep).missing.length ≤ w.missing.length + 1 := by
  unfold meetS
  split
  · exact ⟨h1, h2, by simp⟩
  · split
    · rename_i h3 h4
      refine ⟨?_, ?_, by simp⟩
      · show (w.names ++ [name])[k]? = some nm
        rw [List.getElem?_append_left (List.getElem?_eq_some_iff.1 h1).1]; exact h1
      · show mget (mput w.depth name deep) nm = some dp
        rw [mget_put, if_neg]
        · exact h2
        · rintro rfl; rw [h2] at h4; cases h4.2
    · exact ⟨h1, h2, by omega⟩
theorem flat_ts (l : List ByteArray) : l.flatMap ts = l.map Value.string := by induction l <;> simp_all [ts]
theorem walk_run (t : Tbl) (root : ByteArray) (i : Nat) (g : Nat → Option Ob) (n m : Nat) (hm : m ≤ n) (hi : i < n) (ht : g i = some (.map (ents Value.string (tv tg) t))) (htl : t.length ≤ 300) (hB : ∀ x v, mget t x = some v → v.length ≤ 100) : Rn Try.prog T 20 [.map (some i), .string root] g n m (fun v g' n' => ∃ o1 o2, v = .tuple #[ov o1 (walkS t root).names.length, .map (some (n + 4)), ov o2 (walkS t root).missing.length] ∧ St g' n n' i t (walkS t root) o1 o2 ∧ ∀ j, j < n → g' j = g j) := by
  refine c_open Try.func20 rfl rfl rfl rfl rfl rfl ?_
  repeat' (first
    | ((with_reducible apply g_op); first
      | ((with_reducible apply g_box); first
        | ((with_reducible apply w_box (vs := [.map _])); exact rfl; exact rfl))
      | ((with_reducible apply w_alloc (ls := [.slice _ _ _])); exact rfl; exact rfl)
      | ((with_reducible apply w_alloc (ls := [.map _])); exact rfl; exact rfl))
    | with_reducible refine w_seq ?_
    | with_reducible refine w_nil ?_
    | with_reducible refine w_region ?_)
  refine w_mkm ?_
  repeat' (first
    | ((with_reducible apply g_op); first
      | ((with_reducible apply g_store); first
        | ((with_reducible apply w_store (us := [.map _]) (ws := [_])); exact rfl; exact rfl; (first | assumption | (simp (disch := omega) only [upd_same, upd_ne]; first | done | assumption | exact rfl) | exact rfl); omega; exact rfl; exact rfl; exact rfl)))
    | with_reducible refine w_seq ?_
    | with_reducible refine w_nil ?_
    | with_reducible refine w_region ?_)
  refine w_mkm ?_
  repeat' (first
    | ((with_reducible apply g_op); first
      | ((with_reducible apply g_move); first
        | ((with_reducible apply w_pure (v := .string _)); exact rfl; exact rfl)
        | ((with_reducible apply w_pure (v := .func _ _ _)); exact rfl; exact rfl))
      | ((with_reducible apply g_assign); first
        | ((with_reducible apply w_pure (v := .func _ _ _)); exact rfl; exact rfl))
      | ((with_reducible apply g_store); first
        | ((with_reducible apply w_store (us := [.map _]) (ws := [_])); exact rfl; exact rfl; (first | assumption | (simp (disch := omega) only [upd_same, upd_ne]; first | done | assumption | exact rfl) | exact rfl); omega; exact rfl; exact rfl; exact rfl))
      | ((with_reducible apply w_alloc (ls := [.map _])); exact rfl; exact rfl)
      | ((with_reducible apply w_pure (v := .func _ _ _)); exact rfl; exact rfl))
    | with_reducible refine w_seq ?_
    | with_reducible refine w_nil ?_
    | with_reducible refine w_region ?_)
  refine w_keep (i := 15) (v := .func (.func 25) #[] #[ptr n 0, ptr (n + 2) 0, ptr (n + 6) 0, ptr (n + 3) 0, ptr (n + 1) 0]) (by simp [put, ev]) ?_
  refine w_rn (meet_run t ⟨[], [], [], []⟩ none none root 0 _ n _ m i hm ?_ (by simp) (by simp)) (fun _ => rfl) ?_
  · refine ⟨hi, by omega, ?_, ?_, ?_, ?_, ?_, ?_, ?_, ?_, rfl, rfl, .inl rfl⟩
    all_goals simp (disch := omega) only [upd_same, upd_ne]
    all_goals first | exact ht | rfl
  · rintro _ g1 n1 ⟨o1, o2, h1, hn1, hf1⟩
    repeat' (first
      | ((with_reducible apply g_op); first
        | ((with_reducible apply g_assign); first
          | ((with_reducible apply w_pure (v := .int _ _)); exact rfl; exact rfl)))
      | with_reducible refine w_seq ?_
      | with_reducible refine w_nil ?_
      | with_reducible refine w_region ?_
      | with_reducible refine w_block ?_)
    have hw0 : (meetS t ⟨[], [], [], []⟩ root 0).ok t := meet_ok ⟨List.nodup_nil, fun x hx => (by cases hx), fun x => (by simp [mget])⟩ root 0
    have hfr : ∀ j, j < n → g1 j = g j := fun j hj => by rw [hf1 j hj]; simp (disch := omega) only [upd_ne]
    clear hf1
    have hm0 : (meetS t ⟨[], [], [], []⟩ root 0).missing.length ≤ 100 * 0 + 1 := by
      unfold meetS
      split
      · simp
      · split <;> simp
    have hd0 : dep ((0 : Nat) : Int) (meetS t ⟨[], [], [], []⟩ root 0) := meet_dep (fun x d hx => by cases hx) root 0 (by omega)
    refine w_while (α := Nat × Wk × Option Nat × Option Nat) (fun x σ g' n' => σ 2 = ptr n 0 ∧ σ 4 = ptr (n + 1) 0 ∧ σ 5 = ptr (n + 2) 0 ∧ σ 6 = ptr (n + 3) 0 ∧ σ 8 = .func (.func 25) #[] #[ptr n 0, ptr (n + 2) 0, ptr (n + 6) 0, ptr (n + 3) 0, ptr (n + 1) 0] ∧ σ 9 = .int .i64 (x.1 : Nat)
      ∧ St g' n n' i t x.2.1 x.2.2.1 x.2.2.2 ∧ x.2.1.ok t ∧ x.1 ≤ x.2.1.names.length ∧ walkGo t (t.length + 1 - x.1) x.1 x.2.1 = walkS t root ∧ (∀ j, j < n → g' j = g j) ∧ x.2.1.missing.length ≤ 100 * x.1 + 1 ∧ dep x.1 x.2.1) (fun x => t.length + 1 - x.1) ?_ (0, meetS t ⟨[], [], [], []⟩ root 0, o1, o2) ⟨rfl, rfl, rfl, rfl, by simp [put, ev], rfl, h1, hw0, Nat.zero_le _, rfl, hfr, hm0, hd0⟩
    rintro ⟨k, w, p1, p2⟩ σ gl nl ⟨k2, k4, k5, k6, k8, k9, hs, hok, hk, hgo, hfl, hml, hdb⟩ ih
    dsimp only at k2 k4 k5 k6 k8 k9 hs hok hk hgo hml hdb
    refine w_keep (i := 2) k2 (w_keep (i := 4) k4 (w_keep (i := 5) k5 (w_keep (i := 6) k6 (w_keep (i := 8) k8 (w_keep (i := 9) k9 ?_)))))
    have hlen := ok_len hok
    have b0 := hs.b0
    have b1 := hs.b1
    have b2 := hs.b2
    have b3 := hs.b3
    obtain ⟨f, hf⟩ : ∃ f, t.length + 1 - k = f + 1 := ⟨t.length - k, by omega⟩
    rw [hf, walkGo] at hgo
    by_cases hlt : k < w.names.length
    · rw [if_pos hlt] at hgo
      cases p1 with
      | none => have h := hs.r1; have h : w.names = [] := h; rw [h] at hlt; simp at hlt
      | some p1 =>
        simp only [ov] at b1
        obtain ⟨nm, hnm⟩ : ∃ nm, w.names[k]? = some nm := ⟨_, List.getElem?_eq_getElem hlt⟩
        obtain ⟨nd, hnd⟩ := Option.isSome_iff_exists.1 (hok.within nm (List.mem_of_getElem? hnm))
        obtain ⟨dp, hdp⟩ := Option.isSome_iff_exists.1 ((hok.seen nm).2 (List.mem_of_getElem? hnm))
        have hgD : w.names.getD k ⟨#[]⟩ = nm := by rw [List.getD_eq_getElem?_getD, hnm]; rfl
        have hrs : roundS t w k = nd.foldl (fun w' s => meetS t w' s (dp + 1)) w := by unfold roundS; rw [hgD, hnd, hdp]; rfl
        rw [hrs] at hgo
        have hndl := hB nm nd hnd
        have hdpk := hdb nm dp hdp
        repeat' (first
          | ((with_reducible apply g_op); first
            | ((with_reducible apply g_load); first
              | ((with_reducible apply w_load (v := .slice _ _ _)); exact rfl; (first | assumption | (simp (disch := omega) only [upd_same, upd_ne]; first | done | assumption | exact rfl) | exact rfl); exact rfl)
              | ((with_reducible apply w_load (v := .map _)); exact rfl; (first | assumption | (simp (disch := omega) only [upd_same, upd_ne]; first | done | assumption | exact rfl) | exact rfl); exact rfl))
            | ((with_reducible apply g_move); first
              | ((with_reducible apply w_pure (v := .int _ _)); exact rfl; exact rfl))
            | ((with_reducible apply g_bin); first
              | ((with_reducible apply w_pure (v := .bool _)); exact rfl; exact rfl))
            | ((with_reducible apply g_call); first
              | ((with_reducible apply w_call (v := .int _ _)); exact rfl))
            | ((with_reducible apply g_ix); first
              | ((with_reducible apply w_ixr (sz := 1)); exact rfl; exact rfl; exact rfl; exact rfl; omega; omega)))
          | with_reducible refine w_seq ?_
          | with_reducible refine w_nil ?_
          | with_reducible refine w_region ?_
          | with_reducible refine w_skip ?_
          | with_reducible refine w_block ?_
          | ((with_reducible apply w_draw); kernel_rfl; kernel_rfl)
          | ((with_reducible apply w_ifd); exact rfl; all_goals (intro hc; first | (exfalso; omega) | skip)))
        refine w_load (v := .string nm) rfl hs.r1.2.2.2 (by rw [part_one (by kernel_rfl), flat_ts, List.getElem?_map, show 0 + ((k : Int)).toNat * 1 = k by omega, hnm]; rfl) ?_
        repeat' (first
          | fail)
        refine w_look (ek := Value.string) (evv := tv tg) (es := t) (key := nm) (z := .slice none 0 0) rfl rfl rfl (keyK_str (by kernel_rfl)) rfl hs.tbl ?_
        rw [hnd]
        repeat' (first
          | ((with_reducible apply g_op); first
            | ((with_reducible apply g_move); first
              | ((with_reducible apply w_pure (v := .int _ _)); exact rfl; exact rfl))
            | ((with_reducible apply g_call); first
              | ((with_reducible apply w_call (v := .int _ _)); exact rfl)))
          | with_reducible refine w_nil ?_
          | with_reducible refine w_block ?_)
        refine w_rng nd (fun j rest (x : Wk × Option Nat × Option Nat) σ g' n' => σ 2 = ptr n 0 ∧ σ 4 = ptr (n + 1) 0 ∧ σ 5 = ptr (n + 2) 0 ∧ σ 6 = ptr (n + 3) 0 ∧ σ 8 = .func (.func 25) #[] #[ptr n 0, ptr (n + 2) 0, ptr (n + 6) 0, ptr (n + 3) 0, ptr (n + 1) 0] ∧ σ 9 = .int .i64 (k : Nat) ∧ σ 29 = tv tg nd ∧ σ 30 = .int .i64 nd.length ∧ σ 31 = .int .i64 (j : Nat)
          ∧ St g' n n' i t x.1 x.2.1 x.2.2 ∧ x.1.ok t ∧ x.1.names[k]? = some nm ∧ mget x.1.depth nm = some dp ∧ rest.foldl (fun w' s => meetS t w' s (dp + 1)) x.1 = nd.foldl (fun w' s => meetS t w' s (dp + 1)) w ∧ (∀ j, j < n → g' j = g j) ∧ x.1.missing.length ≤ 100 * k + 1 + j ∧ dep ((k : Int) + 1) x.1) ?_ ?_ (w, some p1, p2) ⟨rfl, rfl, rfl, rfl, rfl, rfl, rfl, rfl, rfl, hs, hok, hnm, hdp, rfl, hfl, by dsimp only; omega, fun x d hx => by have := hdb x d hx; omega⟩
        · rintro j s rest ⟨w', q1, q2⟩ σ g2 n2 hx hjl ⟨k2, k4, k5, k6, k8, k9, k29, k30, k31, hs', hok', hnm', hdp', hfo, hfl', hml', hdb'⟩ ih2
          dsimp only at hs' hok' hnm' hdp' hfo hml' hdb'
          refine w_keep (i := 2) k2 (w_keep (i := 4) k4 (w_keep (i := 5) k5 (w_keep (i := 6) k6 (w_keep (i := 8) k8 (w_keep (i := 9) k9 (w_keep (i := 29) k29 (w_keep (i := 30) k30 (w_keep (i := 31) k31 ?_))))))))
          have c1 := hs'.b1
          have c2 := hs'.b2
          have hlen' := ok_len hok'
          rw [List.foldl_cons] at hfo
          cases q1 with
          | none => have h := hs'.r1; have h : w'.names = [] := h; rw [h] at hnm'; simp at hnm'
          | some q1 =>
            simp only [ov] at c1
            have hkl := (List.getElem?_eq_some_iff.1 hnm').1
            repeat' (first
              | ((with_reducible apply g_op); first
                | ((with_reducible apply g_load); first
                  | ((with_reducible apply w_fl (v := .string _)); exact rfl; exact (fun _ => rfl); assumption; exact rfl)
                  | ((with_reducible apply w_load (v := .slice _ _ _)); exact rfl; (first | assumption | (simp (disch := omega) only [upd_same, upd_ne]; first | done | assumption | exact rfl) | exact rfl); exact rfl)
                  | ((with_reducible apply w_load (v := .map _)); exact rfl; (first | assumption | (simp (disch := omega) only [upd_same, upd_ne]; first | done | assumption | exact rfl) | exact rfl); exact rfl))
                | ((with_reducible apply g_move); first
                  | ((with_reducible apply w_pure (v := .int _ _)); exact rfl; exact rfl)
                  | ((with_reducible apply w_pure (v := .string _)); exact rfl; exact rfl)
                  | ((with_reducible apply w_pure (v := .func _ _ _)); exact rfl; exact rfl))
                | ((with_reducible apply g_bin); first
                  | ((with_reducible apply w_pure (v := .bool _)); exact rfl; exact rfl))
                | ((with_reducible apply g_assign); first
                  | ((with_reducible apply w_pure (v := .string _)); exact rfl; exact rfl))
                | ((with_reducible apply g_ix); first
                  | ((with_reducible apply w_fx (sz := 1)); exact rfl; exact rfl; exact rfl; exact rfl; exact rfl; exact (fun _ => rfl); assumption; exact rfl)
                  | ((with_reducible apply w_ixr (sz := 1)); exact rfl; exact rfl; exact rfl; exact rfl; omega; omega)))
              | with_reducible refine w_seq ?_
              | with_reducible refine w_nil ?_
              | with_reducible refine w_region ?_
              | with_reducible refine w_skip ?_
              | with_reducible refine w_block ?_
              | ((with_reducible apply w_draw); kernel_rfl; kernel_rfl)
              | ((with_reducible apply w_ifd); exact rfl; all_goals (intro hc; first | (exfalso; omega) | skip)))
            refine w_load (v := .string nm) rfl hs'.r1.2.2.2 (by rw [part_one (by kernel_rfl), flat_ts, List.getElem?_map, show 0 + ((k : Int)).toNat * 1 = k by omega, hnm']; rfl) ?_
            repeat' (first
              | fail)
            refine w_look (ek := Value.string) (evv := Value.int .i64) (es := w'.depth) (key := nm) (z := .int .i64 0) rfl rfl rfl (keyK_str (by kernel_rfl)) rfl hs'.b4 ?_
            rw [hdp']
            repeat' (first
              | ((with_reducible apply g_op); first
                | ((with_reducible apply g_bin); first
                  | ((with_reducible apply w_wrap); exact rfl; exact rfl; first | exact i64_in _ (by omega) | exact u64_in _ (by omega) | exact u8_in _ (by omega)))))
            refine w_rn (meet_run t w' (some q1) q2 s (dp + 1) _ n _ m i hm hs' (by omega) (by omega)) (fun _ => rfl) ?_
            rintro _ g3 n3 ⟨r1, r2, h3, hn3, hf3⟩
            obtain ⟨y1, y2, y3⟩ := meet_keep (t := t) hnm' hdp' s (dp + 1)
            repeat' (first
              | ((with_reducible apply g_op); first
                | ((with_reducible apply g_move); first
                  | ((with_reducible apply w_pure (v := .int _ _)); exact rfl; exact rfl))
                | ((with_reducible apply g_bin); first
                  | ((with_reducible apply w_wrap); exact rfl; exact rfl; first | exact i64_in _ (by omega) | exact u64_in _ (by omega) | exact u8_in _ (by omega))))
              | with_reducible refine w_nil ?_
              | with_reducible refine w_region ?_
              | with_reducible refine w_blk ?_)
            exact ih2 (meetS t w' s (dp + 1), r1, r2) _ _ _ ⟨rfl, rfl, rfl, rfl, rfl, rfl, rfl, rfl, rfl, h3, meet_ok hok' _ _, y1, y2, hfo, fun j hj => (hf3 j hj).trans (hfl' j hj), by dsimp only; omega, meet_dep hdb' _ _ (by omega)⟩
        · rintro ⟨w', q1, q2⟩ σ g2 n2 ⟨k2, k4, k5, k6, k8, k9, k29, k30, k31, hs', hok', hnm', hdp', hfo, hfl', hml', hdb'⟩
          dsimp only at hs' hok' hnm' hdp' hfo hml' hdb'
          refine w_keep (i := 2) k2 (w_keep (i := 4) k4 (w_keep (i := 5) k5 (w_keep (i := 6) k6 (w_keep (i := 8) k8 (w_keep (i := 9) k9 (w_keep (i := 29) k29 (w_keep (i := 30) k30 (w_keep (i := 31) k31 ?_))))))))
          have hfo : w' = nd.foldl (fun w' s => meetS t w' s (dp + 1)) w := hfo
          rw [← hfo] at hgo
          have hkl := (List.getElem?_eq_some_iff.1 hnm').1
          repeat' (first
            | ((with_reducible apply g_op); first
              | ((with_reducible apply g_move); first
                | ((with_reducible apply w_pure (v := .int _ _)); exact rfl; exact rfl))
              | ((with_reducible apply g_bin); first
                | ((with_reducible apply w_wrap); exact rfl; exact rfl; first | exact i64_in _ (by omega) | exact u64_in _ (by omega) | exact u8_in _ (by omega))
                | ((with_reducible apply w_pure (v := .bool _)); exact rfl; exact rfl))
              | ((with_reducible apply g_assign); first
                | ((with_reducible apply w_pure (v := .int _ _)); exact rfl; exact rfl)))
            | with_reducible refine w_seq ?_
            | with_reducible refine w_nil ?_
            | with_reducible refine w_region ?_
            | with_reducible refine w_blk ?_
            | ((with_reducible apply w_exit); exact rfl)
            | ((with_reducible apply w_ifd); exact rfl; all_goals (intro hc; first | (exfalso; omega) | skip)))
          exact ih (k + 1, w', q1, q2) _ _ _ (by dsimp only; omega) ⟨rfl, rfl, rfl, rfl, rfl, rfl, hs', hok', by dsimp only; omega, by dsimp only; rw [show t.length + 1 - (k + 1) = f by omega]; exact hgo, hfl', by dsimp only; omega, by dsimp only; push_cast; exact hdb'⟩
    · rw [if_neg hlt] at hgo
      subst hgo
      have r1 := hs.r1
      have r2 := hs.r2
      have hn7 := hs.hn
      have c2 := hs.b2
      refine goq_weak (Q := fun v g' n' => v = .tuple #[ov p1 (walkS t root).names.length, .map (some (n + 4)), ov p2 (walkS t root).missing.length] ∧ g' = gl ∧ n' = nl) ?_ ?_
      · cases p1 <;> simp only [ov] at b1 ⊢ <;> (
          repeat' (first
            | ((with_reducible apply g_op); first
              | ((with_reducible apply g_load); first
                | ((with_reducible apply w_load (v := .slice _ _ _)); exact rfl; (first | assumption | (simp (disch := omega) only [upd_same, upd_ne]; first | done | assumption | exact rfl) | exact rfl); exact rfl))
              | ((with_reducible apply g_move); first
                | ((with_reducible apply w_pure (v := .int _ _)); exact rfl; exact rfl))
              | ((with_reducible apply g_bin); first
                | ((with_reducible apply w_pure (v := .bool _)); exact rfl; exact rfl))
              | ((with_reducible apply g_call); first
                | ((with_reducible apply w_call (v := .int _ _)); exact rfl)))
            | with_reducible refine w_seq ?_
            | with_reducible refine w_nil ?_
            | with_reducible refine w_region ?_
            | ((with_reducible apply w_exit); exact rfl)
            | ((with_reducible apply w_no); exact rfl)
            | ((with_reducible apply w_ifd); exact rfl; all_goals (intro hc; first | (exfalso; omega) | skip)))
          refine w_sg (by kernel_rfl) (by kernel_rfl) ?_
          refine sg_load (i := n + 1) (off := 0) rfl b1 (part_one (P := Try.prog) (t := 25) (by kernel_rfl)) ?_
          refine sg_load (i := n + 2) (off := 0) rfl c2 (part_one (P := Try.prog) (t := 50) (by kernel_rfl)) ?_
          refine sg_load (i := n + 3) (off := 0) rfl b3 (part_one (P := Try.prog) (t := 25) (by kernel_rfl)) ?_
          refine sg_store (i := n + 1) (off := 0) (us := [_]) rfl rfl b1 (by omega) (by kernel_rfl) rfl rfl ?_
          refine sg_store (i := n + 2) (off := 0) (us := [_]) rfl rfl c2 (by omega) (by kernel_rfl) rfl rfl ?_
          refine sg_store (i := n + 3) (off := 0) (us := [_]) rfl (ov_cells p2 _) b3 (by omega) (by kernel_rfl) (ov_one _ _) rfl ?_
          refine sg_nil ?_
          refine w_ret3 (i1 := n + 1) (i2 := n + 2) (i3 := n + 3) (o1 := 0) (o2 := 0) (o3 := 0) rfl rfl rfl rfl b1 c2 b3 (part_one (P := Try.prog) (t := 25) (by kernel_rfl)) (part_one (P := Try.prog) (t := 50) (by kernel_rfl)) (part_one (P := Try.prog) (t := 25) (by kernel_rfl)) ⟨rfl, rfl, rfl⟩)
      · rintro v g' n' ⟨rfl, rfl, rfl⟩
        exact ⟨_, _, rfl, hs, hfl⟩
end Go.Proofs.Ytgljofdhdnhekaa.L

