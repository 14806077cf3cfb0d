/- ElfBroken: walked, and its plain law. -/
import Derived.Test.Ytohfbnpmhlpkhaac08Z
import Derived.Test.YtohfbnpmhlpkhaaL1U
namespace Go.Proofs.Ytohfbnpmhlpkhaa.L.ElfBroken
open Go.L1 Go.IntWalk Go.Proofs.Ytohfbnpmhlpkhaa.L Oct
set_option linter.unusedVariables false
set_option linter.unusedSimpArgs false
set_option maxHeartbeats 4000000
set_option maxRecDepth 20000
def tab : Tb := L.T
theorem tabok : ∀ C : Cx, C.P = Try.prog → TbOk C tab := L.tabok
theorem like_fill {h : ByteArray} {Z : Int} (hz : (h.size : Int) ≤ Z) : likeS (fillV h Z) h = true ∧ ((fillV h Z).size : Int) = Z := by
  unfold fillV
  by_cases hc : (h.size : Int) ≥ max Z 0
  · rw [if_pos hc]
    have e : (h.extract 0 (max Z 0).toNat).size = h.size := by rw [ByteArray.size_extract]; omega
    refine ⟨decide_eq_true ⟨by omega, fun i hi => .inl ?_⟩, by omega⟩
    rw [part_bt _ _ _ _ (by omega), Nat.zero_add]
  · rw [if_neg hc]
    have hs : (h ++ zeroB ((max Z 0).toNat - h.size)).size = h.size + ((max Z 0).toNat - h.size) := by rw [ByteArray.size_append, zeroB_size]
    exact ⟨like_app _ _, by omega⟩
theorem ok_kind {k e z : Int} {l : List Sg} (h : k ≠ 2 ∧ k ≠ 3) : okS ⟨k, e, l⟩ z = false := by
  unfold okS
  rw [decide_eq_false (by dsimp only; omega), Bool.false_and]
theorem ok_seg {k e z : Int} {s : Sg} {r : List Sg} (h : segS s z = false) : okS ⟨k, e, s :: r⟩ z = false := by
  unfold okS
  dsimp only
  rw [chk, if_neg (by rw [h]; simp)]
  exact Bool.and_false _
theorem ok_noload {k e z : Int} {s : Sg} (h : s.ty ≠ 1 ∧ s.ty ≠ 2) : okS ⟨k, e, [s]⟩ z = false := by
  unfold okS
  dsimp only
  rw [chk]
  split
  · rw [if_neg h.1, if_neg h.2, chk]
    exact Bool.and_false _
  · exact Bool.and_false _
theorem chk_over (a : List Sg) (z e : Int) (x : Sg) (hx : x.ty = 1) : ∀ (l : List Sg) (lo dy en : Int) (et : Bool), (∀ t ∈ l, t.ty = 1 ∧ 0 ≤ t.me) → firstS x < en → chk a z e (l ++ [x]) lo dy en et = none
  | [], lo, dy, en, et, _, h => by
    rw [List.nil_append, chk]
    repeat' split
    all_goals first | rfl | (exfalso; omega)
  | s :: r, lo, dy, en, et, hl, h => by
    obtain ⟨h1, h2⟩ := hl s (List.mem_cons_self ..)
    rw [List.cons_append, chk, if_pos h1]
    split
    · split
      · rename_i h3
        exact chk_over a z e x hx r _ _ _ _ (fun t ht => hl t (List.mem_cons_of_mem _ ht)) (by unfold firstS at h h3; unfold firstS lastS; omega)
      · rfl
    · rfl
theorem ok_over {k e z : Int} {s : Sg} {r : List Sg} (hr : ∀ t ∈ s :: r, t.ty = 1 ∧ 1 ≤ t.me) : okS ⟨k, e, s :: (r ++ [s])⟩ z = false := by
  obtain ⟨h1, h2⟩ := hr s (List.mem_cons_self ..)
  unfold okS
  dsimp only
  have hn : chk (s :: (r ++ [s])) z e (s :: (r ++ [s])) 0 0 0 (decide (k = 3 ∧ e = 0)) = none := by
    rw [chk, if_pos h1]
    split
    · split
      · exact chk_over _ z e s h1 r _ _ _ _ (fun t ht => by have := hr t (List.mem_cons_of_mem _ ht); omega) (by unfold firstS lastS; omega)
      · rfl
    · rfl
  rw [hn]
  exact Bool.and_false _
theorem chk_et (a : List Sg) (z e : Int) : ∀ (l : List Sg) (lo dy en : Int), (∀ t ∈ l, beginsS t e = false) → endS (chk a z e l lo dy en false) = false
  | [], lo, dy, en, _ => by rw [chk]; unfold endS; simp
  | s :: r, lo, dy, en, h => by
    have ih := fun lo dy en => chk_et a z e r lo dy en (fun t ht => h t (List.mem_cons_of_mem _ ht))
    rw [chk, h s (List.mem_cons_self ..), Bool.or_false]
    repeat' split
    all_goals first | exact ih _ _ _ | rfl
theorem ok_entry {k e z : Int} {l : List Sg} (he : e ≠ 0) (h : ∀ t ∈ l, beginsS t e = false) : okS ⟨k, e, l⟩ z = false := by
  unfold okS
  dsimp only
  rw [decide_eq_false (show ¬ (k = 3 ∧ e = 0) from fun h => he h.2), chk_et l z e l 0 0 0 h, Bool.and_false]
theorem rd_ls (ls tail : List Sg) : rdCells ((ls ++ tail).flatMap Sg.c) 0 (ls.length * 7) = some (ls.flatMap Sg.c) := by
  have h1 : (ls.flatMap Sg.c).length = ls.length * 7 := flat_len (enc := Sg.c) (sz := 7) (fun _ => rfl) ls
  unfold rdCells
  rw [List.flatMap_append, if_pos (by rw [List.length_append]; omega), List.drop_zero, ← h1, List.take_left']
  rfl
theorem ch_all : ∀ {l : List Sg} {pg off z : Int}, Ch l pg off z → 0 ≤ pg → ∀ t ∈ l, t.ty = 1 ∧ 1 ≤ t.me ∧ 0 ≤ t.ad ∧ t.ad + t.me ≤ (pg + 4 * l.length) * 64
  | [], _, _, _, _, _, t, ht => by cases ht
  | s :: r, pg, off, z, h, hp, t, ht => by
    obtain ⟨i, p, q1, q2, q3⟩ := h
    rw [List.length_cons]
    rcases List.mem_cons.1 ht with rfl | ht
    · push_cast; omega
    · have := ch_all q3 (by omega) t ht; push_cast; omega
theorem fine_mk {k e k' e' : Int} {s s' : Sg} {r : List Sg} (h : Im.fine ⟨k, e, s :: r⟩) (hk : 0 ≤ k' ∧ k' ≤ 65535) (he : 0 ≤ e' ∧ e' ≤ 1099511627776) (hs : s'.fine) : Im.fine ⟨k', e', s' :: r⟩ := ⟨hk, he, h.2.2.1, fun t ht => by
  rcases List.mem_cons.1 ht with rfl | ht
  · exact hs
  · exact h.2.2.2 t (List.mem_cons_of_mem _ ht)⟩
theorem walk (kind entry : Int) (L : List Q4) (what : Int) (g : Nat → Option Ob) (n : Nat) : Rn Try.prog T 5 [.agg #[.int .i64 kind, .int .i64 entry, fz tg L.length (L.flatMap Q4c)], .int .i64 what] g n n (fun v _ _ => v = .bool true) := by
  refine c_open Try.func5 rfl rfl rfl rfl rfl rfl ?_
  have hch := imgS_ch kind entry L
  have him := image_run kind entry L
  have hent := fun k e s r z => @imgS_ent kind entry L k e s r z
  generalize imgS kind entry L = I at hch him hent
  obtain ⟨⟨k, e, l⟩, z⟩ := I
  dsimp only at hch him
  have hz1 := ch_le hch.1
  have hz2 := ch_top hch.1
  have hl4 := hch.2
  obtain ⟨Z, rfl⟩ : ∃ Z : Nat, z = (Z : Int) := ⟨z.toNat, by omega⟩
  repeat' (first
    | ((with_reducible apply g_op); first
      | ((with_reducible apply g_assign); first
        | ((with_reducible apply w_pure (v := .bool _)); exact rfl; exact rfl))
      | ((with_reducible apply g_box); first
        | ((with_reducible apply w_box (vs := [_, _, _])); exact rfl; exact rfl)))
    | with_reducible refine w_seq ?_
    | with_reducible refine w_nil ?_
    | with_reducible refine w_region ?_)
  refine w_rf awake_run (fun _ => rfl) sn_nil ?_
  rintro _ rfl
  repeat' (first
    | ((with_reducible apply g_op); first
      | ((with_reducible apply g_load); first
        | ((with_reducible apply w_load (v := .agg #[_, _, _])); exact rfl; (first | assumption | (simp (disch := omega) only [upd_same, upd_ne]; first | done | assumption | exact rfl) | exact rfl); exact rfl))
      | ((with_reducible apply g_assign); first
        | ((with_reducible apply w_pure (v := .bool _)); exact rfl; exact rfl)))
    | with_reducible refine w_seq ?_
    | with_reducible refine w_nil ?_
    | with_reducible refine w_region ?_)
  refine w_rn (him _ _ _) (fun _ => rfl) ?_
  rintro _ g1 n1 ⟨o, rfl, ho, hfr, hn1⟩
  rw [own_ov ho]
  cases l with
  | nil =>
    repeat' (first
      | ((with_reducible apply g_op); first
        | ((with_reducible apply g_load); first
          | ((with_reducible apply w_load (v := .slice _ _ _)); exact rfl; (first | assumption | (simp (disch := omega) only [upd_same, upd_ne]; first | done | assumption | exact rfl) | exact rfl); exact rfl))
        | ((with_reducible apply g_move); first
          | ((with_reducible apply w_pure (v := .bool _)); exact rfl; exact rfl)
          | ((with_reducible apply w_pure (v := .tuple _)); exact rfl; exact rfl))
        | ((with_reducible apply g_bin); first
          | ((with_reducible apply w_pure (v := .bool _)); exact rfl; exact rfl))
        | ((with_reducible apply g_fld); first
          | ((with_reducible apply w_fldp (o := 2)); exact rfl; exact rfl; exact rfl; exact (by decide)))
        | ((with_reducible apply g_assign); first
          | ((with_reducible apply w_pure (v := .int _ _)); exact rfl; exact rfl)
          | ((with_reducible apply w_pure (v := .bool _)); exact rfl; exact rfl))
        | ((with_reducible apply g_call); first
          | ((with_reducible apply w_call (v := .int _ _)); exact rfl))
        | ((with_reducible apply g_store); first
          | ((with_reducible apply w_store (us := [_, _, _]) (ws := [_, _, _])); exact rfl; exact rfl; (first | assumption | (simp (disch := omega) only [upd_same, upd_ne]; first | done | assumption | exact rfl) | exact rfl); omega; exact rfl; exact rfl; exact rfl))
        | ((with_reducible apply w_alloc (ls := [_, _, _])); exact rfl; exact rfl)
        | ((with_reducible apply w_pure (v := .int _ _)); exact rfl; exact rfl)
        | ((with_reducible apply w_pure (v := .agg _)); exact rfl; exact rfl))
      | with_reducible refine w_seq ?_
      | with_reducible refine w_nil ?_
      | with_reducible refine w_region ?_
      | ((with_reducible apply w_yes); exact rfl)
      | ((with_reducible apply w_ret (v := .bool _)); exact rfl))
    all_goals rfl
  | cons s r =>
    have hl0 : ((s :: r).length : Int) ≥ 1 := by rw [List.length_cons]; push_cast; omega
    have hen := hent k e s r Z rfl
    have hfine := fine_img hch.1 hl4 hen
    have hall := ch_all hch.1 (by omega)
    obtain ⟨ii, p, q1, q2, q3⟩ := id hch.1
    cases o with
    | none => exact absurd ho (by intro h; cases h)
    | some o =>
      obtain ⟨ho1, ho2, ho3, hrow⟩ := id ho
      rw [show Value.slice (raOf (some o)) (s :: r).length (s :: r).length = slc o 0 (s :: r).length from rfl]
      have hta := tmod_in what (c := 12) (by decide)
      repeat' (first
        | ((with_reducible apply g_op); first
          | ((with_reducible apply g_load); first
            | ((with_reducible apply w_load (v := .slice _ _ _)); exact rfl; (first | assumption | (simp (disch := omega) only [upd_same, upd_ne]; first | done | assumption | exact rfl) | exact rfl); exact rfl)
            | ((with_reducible apply w_load (v := .agg #[_, _, _, _, _, _, _])); exact rfl; (first | assumption | (simp (disch := omega) only [upd_same, upd_ne]; first | done | assumption | exact rfl) | exact rfl); exact rfl))
          | ((with_reducible apply g_move); first
            | ((with_reducible apply w_pure (v := .int _ _)); exact rfl; exact rfl)
            | ((with_reducible apply w_pure (v := .tuple _)); exact rfl; exact rfl))
          | ((with_reducible apply g_bin); first
            | ((with_reducible apply w_mod); exact rfl; exact rfl; exact rfl; exact rfl; exact rfl; omega; omega)
            | ((with_reducible apply w_wrap); exact rfl; exact rfl; first | exact i64_in _ (by omega) | exact u64_in _ (by omega) | exact u8_in _ (by omega))
            | ((with_reducible apply w_pure (v := .bool _)); exact rfl; exact rfl)
            | ((with_reducible apply w_pure (v := .int _ _)); exact rfl; exact rfl))
          | ((with_reducible apply g_fld); first
            | ((with_reducible apply w_fldp (o := 2)); exact rfl; exact rfl; exact rfl; exact (by decide)))
          | ((with_reducible apply g_assign); first
            | ((with_reducible apply w_pure (v := .int _ _)); exact rfl; exact rfl))
          | ((with_reducible apply g_call); first
            | ((with_reducible apply w_call (v := .int _ _)); exact rfl))
          | ((with_reducible apply g_store); first
            | ((with_reducible apply w_store (us := [_, _, _]) (ws := [_, _, _])); exact rfl; exact rfl; (first | assumption | (simp (disch := omega) only [upd_same, upd_ne]; first | done | assumption | exact rfl) | exact rfl); omega; exact rfl; exact rfl; exact rfl)
            | ((with_reducible apply w_store (us := [_, _, _, _, _, _, _]) (ws := [_, _, _, _, _, _, _])); exact rfl; exact rfl; (first | assumption | (simp (disch := omega) only [upd_same, upd_ne]; first | done | assumption | exact rfl) | exact rfl); omega; exact rfl; exact rfl; exact rfl))
          | ((with_reducible apply g_ix); first
            | ((with_reducible apply w_ixr (sz := 7)); exact rfl; exact rfl; exact rfl; exact rfl; omega; omega))
          | ((with_reducible apply w_alloc (ls := [_, _, _])); exact rfl; exact rfl)
          | ((with_reducible apply w_alloc (ls := [_, _, _, _, _, _, _])); exact rfl; exact rfl)
          | ((with_reducible apply w_pure (v := .int _ _)); exact rfl; exact rfl)
          | ((with_reducible apply w_pure (v := .agg _)); exact rfl; exact rfl))
        | with_reducible refine w_seq ?_
        | with_reducible refine w_nil ?_
        | with_reducible refine w_region ?_
        | with_reducible refine w_skip ?_
        | ((with_reducible apply w_no); exact rfl))
      obtain ⟨kk, hkk, hk12⟩ : ∃ kk : Nat, (what.tmod 12 + 12) % 12 = (kk : Int) ∧ kk < 12 := ⟨((what.tmod 12 + 12) % 12).toNat, by omega, by omega⟩
      rw [hkk]
      refine w_gen (fun G N => G n1 = some (Ob.cells 24 [Value.int .i64 k, Value.int .i64 e, slc o 0 (s :: r).length]) ∧ G (n1 + 1) = some (Ob.cells 43 s.c) ∧ G o = some (Ob.cells 43 ((s :: r).flatMap Sg.c)) ∧ N = n1 + 2) ⟨by simp (disch := omega) only [upd_ne, upd_same], by simp (disch := omega) only [upd_same]; rfl, by simp (disch := omega) only [upd_ne]; exact hrow, rfl⟩ ?_
      rintro G _ ⟨hG0, hG1, hGo, rfl⟩
      refine w_meetK [(32, 87)] (fun σ' g' n' => ∃ (k' e' : Int) (s' : Sg) (l2 tail : List Sg) (Q : Nat), g' n1 = some (Ob.cells 24 [Value.int .i64 k', Value.int .i64 e', slc Q 0 (s' :: l2).length]) ∧ g' (n1 + 1) = some (Ob.cells 43 s'.c) ∧ g' Q = some (Ob.cells 43 ((s :: (l2 ++ tail)).flatMap Sg.c)) ∧ (n < Q ∧ Q ≠ n1 ∧ Q ≠ n1 + 1 ∧ Q < n' ∧ n1 + 2 ≤ n') ∧ okS ⟨k', e', s' :: l2⟩ Z = false ∧ (kk = 11 ∨ Im.fine ⟨k', e', s' :: l2⟩) ∧ Im.rg ⟨k', e', s' :: l2⟩ ∧ (s' :: l2).length ≤ 5) ?_ ?_
      · intro K R hK
        unfold Sg.c at hG1
        have hkc : kk = 0 ∨ kk = 1 ∨ kk = 2 ∨ kk = 3 ∨ kk = 4 ∨ kk = 5 ∨ kk = 6 ∨ kk = 7 ∨ kk = 8 ∨ kk = 9 ∨ kk = 10 ∨ kk = 11 := by omega
        rcases hkc with rfl | rfl | rfl | rfl | rfl | rfl | rfl | rfl | rfl | rfl | rfl | rfl
        · repeat' (first
            | ((with_reducible apply g_op); first
              | ((with_reducible apply g_bin); first
                | ((with_reducible apply w_pure (v := .bool _)); exact rfl; exact rfl))
              | ((with_reducible apply g_fld); first
                | ((with_reducible apply w_fldp (o := 0)); exact rfl; exact rfl; exact rfl; exact (by decide)))
              | ((with_reducible apply g_assign); first
                | ((with_reducible apply w_pure (v := .bool _)); exact rfl; exact rfl))
              | ((with_reducible apply g_store); first
                | ((with_reducible apply w_store (us := [.int _ _]) (ws := [_, _, _])); exact rfl; exact rfl; (first | assumption | (simp (disch := omega) only [upd_same, upd_ne]; first | done | assumption | exact rfl) | exact rfl); omega; exact rfl; exact rfl; exact rfl)))
            | with_reducible refine w_seq ?_
            | with_reducible refine w_nil ?_
            | with_reducible refine w_region ?_
            | with_reducible refine w_block ?_
            | with_reducible refine w_blk ?_
            | ((with_reducible apply w_yes); exact rfl))
          have hok : okS ⟨1, e, s :: r⟩ Z = false := ok_kind (by omega)
          have hfi : Im.fine ⟨1, e, s :: r⟩ := fine_mk hfine (by omega) (by omega) (hfine.2.2.2 s (List.mem_cons_self ..))
          exact hK _ _ _ (by repeat' (first | with_reducible exact Fr.mix | with_reducible exact Fr.rfl' | with_reducible refine Fr.put ?_ ?_ | with_reducible refine Fr.mix2 ?_ ?_ | with_reducible refine Fr.put0 ?_ | exact rfl)) ⟨1, e, s, r, [], o, by simp (disch := omega) only [upd_ne, upd_same] <;> first | exact hG0 | rfl, by simp (disch := omega) only [upd_ne, upd_same] <;> first | exact hG1 | rfl, by simp (disch := omega) only [upd_ne]; rw [List.append_nil]; exact hGo, by omega, hok, Or.inr hfi, fine_rg hfi, by rw [List.length_cons] at *; omega⟩
        · repeat' (first
            | ((with_reducible apply g_op); first
              | ((with_reducible apply g_bin); first
                | ((with_reducible apply w_pure (v := .bool _)); exact rfl; exact rfl))
              | ((with_reducible apply g_fld); first
                | ((with_reducible apply w_fldp (o := 6)); exact rfl; exact rfl; exact rfl; exact (by decide)))
              | ((with_reducible apply g_assign); first
                | ((with_reducible apply w_pure (v := .bool _)); exact rfl; exact rfl))
              | ((with_reducible apply g_store); first
                | ((with_reducible apply w_store (us := [.int _ _]) (ws := [_, _, _, _, _, _, _])); exact rfl; exact rfl; (first | assumption | (simp (disch := omega) only [upd_same, upd_ne]; first | done | assumption | exact rfl) | exact rfl); omega; exact rfl; exact rfl; exact rfl)))
            | with_reducible refine w_seq ?_
            | with_reducible refine w_nil ?_
            | with_reducible refine w_region ?_
            | with_reducible refine w_block ?_
            | with_reducible refine w_blk ?_
            | ((with_reducible apply w_yes); exact rfl)
            | ((with_reducible apply w_no); exact rfl))
          have hok : okS ⟨k, e, ⟨s.ty, s.fl, s.off, s.ad, s.sz, s.me, (128)⟩ :: r⟩ Z = false := ok_seg (by unfold segS; exact decide_eq_false (by dsimp only; omega))
          have hfi : Im.fine ⟨k, e, ⟨s.ty, s.fl, s.off, s.ad, s.sz, s.me, (128)⟩ :: r⟩ := fine_mk hfine (by omega) (by omega) (by unfold Sg.fine; dsimp only; omega)
          exact hK _ _ _ (by repeat' (first | with_reducible exact Fr.mix | with_reducible exact Fr.rfl' | with_reducible refine Fr.put ?_ ?_ | with_reducible refine Fr.mix2 ?_ ?_ | with_reducible refine Fr.put0 ?_ | exact rfl)) ⟨k, e, ⟨s.ty, s.fl, s.off, s.ad, s.sz, s.me, (128)⟩, r, [], o, by simp (disch := omega) only [upd_ne, upd_same] <;> first | exact hG0 | rfl, by simp (disch := omega) only [upd_ne, upd_same] <;> first | exact hG1 | rfl, by simp (disch := omega) only [upd_ne]; rw [List.append_nil]; exact hGo, by omega, hok, Or.inr hfi, fine_rg hfi, by rw [List.length_cons] at *; omega⟩
        · repeat' (first
            | ((with_reducible apply g_op); first
              | ((with_reducible apply g_load); first
                | ((with_reducible apply w_load (v := .int _ _)); exact rfl; (first | assumption | (simp (disch := omega) only [upd_same, upd_ne]; first | done | assumption | exact rfl) | exact rfl); exact rfl))
              | ((with_reducible apply g_move); first
                | ((with_reducible apply w_pure (v := .int _ _)); exact rfl; exact rfl))
              | ((with_reducible apply g_bin); first
                | ((with_reducible apply w_mod); exact rfl; exact rfl; exact rfl; exact rfl; exact rfl; omega; omega)
                | ((with_reducible apply w_wrap); exact rfl; exact rfl; first | exact i64_in _ (by omega) | exact u64_in _ (by omega) | exact u8_in _ (by omega))
                | ((with_reducible apply w_pure (v := .bool _)); exact rfl; exact rfl))
              | ((with_reducible apply g_fld); first
                | ((with_reducible apply w_fldp (o := 2)); exact rfl; exact rfl; exact rfl; exact (by decide)))
              | ((with_reducible apply g_assign); first
                | ((with_reducible apply w_pure (v := .bool _)); exact rfl; exact rfl))
              | ((with_reducible apply g_store); first
                | ((with_reducible apply w_store (us := [.int _ _]) (ws := [_, _, _, _, _, _, _])); exact rfl; exact rfl; (first | assumption | (simp (disch := omega) only [upd_same, upd_ne]; first | done | assumption | exact rfl) | exact rfl); omega; exact rfl; exact rfl; exact rfl)))
            | with_reducible refine w_seq ?_
            | with_reducible refine w_nil ?_
            | with_reducible refine w_region ?_
            | with_reducible refine w_block ?_
            | with_reducible refine w_blk ?_
            | ((with_reducible apply w_yes); exact rfl)
            | ((with_reducible apply w_no); exact rfl))
          have hok : okS ⟨k, e, ⟨s.ty, s.fl, ((Z : Int) + 64 + s.off % 64), s.ad, s.sz, s.me, s.al⟩ :: r⟩ Z = false := ok_seg (by unfold segS; exact decide_eq_false (by dsimp only; omega))
          have hfi : Im.fine ⟨k, e, ⟨s.ty, s.fl, ((Z : Int) + 64 + s.off % 64), s.ad, s.sz, s.me, s.al⟩ :: r⟩ := fine_mk hfine (by omega) (by omega) (by unfold Sg.fine; dsimp only; omega)
          exact hK _ _ _ (by repeat' (first | with_reducible exact Fr.mix | with_reducible exact Fr.rfl' | with_reducible refine Fr.put ?_ ?_ | with_reducible refine Fr.mix2 ?_ ?_ | with_reducible refine Fr.put0 ?_ | exact rfl)) ⟨k, e, ⟨s.ty, s.fl, ((Z : Int) + 64 + s.off % 64), s.ad, s.sz, s.me, s.al⟩, r, [], o, by simp (disch := omega) only [upd_ne, upd_same] <;> first | exact hG0 | rfl, by simp (disch := omega) only [upd_ne, upd_same] <;> first | exact hG1 | rfl, by simp (disch := omega) only [upd_ne]; rw [List.append_nil]; exact hGo, by omega, hok, Or.inr hfi, fine_rg hfi, by rw [List.length_cons] at *; omega⟩
        · repeat' (first
            | ((with_reducible apply g_op); first
              | ((with_reducible apply g_load); first
                | ((with_reducible apply w_load (v := .int _ _)); exact rfl; (first | assumption | (simp (disch := omega) only [upd_same, upd_ne]; first | done | assumption | exact rfl) | exact rfl); exact rfl))
              | ((with_reducible apply g_bin); first
                | ((with_reducible apply w_wrap); exact rfl; exact rfl; first | exact i64_in _ (by omega) | exact u64_in _ (by omega) | exact u8_in _ (by omega))
                | ((with_reducible apply w_pure (v := .bool _)); exact rfl; exact rfl))
              | ((with_reducible apply g_fld); first
                | ((with_reducible apply w_fldp (o := 4)); exact rfl; exact rfl; exact rfl; exact (by decide))
                | ((with_reducible apply w_fldp (o := 5)); exact rfl; exact rfl; exact rfl; exact (by decide)))
              | ((with_reducible apply g_assign); first
                | ((with_reducible apply w_pure (v := .bool _)); exact rfl; exact rfl))
              | ((with_reducible apply g_store); first
                | ((with_reducible apply w_store (us := [.int _ _]) (ws := [_, _, _, _, _, _, _])); exact rfl; exact rfl; (first | assumption | (simp (disch := omega) only [upd_same, upd_ne]; first | done | assumption | exact rfl) | exact rfl); omega; exact rfl; exact rfl; exact rfl)))
            | with_reducible refine w_seq ?_
            | with_reducible refine w_nil ?_
            | with_reducible refine w_region ?_
            | with_reducible refine w_block ?_
            | with_reducible refine w_blk ?_
            | ((with_reducible apply w_yes); exact rfl)
            | ((with_reducible apply w_no); exact rfl))
          have hok : okS ⟨k, e, ⟨s.ty, s.fl, s.off, s.ad, (s.me + 1), s.me, s.al⟩ :: r⟩ Z = false := ok_seg (by unfold segS; exact decide_eq_false (by dsimp only; omega))
          have hfi : Im.fine ⟨k, e, ⟨s.ty, s.fl, s.off, s.ad, (s.me + 1), s.me, s.al⟩ :: r⟩ := fine_mk hfine (by omega) (by omega) (by unfold Sg.fine; dsimp only; omega)
          exact hK _ _ _ (by repeat' (first | with_reducible exact Fr.mix | with_reducible exact Fr.rfl' | with_reducible refine Fr.put ?_ ?_ | with_reducible refine Fr.mix2 ?_ ?_ | with_reducible refine Fr.put0 ?_ | exact rfl)) ⟨k, e, ⟨s.ty, s.fl, s.off, s.ad, (s.me + 1), s.me, s.al⟩, r, [], o, by simp (disch := omega) only [upd_ne, upd_same] <;> first | exact hG0 | rfl, by simp (disch := omega) only [upd_ne, upd_same] <;> first | exact hG1 | rfl, by simp (disch := omega) only [upd_ne]; rw [List.append_nil]; exact hGo, by omega, hok, Or.inr hfi, fine_rg hfi, by rw [List.length_cons] at *; omega⟩
        · repeat' (first
            | ((with_reducible apply g_op); first
              | ((with_reducible apply g_bin); first
                | ((with_reducible apply w_pure (v := .bool _)); exact rfl; exact rfl))
              | ((with_reducible apply g_fld); first
                | ((with_reducible apply w_fldp (o := 3)); exact rfl; exact rfl; exact rfl; exact (by decide)))
              | ((with_reducible apply g_assign); first
                | ((with_reducible apply w_pure (v := .bool _)); exact rfl; exact rfl))
              | ((with_reducible apply g_store); first
                | ((with_reducible apply w_store (us := [.int _ _]) (ws := [_, _, _, _, _, _, _])); exact rfl; exact rfl; (first | assumption | (simp (disch := omega) only [upd_same, upd_ne]; first | done | assumption | exact rfl) | exact rfl); omega; exact rfl; exact rfl; exact rfl)))
            | with_reducible refine w_seq ?_
            | with_reducible refine w_nil ?_
            | with_reducible refine w_region ?_
            | with_reducible refine w_block ?_
            | with_reducible refine w_blk ?_
            | ((with_reducible apply w_yes); exact rfl)
            | ((with_reducible apply w_no); exact rfl))
          have hok : okS ⟨k, e, ⟨s.ty, s.fl, s.off, (262144), s.sz, s.me, s.al⟩ :: r⟩ Z = false := ok_seg (by unfold segS; exact decide_eq_false (by dsimp only; omega))
          have hfi : Im.fine ⟨k, e, ⟨s.ty, s.fl, s.off, (262144), s.sz, s.me, s.al⟩ :: r⟩ := fine_mk hfine (by omega) (by omega) (by unfold Sg.fine; dsimp only; omega)
          exact hK _ _ _ (by repeat' (first | with_reducible exact Fr.mix | with_reducible exact Fr.rfl' | with_reducible refine Fr.put ?_ ?_ | with_reducible refine Fr.mix2 ?_ ?_ | with_reducible refine Fr.put0 ?_ | exact rfl)) ⟨k, e, ⟨s.ty, s.fl, s.off, (262144), s.sz, s.me, s.al⟩, r, [], o, by simp (disch := omega) only [upd_ne, upd_same] <;> first | exact hG0 | rfl, by simp (disch := omega) only [upd_ne, upd_same] <;> first | exact hG1 | rfl, by simp (disch := omega) only [upd_ne]; rw [List.append_nil]; exact hGo, by omega, hok, Or.inr hfi, fine_rg hfi, by rw [List.length_cons] at *; omega⟩
        · repeat' (first
            | ((with_reducible apply g_op); first
              | ((with_reducible apply g_bin); first
                | ((with_reducible apply w_pure (v := .bool _)); exact rfl; exact rfl))
              | ((with_reducible apply g_fld); first
                | ((with_reducible apply w_fldp (o := 1)); exact rfl; exact rfl; exact rfl; exact (by decide)))
              | ((with_reducible apply g_assign); first
                | ((with_reducible apply w_pure (v := .bool _)); exact rfl; exact rfl))
              | ((with_reducible apply g_store); first
                | ((with_reducible apply w_store (us := [.int _ _]) (ws := [_, _, _, _, _, _, _])); exact rfl; exact rfl; (first | assumption | (simp (disch := omega) only [upd_same, upd_ne]; first | done | assumption | exact rfl) | exact rfl); omega; exact rfl; exact rfl; exact rfl)))
            | with_reducible refine w_seq ?_
            | with_reducible refine w_nil ?_
            | with_reducible refine w_region ?_
            | with_reducible refine w_block ?_
            | with_reducible refine w_blk ?_
            | ((with_reducible apply w_yes); exact rfl)
            | ((with_reducible apply w_no); exact rfl))
          have hok : okS ⟨k, e, ⟨s.ty, (8), s.off, s.ad, s.sz, s.me, s.al⟩ :: r⟩ Z = false := ok_seg (by unfold segS; exact decide_eq_false (by dsimp only; omega))
          have hfi : Im.fine ⟨k, e, ⟨s.ty, (8), s.off, s.ad, s.sz, s.me, s.al⟩ :: r⟩ := fine_mk hfine (by omega) (by omega) (by unfold Sg.fine; dsimp only; omega)
          exact hK _ _ _ (by repeat' (first | with_reducible exact Fr.mix | with_reducible exact Fr.rfl' | with_reducible refine Fr.put ?_ ?_ | with_reducible refine Fr.mix2 ?_ ?_ | with_reducible refine Fr.put0 ?_ | exact rfl)) ⟨k, e, ⟨s.ty, (8), s.off, s.ad, s.sz, s.me, s.al⟩, r, [], o, by simp (disch := omega) only [upd_ne, upd_same] <;> first | exact hG0 | rfl, by simp (disch := omega) only [upd_ne, upd_same] <;> first | exact hG1 | rfl, by simp (disch := omega) only [upd_ne]; rw [List.append_nil]; exact hGo, by omega, hok, Or.inr hfi, fine_rg hfi, by rw [List.length_cons] at *; omega⟩
        · repeat' (first
            | ((with_reducible apply g_op); first
              | ((with_reducible apply g_load); first
                | ((with_reducible apply w_load (v := .int _ _)); exact rfl; (first | assumption | (simp (disch := omega) only [upd_same, upd_ne]; first | done | assumption | exact rfl) | exact rfl); exact rfl))
              | ((with_reducible apply g_bin); first
                | ((with_reducible apply w_wrap); exact rfl; exact rfl; first | exact i64_in _ (by omega) | exact u64_in _ (by omega) | exact u8_in _ (by omega))
                | ((with_reducible apply w_pure (v := .bool _)); exact rfl; exact rfl))
              | ((with_reducible apply g_fld); first
                | ((with_reducible apply w_fldp (o := 2)); exact rfl; exact rfl; exact rfl; exact (by decide)))
              | ((with_reducible apply g_assign); first
                | ((with_reducible apply w_pure (v := .bool _)); exact rfl; exact rfl))
              | ((with_reducible apply g_store); first
                | ((with_reducible apply w_store (us := [.int _ _]) (ws := [_, _, _, _, _, _, _])); exact rfl; exact rfl; (first | assumption | (simp (disch := omega) only [upd_same, upd_ne]; first | done | assumption | exact rfl) | exact rfl); omega; exact rfl; exact rfl; exact rfl)))
            | with_reducible refine w_seq ?_
            | with_reducible refine w_nil ?_
            | with_reducible refine w_region ?_
            | with_reducible refine w_block ?_
            | with_reducible refine w_blk ?_
            | ((with_reducible apply w_yes); exact rfl)
            | ((with_reducible apply w_no); exact rfl))
          have hok : okS ⟨k, e, ⟨s.ty, s.fl, (s.off + 1), s.ad, s.sz, s.me, s.al⟩ :: r⟩ Z = false := ok_seg (by unfold segS; exact decide_eq_false (by dsimp only; omega))
          have hfi : Im.fine ⟨k, e, ⟨s.ty, s.fl, (s.off + 1), s.ad, s.sz, s.me, s.al⟩ :: r⟩ := fine_mk hfine (by omega) (by omega) (by unfold Sg.fine; dsimp only; omega)
          exact hK _ _ _ (by repeat' (first | with_reducible exact Fr.mix | with_reducible exact Fr.rfl' | with_reducible refine Fr.put ?_ ?_ | with_reducible refine Fr.mix2 ?_ ?_ | with_reducible refine Fr.put0 ?_ | exact rfl)) ⟨k, e, ⟨s.ty, s.fl, (s.off + 1), s.ad, s.sz, s.me, s.al⟩, r, [], o, by simp (disch := omega) only [upd_ne, upd_same] <;> first | exact hG0 | rfl, by simp (disch := omega) only [upd_ne, upd_same] <;> first | exact hG1 | rfl, by simp (disch := omega) only [upd_ne]; rw [List.append_nil]; exact hGo, by omega, hok, Or.inr hfi, fine_rg hfi, by rw [List.length_cons] at *; omega⟩
        · repeat' (first
            | ((with_reducible apply g_op); first
              | ((with_reducible apply g_bin); first
                | ((with_reducible apply w_pure (v := .bool _)); exact rfl; exact rfl))
              | ((with_reducible apply g_fld); first
                | ((with_reducible apply w_fldp (o := 4)); exact rfl; exact rfl; exact rfl; exact (by decide))
                | ((with_reducible apply w_fldp (o := 5)); exact rfl; exact rfl; exact rfl; exact (by decide)))
              | ((with_reducible apply g_assign); first
                | ((with_reducible apply w_pure (v := .bool _)); exact rfl; exact rfl))
              | ((with_reducible apply g_store); first
                | ((with_reducible apply w_store (us := [.int _ _]) (ws := [_, _, _, _, _, _, _])); exact rfl; exact rfl; (first | assumption | (simp (disch := omega) only [upd_same, upd_ne]; first | done | assumption | exact rfl) | exact rfl); omega; exact rfl; exact rfl; exact rfl)))
            | with_reducible refine w_seq ?_
            | with_reducible refine w_nil ?_
            | with_reducible refine w_region ?_
            | with_reducible refine w_block ?_
            | with_reducible refine w_blk ?_
            | ((with_reducible apply w_yes); exact rfl)
            | ((with_reducible apply w_no); exact rfl))
          have hok : okS ⟨k, e, ⟨s.ty, s.fl, s.off, s.ad, (0), (0), s.al⟩ :: r⟩ Z = false := ok_seg (by unfold segS; exact decide_eq_false (by dsimp only; omega))
          have hfi : Im.fine ⟨k, e, ⟨s.ty, s.fl, s.off, s.ad, (0), (0), s.al⟩ :: r⟩ := fine_mk hfine (by omega) (by omega) (by unfold Sg.fine; dsimp only; omega)
          exact hK _ _ _ (by repeat' (first | with_reducible exact Fr.mix | with_reducible exact Fr.rfl' | with_reducible refine Fr.put ?_ ?_ | with_reducible refine Fr.mix2 ?_ ?_ | with_reducible refine Fr.put0 ?_ | exact rfl)) ⟨k, e, ⟨s.ty, s.fl, s.off, s.ad, (0), (0), s.al⟩, r, [], o, by simp (disch := omega) only [upd_ne, upd_same] <;> first | exact hG0 | rfl, by simp (disch := omega) only [upd_ne, upd_same] <;> first | exact hG1 | rfl, by simp (disch := omega) only [upd_ne]; rw [List.append_nil]; exact hGo, by omega, hok, Or.inr hfi, fine_rg hfi, by rw [List.length_cons] at *; omega⟩
        · repeat' (first
            | ((with_reducible apply g_op); first
              | ((with_reducible apply g_load); first
                | ((with_reducible apply w_load (v := .slice _ _ _)); exact rfl; (first | assumption | (simp (disch := omega) only [upd_same, upd_ne]; first | done | assumption | exact rfl) | exact rfl); exact rfl))
              | ((with_reducible apply g_bin); first
                | ((with_reducible apply w_pure (v := .bool _)); exact rfl; exact rfl))
              | ((with_reducible apply g_fld); first
                | ((with_reducible apply w_fldp (o := 0)); exact rfl; exact rfl; exact rfl; exact (by decide))
                | ((with_reducible apply w_fldp (o := 2)); exact rfl; exact rfl; exact rfl; exact (by decide)))
              | ((with_reducible apply g_assign); first
                | ((with_reducible apply w_pure (v := .bool _)); exact rfl; exact rfl))
              | ((with_reducible apply g_store); first
                | ((with_reducible apply w_store (us := [.int _ _]) (ws := [_, _, _, _, _, _, _])); exact rfl; exact rfl; (first | assumption | (simp (disch := omega) only [upd_same, upd_ne]; first | done | assumption | exact rfl) | exact rfl); omega; exact rfl; exact rfl; exact rfl)))
            | with_reducible refine w_seq ?_
            | with_reducible refine w_nil ?_
            | with_reducible refine w_region ?_
            | with_reducible refine w_block ?_
            | ((with_reducible apply w_yes); exact rfl)
            | ((with_reducible apply w_no); exact rfl))
          refine w_sl (p := 0) (q := 1) (sz := 7) rfl rfl rfl rfl rfl rfl (fun h => by cases h) ⟨by omega, by simp⟩ (by simp (disch := omega) only [upd_ne]; exact hGo) ?_
          repeat' (first
            | ((with_reducible apply g_op); first
              | ((with_reducible apply g_fld); first
                | ((with_reducible apply w_fldp (o := 2)); exact rfl; exact rfl; exact rfl; exact (by decide)))
              | ((with_reducible apply g_store); first
                | ((with_reducible apply w_store (us := [.slice _ _ _]) (ws := [_, _, _])); exact rfl; exact rfl; (first | assumption | (simp (disch := omega) only [upd_same, upd_ne]; first | done | assumption | exact rfl) | exact rfl); omega; exact rfl; exact rfl; exact rfl)))
            | with_reducible refine w_nil ?_
            | with_reducible refine w_blk ?_)
          have hok : okS ⟨k, e, ⟨(7), s.fl, s.off, s.ad, s.sz, s.me, s.al⟩ :: []⟩ Z = false := ok_noload ⟨by show (7 : Int) ≠ 1; decide, by show (7 : Int) ≠ 2; decide⟩
          have hfi : Im.fine ⟨k, e, ⟨(7), s.fl, s.off, s.ad, s.sz, s.me, s.al⟩ :: []⟩ := ⟨hfine.1, hfine.2.1, by simp, fun t ht => by cases List.mem_singleton.1 ht; have := hfine.2.2.2 s (List.mem_cons_self ..); unfold Sg.fine at this ⊢; dsimp only; omega⟩
          exact hK _ _ _ (by repeat' (first | with_reducible exact Fr.mix | with_reducible exact Fr.rfl' | with_reducible refine Fr.put ?_ ?_ | with_reducible refine Fr.mix2 ?_ ?_ | with_reducible refine Fr.put0 ?_ | exact rfl)) ⟨k, e, ⟨(7), s.fl, s.off, s.ad, s.sz, s.me, s.al⟩, [], r, o, by simp (disch := omega) only [upd_ne, upd_same] <;> first | exact hG0 | rfl, by simp (disch := omega) only [upd_ne, upd_same] <;> first | exact hG1 | rfl, by simp (disch := omega) only [upd_ne]; exact hGo, by omega, hok, Or.inr hfi, fine_rg hfi, by simp⟩
        · repeat' (first
            | ((with_reducible apply g_op); first
              | ((with_reducible apply g_load); first
                | ((with_reducible apply w_load (v := .slice _ _ _)); exact rfl; (first | assumption | (simp (disch := omega) only [upd_same, upd_ne]; first | done | assumption | exact rfl) | exact rfl); exact rfl)
                | ((with_reducible apply w_load (v := .agg #[_, _, _, _, _, _, _])); exact rfl; (first | assumption | (simp (disch := omega) only [upd_same, upd_ne]; first | done | assumption | exact rfl) | exact rfl); exact rfl))
              | ((with_reducible apply g_bin); first
                | ((with_reducible apply w_pure (v := .bool _)); exact rfl; exact rfl))
              | ((with_reducible apply g_fld); first
                | ((with_reducible apply w_fldp (o := 2)); exact rfl; exact rfl; exact rfl; exact (by decide)))
              | ((with_reducible apply g_assign); first
                | ((with_reducible apply w_pure (v := .bool _)); exact rfl; exact rfl))
              | ((with_reducible apply w_bsl (ls := [_, _, _, _, _, _, _])); exact rfl; exact rfl; exact rfl; exact ⟨by decide, rfl⟩; exact rfl))
            | with_reducible refine w_seq ?_
            | with_reducible refine w_nil ?_
            | with_reducible refine w_region ?_
            | with_reducible refine w_block ?_
            | ((with_reducible apply w_yes); exact rfl)
            | ((with_reducible apply w_no); exact rfl))
          refine w_own2 (enc := Sg.c) (y := s) (by_ := 56) (sz := 7) (lo := n + 1) (o := some o) (xs := s :: r) ⟨ho1, by omega, by omega, by simp (disch := omega) only [upd_ne]; exact hGo⟩ rfl rfl rfl rfl rfl rfl (fun _ => rfl) upd_same rfl rfl rfl (by omega) (by omega) ?_
          intro g' h1 h2 h3
          have a0 : g' n1 = some (Ob.cells 24 [Value.int .i64 k, Value.int .i64 e, slc o 0 (s :: r).length]) := by rw [h1 n1 (by omega) (by simp; omega)]; simp (disch := omega) only [upd_ne]; exact hG0
          have a1 : g' (n1 + 1) = some (Ob.cells 43 [Value.int .i64 s.ty, Value.int .i64 s.fl, Value.int .i64 s.off, Value.int .i64 s.ad, Value.int .i64 s.sz, Value.int .i64 s.me, Value.int .i64 s.al]) := by rw [h1 (n1 + 1) (by omega) (by simp; omega)]; simp (disch := omega) only [upd_ne]; exact hG1
          have a3 := h3.2.2.2
          repeat' (first
            | ((with_reducible apply g_op); first
              | ((with_reducible apply g_fld); first
                | ((with_reducible apply w_fldp (o := 2)); exact rfl; exact rfl; exact rfl; exact (by decide)))
              | ((with_reducible apply g_store); first
                | ((with_reducible apply w_store (us := [.slice _ _ _]) (ws := [_, _, _])); exact rfl; exact rfl; (first | assumption | (simp (disch := omega) only [upd_same, upd_ne]; first | done | assumption | exact rfl) | exact rfl); omega; exact rfl; exact rfl; exact rfl)))
            | with_reducible refine w_nil ?_
            | with_reducible refine w_blk ?_)
          have hok : okS ⟨k, e, s :: (r ++ [s])⟩ Z = false := ok_over (fun t ht => by have := hall t ht; omega)
          have hfi : Im.fine ⟨k, e, s :: (r ++ [s])⟩ := ⟨hfine.1, hfine.2.1, by simp; rw [List.length_cons] at hl4; omega, fun t ht => hfine.2.2.2 t (by simp at ht ⊢; rcases ht with h | h | h <;> simp [h])⟩
          exact hK _ _ _ (by repeat' (first | with_reducible exact Fr.mix | with_reducible exact Fr.rfl' | with_reducible refine Fr.put ?_ ?_ | with_reducible refine Fr.mix2 ?_ ?_ | with_reducible refine Fr.put0 ?_ | exact rfl)) ⟨k, e, s, (r ++ [s]), [], (n1 + 2 + 1), by simp (disch := omega) only [upd_ne, upd_same] <;> first | exact hG0 | rfl, by simp (disch := omega) only [upd_ne, upd_same] <;> first | exact a1 | rfl, by simp (disch := omega) only [upd_ne]; rw [List.append_nil]; exact a3, by omega, hok, Or.inr hfi, fine_rg hfi, by simp; rw [List.length_cons] at hl4; omega⟩
        · repeat' (first
            | ((with_reducible apply g_op); first
              | ((with_reducible apply g_bin); first
                | ((with_reducible apply w_pure (v := .bool _)); exact rfl; exact rfl))
              | ((with_reducible apply g_fld); first
                | ((with_reducible apply w_fldp (o := 1)); exact rfl; exact rfl; exact rfl; exact (by decide)))
              | ((with_reducible apply g_assign); first
                | ((with_reducible apply w_pure (v := .bool _)); exact rfl; exact rfl))
              | ((with_reducible apply g_store); first
                | ((with_reducible apply w_store (us := [.int _ _]) (ws := [_, _, _])); exact rfl; exact rfl; (first | assumption | (simp (disch := omega) only [upd_same, upd_ne]; first | done | assumption | exact rfl) | exact rfl); omega; exact rfl; exact rfl; exact rfl)))
            | with_reducible refine w_seq ?_
            | with_reducible refine w_nil ?_
            | with_reducible refine w_region ?_
            | with_reducible refine w_block ?_
            | with_reducible refine w_blk ?_
            | ((with_reducible apply w_yes); exact rfl)
            | ((with_reducible apply w_no); exact rfl))
          have hok : okS ⟨k, 524288, s :: r⟩ Z = false := ok_entry (by decide) (fun t ht => decide_eq_false (fun h => by have := hall t ht; omega))
          have hfi : Im.fine ⟨k, 524288, s :: r⟩ := fine_mk hfine (by omega) (by omega) (hfine.2.2.2 s (List.mem_cons_self ..))
          exact hK _ _ _ (by repeat' (first | with_reducible exact Fr.mix | with_reducible exact Fr.rfl' | with_reducible refine Fr.put ?_ ?_ | with_reducible refine Fr.mix2 ?_ ?_ | with_reducible refine Fr.put0 ?_ | exact rfl)) ⟨k, 524288, s, r, [], o, by simp (disch := omega) only [upd_ne, upd_same] <;> first | exact hG0 | rfl, by simp (disch := omega) only [upd_ne, upd_same] <;> first | exact hG1 | rfl, by simp (disch := omega) only [upd_ne]; rw [List.append_nil]; exact hGo, by omega, hok, Or.inr hfi, fine_rg hfi, by rw [List.length_cons] at *; omega⟩
        · repeat' (first
            | ((with_reducible apply g_op); first
              | ((with_reducible apply g_bin); first
                | ((with_reducible apply w_pure (v := .bool _)); exact rfl; exact rfl))
              | ((with_reducible apply g_fld); first
                | ((with_reducible apply w_fldp (o := 5)); exact rfl; exact rfl; exact rfl; exact (by decide)))
              | ((with_reducible apply g_assign); first
                | ((with_reducible apply w_pure (v := .bool _)); exact rfl; exact rfl))
              | ((with_reducible apply g_store); first
                | ((with_reducible apply w_store (us := [.int _ _]) (ws := [_, _, _, _, _, _, _])); exact rfl; exact rfl; (first | assumption | (simp (disch := omega) only [upd_same, upd_ne]; first | done | assumption | exact rfl) | exact rfl); omega; exact rfl; exact rfl; exact rfl)))
            | with_reducible refine w_seq ?_
            | with_reducible refine w_nil ?_
            | with_reducible refine w_region ?_
            | with_reducible refine w_block ?_
            | with_reducible refine w_blk ?_
            | ((with_reducible apply w_no); exact rfl))
          have hok : okS ⟨k, e, ⟨s.ty, s.fl, s.off, s.ad, s.sz, (-1), s.al⟩ :: r⟩ Z = false := ok_seg (by unfold segS; exact decide_eq_false (by dsimp only; omega))
          have hrg2 : Im.rg ⟨k, e, ⟨s.ty, s.fl, s.off, s.ad, s.sz, (-1), s.al⟩ :: r⟩ := ⟨by dsimp only; omega, by dsimp only; omega, fun t ht => (List.mem_cons.1 ht).elim (fun h => by subst h; unfold Sg.rg; dsimp only; omega) (fun h => (fine_rg hfine).2.2 t (List.mem_cons_of_mem _ h))⟩
          exact hK _ _ _ (by repeat' (first | with_reducible exact Fr.mix | with_reducible exact Fr.rfl' | with_reducible refine Fr.put ?_ ?_ | with_reducible refine Fr.mix2 ?_ ?_ | with_reducible refine Fr.put0 ?_ | exact rfl)) ⟨k, e, ⟨s.ty, s.fl, s.off, s.ad, s.sz, (-1), s.al⟩, r, [], o, by simp (disch := omega) only [upd_ne, upd_same] <;> first | exact hG0 | rfl, by simp (disch := omega) only [upd_ne, upd_same] <;> first | exact hG1 | rfl, by simp (disch := omega) only [upd_ne]; rw [List.append_nil]; exact hGo, by omega, hok, Or.inl rfl, hrg2, by rw [List.length_cons] at *; omega⟩
      · rintro σ' g2 n2 ⟨k', e', s', l2, tail, Q, hg0, hg1', hgQ, hQ, hno, hf, hrg, hl5⟩
        unfold Sg.c at hg1'
        have hl20 : ((s' :: l2).length : Int) ≥ 1 := by rw [List.length_cons]; push_cast; omega
        repeat' (first
          | ((with_reducible apply g_op); first
            | ((with_reducible apply g_load); first
              | ((with_reducible apply w_load (v := .slice _ _ _)); exact rfl; (first | assumption | (simp (disch := omega) only [upd_same, upd_ne]; first | done | assumption | exact rfl) | exact rfl); exact rfl)
              | ((with_reducible apply w_load (v := .agg #[_, _, _, _, _, _, _])); exact rfl; (first | assumption | (simp (disch := omega) only [upd_same, upd_ne]; first | done | assumption | exact rfl) | exact rfl); exact rfl))
            | ((with_reducible apply g_fld); first
              | ((with_reducible apply w_fldp (o := 2)); exact rfl; exact rfl; exact rfl; exact (by decide)))
            | ((with_reducible apply g_ix); first
              | ((with_reducible apply w_ixr (sz := 7)); exact rfl; exact rfl; exact rfl; exact rfl; omega; omega)))
          | with_reducible refine w_seq ?_
          | with_reducible refine w_region ?_)
        refine w_store (i := Q) (us := [_, _, _, _, _, _, _]) (ws := ((s' :: l2) ++ tail).flatMap Sg.c) rfl rfl hgQ (by omega) rfl rfl (by show wrCells _ 0 _ = _; unfold wrCells; rw [if_pos (by simp [Sg.c, List.flatMap_cons])]; rfl) ?_
        repeat' (first
          | with_reducible refine w_seq ?_
          | with_reducible refine w_nil ?_
          | with_reducible refine w_region ?_)
        refine w_gen (fun G N => G n1 = some (Ob.cells 24 [Value.int .i64 k', Value.int .i64 e', slc Q 0 (s' :: l2).length]) ∧ G Q = some (Ob.cells 43 (((s' :: l2) ++ tail).flatMap Sg.c)) ∧ N = n2) ⟨by simp (disch := omega) only [upd_ne]; exact hg0, upd_same, rfl⟩ ?_
        rintro G3 _ ⟨hA, hB, rfl⟩
        repeat' (first
          | ((with_reducible apply g_op); first
            | ((with_reducible apply g_load); first
              | ((with_reducible apply w_load (v := .agg #[_, _, _])); exact rfl; (first | assumption | (simp (disch := omega) only [upd_same, upd_ne]; first | done | assumption | exact rfl) | exact rfl); exact rfl))))
        refine w_rf (head_run ⟨k', e', s' :: l2⟩ hrg (by dsimp only; omega)) (fun _ => rfl) (sn_cons (sn_agg (l := [_, _, _]) (sn_cons (sn_plain rfl) (sn_cons (sn_plain rfl) (sn_cons (sn_row (sz := 7) (by first | exact hB | (simp (disch := omega) only [upd_ne]; exact hB)) (Nat.zero_le _) rfl (by decide) (rd_ls (s' :: l2) tail) (sn_plains (Sg.plains _))) sn_nil)))) sn_nil) ?_
        rintro _ rfl
        have hHz := headS_size ⟨k', e', s' :: l2⟩
        dsimp only at hHz
        obtain ⟨H, hHe⟩ : ∃ H, H = headS ⟨k', e', s' :: l2⟩ := ⟨_, rfl⟩
        rw [← hHe] at hHz ⊢
        repeat' (first
          | ((with_reducible apply g_op); first
            | ((with_reducible apply g_move); first
              | ((with_reducible apply w_pure (v := .int _ _)); exact rfl; exact rfl))))
        refine w_rq (rfill_run H Z (by omega) (by omega) _ _ _) (fun _ => rfl) ?_
        rintro _ rfl
        obtain ⟨hlk, hfz⟩ := like_fill (h := H) (Z := (Z : Int)) (by omega)
        generalize fillV H (Z : Int) = F at hlk hfz ⊢
        have hFZ : F.size = Z := by omega
        repeat' (first
          | fail)
        refine w_rf (parse_run F (by omega)) (fun _ => rfl) (sn_plains rfl) ?_
        rintro _ rfl
        have her : kk = 11 ∨ (parseS F).2 = 16 := by
          rcases hf with hf | hf
          · exact .inl hf
          · rw [parse_back hf (by rw [← hHe]; exact hlk), hFZ, if_neg (by rw [hno]; simp)]
            exact .inr rfl
        generalize parseS F = R3 at her ⊢
        obtain ⟨⟨ka, ea, la⟩, er⟩ := R3
        dsimp only at her ⊢
        simp only [Im.v]
        by_cases he16 : er = 16
        · subst he16
          repeat' (first
            | ((with_reducible apply g_op); first
              | ((with_reducible apply g_load); first
                | ((with_reducible apply w_load (v := .agg #[_, _, _])); exact rfl; (first | assumption | (simp (disch := omega) only [upd_same, upd_ne]; first | done | assumption | exact rfl) | exact rfl); exact rfl))
              | ((with_reducible apply g_move); first
                | ((with_reducible apply w_pure (v := .int _ _)); exact rfl; exact rfl)
                | ((with_reducible apply w_pure (v := .bool _)); exact rfl; exact rfl)
                | ((with_reducible apply w_pure (v := .tuple _)); exact rfl; exact rfl))
              | ((with_reducible apply g_assign); first
                | ((with_reducible apply w_pure (v := .int _ _)); exact rfl; exact rfl))
              | ((with_reducible apply g_store); first
                | ((with_reducible apply w_store (us := [_, _, _]) (ws := [_, _, _])); exact rfl; exact rfl; (first | assumption | (simp (disch := omega) only [upd_same, upd_ne]; first | done | assumption | exact rfl) | exact rfl); omega; exact rfl; exact rfl; exact rfl))
              | ((with_reducible apply w_alloc (ls := [_, _, _])); exact rfl; exact rfl)
              | ((with_reducible apply w_pure (v := .int _ _)); exact rfl; exact rfl)
              | ((with_reducible apply w_pure (v := .agg _)); exact rfl; exact rfl))
            | ((with_reducible apply g_gd); first
              | ((with_reducible apply w_want); exact rfl))
            | with_reducible refine w_seq ?_
            | with_reducible refine w_nil ?_
            | with_reducible refine w_region ?_)
          refine w_rf (check_run ⟨k', e', s' :: l2⟩ Z) (fun _ => rfl) (sn_cons (sn_agg (l := [_, _, _]) (sn_cons (sn_plain rfl) (sn_cons (sn_plain rfl) (sn_cons (sn_row (sz := 7) (by first | exact hB | (simp (disch := omega) only [upd_ne]; exact hB)) (Nat.zero_le _) rfl (by decide) (rd_ls (s' :: l2) tail) (sn_plains (Sg.plains _))) sn_nil)))) (sn_plains rfl)) ?_
          rintro _ rfl
          rw [show errV (okS ⟨k', e', s' :: l2⟩ Z) = .int .i64 16 by rw [hno]; rfl]
          repeat' (first
            | ((with_reducible apply g_op); first
              | ((with_reducible apply g_move); first
                | ((with_reducible apply w_pure (v := .int _ _)); exact rfl; exact rfl)
                | ((with_reducible apply w_pure (v := .bool _)); exact rfl; exact rfl))
              | ((with_reducible apply g_bin); first
                | ((with_reducible apply w_pure (v := .bool _)); exact rfl; exact rfl))
              | ((with_reducible apply g_pick); first
                | ((with_reducible apply w_pk1 (v := .bool _)); exact rfl; exact rfl; (first | assumption | exact decide_eq_true (by assumption) | exact decide_eq_false (by assumption) | exact decide_eq_true (by omega) | exact decide_eq_false (by omega) | exact beq_iff_eq.2 (by omega) | exact beq_eq_false_iff_ne.2 (by omega) | exact bne_iff_ne.2 (by omega) | exact bne_eq_false_iff_eq.2 (by omega))))
              | ((with_reducible apply g_assign); first
                | ((with_reducible apply w_pure (v := .bool _)); exact rfl; exact rfl))
              | ((with_reducible apply w_pure (v := .bool _)); exact rfl; exact rfl))
            | ((with_reducible apply g_gd); first
              | ((with_reducible apply w_want); exact rfl)
              | ((with_reducible apply w_pass); exact rfl))
            | with_reducible refine w_nil ?_
            | ((with_reducible apply w_ret (v := .bool _)); exact rfl))
          all_goals rfl
        · have hk11 : kk = 11 := by omega
          subst hk11
          repeat' (first
            | ((with_reducible apply g_op); first
              | ((with_reducible apply g_load); first
                | ((with_reducible apply w_load (v := .agg #[_, _, _])); exact rfl; (first | assumption | (simp (disch := omega) only [upd_same, upd_ne]; first | done | assumption | exact rfl) | exact rfl); exact rfl))
              | ((with_reducible apply g_move); first
                | ((with_reducible apply w_pure (v := .int _ _)); exact rfl; exact rfl)
                | ((with_reducible apply w_pure (v := .bool _)); exact rfl; exact rfl)
                | ((with_reducible apply w_pure (v := .tuple _)); exact rfl; exact rfl))
              | ((with_reducible apply g_assign); first
                | ((with_reducible apply w_pure (v := .int _ _)); exact rfl; exact rfl))
              | ((with_reducible apply g_store); first
                | ((with_reducible apply w_store (us := [_, _, _]) (ws := [_, _, _])); exact rfl; exact rfl; (first | assumption | (simp (disch := omega) only [upd_same, upd_ne]; first | done | assumption | exact rfl) | exact rfl); omega; exact rfl; exact rfl; exact rfl))
              | ((with_reducible apply w_alloc (ls := [_, _, _])); exact rfl; exact rfl)
              | ((with_reducible apply w_pure (v := .int _ _)); exact rfl; exact rfl)
              | ((with_reducible apply w_pure (v := .agg _)); exact rfl; exact rfl))
            | ((with_reducible apply g_gd); first
              | ((with_reducible apply w_want); exact rfl))
            | with_reducible refine w_seq ?_
            | with_reducible refine w_nil ?_
            | with_reducible refine w_region ?_)
          refine w_rf (check_run ⟨k', e', s' :: l2⟩ Z) (fun _ => rfl) (sn_cons (sn_agg (l := [_, _, _]) (sn_cons (sn_plain rfl) (sn_cons (sn_plain rfl) (sn_cons (sn_row (sz := 7) (by first | exact hB | (simp (disch := omega) only [upd_ne]; exact hB)) (Nat.zero_le _) rfl (by decide) (rd_ls (s' :: l2) tail) (sn_plains (Sg.plains _))) sn_nil)))) (sn_plains rfl)) ?_
          rintro _ rfl
          rw [show errV (okS ⟨k', e', s' :: l2⟩ Z) = .int .i64 16 by rw [hno]; rfl]
          repeat' (first
            | ((with_reducible apply g_op); first
              | ((with_reducible apply g_move); first
                | ((with_reducible apply w_pure (v := .int _ _)); exact rfl; exact rfl)
                | ((with_reducible apply w_pure (v := .bool _)); exact rfl; exact rfl))
              | ((with_reducible apply g_bin); first
                | ((with_reducible apply w_pure (v := .bool _)); exact rfl; exact rfl))
              | ((with_reducible apply g_pick); first
                | ((with_reducible apply w_pk1 (v := .bool _)); exact rfl; exact rfl; (first | assumption | exact decide_eq_true (by assumption) | exact decide_eq_false (by assumption) | exact decide_eq_true (by omega) | exact decide_eq_false (by omega) | exact beq_iff_eq.2 (by omega) | exact beq_eq_false_iff_ne.2 (by omega) | exact bne_iff_ne.2 (by omega) | exact bne_eq_false_iff_eq.2 (by omega)))
                | ((with_reducible apply w_pk0 (v := .bool _)); exact rfl; exact rfl; (first | assumption | exact decide_eq_true (by assumption) | exact decide_eq_false (by assumption) | exact decide_eq_true (by omega) | exact decide_eq_false (by omega) | exact beq_iff_eq.2 (by omega) | exact beq_eq_false_iff_ne.2 (by omega) | exact bne_iff_ne.2 (by omega) | exact bne_eq_false_iff_eq.2 (by omega))))
              | ((with_reducible apply g_assign); first
                | ((with_reducible apply w_pure (v := .bool _)); exact rfl; exact rfl)))
            | ((with_reducible apply g_gd); first
              | ((with_reducible apply w_want); exact rfl)
              | ((with_reducible apply w_gd_f); exact rfl; all_goals (intro hc; first | (exfalso; omega) | skip)))
            | with_reducible refine w_nil ?_
            | ((with_reducible apply w_ret (v := .bool _)); exact rfl))
          all_goals first | rfl | (exfalso; omega)
abbrev P3 := Int × Int × List Q4
theorem proved (x0 : P3) (x1 : Int) {p q : Prop} (w0 : p) (w1 : q) : Rn Try.prog tab 5 [.agg ((kPair (kInt .i64) (kPair (kInt .i64) (kList (kPair (kInt .i64) (kPair (kInt .i64) (kPair (kInt .i64) (kInt .i64))))))).enc x0).toArray, .int .i64 x1] (fun _ => none) 0 0 (fun v _ _ => v = .bool true) := walk x0.1 x0.2.1 x0.2.2 x1 _ 0
end Go.Proofs.Ytohfbnpmhlpkhaa.L.ElfBroken

