/- symbol.Table. -/
import Derived.Test.Ytoknnbjkjhigbaac10B
import Derived.Test.Ytoknnbjkjhigbaabld
namespace Go.Proofs.Ytoknnbjkjhigbaa.L
open Go.L1 Go.IntWalk
set_option linter.unusedVariables false
set_option linter.unusedSimpArgs false
set_option maxHeartbeats 4000000
namespace Sym
open Oct
def ts (s : ByteArray) : List Value := [.string s]
abbrev tv (s : Array Value) (l : List ByteArray) : Value := fz s l.length (l.flatMap ts)
def iis (l : List Int) : List Value := l.map (Value.int .i64)
theorem iis_len (l : List Int) : (iis l).length = l.length := by simp [iis]
theorem iis_at {l : List Int} {i : Nat} {x : Int} (h : l[i]? = some x) : (iis l)[i]? = some (.int .i64 x) := by unfold iis; rw [List.getElem?_map, h]; rfl
theorem iis_set (l : List Int) (i : Nat) (x : Int) : (iis l).set i (.int .i64 x) = iis (l.set i x) := by unfold iis; rw [List.map_set]
theorem iis_app (a b : List Int) : iis (a ++ b) = iis a ++ iis b := List.map_append
theorem zeros_i64 (k : Nat) : (List.replicate k (Value.int .i64 0).cells.toList).flatten = iis (List.replicate k 0) := by
  unfold iis
  induction k with
  | zero => rfl
  | succ k ih => rw [List.replicate_succ, List.flatten_cons, ih, List.replicate_succ]; rfl
theorem nm_at {l : List ByteArray} {i : Nat} {x : ByteArray} (h : l[i]? = some x) : nm l i = x := by unfold nm; rw [List.getD_eq_getElem?_getD, h]; rfl
theorem iis_one (l : List Int) : (iis l).all one = true := by
  rw [List.all_eq_true]
  intro v hv
  obtain ⟨x, _, rfl⟩ := List.mem_map.1 hv
  rfl
theorem putV_pos (n : Int) (h : 0 ≤ n) : putV n 4 = putB n 4 := by unfold putV; rw [show max n 0 = n by omega]; rfl
theorem quads_two (a b : Int) : putB a 4 ++ putB b 4 = quads [a, b] := by
  show _ = (⟨#[]⟩ ++ putB a 4) ++ putB b 4
  rw [Bl.empty_app]
theorem table_pos (l : List ByteArray) (hl : l.length ≤ 4096) : ∀ x ∈ firstL l l.length ++ nextL l l.length, 0 ≤ x ∧ x ≤ 4096 := by
  intro x hx
  rcases List.mem_append.1 hx with hx | hx
  · obtain ⟨k, _, rfl⟩ := List.mem_map.1 hx
    have := pv_le (inB l k) l.length
    omega
  · obtain ⟨j, hj, rfl⟩ := List.mem_map.1 hx
    rw [List.mem_range] at hj
    split
    · have := pv_le (inB l (bk l j)) j
      omega
    · omega
/-- A builder whose row is not at r. -/
def Bs (g : Nat → Option Ob) (c n m r : Nat) (s : ByteArray) : Prop := ∃ o, Bl.BS g c n m o s ∧ o ≠ some r
theorem Bs.write {g : Nat → Option Ob} {c n m r : Nat} {b s : ByteArray} (h : Bs g c n m r b) (hr : r < n) (hc : r ≠ c) (hl : b.size + s.size ≤ 140737488355328) : Rn Try.prog T 26 [ptr c 0, .string s] g n m (fun v g' n' => v = .tuple #[.int .i64 s.size, .nilIface] ∧ Bs g' c n' m r (b ++ s) ∧ n ≤ n' ∧ g' r = g r) := by
  obtain ⟨o, h1, h2⟩ := h
  refine (Bl.write_run s b o g c n m h1 hl).mono fun v g' n' ⟨o', q1, q2, q3, q4, q5⟩ => ⟨q1, ⟨o', q2, ?_⟩, q4, q5 r hr hc (Ne.symm h2)⟩
  rcases q3 with rfl | ⟨k, rfl, hk⟩
  · exact h2
  · intro e
    cases e
    omega
theorem table_run (l : List ByteArray) (hl : l.length ≤ 4096) (hz : ∀ s ∈ l, s.size ≤ 9223372036854775807) : Rf Try.prog T 14 [tv tg l] (fun v => v = .tuple #[.string (tableV l), .int .i64 0]) := by
  refine c_froz Try.func14 rfl rfl rfl rfl rfl rfl ?_
  intro g n
  have hB : max (l.length : Int) 1 = ((bks l : Nat) : Int) := by unfold bks; omega
  have hB2 : bks l ≤ 4096 ∧ 1 ≤ bks l := by unfold bks; omega
  repeat' (first
    | ((with_reducible apply g_op); first
      | ((with_reducible apply g_move); first
        | ((with_reducible apply w_pure (v := .func _ _ _)); exact rfl; exact rfl))
      | ((with_reducible apply g_bin); first
        | ((with_reducible apply w_pure (v := .bool _)); exact rfl; exact rfl))
      | ((with_reducible apply g_assign); first
        | ((with_reducible apply w_pure (v := .int _ _)); exact rfl; exact rfl)
        | ((with_reducible apply w_pure (v := .string _)); exact rfl; exact rfl))
      | ((with_reducible apply g_call); first
        | ((with_reducible apply w_max); exact rfl; exact rfl)
        | ((with_reducible apply w_call (v := .int _ _)); exact rfl)))
    | with_reducible refine w_seq ?_
    | with_reducible refine w_nil ?_
    | with_reducible refine w_region ?_
    | with_reducible refine w_skip ?_
    | ((with_reducible apply w_ifd); exact rfl; all_goals (intro hc; first | (exfalso; omega) | skip)))
  rw [hB]
  refine w_mks (nn := bks l) (by_ := 8) (sz := 1) rfl rfl rfl rfl rfl rfl rfl (by omega) ?_
  repeat' (first
    | ((with_reducible apply g_op); first
      | ((with_reducible apply g_move); first
        | ((with_reducible apply w_pure (v := .func _ _ _)); exact rfl; exact rfl))
      | ((with_reducible apply g_assign); first
        | ((with_reducible apply w_pure (v := .slice _ _ _)); exact rfl; exact rfl))
      | ((with_reducible apply g_call); first
        | ((with_reducible apply w_call (v := .int _ _)); exact rfl)))
    | with_reducible refine w_seq ?_
    | with_reducible refine w_nil ?_
    | with_reducible refine w_region ?_)
  refine w_mks (nn := l.length) (by_ := 8) (sz := 1) rfl rfl rfl rfl rfl rfl rfl (by omega) ?_
  rw [zeros_i64, zeros_i64, ← first_new, ← next_new]
  repeat' (first
    | ((with_reducible apply g_op); first
      | ((with_reducible apply g_move); first
        | ((with_reducible apply w_pure (v := .int _ _)); exact rfl; exact rfl)
        | ((with_reducible apply w_pure (v := .func _ _ _)); exact rfl; exact rfl))
      | ((with_reducible apply g_assign); first
        | ((with_reducible apply w_pure (v := .slice _ _ _)); exact rfl; exact rfl))
      | ((with_reducible apply g_call); first
        | ((with_reducible apply w_call (v := .int _ _)); exact rfl)))
    | with_reducible refine w_seq ?_
    | with_reducible refine w_nil ?_
    | with_reducible refine w_region ?_
    | with_reducible refine w_block ?_)
  refine w_rngK [(6, 8), (24, 52)] l (fun i rest (_ : Unit) σ g' n' => σ 24 = .int .i64 (i : Nat) ∧ g' n = some (.cells 3 (iis (firstL l i))) ∧ g' (n + 1) = some (.cells 3 (iis (nextL l i))) ∧ n + 2 ≤ n') ?_ ?_ () ⟨rfl, by simp (disch := omega) only [upd_same, upd_ne], upd_same, by omega⟩
  · rintro i x rest _ σ gl nl hx hlt ⟨k24, hg1, hg2, hn⟩ ih
    refine w_keep (i := 24) k24 ?_
    have hnx := nm_at hx
    have hzx := hz x (List.mem_of_getElem? hx)
    by_cases h0 : i = 0
    · obtain ⟨e1, e2⟩ := skip_step l i (.inl h0)
      repeat' (first
        | ((with_reducible apply g_op); first
          | ((with_reducible apply g_load); first
            | ((with_reducible apply w_fl (v := .string _)); exact rfl; exact (fun _ => rfl); assumption; exact rfl))
          | ((with_reducible apply g_move); first
            | ((with_reducible apply w_pure (v := .int _ _)); exact rfl; exact rfl)
            | ((with_reducible apply w_pure (v := .bool _)); exact rfl; exact rfl))
          | ((with_reducible apply g_bin); first
            | ((with_reducible apply w_wrap); exact rfl; exact rfl; first | exact i64_in _ (by omega) | exact u64_in _ (by omega) | exact u8_in _ (by omega))
            | ((with_reducible apply w_pure (v := .bool _)); exact rfl; exact rfl))
          | ((with_reducible apply g_pick); first
            | ((with_reducible apply w_pk0 (v := .bool _)); exact rfl; exact rfl; (first | assumption | exact decide_eq_true (by assumption) | exact decide_eq_false (by assumption) | exact decide_eq_true (by omega) | exact decide_eq_false (by omega) | exact beq_iff_eq.2 (by omega) | exact beq_eq_false_iff_ne.2 (by omega) | exact bne_iff_ne.2 (by omega) | exact bne_eq_false_iff_eq.2 (by omega))))
          | ((with_reducible apply g_assign); first
            | ((with_reducible apply w_pure (v := .int _ _)); exact rfl; exact rfl)
            | ((with_reducible apply w_pure (v := .string _)); exact rfl; exact rfl))
          | ((with_reducible apply g_ix); first
            | ((with_reducible apply w_fx (sz := 1)); exact rfl; exact rfl; exact rfl; exact rfl; exact rfl; exact (fun _ => rfl); assumption; exact rfl)))
        | ((with_reducible apply g_gd); first
          | ((with_reducible apply w_gd_t); exact rfl; all_goals (intro hc; first | (exfalso; omega) | skip)))
        | with_reducible refine w_seq ?_
        | with_reducible refine w_nil ?_
        | with_reducible refine w_region ?_
        | with_reducible refine w_skip ?_
        | with_reducible refine w_block ?_
        | with_reducible refine w_blk ?_
        | ((with_reducible apply w_no); exact rfl)
        | ((with_reducible apply w_ifd); exact rfl; all_goals (intro hc; first | (exfalso; omega) | skip)))
      all_goals first | (exfalso; omega) | skip
      all_goals exact ih () _ _ _ (by repeat' (first | with_reducible exact Fr.mix | with_reducible exact Fr.rfl' | with_reducible refine Fr.put ?_ ?_ | with_reducible refine Fr.mix2 ?_ ?_ | with_reducible refine Fr.put0 ?_ | exact rfl)) ⟨rfl, by rw [e1]; exact hg1, by rw [e2]; exact hg2, hn⟩
    by_cases hx0 : x = ⟨#[]⟩
    · obtain ⟨e1, e2⟩ := skip_step l i (.inr (by rw [hnx]; exact hx0))
      repeat' (first
        | ((with_reducible apply g_op); first
          | ((with_reducible apply g_load); first
            | ((with_reducible apply w_fl (v := .string _)); exact rfl; exact (fun _ => rfl); assumption; exact rfl))
          | ((with_reducible apply g_move); first
            | ((with_reducible apply w_pure (v := .int _ _)); exact rfl; exact rfl)
            | ((with_reducible apply w_pure (v := .bool _)); exact rfl; exact rfl)
            | ((with_reducible apply w_pure (v := .string _)); exact rfl; exact rfl))
          | ((with_reducible apply g_bin); first
            | ((with_reducible apply w_wrap); exact rfl; exact rfl; first | exact i64_in _ (by omega) | exact u64_in _ (by omega) | exact u8_in _ (by omega))
            | ((with_reducible apply w_tne); exact rfl; exact rfl; exact rfl; exact rfl; exact rfl)
            | ((with_reducible apply w_pure (v := .bool _)); exact rfl; exact rfl))
          | ((with_reducible apply g_pick); first
            | ((with_reducible apply w_pk1 (v := .bool _)); exact rfl; exact rfl; (first | assumption | exact decide_eq_true (by assumption) | exact decide_eq_false (by assumption) | exact decide_eq_true (by omega) | exact decide_eq_false (by omega) | exact beq_iff_eq.2 (by omega) | exact beq_eq_false_iff_ne.2 (by omega) | exact bne_iff_ne.2 (by omega) | exact bne_eq_false_iff_eq.2 (by omega))))
          | ((with_reducible apply g_assign); first
            | ((with_reducible apply w_pure (v := .int _ _)); exact rfl; exact rfl)
            | ((with_reducible apply w_pure (v := .string _)); exact rfl; exact rfl))
          | ((with_reducible apply g_ix); first
            | ((with_reducible apply w_fx (sz := 1)); exact rfl; exact rfl; exact rfl; exact rfl; exact rfl; exact (fun _ => rfl); assumption; exact rfl)))
        | ((with_reducible apply g_gd); first
          | ((with_reducible apply w_gd_t); exact rfl; all_goals (intro hc; first | (exfalso; omega) | skip)))
        | with_reducible refine w_seq ?_
        | with_reducible refine w_nil ?_
        | with_reducible refine w_region ?_
        | with_reducible refine w_skip ?_
        | with_reducible refine w_block ?_
        | with_reducible refine w_blk ?_
        | ((with_reducible apply w_ifd); exact rfl; all_goals (intro hc; first | (exfalso; omega) | skip)))
      all_goals first | exact absurd hx0 (by assumption) | (exfalso; omega) | skip
      all_goals exact ih () _ _ _ (by repeat' (first | with_reducible exact Fr.mix | with_reducible exact Fr.rfl' | with_reducible refine Fr.put ?_ ?_ | with_reducible refine Fr.mix2 ?_ ?_ | with_reducible refine Fr.put0 ?_ | exact rfl)) ⟨rfl, by rw [e1]; exact hg1, by rw [e2]; exact hg2, hn⟩
    · obtain ⟨e1, e2⟩ := put_step l i hlt h0 (by rw [hnx]; exact hx0)
      have hbk : hashN x % bks l = bk l i := by unfold bk; rw [hnx]
      have hbl := bk_lt l i
      have hh := hashN_lt x
      repeat' (first
        | ((with_reducible apply g_op); first
          | ((with_reducible apply g_load); first
            | ((with_reducible apply w_fl (v := .string _)); exact rfl; exact (fun _ => rfl); assumption; exact rfl))
          | ((with_reducible apply g_move); first
            | ((with_reducible apply w_pure (v := .int _ _)); exact rfl; exact rfl)
            | ((with_reducible apply w_pure (v := .bool _)); exact rfl; exact rfl)
            | ((with_reducible apply w_pure (v := .string _)); exact rfl; exact rfl))
          | ((with_reducible apply g_bin); first
            | ((with_reducible apply w_wrap); exact rfl; exact rfl; first | exact i64_in _ (by omega) | exact u64_in _ (by omega) | exact u8_in _ (by omega))
            | ((with_reducible apply w_tne); exact rfl; exact rfl; exact rfl; exact rfl; exact rfl)
            | ((with_reducible apply w_pure (v := .bool _)); exact rfl; exact rfl))
          | ((with_reducible apply g_pick); first
            | ((with_reducible apply w_pk1 (v := .bool _)); exact rfl; exact rfl; (first | assumption | exact decide_eq_true (by assumption) | exact decide_eq_false (by assumption) | exact decide_eq_true (by omega) | exact decide_eq_false (by omega) | exact beq_iff_eq.2 (by omega) | exact beq_eq_false_iff_ne.2 (by omega) | exact bne_iff_ne.2 (by omega) | exact bne_eq_false_iff_eq.2 (by omega))))
          | ((with_reducible apply g_assign); first
            | ((with_reducible apply w_pure (v := .int _ _)); exact rfl; exact rfl)
            | ((with_reducible apply w_pure (v := .string _)); exact rfl; exact rfl))
          | ((with_reducible apply g_ix); first
            | ((with_reducible apply w_fx (sz := 1)); exact rfl; exact rfl; exact rfl; exact rfl; exact rfl; exact (fun _ => rfl); assumption; exact rfl)))
        | ((with_reducible apply g_gd); first
          | ((with_reducible apply w_gd_t); exact rfl; all_goals (intro hc; first | (exfalso; omega) | skip)))
        | with_reducible refine w_seq ?_
        | with_reducible refine w_nil ?_
        | with_reducible refine w_region ?_
        | with_reducible refine w_skip ?_
        | with_reducible refine w_block ?_
        | with_reducible refine w_blk ?_
        | ((with_reducible apply w_ifd); exact rfl; all_goals (intro hc; first | (exfalso; omega) | skip)))
      all_goals first | exact absurd (show x ≠ ⟨#[]⟩ from hx0) (by assumption) | (exfalso; omega) | skip
      refine w_rq (hash_run x hzx _ _ _) (fun _ => rfl) ?_
      rintro _ rfl
      repeat' (first
        | ((with_reducible apply g_op); first
          | ((with_reducible apply g_move); first
            | ((with_reducible apply w_pure (v := .int _ _)); exact rfl; exact rfl)
            | ((with_reducible apply w_pure (v := .slice _ _ _)); exact rfl; exact rfl))
          | ((with_reducible apply g_bin); first
            | ((with_reducible apply w_mod); exact rfl; exact rfl; exact rfl; exact rfl; exact rfl; omega; omega))
          | ((with_reducible apply g_assign); first
            | ((with_reducible apply w_pure (v := .int _ _)); exact rfl; exact rfl))
          | ((with_reducible apply g_call); first
            | ((with_reducible apply w_call (v := .int _ _)); exact rfl))
          | ((with_reducible apply w_conv); exact rfl; exact rfl; exact rfl; first | exact i64_in _ (by omega) | exact u64_in _ (by omega) | exact u8_in _ (by omega) | exact u32_in _ (by omega))
          | ((with_reducible apply g_ix); first
            | ((with_reducible apply w_ixr (sz := 1)); exact rfl; exact rfl; exact rfl; exact rfl; omega; omega)))
        | with_reducible refine w_nil ?_
        | with_reducible refine w_region ?_)
      have hoff : 0 + ((hashN x : Int) % (bks l : Int)).toNat * 1 = bk l i := by rw [← Int.natCast_emod, Int.toNat_natCast, hbk]; omega
      have hofi : 0 + ((i : Int)).toNat * 1 = i := by omega
      refine w_load (v := .int .i64 (pv (inB l (bk l i)) i : Nat)) rfl hg1 (by rw [part_one (by kernel_rfl), hoff]; exact iis_at (first_at l i _ hbl)) ?_
      repeat' (first
        | ((with_reducible apply g_op); first
          | ((with_reducible apply g_move); first
            | ((with_reducible apply w_pure (v := .int _ _)); exact rfl; exact rfl))
          | ((with_reducible apply g_ix); first
            | ((with_reducible apply w_ixr (sz := 1)); exact rfl; exact rfl; exact rfl; exact rfl; omega; omega))))
      refine w_st1 (v := .int .i64 (pv (inB l (bk l i)) i : Nat)) rfl rfl rfl rfl hg2 (by omega) rfl (by rw [hofi, iis_len, next_len]; exact hlt) ?_
      repeat' (first
        | ((with_reducible apply g_op); first
          | ((with_reducible apply g_ix); first
            | ((with_reducible apply w_ixr (sz := 1)); exact rfl; exact rfl; exact rfl; exact rfl; omega; omega))))
      refine w_st1 (v := .int .i64 (i : Nat)) rfl rfl rfl rfl (by rw [upd_ne (by omega)]; exact hg1) (by omega) rfl (by rw [hoff, iis_len, first_len]; exact hbl) ?_
      rw [hofi, hoff, iis_set, iis_set, ← e1, ← e2]
      repeat' (first
        | ((with_reducible apply g_op); first
          | ((with_reducible apply g_move); first
            | ((with_reducible apply w_pure (v := .int _ _)); exact rfl; exact rfl))
          | ((with_reducible apply g_bin); first
            | ((with_reducible apply w_wrap); exact rfl; exact rfl; first | exact i64_in _ (by omega) | exact u64_in _ (by omega) | exact u8_in _ (by omega))))
        | with_reducible refine w_nil ?_
        | with_reducible refine w_region ?_
        | with_reducible refine w_blk ?_)
      exact ih () _ _ _ (by repeat' (first | with_reducible exact Fr.mix | with_reducible exact Fr.rfl' | with_reducible refine Fr.put ?_ ?_ | with_reducible refine Fr.mix2 ?_ ?_ | with_reducible refine Fr.put0 ?_ | exact rfl)) ⟨rfl, upd_same, by rw [upd_ne (by omega), upd_same], hn⟩
  · rintro _ σ gl nl ⟨k24, hg1, hg2, hn⟩
    refine w_keep (i := 24) k24 ?_
    repeat' (first
      | ((with_reducible apply g_op); first
        | ((with_reducible apply g_move); first
          | ((with_reducible apply w_pure (v := .slice _ _ _)); exact rfl; exact rfl))
        | ((with_reducible apply g_bin); first
          | ((with_reducible apply w_pure (v := .bool _)); exact rfl; exact rfl))
        | ((with_reducible apply g_call); first
          | ((with_reducible apply w_call (v := .int _ _)); exact rfl))
        | ((with_reducible apply w_alloc (ls := [_, _])); exact rfl; exact rfl))
      | with_reducible refine w_seq ?_
      | with_reducible refine w_nil ?_
      | with_reducible refine w_region ?_
      | ((with_reducible apply w_exit); exact rfl)
      | ((with_reducible apply w_ifd); exact rfl; all_goals (intro hc; first | (exfalso; omega) | skip)))
    refine w_rq (sput_run _ 4 (by omega) _ _ _) (fun _ => rfl) ?_
    rintro _ rfl
    repeat' (first
      | ((with_reducible apply g_op); first
        | ((with_reducible apply g_move); first
          | ((with_reducible apply w_pure (v := .slice _ _ _)); exact rfl; exact rfl))
        | ((with_reducible apply g_call); first
          | ((with_reducible apply w_call (v := .int _ _)); exact rfl))))
    refine w_rq (sput_run _ 4 (by omega) _ _ _) (fun _ => rfl) ?_
    rintro _ rfl
    have z1 := putV_size (bks l : Nat) 4
    have z2 := putV_size (l.length : Nat) 4
    have w4 : wid 4 = 4 := rfl
    rw [w4] at z1 z2
    repeat' (first
      | ((with_reducible apply g_op); first
        | ((with_reducible apply g_bin); first
          | ((with_reducible apply w_cat); exact rfl; exact rfl; exact rfl; exact rfl; exact rfl; omega))))
    refine w_rn ((Bl.Bd.new (lo := nl) (by omega)).write (s := putV (bks l : Nat) 4 ++ putV (l.length : Nat) 4) (by omega) (by rw [ByteArray.size_append, z1, z2]; decide)) (fun _ => rfl) ?_
    rintro _ g1 n1 ⟨rfl, hb, hn1, hf⟩
    rw [Bl.empty_app, putV_pos _ (Int.natCast_nonneg _), putV_pos _ (Int.natCast_nonneg _), quads_two] at hb
    have hg1' : g1 n = some (.cells 3 (iis (firstL l l.length))) := by rw [hf _ (by omega) (by omega), upd_ne (by omega)]; exact hg1
    have hg2' : g1 (n + 1) = some (.cells 3 (iis (nextL l l.length))) := by rw [hf _ (by omega) (by omega), upd_ne (by omega)]; exact hg2
    repeat' (first
      | ((with_reducible apply g_op); first
        | ((with_reducible apply g_move); first
          | ((with_reducible apply w_pure (v := .slice _ _ _)); exact rfl; exact rfl)))
      | with_reducible refine w_seq ?_
      | with_reducible refine w_nil ?_
      | with_reducible refine w_region ?_)
    refine w_appF (by_ := 8) (sz := 1) (i := n) (n0 := bks l) (mm := l.length) (xv := slc (n + 1) 0 l.length) (vs0 := iis (firstL l l.length)) (ns := iis (nextL l l.length)) rfl rfl rfl rfl rfl rfl rfl ?_ ?_ hg1' (by rw [iis_len, first_len]; omega) (fun h => List.length_eq_zero_iff.1 (by rw [iis_len, next_len]; exact h)) (by omega) (by omega) ?_
    · simp only [lenList, hg2']
      exact rd_all (vs := iis (nextL l l.length)) (by rw [iis_len, next_len l l.length, Nat.mul_one])
    · unfold appendable; rw [iis_one]; rfl
    rintro r G1 N1 h1 h2 h3 h4 h5 h6
    rw [← iis_app] at h5
    have hR := table_pos l hl
    obtain ⟨R, hRR⟩ : ∃ R, R = firstL l l.length ++ nextL l l.length := ⟨_, rfl⟩
    have hRl : R.length = bks l + l.length := by rw [hRR, List.length_append, first_len, next_len]
    have hB1 : Bs G1 nl N1 n r (quads [(bks l : Nat), (l.length : Nat)]) := by
      obtain ⟨o, hb1, hb2⟩ := hb
      refine ⟨o, hb1.same (by omega) (fun j hj => ?_), fun e => ?_⟩
      · rcases hj with rfl | hj
        · exact h6 _ (by have := hb1.1; omega) (by omega)
        · subst hj
          have := hb2 j rfl
          exact h6 _ hb1.2.2.2.2.2.1 (by omega)
      · subst e
        have := hb2 r rfl
        have h7 : r < n1 := hb1.2.2.2.2.2.1
        omega
    rw [← hRR] at h5 hR
    repeat' (first
      | ((with_reducible apply g_op); first
        | ((with_reducible apply g_move); first
          | ((with_reducible apply w_pure (v := .int _ _)); exact rfl; exact rfl))
        | ((with_reducible apply g_call); first
          | ((with_reducible apply w_call (v := .int _ _)); exact rfl)))
      | with_reducible refine w_nil ?_
      | with_reducible refine w_block ?_)
    refine w_rngK [(11, 11), (65, 72)] R (fun i rest (p : List Int) σ g' n' => σ 65 = .int .i64 (i : Nat) ∧ g' r = some (.cells 3 (iis R)) ∧ Bs g' nl n' n r (quads p) ∧ p ++ rest = tableN l ∧ p.length = i + 2 ∧ r < n') ?_ ?_ [(bks l : Nat), (l.length : Nat)] ⟨rfl, h5, hB1, by rw [hRR]; rfl, rfl, h2⟩
    · rintro i x rest p σ gl nl2 hx hlt ⟨k65, hg, hb, hp, hpl, hrn⟩ ih
      refine w_keep (i := 65) k65 ?_
      obtain ⟨x0, x1⟩ := hR x (List.mem_of_getElem? hx)
      have hqs := quads_size p
      have z3 := putB_size x 4
      repeat' (first
        | ((with_reducible apply g_op); first
          | ((with_reducible apply g_bin); first
            | ((with_reducible apply w_pure (v := .bool _)); exact rfl; exact rfl))
          | ((with_reducible apply g_ix); first
            | ((with_reducible apply w_ixr (sz := 1)); exact rfl; exact rfl; exact rfl; exact rfl; omega; omega)))
        | with_reducible refine w_seq ?_
        | with_reducible refine w_nil ?_
        | with_reducible refine w_region ?_
        | with_reducible refine w_skip ?_
        | with_reducible refine w_block ?_
        | ((with_reducible apply w_ifd); exact rfl; all_goals (intro hc; first | (exfalso; omega) | skip)))
      refine w_load (v := .int .i64 x) rfl hg (by rw [part_one (by kernel_rfl), show 0 + ((i : Int)).toNat * 1 = i by omega]; exact iis_at hx) ?_
      repeat' (first
        | ((with_reducible apply g_op); first
          | ((with_reducible apply g_move); first
            | ((with_reducible apply w_pure (v := .int _ _)); exact rfl; exact rfl))
          | ((with_reducible apply g_assign); first
            | ((with_reducible apply w_pure (v := .int _ _)); exact rfl; exact rfl)))
        | with_reducible refine w_nil ?_
        | with_reducible refine w_region ?_)
      refine w_rq (sput_run x 4 (by omega) _ _ _) (fun _ => rfl) ?_
      rintro _ rfl
      rw [putV_pos _ x0]
      repeat' (first
        | fail)
      refine w_rn (hb.write (s := putB x 4) hrn (by omega) (by rw [z3]; omega)) (fun _ => rfl) ?_
      rintro _ g' n' ⟨rfl, q1, q2, q3⟩
      rw [← quads_snoc] at q1
      repeat' (first
        | ((with_reducible apply g_op); first
          | ((with_reducible apply g_move); first
            | ((with_reducible apply w_pure (v := .int _ _)); exact rfl; exact rfl))
          | ((with_reducible apply g_bin); first
            | ((with_reducible apply w_wrap); exact rfl; exact rfl; first | exact i64_in _ (by omega) | exact u64_in _ (by omega) | exact u8_in _ (by omega))))
        | with_reducible refine w_nil ?_
        | with_reducible refine w_region ?_
        | with_reducible refine w_blk ?_)
      exact ih (p ++ [x]) _ _ _ (by repeat' (first | with_reducible exact Fr.mix | with_reducible exact Fr.rfl' | with_reducible refine Fr.put ?_ ?_ | with_reducible refine Fr.mix2 ?_ ?_ | with_reducible refine Fr.put0 ?_ | exact rfl)) ⟨rfl, by rw [q3]; exact hg, q1, by rw [← hp]; simp, by simp; omega, by omega⟩
    · rintro p σ gl nl2 ⟨k65, hg, hb, hp, hpl, hrn⟩
      refine w_keep (i := 65) k65 ?_
      rw [List.append_nil] at hp
      have hqs := quads_size p
      obtain ⟨o, hb1, hb2⟩ := hb
      repeat' (first
        | ((with_reducible apply g_op); first
          | ((with_reducible apply g_bin); first
            | ((with_reducible apply w_pure (v := .bool _)); exact rfl; exact rfl)))
        | with_reducible refine w_seq ?_
        | with_reducible refine w_nil ?_
        | with_reducible refine w_region ?_
        | ((with_reducible apply w_exit); exact rfl)
        | ((with_reducible apply w_ifd); exact rfl; all_goals (intro hc; first | (exfalso; omega) | skip)))
      refine w_rn (Bl.string_run (quads p) o _ _ _ _ hb1 (by omega)) (fun _ => rfl) ?_
      rintro _ g' n' ⟨rfl, q1, q2⟩
      repeat' (first
        | ((with_reducible apply g_op); first
          | ((with_reducible apply g_assign); first
            | ((with_reducible apply w_pure (v := .int _ _)); exact rfl; exact rfl)
            | ((with_reducible apply w_pure (v := .string _)); exact rfl; exact rfl)))
        | with_reducible refine w_nil ?_
        | ((with_reducible apply w_ret (v := .tuple #[.string _, .int _ _])); exact rfl))
      exact fr_plain rfl (by rw [hp]; rfl)
end Sym
end Go.Proofs.Ytoknnbjkjhigbaa.L

