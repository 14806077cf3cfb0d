/- SymbolThere: walked, and its plain law. -/
import Derived.Test.Ytoknnbjkjhigbaac10I
namespace Go.Proofs.Ytoknnbjkjhigbaa.L.SymbolThere
open Go.L1 Go.IntWalk Go.Proofs.Ytoknnbjkjhigbaa.L Sym Oct
set_option linter.unusedVariables false
set_option linter.unusedSimpArgs false
set_option maxHeartbeats 4000000
set_option maxRecDepth 20000
def tab : Tb := L.T
theorem tabok : ∀ C : Cx, C.P = Try.prog → TbOk C tab := L.tabok
def printf : ByteArray := ⟨#[112, 114, 105, 110, 116, 102]⟩
theorem hash_printf : hashN printf = 125371814 := by decide +kernel
theorem awake_run : Rf Try.prog T 7 [] (fun v => v = .bool true) := by
  refine c_froz Try.func7 rfl rfl rfl rfl rfl rfl ?_
  intro g n
  repeat' (first
    | ((with_reducible apply g_op); first
      | ((with_reducible apply g_assign); first
        | ((with_reducible apply w_pure (v := .bool _)); exact rfl; exact rfl)))
    | with_reducible refine w_seq ?_
    | with_reducible refine w_nil ?_
    | with_reducible refine w_region ?_)
  refine w_rq (hash_run printf (by decide) _ _ _) (fun _ => rfl) ?_
  rintro _ rfl
  rw [hash_printf]
  repeat' (first
    | ((with_reducible apply g_op); first
      | ((with_reducible apply g_bin); first
        | ((with_reducible apply w_pure (v := .bool _)); exact rfl; exact rfl))
      | ((with_reducible apply g_assign); first
        | ((with_reducible apply w_pure (v := .bool _)); exact rfl; exact rfl)))
    | with_reducible refine w_nil ?_
    | ((with_reducible apply w_ret (v := .bool _)); exact rfl))
  exact fr_plain rfl rfl
/-- What is found ahead of c. -/
def wantV (ss : List ByteArray) (vs : List Int) (nm : ByteArray) (c : Nat) : Sy := if pv (isIt ss vs nm) c = 0 then Sy.zero else symAt ss vs (pv (isIt ss vs nm) c)
def thereV (ss : List ByteArray) (vs : List Int) (nm : ByteArray) (c : Nat) : Bool := decide (pv (isIt ss vs nm) c ≠ 0)
theorem find_is {view : ByteArray} {base : List UInt8} {ss : List ByteArray} {vs : List Int} (h : Vw view base ss vs) (nm : ByteArray) : findS view (dyOf base.length ss) nm = (wantV ss vs nm ss.length, thereV ss vs nm ss.length) := by
  rw [h.find]
  unfold wantV thereV
  by_cases h0 : pv (isIt ss vs nm) ss.length = 0
  · rw [if_pos h0, if_pos h0, decide_eq_false (by simp [h0])]
  · rw [if_neg h0, if_neg h0, decide_eq_true h0]
theorem want_succ (ss : List ByteArray) (vs : List Int) (nm : ByteArray) (j : Nat) (h0 : j ≠ 0) : (isIt ss vs nm j = true → wantV ss vs nm (j + 1) = symAt ss vs j ∧ thereV ss vs nm (j + 1) = true) ∧ (isIt ss vs nm j = false → wantV ss vs nm (j + 1) = wantV ss vs nm j ∧ thereV ss vs nm (j + 1) = thereV ss vs nm j) := by
  unfold wantV thereV
  constructor
  · intro h
    rw [pv_succ _ _ h0 h, if_neg h0]
    exact ⟨rfl, decide_eq_true h0⟩
  · intro h
    rw [pv_not _ _ (.inr h)]
    exact ⟨rfl, rfl⟩
theorem want_end (ss : List ByteArray) (vs : List Int) (nm : ByteArray) : wantV ss vs nm (ss.length - 1 + 1) = wantV ss vs nm ss.length ∧ thereV ss vs nm (ss.length - 1 + 1) = thereV ss vs nm ss.length := by
  by_cases h : ss.length = 0
  · rw [h]
    unfold wantV thereV
    rw [show (0 - 1 + 1 : Nat) = 0 + 1 from rfl, pv_not _ 0 (.inl rfl)]
    exact ⟨rfl, rfl⟩
  · rw [show ss.length - 1 + 1 = ss.length by omega]
    exact ⟨rfl, rfl⟩
set_option maxHeartbeats 0 in
theorem walk (l : List ByteArray) (x : List Int) (ah : Int) (u : ByteArray) (hl : l.length ≤ 9223372036854775807) (hx : x.length ≤ 9223372036854775807) (hu : u.size ≤ 9223372036854775807) (g : Nat → Option Ob) (s : Nat) : Rn Try.prog T 4 [.agg #[tv tg l, iv tg x, .int .i64 ah], .string u] g s s (fun v _ _ => v = .bool true) := by
  refine c_open Try.func4 rfl rfl rfl rfl rfl rfl ?_
  repeat' (first
    | ((with_reducible apply g_op); first
      | ((with_reducible apply g_assign); first
        | ((with_reducible apply w_pure (v := .bool _)); exact rfl; exact rfl))
      | ((with_reducible apply g_box); first
        | ((with_reducible apply w_box (vs := [_, _, _])); exact rfl; exact rfl)))
    | with_reducible refine w_seq ?_
    | with_reducible refine w_nil ?_
    | with_reducible refine w_region ?_)
  refine w_rf awake_run (fun _ => rfl) sn_nil ?_
  rintro v rfl
  repeat' (first
    | ((with_reducible apply g_op); first
      | ((with_reducible apply g_load); first
        | ((with_reducible apply w_load (v := .agg #[_, _, _])); exact rfl; (first | assumption | (simp (disch := omega) only [upd_same, upd_ne]; first | done | assumption | exact rfl) | exact rfl); exact rfl))
      | ((with_reducible apply g_assign); first
        | ((with_reducible apply w_pure (v := .bool _)); exact rfl; exact rfl)))
    | with_reducible refine w_seq ?_
    | with_reducible refine w_nil ?_
    | with_reducible refine w_region ?_)
  refine w_rf (made_run l x ah hl hx) (fun _ => rfl) (sn_cons (sn_agg (l := [_, _, _]) (sn_cons (sn_fzp (.inr (by simp)) (all_flat (fun _ => rfl) _)) (sn_cons (sn_fzp (.inr (by simp)) (all_flat (fun _ => rfl) _)) (sn_cons (sn_plain rfl) sn_nil)))) sn_nil) ?_
  rintro _ ⟨view, base, ss, vs, hV, rfl⟩
  obtain ⟨R, hR⟩ : ∃ R, symsL ss vs = R := ⟨_, rfl⟩
  have hRl : R.length = ss.length := by rw [← hR, syms_len]
  rw [hR]
  repeat' (first
    | ((with_reducible apply g_op); first
      | ((with_reducible apply g_move); first
        | ((with_reducible apply w_pure (v := .string _)); exact rfl; exact rfl)
        | ((with_reducible apply w_pure (v := .tuple _)); exact rfl; exact rfl))
      | ((with_reducible apply g_assign); first
        | ((with_reducible apply w_pure (v := .string _)); exact rfl; exact rfl)
        | ((with_reducible apply w_pure (v := .func _ _ _)); exact rfl; exact rfl))
      | ((with_reducible apply g_store); first
        | ((with_reducible apply w_store (us := [_, _, _, _, _, _, _, _, _]) (ws := [_, _, _, _, _, _, _, _, _])); exact rfl; exact rfl; (first | assumption | (simp (disch := omega) only [upd_same, upd_ne]; first | done | assumption | exact rfl) | exact rfl); omega; exact rfl; exact rfl; exact rfl))
      | ((with_reducible apply w_alloc (ls := [_, _, _, _, _, _, _, _, _])); exact rfl; exact rfl)
      | ((with_reducible apply w_pure (v := .string _)); exact rfl; exact rfl)
      | ((with_reducible apply w_pure (v := .agg _)); exact rfl; exact rfl)
      | ((with_reducible apply w_pure (v := .func _ _ _)); exact rfl; exact rfl))
    | with_reducible refine w_seq ?_
    | with_reducible refine w_nil ?_
    | with_reducible refine w_region ?_)
  refine w_rq (short_run u 8 (by decide) _ _ _) (fun _ => rfl) ?_
  rintro _ rfl
  have hu8 : (shortS u 8).size ≤ 8 := short_size u 8
  generalize shortS u 8 = nm at *
  repeat' (first
    | ((with_reducible apply g_op); first
      | ((with_reducible apply g_assign); first
        | ((with_reducible apply w_pure (v := .int _ _)); exact rfl; exact rfl)
        | ((with_reducible apply w_pure (v := .bool _)); exact rfl; exact rfl)
        | ((with_reducible apply w_pure (v := .string _)); exact rfl; exact rfl))
      | ((with_reducible apply w_alloc (ls := [_, _, _])); exact rfl; exact rfl))
    | with_reducible refine w_seq ?_
    | with_reducible refine w_nil ?_
    | with_reducible refine w_region ?_)
  refine w_block ?_
  have hsz := hV.size
  have hsm := hV.small
  have htl := hV.tle
  have hfew := hV.gd.few
  have hlo := hV.lo
  have hhi := hV.hi
  obtain ⟨a, hA⟩ : ∃ a, base.length = a := ⟨_, rfl⟩
  rw [hA] at hsz hlo hhi
  obtain ⟨tz, htz⟩ : ∃ tz, (tl ss).length = tz := ⟨_, rfl⟩
  rw [htz] at hsz htl
  refine w_env ?_
  intro τ hτ
  have k1 : τ 1 = .string nm := (hτ 1).trans rfl
  have k5 : τ 5 = .bool true := (hτ 5).trans rfl
  have k6 : τ 6 = .string view := (hτ 6).trans rfl
  have k7 : τ 7 = ptr (s + 1) 0 := (hτ 7).trans rfl
  have k8 : τ 8 = fz #[] R.length (R.flatMap sy) := (hτ 8).trans rfl
  have k9 : τ 9 = .bool false := (hτ 9).trans rfl
  have k10 : τ 10 = ptr (s + 1 + 1) 0 := (hτ 10).trans rfl
  have k11 : τ 11 = .int .i64 1 := (hτ 11).trans rfl
  clear hτ
  refine w_gen (fun G N => G (s + 1) = some (.cells 32 [fz #[] 0 [], .int .i64 a, .int .i64 tz, .int .i64 (a + tz : Nat), .int .i64 (a + tz + 24 * ss.length : Nat), .int .i64 0, .int .i64 0, .int .i64 0, .int .i64 0]) ∧ G (s + 1 + 1) = some (.cells 37 (sy Sy.zero)) ∧ N = s + 3) ⟨?_, ?_, rfl⟩ ?_
  · simp (disch := omega) only [upd_same, upd_ne]
    subst hA htz
    rfl
  · simp (disch := omega) only [upd_same, upd_ne]
    rfl
  rintro G _ ⟨hg1, hg2, rfl⟩
  refine w_keep (i := 1) k1 (w_keep (i := 5) k5 (w_keep (i := 6) k6 (w_keep (i := 7) k7 (w_keep (i := 8) k8 (w_keep (i := 9) k9 (w_keep (i := 10) k10 (w_keep (i := 11) k11 ?_)))))))
  refine w_cntK [(4, 4), (9, 9), (11, 15), (27, 85)] (ss.length - 1) (fun i (_ : Unit) σ g' n' => σ 11 = .int .i64 ((i : Nat) + 1) ∧ σ 9 = .bool (thereV ss vs nm (i + 1)) ∧ g' (s + 1) = some (.cells 32 [fz #[] 0 [], .int .i64 a, .int .i64 tz, .int .i64 (a + tz : Nat), .int .i64 (a + tz + 24 * ss.length : Nat), .int .i64 0, .int .i64 0, .int .i64 0, .int .i64 0]) ∧ g' (s + 1 + 1) = some (.cells 37 (sy (wantV ss vs nm (i + 1)))) ∧ s + 3 ≤ n') ?_ ?_ () ⟨rfl, rfl, hg1, hg2, by omega⟩
  · rintro i _ σ g2 n2 hi ⟨k11, k9, hg1, hg2, hn⟩ ih
    obtain ⟨j, hj⟩ : ∃ j, i + 1 = j := ⟨_, rfl⟩
    rw [hj] at k9 hg2
    obtain ⟨sj, hsj⟩ : ∃ t, ss[j]? = some t := ⟨_, List.getElem?_eq_getElem (by omega)⟩
    have hRj : R[((i : Int) + 1).toNat]? = some (symAt ss vs j) := by rw [← hR, show ((i : Int) + 1).toNat = j by omega]; exact syms_at ss vs j (by omega)
    obtain ⟨hs8, hsn⟩ := hV.gd.txt sj (List.mem_of_getElem? hsj)
    have hof := offs_le ss j
    rw [htz] at hof
    have hvj := mem_num hV.gd j
    have hread := hV.read j (by omega)
    rw [hA] at hread
    have hdat := hV.dat
    rw [tl_split hsj] at hdat
    have hat : view.data.toList = (base ++ tl (ss.take j)) ++ (sj.data.toList ++ (0 :: tl (ss.drop (j + 1)) ++ (rl (symsL ss vs) ++ ql (tableN ss)))) := by rw [hdat]; simp only [List.append_assoc]
    have hal : (base ++ tl (ss.take j)).length = a + offs ss j := by rw [List.length_append, hA]; rfl
    have hb : ∀ k, k < sj.size → bt view (a + offs ss j + k) = bt sj k := fun k hk => by rw [← hal]; exact bt_at hat hk
    have hat2 : view.data.toList = (base ++ tl (ss.take j) ++ sj.data.toList) ++ (0 :: (tl (ss.drop (j + 1)) ++ (rl (symsL ss vs) ++ ql (tableN ss)))) := by rw [hat]; simp only [List.append_assoc, List.cons_append]
    have hb0 : bt view (a + offs ss j + sj.size) = 0 := by
      have := bt_in hat2
      rw [List.length_append, hal, size_list] at this
      exact this
    have hext := ext_at hat
    rw [hal] at hext
    have hroom : a + offs ss j + sj.size < view.size := by
      rw [size_of hat2]
      simp only [List.length_append, List.length_cons, size_list, hA]
      unfold offs
      omega
    obtain ⟨S, hS⟩ : ∃ S, view.extract (a + offs ss j) view.size = S := ⟨_, rfl⟩
    have hSz : S.size = view.size - (a + offs ss j) := by rw [← hS, ByteArray.size_extract]; omega
    have hSb : ∀ k, k < S.size → bt S k = bt view (a + offs ss j + k) := fun k hk => by
      have := bt_part view (a + offs ss j) (view.size - (a + offs ss j)) k (by omega)
      rw [show a + offs ss j + (view.size - (a + offs ss j)) = view.size by omega, hS] at this
      exact this
    have hSe : S.extract 0 sj.size = sj := by
      rw [← hS]
      refine Eq.trans (ba_ext ?_) hext
      rw [Lib.extract_data, Lib.extract_data, Lib.extract_data, List.drop_zero, List.take_take]
      congr 1
      omega
    obtain ⟨⟨y1, y2, y3⟩, hy⟩ : ∃ y, symAt ss vs j = y := ⟨_, rfl⟩
    have hy1 : y1 = (offs ss j : Int) := congrArg (fun z : Sy => z.1) hy.symm
    have hy2 : y2 = decide (vs.getD j 0 % 4 ≠ 0) := congrArg (fun z : Sy => z.2.1) hy.symm
    rw [hy] at hRj hread
    subst hy1
    have hidx : ((a : Int) + (offs ss j : Int)).toNat = a + offs ss j := by omega
    refine w_keep (i := 9) k9 (w_keep (i := 11) k11 ?_)
    repeat' (first
      | ((with_reducible apply g_op); first
        | ((with_reducible apply g_move); first
          | ((with_reducible apply w_pure (v := .int _ _)); exact rfl; exact rfl)
          | ((with_reducible apply w_pure (v := .func _ _ _)); exact rfl; exact rfl))
        | ((with_reducible apply g_bin); first
          | ((with_reducible apply w_pure (v := .bool _)); exact rfl; exact rfl))
        | ((with_reducible apply g_call); first
          | ((with_reducible apply w_call (v := .int _ _)); exact rfl)))
      | with_reducible refine w_seq ?_
      | with_reducible refine w_nil ?_
      | with_reducible refine w_region ?_
      | with_reducible refine w_skip ?_
      | ((with_reducible apply w_ifd); exact rfl; all_goals (intro hc; first | (exfalso; omega) | skip)))
    refine w_block ?_
    repeat' (first
      | ((with_reducible apply g_op); first
        | ((with_reducible apply g_load); first
          | ((with_reducible apply w_fl (v := .int _ _)); exact rfl; exact (fun _ => rfl); assumption; exact rfl)
          | ((with_reducible apply w_load (v := .int _ _)); exact rfl; (first | assumption | (simp (disch := omega) only [upd_same, upd_ne]; first | done | assumption | exact rfl) | exact rfl); exact rfl))
        | ((with_reducible apply g_move); first
          | ((with_reducible apply w_pure (v := .int _ _)); exact rfl; exact rfl)
          | ((with_reducible apply w_pure (v := .string _)); exact rfl; exact rfl)
          | ((with_reducible apply w_pure (v := .func _ _ _)); exact rfl; exact rfl))
        | ((with_reducible apply g_bin); first
          | ((with_reducible apply w_wrap); exact rfl; exact rfl; first | exact i64_in _ (by omega) | exact u64_in _ (by omega) | exact u8_in _ (by omega)))
        | ((with_reducible apply g_fld); first
          | ((with_reducible apply w_fldp (o := 1)); exact rfl; exact rfl; exact rfl; exact (by decide))
          | ((with_reducible apply w_ffld (o := 0)); exact rfl; exact rfl; exact rfl; exact (by decide)))
        | ((with_reducible apply g_assign); first
          | ((with_reducible apply w_pure (v := .int _ _)); exact rfl; exact rfl)
          | ((with_reducible apply w_pure (v := .string _)); exact rfl; exact rfl))
        | ((with_reducible apply w_ssl); exact rfl; exact rfl; (first | exact num_of (by omega) | exact rfl); (first | exact num_of (by omega) | exact rfl); omega)
        | ((with_reducible apply g_ix); first
          | ((with_reducible apply w_fx (sz := 3)); exact rfl; exact rfl; exact rfl; exact rfl; exact rfl; exact (fun _ => rfl); assumption; exact rfl)))
      | with_reducible refine w_seq ?_
      | with_reducible refine w_nil ?_
      | with_reducible refine w_region ?_
      | ((with_reducible apply w_draw); kernel_rfl; kernel_rfl))
    rw [hidx, hS]
    refine w_block ?_
    refine w_cntK [(13, 13), (43, 48)] sj.size (fun k (_ : Unit) σ g' n' => σ 13 = .int .i64 (k : Nat) ∧ g2 = g' ∧ n2 = n') ?_ ?_ () ⟨rfl, rfl, rfl⟩
    · rintro k _ σ3 _ _ hk ⟨k13, rfl, rfl⟩ ih2
      have hne : bt S k ≠ 0 := by rw [hSb k (by omega), hb k hk]; exact hsn k hk
      refine w_keep (i := 13) k13 ?_
      repeat' (first
        | ((with_reducible apply g_op); first
          | ((with_reducible apply g_move); first
            | ((with_reducible apply w_pure (v := .int _ _)); exact rfl; exact rfl)
            | ((with_reducible apply w_pure (v := .string _)); exact rfl; exact rfl))
          | ((with_reducible apply g_bin); first
            | ((with_reducible apply w_pure (v := .bool _)); exact rfl; exact rfl))
          | ((with_reducible apply w_sidx); exact rfl; exact rfl; exact rfl; omega; omega))
        | with_reducible refine w_seq ?_
        | with_reducible refine w_nil ?_
        | with_reducible refine w_region ?_)
      refine w_ifn rfl (fun _ => ?_) (fun h => absurd h hne)
      repeat' (first
        | ((with_reducible apply g_op); first
          | ((with_reducible apply g_move); first
            | ((with_reducible apply w_pure (v := .int _ _)); exact rfl; exact rfl))
          | ((with_reducible apply g_bin); first
            | ((with_reducible apply w_wrap); exact rfl; exact rfl; first | exact i64_in _ (by omega) | exact u64_in _ (by omega) | exact u8_in _ (by omega)))
          | ((with_reducible apply g_assign); first
            | ((with_reducible apply w_pure (v := .int _ _)); exact rfl; exact rfl)))
        | with_reducible refine w_nil ?_
        | with_reducible refine w_region ?_
        | with_reducible refine w_skip ?_
        | with_reducible refine w_block ?_
        | with_reducible refine w_blk ?_)
      exact ih2 () _ _ _ (by repeat' (first | with_reducible exact Fr.mix | with_reducible exact Fr.rfl' | with_reducible refine Fr.put ?_ ?_ | with_reducible refine Fr.mix2 ?_ ?_ | with_reducible refine Fr.put0 ?_ | exact rfl)) ⟨rfl, rfl, rfl⟩
    rintro _ σ3 _ _ ⟨k13, rfl, rfl⟩
    have he0 : bt S sj.size = 0 := by rw [hSb _ (by omega)]; exact hb0
    refine w_keep (i := 13) k13 ?_
    repeat' (first
      | ((with_reducible apply g_op); first
        | ((with_reducible apply g_move); first
          | ((with_reducible apply w_pure (v := .int _ _)); exact rfl; exact rfl)
          | ((with_reducible apply w_pure (v := .string _)); exact rfl; exact rfl))
        | ((with_reducible apply g_bin); first
          | ((with_reducible apply w_pure (v := .bool _)); exact rfl; exact rfl))
        | ((with_reducible apply w_sidx); exact rfl; exact rfl; exact rfl; omega; omega))
      | with_reducible refine w_seq ?_
      | with_reducible refine w_nil ?_
      | with_reducible refine w_region ?_)
    refine w_ifn rfl (fun h => absurd he0 h) (fun _ => ?_)
    repeat' (first
      | with_reducible refine w_seq ?_
      | ((with_reducible apply w_exit); exact rfl))
    have hnj : Sym.nm ss j = sj := nm_at hsj
    have hsz0 : sj ≠ ⟨#[]⟩ ↔ 0 < sj.size := by
      constructor
      · intro h
        rcases Nat.eq_zero_or_pos sj.size with h0 | h0
        · exact absurd (ba_ext (List.length_eq_zero_iff.1 (by rw [size_list]; exact h0))) h
        · exact h0
      · rintro h rfl
        exact absurd h (by decide)
    have hisj : isIt ss vs nm j = (decide (sj = nm) && decide (0 < sj.size) && y2) := by
      unfold isIt
      rw [hnj, hy2, Bool.eq_iff_iff]
      simp only [decide_eq_true_eq, Bool.and_eq_true]
      rw [hsz0]
      exact ⟨fun ⟨p, q, r⟩ => ⟨⟨p, q⟩, r⟩, fun ⟨⟨p, q⟩, r⟩ => ⟨p, q, r⟩⟩
    refine w_meetK [(49, 64)] (fun σ' g' n' => σ' 64 = .bool (isIt ss vs nm j) ∧ g2 = g' ∧ n2 = n') ?_ ?_
    · intro K2 R2 hK2
      have hSe' : S.extract 0 ((sj.size : Int)).toNat = sj := hSe
      by_cases h1 : S.extract 0 ((sj.size : Int)).toNat = nm
      · have h1' : sj = nm := by rw [← hSe']; exact h1
        by_cases h2 : 0 < sj.size
        · cases y2 <;> (
          repeat' (first
            | ((with_reducible apply g_op); first
              | ((with_reducible apply g_load); first
                | ((with_reducible apply w_fl (v := .bool _)); exact rfl; exact (fun _ => rfl); assumption; exact rfl))
              | ((with_reducible apply g_move); first
                | ((with_reducible apply w_pure (v := .int _ _)); exact rfl; exact rfl)
                | ((with_reducible apply w_pure (v := .bool _)); exact rfl; exact rfl)
                | ((with_reducible apply w_pure (v := .string _)); exact rfl; exact rfl)
                | ((with_reducible apply w_pure (v := .func _ _ _)); exact rfl; exact rfl))
              | ((with_reducible apply g_bin); first
                | ((with_reducible apply w_teq); exact rfl; exact rfl; exact rfl; exact rfl; exact rfl)
                | ((with_reducible apply w_pure (v := .bool _)); exact rfl; exact rfl))
              | ((with_reducible apply g_fld); first
                | ((with_reducible apply w_ffld (o := 1)); exact rfl; exact rfl; exact rfl; exact (by decide)))
              | ((with_reducible apply g_pick); first
                | ((with_reducible apply w_pk1 (v := .bool _)); exact rfl; exact rfl; (first | assumption | exact decide_eq_true (by assumption) | exact decide_eq_false (by assumption) | exact decide_eq_true (by omega) | exact decide_eq_false (by omega) | exact beq_iff_eq.2 (by omega) | exact beq_eq_false_iff_ne.2 (by omega) | exact bne_iff_ne.2 (by omega) | exact bne_eq_false_iff_eq.2 (by omega)))
                | ((with_reducible apply w_pk0 (v := .bool _)); exact rfl; exact rfl; (first | assumption | exact decide_eq_true (by assumption) | exact decide_eq_false (by assumption) | exact decide_eq_true (by omega) | exact decide_eq_false (by omega) | exact beq_iff_eq.2 (by omega) | exact beq_eq_false_iff_ne.2 (by omega) | exact bne_iff_ne.2 (by omega) | exact bne_eq_false_iff_eq.2 (by omega))))
              | ((with_reducible apply w_ssl); exact rfl; exact rfl; (first | exact num_of (by omega) | exact rfl); (first | exact num_of (by omega) | exact rfl); omega)
              | ((with_reducible apply g_ix); first
                | ((with_reducible apply w_fx (sz := 3)); exact rfl; exact rfl; exact rfl; exact rfl; exact rfl; exact (fun _ => rfl); assumption; exact rfl))
              | ((with_reducible apply w_pure (v := .bool _)); exact rfl; exact rfl))
            | ((with_reducible apply g_gd); first
              | ((with_reducible apply w_pass); exact rfl)
              | ((with_reducible apply w_gd_t); exact rfl; all_goals (intro hc; first | (exfalso; omega) | skip)))
            | with_reducible refine w_nil ?_
            | with_reducible refine w_region ?_)
          all_goals first | exact absurd h1 (by assumption) | (exfalso; omega) | skip
          all_goals exact hK2 _ _ _ (by repeat' (first | with_reducible exact Fr.mix | with_reducible exact Fr.rfl' | with_reducible refine Fr.put ?_ ?_ | with_reducible refine Fr.mix2 ?_ ?_ | with_reducible refine Fr.put0 ?_ | exact rfl)) ⟨by rw [hisj, decide_eq_true h1', decide_eq_true h2]; rfl, rfl, rfl⟩)
        · repeat' (first
            | ((with_reducible apply g_op); first
              | ((with_reducible apply g_move); first
                | ((with_reducible apply w_pure (v := .int _ _)); exact rfl; exact rfl)
                | ((with_reducible apply w_pure (v := .bool _)); exact rfl; exact rfl)
                | ((with_reducible apply w_pure (v := .string _)); exact rfl; exact rfl))
              | ((with_reducible apply g_bin); first
                | ((with_reducible apply w_teq); exact rfl; exact rfl; exact rfl; exact rfl; exact rfl)
                | ((with_reducible apply w_pure (v := .bool _)); exact rfl; exact rfl))
              | ((with_reducible apply g_pick); first
                | ((with_reducible apply w_pk1 (v := .bool _)); exact rfl; exact rfl; (first | assumption | exact decide_eq_true (by assumption) | exact decide_eq_false (by assumption) | exact decide_eq_true (by omega) | exact decide_eq_false (by omega) | exact beq_iff_eq.2 (by omega) | exact beq_eq_false_iff_ne.2 (by omega) | exact bne_iff_ne.2 (by omega) | exact bne_eq_false_iff_eq.2 (by omega)))
                | ((with_reducible apply w_pk0 (v := .bool _)); exact rfl; exact rfl; (first | assumption | exact decide_eq_true (by assumption) | exact decide_eq_false (by assumption) | exact decide_eq_true (by omega) | exact decide_eq_false (by omega) | exact beq_iff_eq.2 (by omega) | exact beq_eq_false_iff_ne.2 (by omega) | exact bne_iff_ne.2 (by omega) | exact bne_eq_false_iff_eq.2 (by omega))))
              | ((with_reducible apply w_ssl); exact rfl; exact rfl; (first | exact num_of (by omega) | exact rfl); (first | exact num_of (by omega) | exact rfl); omega)
              | ((with_reducible apply w_pure (v := .bool _)); exact rfl; exact rfl))
            | ((with_reducible apply g_gd); first
              | ((with_reducible apply w_pass); exact rfl)
              | ((with_reducible apply w_gd_t); exact rfl; all_goals (intro hc; first | (exfalso; omega) | skip)))
            | with_reducible refine w_nil ?_
            | with_reducible refine w_region ?_)
          all_goals first | exact absurd h1 (by assumption) | (exfalso; omega) | skip
          all_goals exact hK2 _ _ _ (by repeat' (first | with_reducible exact Fr.mix | with_reducible exact Fr.rfl' | with_reducible refine Fr.put ?_ ?_ | with_reducible refine Fr.mix2 ?_ ?_ | with_reducible refine Fr.put0 ?_ | exact rfl)) ⟨by rw [hisj, decide_eq_true h1', decide_eq_false h2]; rfl, rfl, rfl⟩
      · have h1' : sj ≠ nm := by rw [← hSe']; exact h1
        repeat' (first
          | ((with_reducible apply g_op); first
            | ((with_reducible apply g_load); first
              | ((with_reducible apply w_fl (v := .bool _)); exact rfl; exact (fun _ => rfl); assumption; exact rfl))
            | ((with_reducible apply g_move); first
              | ((with_reducible apply w_pure (v := .int _ _)); exact rfl; exact rfl)
              | ((with_reducible apply w_pure (v := .bool _)); exact rfl; exact rfl)
              | ((with_reducible apply w_pure (v := .string _)); exact rfl; exact rfl)
              | ((with_reducible apply w_pure (v := .func _ _ _)); exact rfl; exact rfl))
            | ((with_reducible apply g_bin); first
              | ((with_reducible apply w_teq); exact rfl; exact rfl; exact rfl; exact rfl; exact rfl)
              | ((with_reducible apply w_pure (v := .bool _)); exact rfl; exact rfl))
            | ((with_reducible apply g_fld); first
              | ((with_reducible apply w_ffld (o := 1)); exact rfl; exact rfl; exact rfl; exact (by decide)))
            | ((with_reducible apply g_pick); first
              | ((with_reducible apply w_pk1 (v := .bool _)); exact rfl; exact rfl; (first | assumption | exact decide_eq_true (by assumption) | exact decide_eq_false (by assumption) | exact decide_eq_true (by omega) | exact decide_eq_false (by omega) | exact beq_iff_eq.2 (by omega) | exact beq_eq_false_iff_ne.2 (by omega) | exact bne_iff_ne.2 (by omega) | exact bne_eq_false_iff_eq.2 (by omega)))
              | ((with_reducible apply w_pk0 (v := .bool _)); exact rfl; exact rfl; (first | assumption | exact decide_eq_true (by assumption) | exact decide_eq_false (by assumption) | exact decide_eq_true (by omega) | exact decide_eq_false (by omega) | exact beq_iff_eq.2 (by omega) | exact beq_eq_false_iff_ne.2 (by omega) | exact bne_iff_ne.2 (by omega) | exact bne_eq_false_iff_eq.2 (by omega))))
            | ((with_reducible apply w_ssl); exact rfl; exact rfl; (first | exact num_of (by omega) | exact rfl); (first | exact num_of (by omega) | exact rfl); omega)
            | ((with_reducible apply g_ix); first
              | ((with_reducible apply w_fx (sz := 3)); exact rfl; exact rfl; exact rfl; exact rfl; exact rfl; exact (fun _ => rfl); assumption; exact rfl))
            | ((with_reducible apply w_pure (v := .bool _)); exact rfl; exact rfl))
          | ((with_reducible apply g_gd); first
            | ((with_reducible apply w_pass); exact rfl)
            | ((with_reducible apply w_gd_t); exact rfl; all_goals (intro hc; first | (exfalso; omega) | skip)))
          | with_reducible refine w_nil ?_
          | with_reducible refine w_region ?_)
        all_goals first | exact absurd (by assumption) h1 | (exfalso; omega) | skip
        all_goals exact hK2 _ _ _ (by repeat' (first | with_reducible exact Fr.mix | with_reducible exact Fr.rfl' | with_reducible refine Fr.put ?_ ?_ | with_reducible refine Fr.mix2 ?_ ?_ | with_reducible refine Fr.put0 ?_ | exact rfl)) ⟨by rw [hisj, decide_eq_false h1']; rfl, rfl, rfl⟩
    rintro σ4 _ _ ⟨k64, rfl, rfl⟩
    refine w_keep (i := 64) k64 ?_
    refine w_meetK [(9, 9), (65, 68)] (fun σ' g' n' => σ' 9 = .bool (thereV ss vs nm (j + 1)) ∧ g' (s + 1) = some (.cells 32 [fz #[] 0 [], .int .i64 a, .int .i64 tz, .int .i64 (a + tz : Nat), .int .i64 (a + tz + 24 * ss.length : Nat), .int .i64 0, .int .i64 0, .int .i64 0, .int .i64 0]) ∧ g' (s + 1 + 1) = some (.cells 37 (sy (wantV ss vs nm (j + 1)))) ∧ n2 = n') ?_ ?_
    · intro K2 R2 hK2
      obtain ⟨p1, p2⟩ := want_succ ss vs nm j (by omega)
      rcases Bool.eq_false_or_eq_true (isIt ss vs nm j) with hI | hI
      · obtain ⟨e1, e2⟩ := p1 hI
        rw [hy] at e1
        unfold sy at hg2
        refine w_yes (congrArg Value.bool hI) ?_
        repeat' (first
          | ((with_reducible apply g_op); first
            | ((with_reducible apply g_load); first
              | ((with_reducible apply w_fl (v := .agg #[_, _, _])); exact rfl; exact (fun _ => rfl); assumption; exact rfl))
            | ((with_reducible apply g_move); first
              | ((with_reducible apply w_pure (v := .int _ _)); exact rfl; exact rfl)
              | ((with_reducible apply w_pure (v := .func _ _ _)); exact rfl; exact rfl))
            | ((with_reducible apply g_assign); first
              | ((with_reducible apply w_pure (v := .bool _)); exact rfl; exact rfl))
            | ((with_reducible apply g_store); first
              | ((with_reducible apply w_store (us := [_, _, _]) (ws := [_, _, _])); exact rfl; exact rfl; (first | assumption | (simp (disch := omega) only [upd_same, upd_ne]; first | done | assumption | exact rfl) | exact rfl); omega; exact rfl; exact rfl; exact rfl))
            | ((with_reducible apply g_ix); first
              | ((with_reducible apply w_fx (sz := 3)); exact rfl; exact rfl; exact rfl; exact rfl; exact rfl; exact (fun _ => rfl); assumption; exact rfl)))
          | with_reducible refine w_seq ?_
          | with_reducible refine w_nil ?_
          | with_reducible refine w_region ?_)
        exact hK2 _ _ _ (by repeat' (first | with_reducible exact Fr.mix | with_reducible exact Fr.rfl' | with_reducible refine Fr.put ?_ ?_ | with_reducible refine Fr.mix2 ?_ ?_ | with_reducible refine Fr.put0 ?_ | exact rfl)) ⟨by rw [e2]; rfl, by rw [upd_ne (by omega)]; exact hg1, by rw [e1]; exact upd_same, rfl⟩
      · obtain ⟨e1, e2⟩ := p2 hI
        refine w_no (congrArg Value.bool hI) ?_
        repeat' (first
          | with_reducible refine w_skip ?_)
        exact hK2 _ _ _ (by repeat' (first | with_reducible exact Fr.mix | with_reducible exact Fr.rfl' | with_reducible refine Fr.put ?_ ?_ | with_reducible refine Fr.mix2 ?_ ?_ | with_reducible refine Fr.put0 ?_ | exact rfl)) ⟨by rw [e2]; rfl, hg1, by rw [e1]; exact hg2, rfl⟩
    rintro σ5 G5 _ ⟨k9, hg1, hg2, rfl⟩
    refine w_keep (i := 9) k9 ?_
    repeat' (first
      | ((with_reducible apply g_op); first
        | ((with_reducible apply g_load); first
          | ((with_reducible apply w_load (v := .agg #[_, _, _, _, _, _, _, _, _])); exact rfl; (first | assumption | (simp (disch := omega) only [upd_same, upd_ne]; first | done | assumption | exact rfl) | exact rfl); exact rfl))
        | ((with_reducible apply g_move); first
          | ((with_reducible apply w_pure (v := .int _ _)); exact rfl; exact rfl)
          | ((with_reducible apply w_pure (v := .string _)); exact rfl; exact rfl)))
      | with_reducible refine w_seq ?_
      | with_reducible refine w_region ?_)
    have hji : (i : Int) + 1 = (j : Int) := by omega
    refine w_rf (read_run view (dyOf base.length ss) ((i : Int) + 1) (by omega)) (fun _ => rfl) (sn_cons (sn_plain rfl) (sn_cons (by subst hA htz; exact dy_sn (d := dyOf base.length ss)) (sn_cons (sn_plain rfl) sn_nil))) ?_
    rintro _ rfl
    have hread2 : readS view (dyOf a ss) ((i : Int) + 1) = (((offs ss j : Int), y2, y3), true) := by rw [hji]; exact hread
    rw [hA, hread2]
    repeat' (first
      | ((with_reducible apply g_op); first
        | ((with_reducible apply g_load); first
          | ((with_reducible apply w_fl (v := .agg #[_, _, _])); exact rfl; exact (fun _ => rfl); assumption; exact rfl)
          | ((with_reducible apply w_load (v := .agg #[_, _, _])); exact rfl; (first | assumption | (simp (disch := omega) only [upd_same, upd_ne]; first | done | assumption | exact rfl) | exact rfl); exact rfl))
        | ((with_reducible apply g_move); first
          | ((with_reducible apply w_pure (v := .int _ _)); exact rfl; exact rfl)
          | ((with_reducible apply w_pure (v := .bool _)); exact rfl; exact rfl)
          | ((with_reducible apply w_pure (v := .tuple _)); exact rfl; exact rfl)
          | ((with_reducible apply w_pure (v := .func _ _ _)); exact rfl; exact rfl))
        | ((with_reducible apply g_assign); first
          | ((with_reducible apply w_pure (v := .bool _)); exact rfl; exact rfl))
        | ((with_reducible apply g_store); first
          | ((with_reducible apply w_store (us := [_, _, _]) (ws := [_, _, _])); exact rfl; exact rfl; (first | assumption | (simp (disch := omega) only [upd_same, upd_ne]; first | done | assumption | exact rfl) | exact rfl); omega; exact rfl; exact rfl; exact rfl))
        | ((with_reducible apply g_ix); first
          | ((with_reducible apply w_fx (sz := 3)); exact rfl; exact rfl; exact rfl; exact rfl; exact rfl; exact (fun _ => rfl); assumption; exact rfl))
        | ((with_reducible apply w_alloc (ls := [_, _, _])); exact rfl; exact rfl)
        | ((with_reducible apply w_pure (v := .bool _)); exact rfl; exact rfl)
        | ((with_reducible apply w_pure (v := .agg _)); exact rfl; exact rfl))
      | ((with_reducible apply g_gd); first
        | ((with_reducible apply w_want); exact rfl))
      | with_reducible refine w_seq ?_
      | with_reducible refine w_nil ?_
      | ((with_reducible apply w_draw); kernel_rfl; kernel_rfl))
    refine w_aggq (r := false) rfl rfl rfl rfl (sq_neq ((offs ss j : Int), y2, y3) _ _) ?_
    repeat' (first
      | ((with_reducible apply g_op); first
        | ((with_reducible apply g_move); first
          | ((with_reducible apply w_pure (v := .int _ _)); exact rfl; exact rfl))
        | ((with_reducible apply g_bin); first
          | ((with_reducible apply w_wrap); exact rfl; exact rfl; first | exact i64_in _ (by omega) | exact u64_in _ (by omega) | exact u8_in _ (by omega)))
        | ((with_reducible apply g_assign); first
          | ((with_reducible apply w_pure (v := .int _ _)); exact rfl; exact rfl))
        | ((with_reducible apply w_pure (v := .bool _)); exact rfl; exact rfl))
      | with_reducible refine w_nil ?_
      | with_reducible refine w_region ?_
      | with_reducible refine w_skip ?_
      | with_reducible refine w_blk ?_
      | ((with_reducible apply w_no); exact rfl))
    refine ih () _ _ _ (by repeat' (first | with_reducible exact Fr.mix | with_reducible exact Fr.rfl' | with_reducible refine Fr.put ?_ ?_ | with_reducible refine Fr.mix2 ?_ ?_ | with_reducible refine Fr.put0 ?_ | exact rfl)) ⟨rfl, by rw [hj]; rfl, ?_, ?_, by omega⟩
    · simp (disch := omega) only [upd_ne]; exact hg1
    · rw [hj]; simp (disch := omega) only [upd_ne]; exact hg2
  · rintro _ σ g2 n2 ⟨k11, k9, hg1, hg2, hn⟩
    obtain ⟨e1, e2⟩ := want_end ss vs nm
    rw [e2] at k9
    rw [e1] at hg2
    have hfi := find_is hV nm
    have hcn := hV.count
    refine w_keep (i := 9) k9 (w_keep (i := 11) k11 ?_)
    repeat' (first
      | ((with_reducible apply g_op); first
        | ((with_reducible apply g_load); first
          | ((with_reducible apply w_load (v := .agg #[_, _, _, _, _, _, _, _, _])); exact rfl; (first | assumption | (simp (disch := omega) only [upd_same, upd_ne]; first | done | assumption | exact rfl) | exact rfl); exact rfl))
        | ((with_reducible apply g_move); first
          | ((with_reducible apply w_pure (v := .int _ _)); exact rfl; exact rfl)
          | ((with_reducible apply w_pure (v := .string _)); exact rfl; exact rfl)
          | ((with_reducible apply w_pure (v := .func _ _ _)); exact rfl; exact rfl))
        | ((with_reducible apply g_bin); first
          | ((with_reducible apply w_pure (v := .bool _)); exact rfl; exact rfl))
        | ((with_reducible apply g_call); first
          | ((with_reducible apply w_call (v := .int _ _)); exact rfl)))
      | with_reducible refine w_seq ?_
      | with_reducible refine w_nil ?_
      | with_reducible refine w_region ?_
      | ((with_reducible apply w_exit); exact rfl)
      | ((with_reducible apply w_ifd); exact rfl; all_goals (intro hc; first | (exfalso; omega) | skip)))
    refine w_rf (find_run view (dyOf base.length ss) nm (by omega) (by omega)) (fun _ => rfl) (sn_cons (sn_plain rfl) (sn_cons (by subst hA htz; exact dy_sn (d := dyOf base.length ss)) (sn_cons (sn_plain rfl) sn_nil))) ?_
    rintro _ rfl
    rw [hfi]
    generalize wantV ss vs nm ss.length = w at *
    generalize thereV ss vs nm ss.length = b at *
    obtain ⟨w1, w2, w3⟩ := w
    unfold sy at hg2
    cases b <;> (
    repeat' (first
      | ((with_reducible apply g_op); first
        | ((with_reducible apply g_load); first
          | ((with_reducible apply w_load (v := .agg #[_, _, _])); exact rfl; (first | assumption | (simp (disch := omega) only [upd_same, upd_ne]; first | done | assumption | exact rfl) | exact rfl); exact rfl))
        | ((with_reducible apply g_move); first
          | ((with_reducible apply w_pure (v := .bool _)); exact rfl; exact rfl)
          | ((with_reducible apply w_pure (v := .tuple _)); exact rfl; exact rfl))
        | ((with_reducible apply g_bin); first
          | ((with_reducible apply w_pure (v := .bool _)); exact rfl; exact rfl))
        | ((with_reducible apply g_assign); first
          | ((with_reducible apply w_pure (v := .bool _)); exact rfl; exact rfl))
        | ((with_reducible apply g_store); first
          | ((with_reducible apply w_store (us := [_, _, _]) (ws := [_, _, _])); exact rfl; exact rfl; (first | assumption | (simp (disch := omega) only [upd_same, upd_ne]; first | done | assumption | exact rfl) | exact rfl); omega; exact rfl; exact rfl; exact rfl))
        | ((with_reducible apply w_alloc (ls := [_, _, _])); exact rfl; exact rfl)
        | ((with_reducible apply w_pure (v := .bool _)); exact rfl; exact rfl)
        | ((with_reducible apply w_pure (v := .agg _)); exact rfl; exact rfl))
      | ((with_reducible apply g_gd); first
        | ((with_reducible apply w_want); exact rfl))
      | with_reducible refine w_seq ?_
      | with_reducible refine w_nil ?_
      | with_reducible refine w_region ?_)
    all_goals first | (exfalso; omega) | skip
    all_goals refine w_aggq (r := true) rfl rfl rfl rfl (sq_eql (w1, w2, w3) _ _) ?_
    repeat' (first
      | ((with_reducible apply g_op); first
        | ((with_reducible apply g_load); first
          | ((with_reducible apply w_load (v := .agg #[_, _, _, _, _, _, _, _, _])); exact rfl; (first | assumption | (simp (disch := omega) only [upd_same, upd_ne]; first | done | assumption | exact rfl) | exact rfl); exact rfl))
        | ((with_reducible apply g_move); first
          | ((with_reducible apply w_pure (v := .bool _)); exact rfl; exact rfl)
          | ((with_reducible apply w_pure (v := .string _)); exact rfl; exact rfl))
        | ((with_reducible apply w_pure (v := .bool _)); exact rfl; exact rfl))
      | ((with_reducible apply g_gd); first
        | ((with_reducible apply w_want); exact rfl)))
    all_goals refine w_rf (count_run view (dyOf base.length ss) (by omega)) (fun _ => rfl) (sn_cons (sn_plain rfl) (sn_cons (by subst hA htz; exact dy_sn (d := dyOf base.length ss)) sn_nil)) ?_
    all_goals rintro _ rfl
    all_goals rw [hcn, ← hRl]
    repeat' (first
      | ((with_reducible apply g_op); first
        | ((with_reducible apply g_move); first
          | ((with_reducible apply w_pure (v := .func _ _ _)); exact rfl; exact rfl))
        | ((with_reducible apply g_bin); first
          | ((with_reducible apply w_pure (v := .bool _)); exact rfl; exact rfl))
        | ((with_reducible apply g_assign); first
          | ((with_reducible apply w_pure (v := .bool _)); exact rfl; exact rfl))
        | ((with_reducible apply g_call); first
          | ((with_reducible apply w_call (v := .int _ _)); exact rfl))
        | ((with_reducible apply w_pure (v := .bool _)); exact rfl; exact rfl))
      | ((with_reducible apply g_gd); first
        | ((with_reducible apply w_want); exact rfl))
      | with_reducible refine w_nil ?_
      | ((with_reducible apply w_ret (v := .bool _)); exact rfl))
    all_goals first | rfl | exact congrArg Value.bool (beq_self_eq_true _) | (exfalso; exact absurd rfl (by assumption)))
theorem proved (x0 : List ByteArray × List Int × Int) (x1 : ByteArray) {q : Prop} (w0 : wfL wfT x0.1 ∧ wfL (wfI .i64) x0.2.1 ∧ q) (w1 : wfT x1) : Rn Try.prog tab 4 [.agg ((kPair (kList kStr) (kPair (kList (kInt .i64)) (kInt .i64))).enc x0).toArray, .string x1] (fun _ => none) 0 0 (fun v _ _ => v = .bool true) := walk x0.1 x0.2.1 x0.2.2 x1 w0.1.1 w0.2.1.1 w1 _ 0
end Go.Proofs.Ytoknnbjkjhigbaa.L.SymbolThere

