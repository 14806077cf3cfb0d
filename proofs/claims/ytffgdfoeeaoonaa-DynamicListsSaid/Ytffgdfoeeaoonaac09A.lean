/- dynamic.field, Bytes. -/
import Derived.Test.YtffgdfoeeaoonaaoctP
import Derived.Test.Ytffgdfoeeaoonaabld
namespace Go.Proofs.Ytffgdfoeeaoonaa.L
open Go.L1 Go.IntWalk
set_option linter.unusedVariables false
set_option linter.unusedSimpArgs false
set_option maxHeartbeats 4000000
/-- A table: what is needed; eight numbers. -/
structure Dyn where
  nd : List Int
  f1 : Int
  f2 : Int
  f3 : Int
  f4 : Int
  f5 : Int
  f6 : Int
  f7 : Int
  f8 : Int
def ii (n : Int) : List Value := [.int .i64 n]
abbrev iv (s : Array Value) (l : List Int) : Value := fz s l.length (l.flatMap ii)
def Dyn.cs (d : Dyn) (v : Value) : List Value := [v, .int .i64 d.f1, .int .i64 d.f2, .int .i64 d.f3, .int .i64 d.f4, .int .i64 d.f5, .int .i64 d.f6, .int .i64 d.f7, .int .i64 d.f8]
def Dyn.c (s : Array Value) (d : Dyn) : List Value := d.cs (iv s d.nd)
abbrev Dyn.v (s : Array Value) (d : Dyn) : Value := .agg #[iv s d.nd, .int .i64 d.f1, .int .i64 d.f2, .int .i64 d.f3, .int .i64 d.f4, .int .i64 d.f5, .int .i64 d.f6, .int .i64 d.f7, .int .i64 d.f8]
theorem iv_sn {P : Program} {g : Nat → Option Ob} {a s : Array Value} {lo k : Nat} {l : List Int} (h : a = #[] ∨ s ≠ #[] := by simp) : L1.freeze P g s lo (k + 2) (iv a l) = some (iv s l) := sn_fzp h (all_flat (fun _ => rfl) l)
/-- The place of what a tag sets. -/
def fieldO (t : Int) : Option Nat := if t = 4 then some 4 else if t = 5 then some 1 else if t = 6 then some 3 else if t = 7 then some 5 else if t = 8 then some 6 else if t = 10 then some 2 else if t = 14 then some 7 else if t = 1879047669 then some 8 else none
def fieldV (i : Nat) (t : Int) : Value := match fieldO t with | some o => ptr i o | none => .pointer none
theorem field_run (i : Nat) (t : Int) (g : Nat → Option Ob) (n m : Nat) (hi : i < n) : Rn Try.prog T 18 [ptr i 0, .int .u64 t] g n m (fun v g' n' => v = fieldV i t ∧ g' = g ∧ n' = n) := by
  refine c_place Try.func18 rfl rfl rfl rfl rfl rfl ?_
  repeat' (first
    | ((with_reducible apply g_op); first
      | ((with_reducible apply g_move); first
        | ((with_reducible apply w_pure (v := .int _ _)); exact rfl; exact rfl)
        | ((with_reducible apply w_pure (v := .pointer _)); exact rfl; exact rfl))
      | ((with_reducible apply g_bin); first
        | ((with_reducible apply w_pure (v := .bool _)); exact rfl; exact rfl))
      | ((with_reducible apply g_fld); first
        | ((with_reducible apply w_fldp (o := 1)); exact rfl; exact rfl; exact rfl; exact (by decide))
        | ((with_reducible apply w_fldp (o := 2)); exact rfl; exact rfl; exact rfl; exact (by decide))
        | ((with_reducible apply w_fldp (o := 3)); exact rfl; exact rfl; exact rfl; exact (by decide))
        | ((with_reducible apply w_fldp (o := 4)); exact rfl; exact rfl; exact rfl; exact (by decide))
        | ((with_reducible apply w_fldp (o := 5)); exact rfl; exact rfl; exact rfl; exact (by decide))
        | ((with_reducible apply w_fldp (o := 6)); exact rfl; exact rfl; exact rfl; exact (by decide))
        | ((with_reducible apply w_fldp (o := 7)); exact rfl; exact rfl; exact rfl; exact (by decide))
        | ((with_reducible apply w_fldp (o := 8)); exact rfl; exact rfl; exact rfl; exact (by decide)))
      | ((with_reducible apply g_assign); first
        | ((with_reducible apply w_pure (v := .bool _)); exact rfl; exact rfl)
        | ((with_reducible apply w_pure (v := .pointer _)); exact rfl; exact rfl))
      | ((with_reducible apply w_pure (v := .pointer _)); exact rfl; exact rfl))
    | with_reducible refine w_seq ?_
    | with_reducible refine w_nil ?_
    | with_reducible refine w_region ?_
    | with_reducible refine w_skip ?_
    | with_reducible refine w_block ?_
    | with_reducible refine w_blk ?_
    | ((with_reducible apply w_ifd); exact rfl; all_goals (intro hc; first | (exfalso; omega) | skip))
    | ((with_reducible apply w_ret (v := .pointer _)); exact rfl))
  all_goals refine ⟨by first | exact .inr (decide_eq_true hi) | exact .inl rfl, ?_⟩
  all_goals simp_all [fieldV, fieldO]
def entry (t n : Int) : ByteArray := Oct.putB t 8 ++ Oct.putB (max n 0) 8
theorem entry_size (t n : Int) : (entry t n).size = 16 := by unfold entry; rw [ByteArray.size_append, Oct.putB_size, Oct.putB_size]
def bytesE (l : List (Int × Int)) : ByteArray := l.foldl (fun b e => b ++ entry e.1 e.2) ⟨#[]⟩
theorem bytesE_snoc (l : List (Int × Int)) (e : Int × Int) : bytesE (l ++ [e]) = bytesE l ++ entry e.1 e.2 := by unfold bytesE; rw [List.foldl_append]; rfl
theorem bytesE_add (l : List (Int × Int)) (t v : Int) : bytesE l ++ entry t v = bytesE (l ++ [(t, v)]) := (bytesE_snoc l (t, v)).symm
theorem bytesE_size (l : List (Int × Int)) : (bytesE l).size = 16 * l.length := by
  suffices H : ∀ (l : List (Int × Int)) (b : ByteArray), (l.foldl (fun b e => b ++ entry e.1 e.2) b).size = b.size + 16 * l.length from by have := H l ⟨#[]⟩; unfold bytesE; rw [this]; exact Nat.zero_add _
  intro l
  induction l with
  | nil => intro b; simp
  | cons e l ih => intro b; rw [List.foldl_cons, ih, ByteArray.size_append, entry_size, List.length_cons]; omega
open Bl in
theorem put_run (t v : Int) (ht : 0 ≤ t) (hv : v ≤ 9223372036854775807) (b : ByteArray) (g : Nat → Option Ob) (c n m lo : Nat) (h : Bd g c n m lo b) (hlo : lo ≤ n) (hl : b.size ≤ 100000000) : Rn Try.prog T 19 [.int .u64 t, .int .i64 v, ptr c 0] g n m (fun _ g' n' => Bd g' c n' m lo (b ++ entry t v) ∧ n ≤ n' ∧ ∀ j, j < lo → j ≠ c → g' j = g j) := by
  refine c_open Try.func19 rfl rfl rfl rfl rfl rfl ?_
  repeat' (first
    | ((with_reducible apply g_op); first
      | ((with_reducible apply g_move); first
        | ((with_reducible apply w_pure (v := .int _ _)); exact rfl; exact rfl)))
    | with_reducible refine w_region ?_)
  refine w_rq (Oct.put_run t 8 ht _ _ _) (fun _ => rfl) ?_
  rintro _ rfl
  repeat' (first
    | ((with_reducible apply g_op); first
      | ((with_reducible apply g_move); first
        | ((with_reducible apply w_pure (v := .int _ _)); exact rfl; exact rfl))
      | ((with_reducible apply g_call); first
        | ((with_reducible apply w_max); exact rfl; exact rfl))
      | ((with_reducible apply w_conv); exact rfl; exact rfl; exact rfl; first | exact i64_in _ (by omega) | exact u64_in _ (by omega) | exact u8_in _ (by omega) | exact u32_in _ (by omega))))
  refine w_rq (Oct.put_run (max v 0) 8 (by omega) _ _ _) (fun _ => rfl) ?_
  rintro _ rfl
  have z1 := Oct.putB_size t (Oct.wid 8)
  have z2 := Oct.putB_size (max v 0) (Oct.wid 8)
  have w8 : Oct.wid 8 = 8 := rfl
  rw [w8] at z1 z2
  repeat' (first
    | ((with_reducible apply g_op); first
      | ((with_reducible apply g_bin); first
        | ((with_reducible apply w_pure (v := .string _)); exact rfl; exact rfl))))
  refine w_rn (h.write (s := entry t v) hlo (by rw [entry_size]; omega)) (fun _ => rfl) ?_
  rintro _ g' n' ⟨rfl, h1, h3, h4⟩
  repeat' (first
    | with_reducible refine w_nil ?_
    | ((with_reducible apply w_end (v := .tuple #[])); exact rfl))
  exact ⟨h1, h3, h4⟩
def tags : List Int := [4, 5, 6, 7, 8, 10, 14, 1879047669]
def Dyn.get (d : Dyn) (t : Int) : Int := if t = 4 then d.f4 else if t = 5 then d.f1 else if t = 6 then d.f3 else if t = 7 then d.f5 else if t = 8 then d.f6 else if t = 10 then d.f2 else if t = 14 then d.f7 else d.f8
theorem get_at (d : Dyn) (v : Value) (t : Int) (h : t ∈ tags) : 0 ≤ t ∧ ∃ o, fieldO t = some o ∧ (d.cs v)[o]? = some (.int .i64 (d.get t)) := by
  simp only [tags, List.mem_cons, List.not_mem_nil, or_false] at h
  rcases h with h | h | h | h | h | h | h | h <;> subst h <;> exact ⟨by decide, _, rfl, rfl⟩
def bigE (d : Dyn) (l : List Int) : List (Int × Int) := l.filterMap fun t => if d.get t > 0 then some (t, d.get t) else none
def entsD (d : Dyn) : List (Int × Int) := d.nd.map (fun n => (1, n)) ++ bigE d tags ++ (if d.f6 > 0 then [(9, 24)] else []) ++ (if d.f3 > 0 then [(11, 24)] else []) ++ [(0, 0)]
def uu (n : Int) : List Value := [.int .u64 n]
def Dyn.wf (d : Dyn) : Prop := (∀ x ∈ d.nd, x ≤ 9223372036854775807) ∧ ∀ t, d.get t ≤ 9223372036854775807
open Bl in
theorem bytes_run (d : Dyn) (hw : d.wf) (hl : d.nd.length ≤ 1000) : Rf Try.prog T 9 [d.v tg] (fun v => v = .string (bytesE (entsD d))) := by
  refine c_froz Try.func9 rfl rfl rfl rfl rfl rfl ?_
  intro g n
  obtain ⟨hw1, hw2⟩ := hw
  repeat' (first
    | ((with_reducible apply g_op); first
      | ((with_reducible apply g_load); first
        | ((with_reducible apply w_load (v := .func _ _ _)); exact rfl; (first | assumption | (simp (disch := omega) only [upd_same, upd_ne]; first | done | assumption | exact rfl) | exact rfl); exact rfl))
      | ((with_reducible apply g_move); first
        | ((with_reducible apply w_pure (v := .int _ _)); exact rfl; exact rfl))
      | ((with_reducible apply g_fld); first
        | ((with_reducible apply w_fldp (o := 0)); exact rfl; exact rfl; exact rfl; exact (by decide)))
      | ((with_reducible apply g_assign); first
        | ((with_reducible apply w_pure (v := .string _)); exact rfl; exact rfl)
        | ((with_reducible apply w_pure (v := .func _ _ _)); exact rfl; exact rfl))
      | ((with_reducible apply g_call); first
        | ((with_reducible apply w_call (v := .int _ _)); exact rfl))
      | ((with_reducible apply g_box); first
        | ((with_reducible apply w_box (vs := [_, _, _, _, _, _, _, _, _])); exact rfl; exact rfl))
      | ((with_reducible apply w_alloc (ls := [_, _])); exact rfl; exact rfl)
      | ((with_reducible apply w_mkf (cs := [.pointer _])); exact rfl))
    | with_reducible refine w_seq ?_
    | with_reducible refine w_nil ?_
    | with_reducible refine w_region ?_
    | with_reducible refine w_block ?_)
  refine w_rng d.nd (fun i rest (b : List (Int × Int)) σ g' n' => σ 12 = iv tg d.nd ∧ σ 13 = .int .i64 d.nd.length ∧ σ 14 = .int .i64 (i : Nat) ∧ σ 4 = .func (.func 19) #[] #[ptr (n + 1) 0] ∧ σ 1 = ptr n 0 ∧ σ 3 = ptr (n + 1) 0
    ∧ g' n = some (.cells 26 (d.c tg)) ∧ Bd g' (n + 1) n' n (n + 2) (bytesE b) ∧ b ++ rest.map (fun n => (1, n)) = d.nd.map (fun n => (1, n)) ∧ b.length ≤ i ∧ n + 2 ≤ n') ?_ ?_ [] ⟨rfl, rfl, rfl, rfl, rfl, rfl, by simp (disch := omega) only [upd_same, upd_ne]; rfl, Bd.new (by omega), rfl, by simp, by omega⟩
  · intro i x rest b σ gl nl hx hlt hI ih; obtain ⟨k12, k13, k14, k4, k1, k3, hg, hb, hbe, hbl, hn⟩ := hI; (try dsimp only at k12 k13 k14 k4 k1 k3 hg hb hbe hbl hn); refine w_keep (i := 12) k12 (w_keep (i := 13) k13 (w_keep (i := 14) k14 (w_keep (i := 4) k4 (w_keep (i := 1) k1 (w_keep (i := 3) k3 ?_)))))
    repeat' (first
      | ((with_reducible apply g_op); first
        | ((with_reducible apply g_load); first
          | ((with_reducible apply w_fl (v := .int _ _)); exact rfl; exact (fun _ => rfl); assumption; exact rfl))
        | ((with_reducible apply g_move); first
          | ((with_reducible apply w_pure (v := .int _ _)); exact rfl; exact rfl)
          | ((with_reducible apply w_pure (v := .func _ _ _)); exact rfl; exact rfl))
        | ((with_reducible apply g_bin); first
          | ((with_reducible apply w_pure (v := .bool _)); exact rfl; exact rfl))
        | ((with_reducible apply g_assign); first
          | ((with_reducible apply w_pure (v := .int _ _)); exact rfl; exact rfl))
        | ((with_reducible apply g_ix); first
          | ((with_reducible apply w_fx (sz := 1)); exact rfl; exact rfl; exact rfl; exact rfl; exact rfl; exact (fun _ => rfl); assumption; exact rfl)))
      | with_reducible refine w_seq ?_
      | with_reducible refine w_nil ?_
      | with_reducible refine w_region ?_
      | with_reducible refine w_skip ?_
      | with_reducible refine w_block ?_
      | ((with_reducible apply w_ifd); exact rfl; all_goals (intro hc; first | (exfalso; omega) | skip)))
    refine w_rn (put_run 1 x (by decide) (hw1 x (List.mem_of_getElem? hx)) (bytesE b) _ _ _ _ (n + 2) hb hn (by rw [bytesE_size]; omega)) (fun _ => rfl) ?_
    rintro _ g' n' ⟨h1, h2, h3⟩
    repeat' (first
      | ((with_reducible apply g_op); first
        | ((with_reducible apply g_move); first
          | ((with_reducible apply w_pure (v := .int _ _)); exact rfl; exact rfl))
        | ((with_reducible apply g_bin); first
          | ((with_reducible apply w_wrap); exact rfl; exact rfl; first | exact i64_in _ (by omega) | exact u64_in _ (by omega) | exact u8_in _ (by omega))))
      | with_reducible refine w_nil ?_
      | with_reducible refine w_region ?_
      | with_reducible refine w_blk ?_)
    exact ih (b ++ [(1, x)]) _ _ _ ⟨rfl, rfl, rfl, rfl, rfl, rfl, by rw [h3 n (by omega) (by omega)]; exact hg, by rw [bytesE_snoc]; exact h1, by rw [← hbe]; simp, by simp; omega, by omega⟩
  · intro b σ gl nl hI; obtain ⟨k12, k13, k14, k4, k1, k3, hg, hb, hbe, hbl, hn⟩ := hI; (try dsimp only at k12 k13 k14 k4 k1 k3 hg hb hbe hbl hn); refine w_keep (i := 12) k12 (w_keep (i := 13) k13 (w_keep (i := 14) k14 (w_keep (i := 4) k4 (w_keep (i := 1) k1 (w_keep (i := 3) k3 ?_)))))
    rw [List.map_nil, List.append_nil] at hbe
    repeat' (first
      | ((with_reducible apply g_op); first
        | ((with_reducible apply g_move); first
          | ((with_reducible apply w_pure (v := .int _ _)); exact rfl; exact rfl))
        | ((with_reducible apply g_bin); first
          | ((with_reducible apply w_pure (v := .bool _)); exact rfl; exact rfl))
        | ((with_reducible apply g_build); first
          | ((with_reducible apply w_pure (v := .agg #[_, _, _, _, _, _, _, _])); exact rfl; exact rfl)))
      | with_reducible refine w_seq ?_
      | with_reducible refine w_nil ?_
      | with_reducible refine w_region ?_
      | with_reducible refine w_block ?_
      | ((with_reducible apply w_exit); exact rfl)
      | ((with_reducible apply w_ifd); exact rfl; all_goals (intro hc; first | (exfalso; omega) | skip)))
    refine w_rng tags (fun i rest (e : List (Int × Int)) σ g' n' => σ 22 = .agg #[.int .u64 4, .int .u64 5, .int .u64 6, .int .u64 7, .int .u64 8, .int .u64 10, .int .u64 14, .int .u64 1879047669] ∧ σ 23 = .int .i64 (i : Nat) ∧ σ 4 = .func (.func 19) #[] #[ptr (n + 1) 0] ∧ σ 1 = ptr n 0 ∧ σ 3 = ptr (n + 1) 0
      ∧ g' n = some (.cells 26 (d.c tg)) ∧ Bd g' (n + 1) n' n (n + 2) (bytesE e) ∧ e ++ bigE d rest = b ++ bigE d tags ∧ e.length ≤ d.nd.length + i ∧ n + 2 ≤ n') ?_ ?_ b ⟨rfl, rfl, rfl, rfl, rfl, hg, hb, rfl, by omega, by omega⟩
    · intro i x rest e σ gl nl hx hlt hI ih
      obtain ⟨k22, k23, k4, k1, k3, hg, hb, he, hel, hn⟩ := hI
      have h8 : i < 8 := hlt
      refine w_keep (i := 22) k22 (w_keep (i := 23) k23 (w_keep (i := 4) k4 (w_keep (i := 1) k1 (w_keep (i := 3) k3 ?_))))
      obtain ⟨hx0, o, ho1, ho2⟩ := get_at d (iv tg d.nd) x (List.mem_of_getElem? hx)
      repeat' (first
        | ((with_reducible apply g_op); first
          | ((with_reducible apply g_bin); first
            | ((with_reducible apply w_pure (v := .bool _)); exact rfl; exact rfl)))
        | with_reducible refine w_seq ?_
        | with_reducible refine w_nil ?_
        | with_reducible refine w_region ?_
        | with_reducible refine w_skip ?_
        | with_reducible refine w_block ?_
        | ((with_reducible apply w_ifd); exact rfl; all_goals (intro hc; first | (exfalso; omega) | skip)))
      refine w_aix (enc := uu) (ls := tags) (sz := 1) (v := .int .u64 x) rfl rfl rfl rfl rfl rfl (fun _ => rfl) hx h8 rfl ?_
      repeat' (first
        | ((with_reducible apply g_op); first
          | ((with_reducible apply g_move); first
            | ((with_reducible apply w_pure (v := .int _ _)); exact rfl; exact rfl))
          | ((with_reducible apply g_assign); first
            | ((with_reducible apply w_pure (v := .int _ _)); exact rfl; exact rfl)))
        | with_reducible refine w_seq ?_
        | with_reducible refine w_nil ?_
        | with_reducible refine w_region ?_)
      refine w_rq (field_run n x _ _ _ (by omega)) (fun _ => rfl) ?_
      rintro _ rfl
      have hfv : fieldV n x = ptr n o := by unfold fieldV; rw [ho1]
      rw [hfv]
      repeat' (first
        | ((with_reducible apply g_op); first
          | ((with_reducible apply w_pure (v := .pointer _)); exact rfl; exact rfl)))
      refine w_load (v := .int .i64 (d.get x)) rfl hg (by rw [part_one (by kernel_rfl)]; exact ho2) ?_
      have hgm := hw2 x
      have hbig : bigE d (x :: rest) = (if d.get x > 0 then [(x, d.get x)] else []) ++ bigE d rest := by
        unfold bigE; rw [List.filterMap_cons]; split <;> rename_i h <;> (split at h <;> simp_all)
      rw [hbig] at he
      repeat' (first
        | ((with_reducible apply g_op); first
          | ((with_reducible apply g_move); first
            | ((with_reducible apply w_pure (v := .int _ _)); exact rfl; exact rfl)
            | ((with_reducible apply w_pure (v := .func _ _ _)); exact rfl; exact rfl))
          | ((with_reducible apply g_bin); first
            | ((with_reducible apply w_wrap); exact rfl; exact rfl; first | exact i64_in _ (by omega) | exact u64_in _ (by omega) | exact u8_in _ (by omega))
            | ((with_reducible apply w_pure (v := .bool _)); exact rfl; exact rfl))
          | ((with_reducible apply g_assign); first
            | ((with_reducible apply w_pure (v := .int _ _)); exact rfl; exact rfl)))
        | with_reducible refine w_seq ?_
        | with_reducible refine w_nil ?_
        | with_reducible refine w_region ?_
        | with_reducible refine w_skip ?_
        | with_reducible refine w_blk ?_
        | ((with_reducible apply w_ifd); exact rfl; all_goals (intro hc; first | (exfalso; omega) | skip)))
      · refine w_rn (put_run x (d.get x) hx0 hgm (bytesE e) _ _ _ _ (n + 2) hb hn (by rw [bytesE_size]; omega)) (fun _ => rfl) ?_
        rintro _ g' n' ⟨h1, h2, h3⟩
        repeat' (first
          | ((with_reducible apply g_op); first
            | ((with_reducible apply g_move); first
              | ((with_reducible apply w_pure (v := .int _ _)); exact rfl; exact rfl))
            | ((with_reducible apply g_bin); first
              | ((with_reducible apply w_wrap); exact rfl; exact rfl; first | exact i64_in _ (by omega) | exact u64_in _ (by omega) | exact u8_in _ (by omega))))
          | with_reducible refine w_nil ?_
          | with_reducible refine w_region ?_
          | with_reducible refine w_blk ?_)
        rw [if_pos (by assumption)] at he
        exact ih (e ++ [(x, d.get x)]) _ _ _ ⟨rfl, rfl, rfl, rfl, rfl, by rw [h3 n (by omega) (by omega)]; exact hg, by rw [bytesE_snoc]; exact h1, by rw [← he]; simp, by simp; omega, by omega⟩
      · rw [if_neg (by assumption)] at he
        exact ih e _ _ _ ⟨rfl, rfl, rfl, rfl, rfl, hg, hb, by rw [← he]; simp, by omega, by omega⟩
    · intro e σ gl nl hI
      obtain ⟨k22, k23, k4, k1, k3, hg, hb, he, hel, hn⟩ := hI
      have h8 : tags.length = 8 := rfl
      rw [h8] at k23 hel
      refine w_keep (i := 22) k22 (w_keep (i := 23) k23 (w_keep (i := 4) k4 (w_keep (i := 1) k1 (w_keep (i := 3) k3 ?_))))
      rw [show bigE d [] = [] from rfl, List.append_nil] at he
      obtain ⟨q6, hq6⟩ : ∃ q6, q6 = if d.f6 > 0 then [((9 : Int), (24 : Int))] else [] := ⟨_, rfl⟩
      obtain ⟨q3, hq3⟩ : ∃ q3, q3 = if d.f3 > 0 then [((11 : Int), (24 : Int))] else [] := ⟨_, rfl⟩
      have hents : entsD d = e ++ q6 ++ q3 ++ [(0, 0)] := by unfold entsD; rw [he, hbe, hq6, hq3]
      rw [hents]
      repeat' (first
        | ((with_reducible apply g_op); first
          | ((with_reducible apply g_load); first
            | ((with_reducible apply w_load (v := .int _ _)); exact rfl; (first | assumption | (simp (disch := omega) only [upd_same, upd_ne]; first | done | assumption | exact rfl) | exact rfl); exact rfl))
          | ((with_reducible apply g_move); first
            | ((with_reducible apply w_pure (v := .func _ _ _)); exact rfl; exact rfl))
          | ((with_reducible apply g_bin); first
            | ((with_reducible apply w_pure (v := .bool _)); exact rfl; exact rfl))
          | ((with_reducible apply g_fld); first
            | ((with_reducible apply w_fldp (o := 3)); exact rfl; exact rfl; exact rfl; exact (by decide))
            | ((with_reducible apply w_fldp (o := 6)); exact rfl; exact rfl; exact rfl; exact (by decide))))
        | with_reducible refine w_seq ?_
        | with_reducible refine w_nil ?_
        | with_reducible refine w_region ?_
        | with_reducible refine w_skip ?_
        | ((with_reducible apply w_exit); exact rfl)
        | ((with_reducible apply w_no); exact rfl)
        | ((with_reducible apply w_ifd); exact rfl; all_goals (intro hc; first | (exfalso; omega) | skip)))
      · refine w_rn (put_run 9 24 (by decide) (by decide) (bytesE e) _ _ _ _ (n + 2) hb hn (by rw [bytesE_size]; omega)) (fun _ => rfl) ?_
        rintro _ g1 n1 ⟨hb1, hn1, hf1⟩
        rw [bytesE_add] at hb1
        rw [if_pos (by assumption)] at hq6
        subst hq6
        have hg1 : g1 n = some (.cells 26 (d.c tg)) := by rw [hf1 n (by omega) (by omega)]; exact hg
        repeat' (first
          | ((with_reducible apply g_op); first
            | ((with_reducible apply g_load); first
              | ((with_reducible apply w_load (v := .int _ _)); exact rfl; (first | assumption | (simp (disch := omega) only [upd_same, upd_ne]; first | done | assumption | exact rfl) | exact rfl); exact rfl))
            | ((with_reducible apply g_move); first
              | ((with_reducible apply w_pure (v := .func _ _ _)); exact rfl; exact rfl))
            | ((with_reducible apply g_bin); first
              | ((with_reducible apply w_pure (v := .bool _)); exact rfl; exact rfl))
            | ((with_reducible apply g_fld); first
              | ((with_reducible apply w_fldp (o := 3)); exact rfl; exact rfl; exact rfl; exact (by decide))))
          | with_reducible refine w_seq ?_
          | with_reducible refine w_nil ?_
          | with_reducible refine w_region ?_
          | with_reducible refine w_skip ?_
          | ((with_reducible apply w_ifd); exact rfl; all_goals (intro hc; first | (exfalso; omega) | skip)))
        · refine w_rn (put_run 11 24 (by decide) (by decide) (bytesE _) _ _ _ _ (n + 2) hb1 (by omega) (by rw [bytesE_size]; simp; omega)) (fun _ => rfl) ?_
          rintro _ g2 n2 ⟨hb2, hn2, hf2⟩
          rw [bytesE_add] at hb2
          rw [if_pos (by assumption)] at hq3
          subst hq3
          repeat' (first
            | ((with_reducible apply g_op); first
              | ((with_reducible apply g_move); first
                | ((with_reducible apply w_pure (v := .func _ _ _)); exact rfl; exact rfl)))
            | with_reducible refine w_seq ?_
            | with_reducible refine w_nil ?_
            | with_reducible refine w_region ?_)
          refine w_rn (put_run 0 0 (by decide) (by decide) (bytesE _) _ _ _ _ (n + 2) hb2 (by omega) (by rw [bytesE_size]; simp; omega)) (fun _ => rfl) ?_
          rintro _ g3 n3 ⟨hb3, hn3, hf3⟩
          rw [bytesE_add] at hb3
          repeat' (first
            | with_reducible refine w_seq ?_
            | with_reducible refine w_nil ?_
            | with_reducible refine w_region ?_)
          refine w_rn (hb3.string (by rw [bytesE_size]; simp; omega)) (fun _ => rfl) ?_
          rintro _ g4 n4 ⟨rfl, rfl, hf4⟩
          repeat' (first
            | ((with_reducible apply g_op); first
              | ((with_reducible apply g_assign); first
                | ((with_reducible apply w_pure (v := .string _)); exact rfl; exact rfl)))
            | with_reducible refine w_nil ?_
            | ((with_reducible apply w_ret (v := .string _)); exact rfl))
          exact fr_plain rfl rfl
        · rw [if_neg (by assumption)] at hq3
          subst hq3
          refine w_rn (put_run 0 0 (by decide) (by decide) (bytesE _) _ _ _ _ (n + 2) hb1 (by omega) (by rw [bytesE_size]; simp; omega)) (fun _ => rfl) ?_
          rintro _ g3 n3 ⟨hb3, hn3, hf3⟩
          rw [bytesE_add] at hb3
          repeat' (first
            | with_reducible refine w_seq ?_
            | with_reducible refine w_nil ?_
            | with_reducible refine w_region ?_)
          refine w_rn (hb3.string (by rw [bytesE_size]; simp; omega)) (fun _ => rfl) ?_
          rintro _ g4 n4 ⟨rfl, rfl, hf4⟩
          repeat' (first
            | ((with_reducible apply g_op); first
              | ((with_reducible apply g_assign); first
                | ((with_reducible apply w_pure (v := .string _)); exact rfl; exact rfl)))
            | with_reducible refine w_nil ?_
            | ((with_reducible apply w_ret (v := .string _)); exact rfl))
          exact fr_plain rfl (by rw [List.append_nil])
      · refine w_rn (put_run 11 24 (by decide) (by decide) (bytesE e) _ _ _ _ (n + 2) hb hn (by rw [bytesE_size]; omega)) (fun _ => rfl) ?_
        rintro _ g2 n2 ⟨hb2, hn2, hf2⟩
        rw [bytesE_add] at hb2
        rw [if_neg (by assumption)] at hq6
        rw [if_pos (by assumption)] at hq3
        subst hq6 hq3
        repeat' (first
          | ((with_reducible apply g_op); first
            | ((with_reducible apply g_move); first
              | ((with_reducible apply w_pure (v := .func _ _ _)); exact rfl; exact rfl)))
          | with_reducible refine w_seq ?_
          | with_reducible refine w_nil ?_
          | with_reducible refine w_region ?_)
        refine w_rn (put_run 0 0 (by decide) (by decide) (bytesE _) _ _ _ _ (n + 2) hb2 (by omega) (by rw [bytesE_size]; simp; omega)) (fun _ => rfl) ?_
        rintro _ g3 n3 ⟨hb3, hn3, hf3⟩
        rw [bytesE_add] at hb3
        repeat' (first
          | with_reducible refine w_seq ?_
          | with_reducible refine w_nil ?_
          | with_reducible refine w_region ?_)
        refine w_rn (hb3.string (by rw [bytesE_size]; simp; omega)) (fun _ => rfl) ?_
        rintro _ g4 n4 ⟨rfl, rfl, hf4⟩
        repeat' (first
          | ((with_reducible apply g_op); first
            | ((with_reducible apply g_assign); first
              | ((with_reducible apply w_pure (v := .string _)); exact rfl; exact rfl)))
          | with_reducible refine w_nil ?_
          | ((with_reducible apply w_ret (v := .string _)); exact rfl))
        exact fr_plain rfl (by rw [List.append_nil])
      · rw [if_neg (by assumption)] at hq6
        rw [if_neg (by assumption)] at hq3
        subst hq6 hq3
        refine w_rn (put_run 0 0 (by decide) (by decide) (bytesE e) _ _ _ _ (n + 2) hb (by omega) (by rw [bytesE_size]; omega)) (fun _ => rfl) ?_
        rintro _ g3 n3 ⟨hb3, hn3, hf3⟩
        rw [bytesE_add] at hb3
        repeat' (first
          | with_reducible refine w_seq ?_
          | with_reducible refine w_nil ?_
          | with_reducible refine w_region ?_)
        refine w_rn (hb3.string (by rw [bytesE_size]; simp; omega)) (fun _ => rfl) ?_
        rintro _ g4 n4 ⟨rfl, rfl, hf4⟩
        repeat' (first
          | ((with_reducible apply g_op); first
            | ((with_reducible apply g_assign); first
              | ((with_reducible apply w_pure (v := .string _)); exact rfl; exact rfl)))
          | with_reducible refine w_nil ?_
          | ((with_reducible apply w_ret (v := .string _)); exact rfl))
        exact fr_plain rfl (by rw [List.append_nil, List.append_nil])
end Go.Proofs.Ytffgdfoeeaoonaa.L

