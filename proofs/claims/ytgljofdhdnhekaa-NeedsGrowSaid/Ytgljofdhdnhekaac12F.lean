/- short, name, SameTexts; what a Spec means. -/
import Derived.Test.Ytgljofdhdnhekaac12E
namespace Go.Proofs.Ytgljofdhdnhekaa.L
open Go.L1 Go.IntWalk
set_option linter.unusedVariables false
set_option linter.unusedSimpArgs false
set_option maxHeartbeats 4000000
theorem texts_run (l k : List ByteArray) (hl : l.length ≤ 1000000) (hk : k.length ≤ 1000000) : Rf Try.prog T 13 [tv tg l, tv tg k] (fun v => v = .bool (decide (l = k))) := by
  refine c_froz Try.func13 rfl rfl rfl rfl rfl rfl ?_
  intro g n
  by_cases hlen : l.length = k.length
  · repeat' (first
      | ((with_reducible apply g_op); first
        | ((with_reducible apply g_move); first
          | ((with_reducible apply w_pure (v := .func _ _ _)); exact rfl; exact rfl))
        | ((with_reducible apply g_bin); first
          | ((with_reducible apply w_pure (v := .bool _)); exact rfl; exact rfl))
        | ((with_reducible apply g_assign); first
          | ((with_reducible apply w_pure (v := .int _ _)); exact rfl; exact rfl)
          | ((with_reducible apply w_pure (v := .bool _)); exact rfl; exact rfl))
        | ((with_reducible apply g_call); first
          | ((with_reducible apply w_call (v := .int _ _)); exact rfl)))
      | with_reducible refine w_seq ?_
      | with_reducible refine w_nil ?_
      | with_reducible refine w_region ?_
      | with_reducible refine w_skip ?_
      | with_reducible refine w_block ?_
      | ((with_reducible apply w_ifn); exact rfl; all_goals (intro hc; first | (exfalso; omega) | skip)))
    refine w_cnt l.length (fun i (_ : Unit) σ g' n' => σ 0 = tv tg l ∧ σ 1 = tv tg k ∧ σ 5 = .int .i64 (i : Nat) ∧ l.take i = k.take i) ?_ ?_ () ⟨rfl, rfl, rfl, rfl⟩
    · rintro i _ σ g2 n2 hlt ⟨k0, k1, k5, hpre⟩ ih
      refine w_keep (i := 0) k0 (w_keep (i := 1) k1 (w_keep (i := 5) k5 ?_))
      obtain ⟨x, hx⟩ : ∃ x, l[i]? = some x := ⟨_, List.getElem?_eq_getElem hlt⟩
      obtain ⟨y, hy⟩ : ∃ y, k[i]? = some y := ⟨_, List.getElem?_eq_getElem (by omega)⟩
      by_cases hxy : x = y
      · subst hxy
        repeat' (first
          | ((with_reducible apply g_op); first
            | ((with_reducible apply g_load); first
              | ((with_reducible apply w_fl (v := .string _)); exact rfl; exact (fun _ => rfl); assumption; exact rfl))
            | ((with_reducible apply g_move); first
              | ((with_reducible apply w_pure (v := .int _ _)); exact rfl; exact rfl)
              | ((with_reducible apply w_pure (v := .func _ _ _)); exact rfl; exact rfl))
            | ((with_reducible apply g_bin); first
              | ((with_reducible apply w_wrap); exact rfl; exact rfl; first | exact i64_in _ (by omega) | exact u64_in _ (by omega) | exact u8_in _ (by omega))
              | ((with_reducible apply w_tne); exact rfl; exact rfl; exact rfl; exact rfl; exact rfl)
              | ((with_reducible apply w_pure (v := .bool _)); exact rfl; exact rfl))
            | ((with_reducible apply g_assign); first
              | ((with_reducible apply w_pure (v := .int _ _)); exact rfl; exact rfl)
              | ((with_reducible apply w_pure (v := .bool _)); exact rfl; exact rfl))
            | ((with_reducible apply g_call); first
              | ((with_reducible apply w_call (v := .int _ _)); exact rfl))
            | ((with_reducible apply g_ix); first
              | ((with_reducible apply w_fx (sz := 1)); exact rfl; exact rfl; exact rfl; exact rfl; exact rfl; exact (fun _ => rfl); assumption; exact rfl)))
          | with_reducible refine w_seq ?_
          | with_reducible refine w_nil ?_
          | with_reducible refine w_region ?_
          | with_reducible refine w_skip ?_
          | with_reducible refine w_block ?_
          | with_reducible refine w_blk ?_
          | ((with_reducible apply w_draw); kernel_rfl; kernel_rfl)
          | ((with_reducible apply w_ifd); exact rfl; all_goals (intro hc; first | (exfalso; omega) | skip))
          | ((with_reducible apply w_ret (v := .bool _)); exact rfl))
        all_goals first | exact absurd rfl (by assumption) | skip
        refine ih () _ _ _ ⟨rfl, rfl, rfl, ?_⟩
        rw [List.take_add_one, List.take_add_one, hpre, hx, hy]
      · repeat' (first
          | ((with_reducible apply g_op); first
            | ((with_reducible apply g_load); first
              | ((with_reducible apply w_fl (v := .string _)); exact rfl; exact (fun _ => rfl); assumption; exact rfl))
            | ((with_reducible apply g_move); first
              | ((with_reducible apply w_pure (v := .int _ _)); exact rfl; exact rfl)
              | ((with_reducible apply w_pure (v := .func _ _ _)); exact rfl; exact rfl))
            | ((with_reducible apply g_bin); first
              | ((with_reducible apply w_wrap); exact rfl; exact rfl; first | exact i64_in _ (by omega) | exact u64_in _ (by omega) | exact u8_in _ (by omega))
              | ((with_reducible apply w_tne); exact rfl; exact rfl; exact rfl; exact rfl; exact rfl)
              | ((with_reducible apply w_pure (v := .bool _)); exact rfl; exact rfl))
            | ((with_reducible apply g_assign); first
              | ((with_reducible apply w_pure (v := .int _ _)); exact rfl; exact rfl)
              | ((with_reducible apply w_pure (v := .bool _)); exact rfl; exact rfl))
            | ((with_reducible apply g_call); first
              | ((with_reducible apply w_call (v := .int _ _)); exact rfl))
            | ((with_reducible apply g_ix); first
              | ((with_reducible apply w_fx (sz := 1)); exact rfl; exact rfl; exact rfl; exact rfl; exact rfl; exact (fun _ => rfl); assumption; exact rfl)))
          | with_reducible refine w_seq ?_
          | with_reducible refine w_nil ?_
          | with_reducible refine w_region ?_
          | with_reducible refine w_skip ?_
          | with_reducible refine w_block ?_
          | with_reducible refine w_blk ?_
          | ((with_reducible apply w_draw); kernel_rfl; kernel_rfl)
          | ((with_reducible apply w_ifd); exact rfl; all_goals (intro hc; first | (exfalso; omega) | skip))
          | ((with_reducible apply w_ret (v := .bool _)); exact rfl))
        all_goals first | exact absurd (by assumption) hxy | (exfalso; apply hxy; simp_all; done) | skip
        refine fr_plain rfl (congrArg Value.bool (decide_eq_false ?_).symm)
        intro e
        subst e
        rw [hx] at hy
        exact hxy (Option.some.inj hy)
    · rintro _ σ g2 n2 ⟨k0, k1, k5, hpre⟩
      refine w_keep (i := 0) k0 (w_keep (i := 1) k1 (w_keep (i := 5) k5 ?_))
      repeat' (first
        | ((with_reducible apply g_op); first
          | ((with_reducible apply g_move); first
            | ((with_reducible apply w_pure (v := .int _ _)); exact rfl; exact rfl)
            | ((with_reducible apply w_pure (v := .func _ _ _)); exact rfl; exact rfl))
          | ((with_reducible apply g_bin); first
            | ((with_reducible apply w_pure (v := .bool _)); exact rfl; exact rfl))
          | ((with_reducible apply g_assign); first
            | ((with_reducible apply w_pure (v := .bool _)); exact rfl; exact rfl))
          | ((with_reducible apply g_call); first
            | ((with_reducible apply w_call (v := .int _ _)); exact rfl)))
        | with_reducible refine w_seq ?_
        | with_reducible refine w_nil ?_
        | with_reducible refine w_region ?_
        | ((with_reducible apply w_exit); exact rfl)
        | ((with_reducible apply w_ifd); exact rfl; all_goals (intro hc; first | (exfalso; omega) | skip))
        | ((with_reducible apply w_ret (v := .bool _)); exact rfl))
      refine fr_plain rfl (congrArg Value.bool (decide_eq_true ?_).symm)
      rw [List.take_length, List.take_of_length_le (by omega)] at hpre
      exact hpre
  · repeat' (first
      | ((with_reducible apply g_op); first
        | ((with_reducible apply g_move); first
          | ((with_reducible apply w_pure (v := .func _ _ _)); exact rfl; exact rfl))
        | ((with_reducible apply g_bin); first
          | ((with_reducible apply w_pure (v := .bool _)); exact rfl; exact rfl))
        | ((with_reducible apply g_assign); first
          | ((with_reducible apply w_pure (v := .bool _)); exact rfl; exact rfl))
        | ((with_reducible apply g_call); first
          | ((with_reducible apply w_call (v := .int _ _)); exact rfl)))
      | with_reducible refine w_seq ?_
      | with_reducible refine w_nil ?_
      | with_reducible refine w_region ?_
      | ((with_reducible apply w_ifn); exact rfl; all_goals (intro hc; first | (exfalso; omega) | skip))
      | ((with_reducible apply w_ret (v := .bool _)); exact rfl))
    exact fr_plain rfl (congrArg Value.bool (decide_eq_false fun e => hlen (by rw [e])).symm)
def shortS (s : ByteArray) : ByteArray := if (s.size : Int) > 3 then s.extract 0 3 else s
theorem short_run (s : ByteArray) (g n m) : Rn Try.prog T 14 [.string s] g n m (fun v g' n' => v = .string (shortS s) ∧ g' = g ∧ n' = n) := by
  refine c_quiet Try.func14 rfl rfl rfl rfl rfl ?_
  repeat' (first
    | ((with_reducible apply g_op); first
      | ((with_reducible apply g_move); first
        | ((with_reducible apply w_pure (v := .string _)); exact rfl; exact rfl))
      | ((with_reducible apply g_bin); first
        | ((with_reducible apply w_pure (v := .bool _)); exact rfl; exact rfl))
      | ((with_reducible apply g_assign); first
        | ((with_reducible apply w_pure (v := .string _)); exact rfl; exact rfl))
      | ((with_reducible apply g_call); first
        | ((with_reducible apply w_call (v := .int _ _)); exact rfl))
      | ((with_reducible apply w_ssl); exact rfl; exact rfl; (first | exact rfl | exact num_of (by omega)); (first | exact rfl | exact num_of (by omega)); omega))
    | with_reducible refine w_seq ?_
    | with_reducible refine w_nil ?_
    | with_reducible refine w_region ?_
    | with_reducible refine w_skip ?_
    | ((with_reducible apply w_ifd); exact rfl; all_goals (intro hc; first | (exfalso; omega) | skip))
    | ((with_reducible apply w_ret (v := .string _)); exact rfl))
  · unfold shortS; rw [if_pos (by assumption)]; exact ⟨rfl, rfl⟩
  · unfold shortS; rw [if_neg (by assumption)]; exact ⟨rfl, rfl⟩
def nameB (a : Int) : ByteArray := ⟨#[UInt8.ofNat (97 + a % 16).toNat]⟩
theorem name_run (a : Int) (g n m) : Rn Try.prog T 12 [.int .i64 a] g n m (fun v g' n' => v = .string (nameB a) ∧ g' = g ∧ n' = n) := by
  refine c_quiet Try.func12 rfl rfl rfl rfl rfl ?_
  repeat' (first
    | ((with_reducible apply g_op); first
      | ((with_reducible apply g_move); first
        | ((with_reducible apply w_pure (v := .int _ _)); exact rfl; exact rfl))
      | ((with_reducible apply g_bin); first
        | ((with_reducible apply w_and (j := 4) (c1 := 16)); exact rfl; exact rfl; exact rfl; exact rfl; exact rfl; exact (by decide); exact (by decide); exact (by decide))
        | ((with_reducible apply w_wrap); exact rfl; exact rfl; first | exact i64_in _ (by omega) | exact u64_in _ (by omega) | exact u8_in _ (by omega)))
      | ((with_reducible apply g_assign); first
        | ((with_reducible apply w_pure (v := .string _)); exact rfl; exact rfl))
      | ((with_reducible apply w_conv); exact rfl; exact rfl; exact rfl; first | exact i64_in _ (by omega) | exact u64_in _ (by omega) | exact u8_in _ (by omega) | exact u32_in _ (by omega))
      | ((with_reducible apply w_bsl (ls := [_])); exact rfl; exact rfl; exact rfl; exact ⟨by decide, rfl⟩; exact rfl))
    | with_reducible refine w_seq ?_
    | with_reducible refine w_nil ?_
    | with_reducible refine w_region ?_)
  refine w_b2s (ns := [97 + a % 16]) rfl rfl rfl rfl upd_same rfl ?_
  repeat' (first
    | ((with_reducible apply g_op); first
      | ((with_reducible apply g_assign); first
        | ((with_reducible apply w_pure (v := .string _)); exact rfl; exact rfl)))
    | with_reducible refine w_nil ?_
    | ((with_reducible apply w_ret (v := .string _)); exact rfl))
  exact ⟨rfl, rfl⟩
def ii (a : Int) : List Value := [.int .i64 a]
abbrev iv (s : Array Value) (l : List Int) : Value := fz s l.length (l.flatMap ii)
def rr (s : Array Value) (r : List Int) : List Value := [iv s r]
def libAt (nd : List (List Int)) (i : Nat) : Lib := ⟨nameB i, ((nd.getD i []).take 8).map nameB⟩
def listS (nd : List (List Int)) (many : Int) : List Lib := (List.range (1 + many % 16).toNat).map (libAt nd)
def specV (s : Array Value) (nd : List (List Int)) (many : Int) : Value := .agg #[fz s nd.length (nd.flatMap (rr s)), .int .i64 many]
abbrev PL := Lib × Option Nat
def encP (p : PL) : List Value := [.string p.1.name, ov p.2 p.1.nd.length]
structure Nest (g : Nat → Option Ob) (lo n : Nat) (o : Option Nat) (ps : List PL) : Prop where
  out : Own g lo n 27 encP o ps
  ins : ∀ p ∈ ps, Own g lo n 9 ts p.2 p.1.nd
theorem own_ne {α β : Type} {g : Nat → Option Ob} {lo n lo' n' a b : Nat} {e e' : TypeId} {enc : α → List Value} {enc' : β → List Value} {l : List α} {l' : List β} (h1 : Own g lo n e enc (some a) l) (h2 : Own g lo' n' e' enc' (some b) l') (he : e ≠ e') : a ≠ b := by
  rintro rfl
  have := h1.2.2.2.symm.trans h2.2.2.2
  simp only [Option.some.injEq, Ob.cells.injEq] at this
  exact he this.1
theorem own_at {α : Type} {g g' : Nat → Option Ob} {lo n n' : Nat} {e : TypeId} {enc : α → List Value} {o : Option Nat} {l : List α} (h : Own g lo n e enc o l) (hn : n ≤ n') (hg : ∀ a, o = some a → g' a = g a) : Own g' lo n' e enc o l := by
  cases o with
  | none => exact h
  | some a => exact ⟨h.1, h.2.1, by have := h.2.2.1; omega, by rw [hg a rfl]; exact h.2.2.2⟩
theorem own_lo {α : Type} {g : Nat → Option Ob} {lo lo' n : Nat} {e : TypeId} {enc : α → List Value} {o : Option Nat} {l : List α} (h : Own g lo n e enc o l) (hl : lo' ≤ lo) : Own g lo' n e enc o l := by
  cases o with
  | none => exact h
  | some a => exact ⟨h.1, Nat.le_trans hl h.2.1, h.2.2⟩
theorem nest_fz {g : Nat → Option Ob} {lo n : Nat} {o : Option Nat} {ps : List PL} {l : List Lib} (h : Nest g lo n o ps) (hl : l = ps.map Prod.fst) {lo' : Nat} (hlo : lo' ≤ lo) (a : Array Value) : L1.freeze Try.prog g a lo' 9 (ov o ps.length) = some (lv a l) := by
  subst hl
  have := h.out.fz (P := Try.prog) (k := 7) (tg := a) (us := ps.flatMap fun p => Lib.cs a p.1) hlo rfl (by decide) (fun _ => rfl) (sn_map fun p hp => sn_cons (sn_plain rfl) (sn_cons ((h.ins p hp).fz (k := 6) hlo rfl (by decide) ts_len (sn_plains (all_flat ts_plain _))) sn_nil))
  rw [this]
  simp [List.flatMap_map]
theorem spec_sn {gg : Nat → Option Ob} {lo : Nat} {nd : List (List Int)} {many : Int} {a b : Array Value} (h : a = #[] ∨ b ≠ #[] := by first | exact .inl rfl | exact .inr (by simp)) : L1.freeze Try.prog gg b lo 9 (.agg #[fz a nd.length (nd.flatMap (rr a)), .int .i64 many]) = some (specV b nd many) :=
  sn_agg (l := [_, _]) (sn_cons (sn_fz h (sn_map fun x _ => sn_cons (sn_fzp h (all_flat (fun _ => rfl) _)) sn_nil)) (sn_cons (sn_plain rfl) sn_nil))
theorem list_run (nd : List (List Int)) (many : Int) (hn : nd.length ≤ 9223372036854775807) (hr : ∀ r ∈ nd, r.length ≤ 9223372036854775807) : Rf Try.prog T 11 [specV tg nd many] (fun v => v = lv #[] (listS nd many)) := by
  refine c_froz Try.func11 rfl rfl rfl rfl rfl rfl ?_
  intro g n
  unfold specV
  repeat' (first
    | ((with_reducible apply g_op); first
      | ((with_reducible apply g_assign); first
        | ((with_reducible apply w_pure (v := .int _ _)); exact rfl; exact rfl)
        | ((with_reducible apply w_pure (v := .slice _ _ _)); exact rfl; exact rfl))
      | ((with_reducible apply g_box); first
        | ((with_reducible apply w_box (vs := [_, _])); exact rfl; exact rfl)))
    | with_reducible refine w_seq ?_
    | with_reducible refine w_nil ?_
    | with_reducible refine w_region ?_
    | with_reducible refine w_block ?_)
  refine w_cntK [(3, 54)] (1 + many % 16).toNat (fun i (b : List PL × Option Nat) σ g' n' => σ 3 = ov b.2 b.1.length ∧ σ 4 = .int .i64 (i : Nat)
    ∧ g' n = some (.cells 36 [fz tg nd.length (nd.flatMap (rr tg)), .int .i64 many]) ∧ Nest g' (n + 1) n' b.2 b.1 ∧ b.1.map Prod.fst = (List.range i).map (libAt nd) ∧ n + 1 ≤ n') ?_ ?_ ([], none) ⟨rfl, rfl, by simp (disch := omega) only [upd_same, upd_ne], ⟨rfl, fun p hp => by cases hp⟩, rfl, by omega⟩
  · rintro i ⟨ps, o⟩ σ gl nl hi ⟨k3, k4, hg, hs, hm, hn1⟩ ih
    dsimp only at k3 hs hm
    refine w_keep (i := 3) k3 (w_keep (i := 4) k4 ?_)
    have hid : i ≤ 16 := by omega
    have hpl : ps.length = i := by have := congrArg List.length hm; simpa using this
    repeat' (first
      | ((with_reducible apply g_op); first
        | ((with_reducible apply g_load); first
          | ((with_reducible apply w_load (v := .int _ _)); exact rfl; (first | assumption | (simp (disch := omega) only [upd_same, upd_ne]; first | done | assumption | exact rfl) | exact rfl); exact rfl))
        | ((with_reducible apply g_move); first
          | ((with_reducible apply w_pure (v := .int _ _)); exact rfl; exact rfl))
        | ((with_reducible apply g_bin); first
          | ((with_reducible apply w_and (j := 4) (c1 := 16)); exact rfl; exact rfl; exact rfl; exact rfl; exact rfl; exact (by decide); exact (by decide); exact (by decide))
          | ((with_reducible apply w_wrap); exact rfl; exact rfl; first | exact i64_in _ (by omega) | exact u64_in _ (by omega) | exact u8_in _ (by omega))
          | ((with_reducible apply w_pure (v := .bool _)); exact rfl; exact rfl))
        | ((with_reducible apply g_fld); first
          | ((with_reducible apply w_fldp (o := 1)); exact rfl; exact rfl; exact rfl; exact (by decide))))
      | with_reducible refine w_seq ?_
      | with_reducible refine w_nil ?_
      | with_reducible refine w_region ?_
      | with_reducible refine w_skip ?_
      | with_reducible refine w_block ?_
      | ((with_reducible apply w_ifd); exact rfl; all_goals (intro hc; first | (exfalso; omega) | skip)))
    refine w_rq (name_run _ _ _ _) (fun _ => rfl) ?_
    rintro _ rfl
    repeat' (first
      | ((with_reducible apply g_op); first
        | ((with_reducible apply g_load); first
          | ((with_reducible apply w_load (v := .func _ _ _)); exact rfl; (first | assumption | (simp (disch := omega) only [upd_same, upd_ne]; first | done | assumption | exact rfl) | exact rfl); exact rfl))
        | ((with_reducible apply g_move); first
          | ((with_reducible apply w_pure (v := .int _ _)); exact rfl; exact rfl))
        | ((with_reducible apply g_bin); first
          | ((with_reducible apply w_pure (v := .bool _)); exact rfl; exact rfl))
        | ((with_reducible apply g_fld); first
          | ((with_reducible apply w_fldp (o := 0)); exact rfl; exact rfl; exact rfl; exact (by decide)))
        | ((with_reducible apply g_call); first
          | ((with_reducible apply w_call (v := .int _ _)); exact rfl))
        | ((with_reducible apply g_store); first
          | ((with_reducible apply w_store (us := [_, _]) (ws := [_, _])); exact rfl; exact rfl; (first | assumption | (simp (disch := omega) only [upd_same, upd_ne]; first | done | assumption | exact rfl) | exact rfl); omega; exact rfl; exact rfl; exact rfl))
        | ((with_reducible apply g_build); first
          | ((with_reducible apply w_pure (v := .agg #[_, _])); exact rfl; exact rfl))
        | ((with_reducible apply w_alloc (ls := [_, _])); exact rfl; exact rfl))
      | with_reducible refine w_seq ?_
      | with_reducible refine w_nil ?_
      | with_reducible refine w_region ?_)
    refine w_meetK [(6, 6), (23, 50)] (fun σ' g' n' => ∃ q, g' nl = some (.cells 27 [.string (nameB i), ov q (libAt nd i).nd.length]) ∧ Own g' (nl + 1) n' 9 ts q (libAt nd i).nd ∧ (∀ j, j < nl → g' j = gl j) ∧ nl + 1 ≤ n') ?_ ?_
    · intro K Q hK
      by_cases hin : i < nd.length
      · obtain ⟨r, hx⟩ : ∃ r, nd[i]? = some r := ⟨_, List.getElem?_eq_getElem hin⟩
        have hrl := hr r (List.mem_of_getElem? hx)
        have hnd : (libAt nd i).nd = (r.take 8).map nameB := by unfold libAt; rw [List.getD_eq_getElem?_getD, hx]; rfl
        repeat' (first
          | ((with_reducible apply g_op); first
            | ((with_reducible apply g_assign); first
              | ((with_reducible apply w_pure (v := .int _ _)); exact rfl; exact rfl)))
          | with_reducible refine w_seq ?_
          | with_reducible refine w_nil ?_
          | with_reducible refine w_region ?_
          | with_reducible refine w_block ?_
          | ((with_reducible apply w_ifd); exact rfl; all_goals (intro hc; first | (exfalso; omega) | skip)))
        refine w_cntK [(6, 6), (23, 50)] (min r.length 8) (fun k (b : List ByteArray × Option Nat) σ g' n' => σ 6 = .int .i64 (k : Nat) ∧ g' nl = some (.cells 27 [.string (nameB i), ov b.2 b.1.length]) ∧ Own g' (nl + 1) n' 9 ts b.2 b.1 ∧ b.1 = (r.take k).map nameB ∧ (∀ j, j < nl → g' j = gl j) ∧ nl + 1 ≤ n') ?_ ?_ ([], none) ⟨rfl, by simp (disch := omega) only [upd_same, upd_ne]; rfl, rfl, rfl, fun j hj => by simp (disch := omega) only [upd_ne], by omega⟩
        · rintro k ⟨ns, q⟩ σ2 g2 n2 hk ⟨k6, hg2, ho2, hns, hf2, hn2⟩ ih2
          dsimp only at hg2 ho2 hns
          refine w_keep (i := 6) k6 ?_
          have hgn : g2 n = some (Ob.cells 36 [fz tg nd.length (nd.flatMap (rr tg)), .int .i64 many]) := by rw [hf2 n (by omega)]; exact hg
          obtain ⟨a, ha⟩ : ∃ a, r[k]? = some a := ⟨_, List.getElem?_eq_getElem (by omega)⟩
          have hnl : ns.length = k := by rw [hns]; simp; omega
          have hns' : ns ++ [nameB a] = (r.take (k + 1)).map nameB := by rw [hns, List.take_add_one, ha]; simp
          cases q with
          | none =>
            simp only [ov_none, ov_some] at hg2
            have e0 : ns = [] := ho2
            subst e0
            repeat' (first
              | ((with_reducible apply g_op); first
                | ((with_reducible apply g_load); first
                  | ((with_reducible apply w_fl (v := .int _ _)); exact rfl; exact (fun _ => rfl); assumption; exact rfl)
                  | ((with_reducible apply w_fl (v := .func _ _ _)); exact rfl; exact (fun _ => rfl); assumption; exact rfl)
                  | ((with_reducible apply w_load (v := .slice _ _ _)); exact rfl; (first | assumption | (simp (disch := omega) only [upd_same, upd_ne]; first | done | assumption | exact rfl) | exact rfl); exact rfl)
                  | ((with_reducible apply w_load (v := .func _ _ _)); exact rfl; (first | assumption | (simp (disch := omega) only [upd_same, upd_ne]; first | done | assumption | exact rfl) | exact rfl); exact rfl))
                | ((with_reducible apply g_move); first
                  | ((with_reducible apply w_pure (v := .int _ _)); exact rfl; exact rfl)
                  | ((with_reducible apply w_pure (v := .bool _)); exact rfl; exact rfl))
                | ((with_reducible apply g_bin); first
                  | ((with_reducible apply w_pure (v := .bool _)); exact rfl; exact rfl))
                | ((with_reducible apply g_fld); first
                  | ((with_reducible apply w_fldp (o := 0)); exact rfl; exact rfl; exact rfl; exact (by decide))
                  | ((with_reducible apply w_fldp (o := 1)); exact rfl; exact rfl; exact rfl; exact (by decide)))
                | ((with_reducible apply g_pick); first
                  | ((with_reducible apply w_pk1 (v := .bool _)); exact rfl; exact rfl; (first | assumption | exact decide_eq_true (by assumption) | exact decide_eq_false (by assumption) | exact decide_eq_true (by omega) | exact decide_eq_false (by omega) | exact beq_iff_eq.2 (by omega) | exact beq_eq_false_iff_ne.2 (by omega) | exact bne_iff_ne.2 (by omega) | exact bne_eq_false_iff_eq.2 (by omega))))
                | ((with_reducible apply g_call); first
                  | ((with_reducible apply w_call (v := .int _ _)); exact rfl))
                | ((with_reducible apply g_ix); first
                  | ((with_reducible apply w_fx (sz := 1)); exact rfl; exact rfl; exact rfl; exact rfl; exact rfl; exact (fun _ => rfl); assumption; exact rfl)))
              | ((with_reducible apply g_gd); first
                | ((with_reducible apply w_gd_t); exact rfl; all_goals (intro hc; first | (exfalso; omega) | skip)))
              | with_reducible refine w_seq ?_
              | with_reducible refine w_nil ?_
              | with_reducible refine w_region ?_
              | with_reducible refine w_skip ?_
              | with_reducible refine w_block ?_
              | ((with_reducible apply w_draw); kernel_rfl; kernel_rfl)
              | ((with_reducible apply w_ifd); exact rfl; all_goals (intro hc; first | (exfalso; omega) | skip)))
            refine w_rq (name_run _ _ _ _) (fun _ => rfl) ?_
            rintro _ rfl
            repeat' (first
              | ((with_reducible apply g_op); first
                | ((with_reducible apply g_move); first
                  | ((with_reducible apply w_pure (v := .int _ _)); exact rfl; exact rfl))
                | ((with_reducible apply g_bin); first
                  | ((with_reducible apply w_wrap); exact rfl; exact rfl; first | exact i64_in _ (by omega) | exact u64_in _ (by omega) | exact u8_in _ (by omega)))
                | ((with_reducible apply g_fld); first
                  | ((with_reducible apply w_fldp (o := 1)); exact rfl; exact rfl; exact rfl; exact (by decide)))
                | ((with_reducible apply g_assign); first
                  | ((with_reducible apply w_pure (v := .int _ _)); exact rfl; exact rfl))
                | ((with_reducible apply g_call); first
                  | ((with_reducible apply w_app0 (ns := [_])); exact rfl; exact rfl; exact rfl; exact rfl; exact rfl; exact rfl; (first | assumption | (simp (disch := omega) only [upd_same, upd_ne]; first | done | assumption | exact rfl) | exact rfl); exact rfl; exact rfl; exact (by decide); exact ⟨by decide, by decide⟩))
                | ((with_reducible apply g_store); first
                  | ((with_reducible apply w_store (us := [.slice _ _ _]) (ws := [_, _])); exact rfl; exact rfl; (first | assumption | (simp (disch := omega) only [upd_same, upd_ne]; first | done | assumption | exact rfl) | exact rfl); omega; exact rfl; exact rfl; exact rfl))
                | ((with_reducible apply w_bsl (ls := [_])); exact rfl; exact rfl; exact rfl; exact ⟨by decide, rfl⟩; exact rfl))
              | with_reducible refine w_nil ?_
              | with_reducible refine w_region ?_
              | with_reducible refine w_blk ?_)
            refine ih2 ([nameB a], some (n2 + 1)) _ _ _ (by repeat' (first | with_reducible exact Fr.mix | with_reducible exact Fr.rfl' | with_reducible refine Fr.put ?_ ?_ | with_reducible refine Fr.mix2 ?_ ?_ | with_reducible refine Fr.put0 ?_ | exact rfl)) ⟨rfl, ?_, ⟨by simp, by omega, by omega, ?_⟩, hns', fun j hj => by simp (disch := omega) only [upd_ne]; exact hf2 j hj, by omega⟩
            · simp (disch := omega) only [upd_same, upd_ne]; rfl
            · simp (disch := omega) only [upd_same, upd_ne]; rfl
          | some q =>
            simp only [ov_none, ov_some] at hg2
            have ho3 := ho2.2.1
            have ho4 := ho2.2.2.1
            repeat' (first
              | ((with_reducible apply g_op); first
                | ((with_reducible apply g_load); first
                  | ((with_reducible apply w_fl (v := .int _ _)); exact rfl; exact (fun _ => rfl); assumption; exact rfl)
                  | ((with_reducible apply w_fl (v := .func _ _ _)); exact rfl; exact (fun _ => rfl); assumption; exact rfl)
                  | ((with_reducible apply w_load (v := .slice _ _ _)); exact rfl; (first | assumption | (simp (disch := omega) only [upd_same, upd_ne]; first | done | assumption | exact rfl) | exact rfl); exact rfl)
                  | ((with_reducible apply w_load (v := .func _ _ _)); exact rfl; (first | assumption | (simp (disch := omega) only [upd_same, upd_ne]; first | done | assumption | exact rfl) | exact rfl); exact rfl))
                | ((with_reducible apply g_move); first
                  | ((with_reducible apply w_pure (v := .int _ _)); exact rfl; exact rfl)
                  | ((with_reducible apply w_pure (v := .bool _)); exact rfl; exact rfl))
                | ((with_reducible apply g_bin); first
                  | ((with_reducible apply w_pure (v := .bool _)); exact rfl; exact rfl))
                | ((with_reducible apply g_fld); first
                  | ((with_reducible apply w_fldp (o := 0)); exact rfl; exact rfl; exact rfl; exact (by decide))
                  | ((with_reducible apply w_fldp (o := 1)); exact rfl; exact rfl; exact rfl; exact (by decide)))
                | ((with_reducible apply g_pick); first
                  | ((with_reducible apply w_pk1 (v := .bool _)); exact rfl; exact rfl; (first | assumption | exact decide_eq_true (by assumption) | exact decide_eq_false (by assumption) | exact decide_eq_true (by omega) | exact decide_eq_false (by omega) | exact beq_iff_eq.2 (by omega) | exact beq_eq_false_iff_ne.2 (by omega) | exact bne_iff_ne.2 (by omega) | exact bne_eq_false_iff_eq.2 (by omega))))
                | ((with_reducible apply g_call); first
                  | ((with_reducible apply w_call (v := .int _ _)); exact rfl))
                | ((with_reducible apply g_ix); first
                  | ((with_reducible apply w_fx (sz := 1)); exact rfl; exact rfl; exact rfl; exact rfl; exact rfl; exact (fun _ => rfl); assumption; exact rfl)))
              | ((with_reducible apply g_gd); first
                | ((with_reducible apply w_gd_t); exact rfl; all_goals (intro hc; first | (exfalso; omega) | skip)))
              | with_reducible refine w_seq ?_
              | with_reducible refine w_nil ?_
              | with_reducible refine w_region ?_
              | with_reducible refine w_skip ?_
              | with_reducible refine w_block ?_
              | ((with_reducible apply w_draw); kernel_rfl; kernel_rfl)
              | ((with_reducible apply w_ifd); exact rfl; all_goals (intro hc; first | (exfalso; omega) | skip)))
            refine w_rq (name_run _ _ _ _) (fun _ => rfl) ?_
            rintro _ rfl
            repeat' (first
              | ((with_reducible apply g_op); first
                | ((with_reducible apply w_bsl (ls := [_])); exact rfl; exact rfl; exact rfl; exact ⟨by decide, rfl⟩; exact rfl)))
            refine w_own2 (enc := ts) (y := nameB a) (by_ := 16) (sz := 1) (lo := nl + 1) (o := some q) (xs := ns) (ho2.later (by omega) (fun j h1 h2 => upd_ne (by omega))) rfl rfl rfl rfl rfl rfl (fun _ => rfl) upd_same rfl rfl rfl (by omega) (by omega) ?_
            intro g' h1 h2 h3
            have c1 : g' nl = some (Ob.cells 27 [.string (nameB i), slc q 0 ns.length]) := by
              rw [h1 nl (by omega) (by simp; omega), upd_ne (by omega)]; exact hg2
            repeat' (first
              | ((with_reducible apply g_op); first
                | ((with_reducible apply g_move); first
                  | ((with_reducible apply w_pure (v := .int _ _)); exact rfl; exact rfl))
                | ((with_reducible apply g_bin); first
                  | ((with_reducible apply w_wrap); exact rfl; exact rfl; first | exact i64_in _ (by omega) | exact u64_in _ (by omega) | exact u8_in _ (by omega)))
                | ((with_reducible apply g_fld); first
                  | ((with_reducible apply w_fldp (o := 1)); exact rfl; exact rfl; exact rfl; exact (by decide)))
                | ((with_reducible apply g_assign); first
                  | ((with_reducible apply w_pure (v := .int _ _)); exact rfl; exact rfl))
                | ((with_reducible apply g_store); first
                  | ((with_reducible apply w_store (us := [.slice _ _ _]) (ws := [_, _])); exact rfl; exact rfl; (first | assumption | (simp (disch := omega) only [upd_same, upd_ne]; first | done | assumption | exact rfl) | exact rfl); omega; exact rfl; exact rfl; exact rfl)))
              | with_reducible refine w_nil ?_
              | with_reducible refine w_region ?_
              | with_reducible refine w_blk ?_)
            refine ih2 (ns ++ [nameB a], some (n2 + 1)) _ _ _ (by repeat' (first | with_reducible exact Fr.mix | with_reducible exact Fr.rfl' | with_reducible refine Fr.put ?_ ?_ | with_reducible refine Fr.mix2 ?_ ?_ | with_reducible refine Fr.put0 ?_ | exact rfl)) ⟨rfl, ?_, h3.later (by omega) (fun j h1 h2 => upd_ne (by omega)), hns', fun j hj => ?_, by omega⟩
            · simp (disch := omega) only [upd_same, upd_ne]; rfl
            · rw [upd_ne (by omega), h1 j (by omega) (by simp; omega), upd_ne (by omega)]; exact hf2 j hj
        · rintro ⟨ns, q⟩ σ2 g2 n2 ⟨k6, hg2, ho2, hns, hf2, hn2⟩
          dsimp only at hg2 ho2 hns
          refine w_keep (i := 6) k6 ?_
          have hgn : g2 n = some (Ob.cells 36 [fz tg nd.length (nd.flatMap (rr tg)), .int .i64 many]) := by rw [hf2 n (by omega)]; exact hg
          have e1 : ns = (libAt nd i).nd := by rw [hnd, hns]; congr 1; rw [List.take_eq_take_iff]; omega
          rw [e1] at hg2 ho2
          repeat' (first
            | ((with_reducible apply g_op); first
              | ((with_reducible apply g_load); first
                | ((with_reducible apply w_fl (v := .func _ _ _)); exact rfl; exact (fun _ => rfl); assumption; exact rfl)
                | ((with_reducible apply w_load (v := .func _ _ _)); exact rfl; (first | assumption | (simp (disch := omega) only [upd_same, upd_ne]; first | done | assumption | exact rfl) | exact rfl); exact rfl))
              | ((with_reducible apply g_move); first
                | ((with_reducible apply w_pure (v := .int _ _)); exact rfl; exact rfl)
                | ((with_reducible apply w_pure (v := .bool _)); exact rfl; exact rfl))
              | ((with_reducible apply g_bin); first
                | ((with_reducible apply w_pure (v := .bool _)); exact rfl; exact rfl))
              | ((with_reducible apply g_fld); first
                | ((with_reducible apply w_fldp (o := 0)); exact rfl; exact rfl; exact rfl; exact (by decide)))
              | ((with_reducible apply g_pick); first
                | ((with_reducible apply w_pk1 (v := .bool _)); exact rfl; exact rfl; (first | assumption | exact decide_eq_true (by assumption) | exact decide_eq_false (by assumption) | exact decide_eq_true (by omega) | exact decide_eq_false (by omega) | exact beq_iff_eq.2 (by omega) | exact beq_eq_false_iff_ne.2 (by omega) | exact bne_iff_ne.2 (by omega) | exact bne_eq_false_iff_eq.2 (by omega)))
                | ((with_reducible apply w_pk0 (v := .bool _)); exact rfl; exact rfl; (first | assumption | exact decide_eq_true (by assumption) | exact decide_eq_false (by assumption) | exact decide_eq_true (by omega) | exact decide_eq_false (by omega) | exact beq_iff_eq.2 (by omega) | exact beq_eq_false_iff_ne.2 (by omega) | exact bne_iff_ne.2 (by omega) | exact bne_eq_false_iff_eq.2 (by omega))))
              | ((with_reducible apply g_call); first
                | ((with_reducible apply w_call (v := .int _ _)); exact rfl))
              | ((with_reducible apply g_ix); first
                | ((with_reducible apply w_fx (sz := 1)); exact rfl; exact rfl; exact rfl; exact rfl; exact rfl; exact (fun _ => rfl); assumption; exact rfl)))
            | ((with_reducible apply g_gd); first
              | ((with_reducible apply w_gd_t); exact rfl; all_goals (intro hc; first | (exfalso; omega) | skip)))
            | with_reducible refine w_seq ?_
            | with_reducible refine w_nil ?_
            | with_reducible refine w_region ?_
            | ((with_reducible apply w_exit); exact rfl)
            | ((with_reducible apply w_no); exact rfl)
            | ((with_reducible apply w_ifd); exact rfl; all_goals (intro hc; first | (exfalso; omega) | skip)))
          all_goals exact hK _ _ _ (by repeat' (first | with_reducible exact Fr.mix | with_reducible exact Fr.rfl' | with_reducible refine Fr.put ?_ ?_ | with_reducible refine Fr.mix2 ?_ ?_ | with_reducible refine Fr.put0 ?_ | exact rfl)) ⟨q, hg2, ho2, hf2, hn2⟩
      · have hnd : (libAt nd i).nd = [] := by unfold libAt; rw [List.getD_eq_getElem?_getD, List.getElem?_eq_none (by omega)]; rfl
        repeat' (first
          | with_reducible refine w_skip ?_
          | ((with_reducible apply w_ifd); exact rfl; all_goals (intro hc; first | (exfalso; omega) | skip)))
        refine hK _ _ _ (by repeat' (first | with_reducible exact Fr.mix | with_reducible exact Fr.rfl' | with_reducible refine Fr.put ?_ ?_ | with_reducible refine Fr.mix2 ?_ ?_ | with_reducible refine Fr.put0 ?_ | exact rfl)) ⟨none, ?_, ?_, fun j hj => by simp (disch := omega) only [upd_ne], by omega⟩
        · simp (disch := omega) only [upd_same, upd_ne]; rfl
        · exact hnd
    · rintro σ2 g2 n2 ⟨q, hg2, ho2, hf2, hn2⟩
      have hm' : (ps ++ [(libAt nd i, q)]).map Prod.fst = (List.range (i + 1)).map (libAt nd) := by rw [List.map_append, hm, List.range_succ, List.map_append]; rfl
      have hgn : g2 n = some (Ob.cells 36 [fz tg nd.length (nd.flatMap (rr tg)), .int .i64 many]) := by rw [hf2 n (by omega)]; exact hg
      cases o with
      | none =>
        have e0 : ps = [] := hs.out
        subst e0
        simp only [ov_none] at k3
        cases q with
        | none =>
          simp only [ov_none, ov_some] at hg2
          repeat' (first
            | ((with_reducible apply g_op); first
              | ((with_reducible apply g_load); first
                | ((with_reducible apply w_load (v := .agg #[_, _])); exact rfl; (first | assumption | (simp (disch := omega) only [upd_same, upd_ne]; first | done | assumption | exact rfl) | exact rfl); exact rfl))
              | ((with_reducible apply g_move); first
                | ((with_reducible apply w_pure (v := .int _ _)); exact rfl; exact rfl)
                | ((with_reducible apply w_pure (v := .slice _ _ _)); exact rfl; exact rfl))
              | ((with_reducible apply g_bin); first
                | ((with_reducible apply w_wrap); exact rfl; exact rfl; first | exact i64_in _ (by omega) | exact u64_in _ (by omega) | exact u8_in _ (by omega)))
              | ((with_reducible apply g_assign); first
                | ((with_reducible apply w_pure (v := .int _ _)); exact rfl; exact rfl)
                | ((with_reducible apply w_pure (v := .slice _ _ _)); exact rfl; exact rfl))
              | ((with_reducible apply g_call); first
                | ((with_reducible apply w_app0 (ns := [_, _])); exact rfl; exact rfl; exact rfl; exact rfl; exact rfl; exact rfl; (first | assumption | (simp (disch := omega) only [upd_same, upd_ne]; first | done | assumption | exact rfl) | exact rfl); exact rfl; exact rfl; exact (by decide); exact ⟨by decide, by decide⟩))
              | ((with_reducible apply w_bsl (ls := [_, _])); exact rfl; exact rfl; exact rfl; exact ⟨by decide, rfl⟩; exact rfl))
            | with_reducible refine w_nil ?_
            | with_reducible refine w_region ?_
            | with_reducible refine w_blk ?_)
          refine ih ([(libAt nd i, none)], some (n2 + 1)) _ _ _ (by repeat' (first | with_reducible exact Fr.mix | with_reducible exact Fr.rfl' | with_reducible refine Fr.put ?_ ?_ | with_reducible refine Fr.mix2 ?_ ?_ | with_reducible refine Fr.put0 ?_ | exact rfl)) ⟨rfl, by push_cast; rfl, ?_, ⟨⟨by simp, by omega, by omega, ?_⟩, fun p hp => ?_⟩, hm', by omega⟩
          · simp (disch := omega) only [upd_same, upd_ne]; exact hgn
          · simp (disch := omega) only [upd_same, upd_ne]; rfl
          · rw [List.mem_singleton] at hp
            subst hp
            refine own_lo (own_at ho2 (by omega) fun a ha => ?_) (by omega)
            cases ha <;> (
            have := ho2.2.2.1
            simp (disch := omega) only [upd_ne])
        | some q =>
          simp only [ov_none, ov_some] at hg2
          repeat' (first
            | ((with_reducible apply g_op); first
              | ((with_reducible apply g_load); first
                | ((with_reducible apply w_load (v := .agg #[_, _])); exact rfl; (first | assumption | (simp (disch := omega) only [upd_same, upd_ne]; first | done | assumption | exact rfl) | exact rfl); exact rfl))
              | ((with_reducible apply g_move); first
                | ((with_reducible apply w_pure (v := .int _ _)); exact rfl; exact rfl)
                | ((with_reducible apply w_pure (v := .slice _ _ _)); exact rfl; exact rfl))
              | ((with_reducible apply g_bin); first
                | ((with_reducible apply w_wrap); exact rfl; exact rfl; first | exact i64_in _ (by omega) | exact u64_in _ (by omega) | exact u8_in _ (by omega)))
              | ((with_reducible apply g_assign); first
                | ((with_reducible apply w_pure (v := .int _ _)); exact rfl; exact rfl)
                | ((with_reducible apply w_pure (v := .slice _ _ _)); exact rfl; exact rfl))
              | ((with_reducible apply g_call); first
                | ((with_reducible apply w_app0 (ns := [_, _])); exact rfl; exact rfl; exact rfl; exact rfl; exact rfl; exact rfl; (first | assumption | (simp (disch := omega) only [upd_same, upd_ne]; first | done | assumption | exact rfl) | exact rfl); exact rfl; exact rfl; exact (by decide); exact ⟨by decide, by decide⟩))
              | ((with_reducible apply w_bsl (ls := [_, _])); exact rfl; exact rfl; exact rfl; exact ⟨by decide, rfl⟩; exact rfl))
            | with_reducible refine w_nil ?_
            | with_reducible refine w_region ?_
            | with_reducible refine w_blk ?_)
          refine ih ([(libAt nd i, some q)], some (n2 + 1)) _ _ _ (by repeat' (first | with_reducible exact Fr.mix | with_reducible exact Fr.rfl' | with_reducible refine Fr.put ?_ ?_ | with_reducible refine Fr.mix2 ?_ ?_ | with_reducible refine Fr.put0 ?_ | exact rfl)) ⟨rfl, by push_cast; rfl, ?_, ⟨⟨by simp, by omega, by omega, ?_⟩, fun p hp => ?_⟩, hm', by omega⟩
          · simp (disch := omega) only [upd_same, upd_ne]; exact hgn
          · simp (disch := omega) only [upd_same, upd_ne]; rfl
          · rw [List.mem_singleton] at hp
            subst hp
            refine own_lo (own_at ho2 (by omega) fun a ha => ?_) (by omega)
            cases ha <;> (
            have := ho2.2.2.1
            simp (disch := omega) only [upd_ne])
      | some o =>
        simp only [ov_some] at k3
        have hol := hs.out.2.2.1
        have hol2 := hs.out.2.1
        cases q with
        | none =>
          simp only [ov_none, ov_some] at hg2
          repeat' (first
            | ((with_reducible apply g_op); first
              | ((with_reducible apply g_load); first
                | ((with_reducible apply w_load (v := .agg #[_, _])); exact rfl; (first | assumption | (simp (disch := omega) only [upd_same, upd_ne]; first | done | assumption | exact rfl) | exact rfl); exact rfl))
              | ((with_reducible apply g_move); first
                | ((with_reducible apply w_pure (v := .slice _ _ _)); exact rfl; exact rfl))
              | ((with_reducible apply w_bsl (ls := [_, _])); exact rfl; exact rfl; exact rfl; exact ⟨by decide, rfl⟩; exact rfl))
            | with_reducible refine w_region ?_)
          refine w_own2 (enc := encP) (y := (libAt nd i, none)) (by_ := 40) (sz := 2) (lo := n + 1) (o := some o) (xs := ps) (own_at hs.out (by omega) fun a ha => by cases ha; rw [upd_ne (by omega)]; exact hf2 o (by omega)) rfl rfl rfl rfl rfl rfl (fun _ => rfl) upd_same rfl rfl rfl (by omega) (by omega) ?_
          intro g' h1 h2 h3
          repeat' (first
            | ((with_reducible apply g_op); first
              | ((with_reducible apply g_move); first
                | ((with_reducible apply w_pure (v := .int _ _)); exact rfl; exact rfl))
              | ((with_reducible apply g_bin); first
                | ((with_reducible apply w_wrap); exact rfl; exact rfl; first | exact i64_in _ (by omega) | exact u64_in _ (by omega) | exact u8_in _ (by omega)))
              | ((with_reducible apply g_assign); first
                | ((with_reducible apply w_pure (v := .int _ _)); exact rfl; exact rfl)
                | ((with_reducible apply w_pure (v := .slice _ _ _)); exact rfl; exact rfl)))
            | with_reducible refine w_nil ?_
            | with_reducible refine w_region ?_
            | with_reducible refine w_blk ?_)
          refine ih (ps ++ [(libAt nd i, none)], some (n2 + 1)) _ _ _ (by repeat' (first | with_reducible exact Fr.mix | with_reducible exact Fr.rfl' | with_reducible refine Fr.put ?_ ?_ | with_reducible refine Fr.mix2 ?_ ?_ | with_reducible refine Fr.put0 ?_ | exact rfl)) ⟨rfl, by push_cast; rfl, ?_, ⟨h3.later (by omega) (fun j h1 h2 => rfl), fun p hp => ?_⟩, hm', by omega⟩
          · rw [h1 n (by omega) (by simp; omega), upd_ne (by omega)]; exact hgn
          · rcases List.mem_append.1 hp with hp | hp
            · have hip := hs.ins p hp
              refine own_at hip (by omega) fun a ha => ?_
              rw [ha] at hip
              have hne := own_ne hip hs.out (by decide)
              have := hip.2.2.1
              rw [h1 a (by omega) (by simpa using hne), upd_ne (by omega)]
              exact hf2 a (by omega)
            · rw [List.mem_singleton] at hp
              subst hp
              refine own_lo (own_at ho2 (by omega) fun a ha => ?_) (by omega)
              cases ha <;> (
              have := ho2.2.2.1
              have := ho2.2.1
              rw [h1 _ (by omega) (by simp; omega), upd_ne (by omega)])
        | some q =>
          simp only [ov_none, ov_some] at hg2
          repeat' (first
            | ((with_reducible apply g_op); first
              | ((with_reducible apply g_load); first
                | ((with_reducible apply w_load (v := .agg #[_, _])); exact rfl; (first | assumption | (simp (disch := omega) only [upd_same, upd_ne]; first | done | assumption | exact rfl) | exact rfl); exact rfl))
              | ((with_reducible apply g_move); first
                | ((with_reducible apply w_pure (v := .slice _ _ _)); exact rfl; exact rfl))
              | ((with_reducible apply w_bsl (ls := [_, _])); exact rfl; exact rfl; exact rfl; exact ⟨by decide, rfl⟩; exact rfl))
            | with_reducible refine w_region ?_)
          refine w_own2 (enc := encP) (y := (libAt nd i, some q)) (by_ := 40) (sz := 2) (lo := n + 1) (o := some o) (xs := ps) (own_at hs.out (by omega) fun a ha => by cases ha; rw [upd_ne (by omega)]; exact hf2 o (by omega)) rfl rfl rfl rfl rfl rfl (fun _ => rfl) upd_same rfl rfl rfl (by omega) (by omega) ?_
          intro g' h1 h2 h3
          repeat' (first
            | ((with_reducible apply g_op); first
              | ((with_reducible apply g_move); first
                | ((with_reducible apply w_pure (v := .int _ _)); exact rfl; exact rfl))
              | ((with_reducible apply g_bin); first
                | ((with_reducible apply w_wrap); exact rfl; exact rfl; first | exact i64_in _ (by omega) | exact u64_in _ (by omega) | exact u8_in _ (by omega)))
              | ((with_reducible apply g_assign); first
                | ((with_reducible apply w_pure (v := .int _ _)); exact rfl; exact rfl)
                | ((with_reducible apply w_pure (v := .slice _ _ _)); exact rfl; exact rfl)))
            | with_reducible refine w_nil ?_
            | with_reducible refine w_region ?_
            | with_reducible refine w_blk ?_)
          refine ih (ps ++ [(libAt nd i, some q)], some (n2 + 1)) _ _ _ (by repeat' (first | with_reducible exact Fr.mix | with_reducible exact Fr.rfl' | with_reducible refine Fr.put ?_ ?_ | with_reducible refine Fr.mix2 ?_ ?_ | with_reducible refine Fr.put0 ?_ | exact rfl)) ⟨rfl, by push_cast; rfl, ?_, ⟨h3.later (by omega) (fun j h1 h2 => rfl), fun p hp => ?_⟩, hm', by omega⟩
          · rw [h1 n (by omega) (by simp; omega), upd_ne (by omega)]; exact hgn
          · rcases List.mem_append.1 hp with hp | hp
            · have hip := hs.ins p hp
              refine own_at hip (by omega) fun a ha => ?_
              rw [ha] at hip
              have hne := own_ne hip hs.out (by decide)
              have := hip.2.2.1
              rw [h1 a (by omega) (by simpa using hne), upd_ne (by omega)]
              exact hf2 a (by omega)
            · rw [List.mem_singleton] at hp
              subst hp
              refine own_lo (own_at ho2 (by omega) fun a ha => ?_) (by omega)
              cases ha <;> (
              have := ho2.2.2.1
              have := ho2.2.1
              rw [h1 _ (by omega) (by simp; omega), upd_ne (by omega)])
  · rintro ⟨ps, o⟩ σ gl nl ⟨k3, k4, hg, hs, hm, hn1⟩
    dsimp only at k3 hs hm
    refine w_keep (i := 3) k3 (w_keep (i := 4) k4 ?_)
    have hfin : listS nd many = ps.map Prod.fst := hm.symm
    cases o <;> simp only [ov_none, ov_some] at k3 <;> (
      repeat' (first
        | ((with_reducible apply g_op); first
          | ((with_reducible apply g_load); first
            | ((with_reducible apply w_load (v := .int _ _)); exact rfl; (first | assumption | (simp (disch := omega) only [upd_same, upd_ne]; first | done | assumption | exact rfl) | exact rfl); exact rfl))
          | ((with_reducible apply g_move); first
            | ((with_reducible apply w_pure (v := .int _ _)); exact rfl; exact rfl)
            | ((with_reducible apply w_pure (v := .slice _ _ _)); exact rfl; exact rfl))
          | ((with_reducible apply g_bin); first
            | ((with_reducible apply w_and (j := 4) (c1 := 16)); exact rfl; exact rfl; exact rfl; exact rfl; exact rfl; exact (by decide); exact (by decide); exact (by decide))
            | ((with_reducible apply w_wrap); exact rfl; exact rfl; first | exact i64_in _ (by omega) | exact u64_in _ (by omega) | exact u8_in _ (by omega))
            | ((with_reducible apply w_pure (v := .bool _)); exact rfl; exact rfl))
          | ((with_reducible apply g_fld); first
            | ((with_reducible apply w_fldp (o := 1)); exact rfl; exact rfl; exact rfl; exact (by decide)))
          | ((with_reducible apply g_assign); first
            | ((with_reducible apply w_pure (v := .slice _ _ _)); exact rfl; exact rfl)))
        | with_reducible refine w_seq ?_
        | with_reducible refine w_nil ?_
        | with_reducible refine w_region ?_
        | ((with_reducible apply w_exit); exact rfl)
        | ((with_reducible apply w_ifd); exact rfl; all_goals (intro hc; first | (exfalso; omega) | skip))
        | ((with_reducible apply w_ret (v := .slice _ _ _)); exact rfl))
      exact ⟨_, nest_fz (lo' := n) hs hfin (by omega) #[], rfl⟩)
end Go.Proofs.Ytgljofdhdnhekaa.L

