/- A program's view is made. -/
import Derived.Test.Ytoknnbjkjhigbaac10G
import Derived.Test.Ytoknnbjkjhigbaac10D
namespace Go.L1
theorem w_rtct {P : Program} {T : Tb} {fn : Func} {k : List It} {σ : Env} {g : Nat → Option Ob} {n m : Nat} {Q : Value → (Nat → Option Ob) → Nat → Prop} {a b c : Tmp} {t : TypeId} {i off : Nat} {e : TypeId} {vs : List Value} {v u w : Value} (hr : fn.results.toList = [.tmp a, .cell b t, .tmp c]) (hw : σ a = w) (hb : σ b = ptr i off) (hg : g i = some (.cells e vs)) (hp : part P t vs off = some v) (hu : σ c = u) (hq : Q (.tuple #[w, v, u]) g n) : Go P T fn (.code .ret :: k) σ g n m Q :=
  w_ret (v := .tuple #[w, v, u]) (H' := ⟨g, n, m⟩) (by simp [leave, hr, resList, loadAt, hb, hg, hp, packed, hu, hw]) hq
end Go.L1
namespace Go.Proofs.Ytoknnbjkjhigbaa.L
open Go.L1 Go.IntWalk
set_option linter.unusedVariables false
set_option linter.unusedSimpArgs false
set_option maxHeartbeats 4000000
set_option maxRecDepth 20000
namespace Sym
open Oct
def raOf (o : Option Nat) : Option Addr := match o with | none => none | some i => some ⟨i, 0, none⟩
theorem own_ov {α : Type} {e : TypeId} {enc : α → List Value} {g : Nat → Option Ob} {lo n : Nat} {o : Option Nat} {l : List α} (h : Own g lo n e enc o l) : ov o l.length = .slice (raOf o) l.length l.length := by
  cases o with
  | none => have : l = [] := h; subst this; rfl
  | some i => rfl
theorem own_row {α : Type} {e : TypeId} {enc : α → List Value} {g : Nat → Option Ob} {lo n : Nat} {o : Option Nat} {l : List α} (h : Own g lo n e enc o l) : Row g (raOf o) e (l.flatMap enc) := by
  cases o with
  | none => have : l = [] := h; subst this; exact .inl rfl
  | some i => exact .inr ⟨i, 0, _, rfl, h.2.2.2, by rw [Nat.zero_add]; exact Nat.le_refl _, by rw [List.drop_zero, List.take_length]⟩
theorem own_keep {α : Type} {e : TypeId} {enc : α → List Value} {g g' : Nat → Option Ob} {lo n n' : Nat} {o : Option Nat} {l : List α} (h : Own g lo n e enc o l) (hn : n ≤ n') (hg : ∀ j, lo ≤ j → j < n → some j = o → g' j = g j) : Own g' lo n' e enc o l := by
  cases o with
  | none => exact h
  | some i => exact ⟨h.1, h.2.1, Nat.lt_of_lt_of_le h.2.2.1 hn, by rw [hg i h.2.1 h.2.2.1 rfl]; exact h.2.2.2⟩
theorem own_none {α : Type} {e : TypeId} {enc : α → List Value} {g : Nat → Option Ob} {lo n : Nat} {l : List α} (h : Own g lo n e enc none l) : l = [] := h
theorem own_pos {α : Type} {e : TypeId} {enc : α → List Value} {g : Nat → Option Ob} {lo n : Nat} {o : Option Nat} {l : List α} (h : Own g lo n e enc o l) (hl : l ≠ []) : ∃ i, o = some i := by
  cases o with
  | none => exact absurd h hl
  | some i => exact ⟨i, rfl⟩
abbrev iv (s : Array Value) (l : List Int) : Value := fz s l.length (l.flatMap fun n => [.int .i64 n])
def shortS (s : ByteArray) (k : Int) : ByteArray := if (s.size : Int) > k then s.extract 0 k.toNat else s
theorem short_run (s : ByteArray) (k : Int) (hk : 0 ≤ k) (g n m) : Rn Try.prog T 8 [.string s, .int .i64 k] g n m (fun v g' n' => v = .string (shortS s k) ∧ g' = g ∧ n' = n) := by
  refine c_quiet Try.func8 rfl rfl rfl rfl rfl ?_
  by_cases h : (s.size : Int) > k
  · repeat' (first
      | ((with_reducible apply g_op); first
        | ((with_reducible apply g_move); first
          | ((with_reducible apply w_pure (v := .int _ _)); exact rfl; exact rfl)
          | ((with_reducible apply w_pure (v := .string _)); exact rfl; exact rfl))
        | ((with_reducible apply g_bin); first
          | ((with_reducible apply w_pure (v := .bool _)); exact rfl; exact rfl))
        | ((with_reducible apply g_assign); first
          | ((with_reducible apply w_pure (v := .string _)); exact rfl; exact rfl))
        | ((with_reducible apply g_call); first
          | ((with_reducible apply w_call (v := .int _ _)); exact rfl))
        | ((with_reducible apply w_ssl); exact rfl; exact rfl; (first | exact num_of (by omega) | exact rfl); (first | exact num_of (by omega) | exact rfl); omega))
      | with_reducible refine w_seq ?_
      | with_reducible refine w_nil ?_
      | with_reducible refine w_region ?_
      | ((with_reducible apply w_ifd); exact rfl; all_goals (intro hc; first | (exfalso; omega) | skip))
      | ((with_reducible apply w_ret (v := .string _)); exact rfl))
    exact ⟨rfl, congrArg Value.string (if_pos h).symm⟩
  · repeat' (first
      | ((with_reducible apply g_op); first
        | ((with_reducible apply g_move); first
          | ((with_reducible apply w_pure (v := .int _ _)); exact rfl; exact rfl)
          | ((with_reducible apply w_pure (v := .string _)); exact rfl; exact rfl))
        | ((with_reducible apply g_bin); first
          | ((with_reducible apply w_pure (v := .bool _)); exact rfl; exact rfl))
        | ((with_reducible apply g_assign); first
          | ((with_reducible apply w_pure (v := .string _)); exact rfl; exact rfl))
        | ((with_reducible apply g_call); first
          | ((with_reducible apply w_call (v := .int _ _)); exact rfl)))
      | with_reducible refine w_seq ?_
      | with_reducible refine w_nil ?_
      | with_reducible refine w_region ?_
      | with_reducible refine w_skip ?_
      | ((with_reducible apply w_ifd); exact rfl; all_goals (intro hc; first | (exfalso; omega) | skip))
      | ((with_reducible apply w_ret (v := .string _)); exact rfl))
    exact ⟨rfl, congrArg Value.string (if_neg h).symm⟩
theorem short_size (u : ByteArray) (k : Nat) : (shortS u k).size ≤ k := by
  unfold shortS
  split
  · rw [ByteArray.size_extract]; omega
  · omega
theorem fill_size (a : Nat) : (Oct.fillV Oct.noneB a).size = a := by
  unfold Oct.fillV
  have h0 : Oct.noneB.size = 0 := rfl
  split
  · rename_i h
    rw [ByteArray.size_extract]; omega
  · rw [ByteArray.size_append, Oct.zeroB_size]
    omega
theorem bt_cut (s : ByteArray) (k j : Nat) (hj : j < (s.extract 0 k).size) : bt (s.extract 0 k) j = bt s j := by
  rw [ByteArray.size_extract] at hj
  have := bt_part s 0 (min k s.size) j (by omega)
  rw [Nat.zero_add, Nat.zero_add] at this
  rw [← this]
  congr 1
  refine ba_ext ?_
  rw [Lib.extract_data, Lib.extract_data, List.drop_zero, Nat.sub_zero, Nat.sub_zero]
  by_cases h : k ≤ s.size
  · rw [Nat.min_eq_left h]
  · rw [List.take_of_length_le (by rw [size_list]; omega), List.take_of_length_le (by rw [size_list]; omega)]
theorem andr (x : Int) (j : Nat) (hj : j ≤ 62) (m : Int) (hm : m = 2 ^ j - 1) : 0 ≤ IntKind.i64.wrap ((BitVec.ofInt IntKind.i64.bits x &&& BitVec.ofInt IntKind.i64.bits m).toNat : Nat) ∧ IntKind.i64.wrap ((BitVec.ofInt IntKind.i64.bits x &&& BitVec.ofInt IntKind.i64.bits m).toNat : Nat) ≤ m := by
  have h : IntKind.i64.wrap ((BitVec.ofInt IntKind.i64.bits x &&& BitVec.ofInt IntKind.i64.bits m).toNat : Nat) = x % 2 ^ j := and_i64 x j hj m hm
  have hp : (0 : Int) < 2 ^ j := Int.pow_pos (by decide)
  have h1 := Int.emod_nonneg x (Int.ne_of_gt hp)
  have h2 := Int.emod_lt_of_pos x hp
  rw [h]
  omega
set_option maxHeartbeats 0 in
theorem made_run (l : List ByteArray) (x : List Int) (ah : Int) (hl : l.length ≤ 9223372036854775807) (hx : x.length ≤ 9223372036854775807) : Rf Try.prog T 10 [.agg #[tv tg l, iv tg x, .int .i64 ah]] (fun v => ∃ view base ss vs, Vw view base ss vs ∧ v = .tuple #[.string view, (dyOf base.length ss).v #[], fz #[] (symsL ss vs).length ((symsL ss vs).flatMap sy)]) := by
  refine c_froz Try.func10 rfl rfl rfl rfl rfl rfl ?_
  intro g n
  repeat' (first
    | ((with_reducible apply g_op); first
      | ((with_reducible apply g_load); first
        | ((with_reducible apply w_load (v := .int _ _)); exact rfl; (first | assumption | (simp (disch := omega) only [upd_same, upd_ne]; first | done | assumption | exact rfl) | exact rfl); exact rfl))
      | ((with_reducible apply g_bin); first
        | ((with_reducible apply w_and (j := 6) (c1 := 64)); exact rfl; exact rfl; exact rfl; exact rfl; exact rfl; exact (by decide); exact (by decide); exact (by decide))
        | ((with_reducible apply w_wrap); exact rfl; exact rfl; first | exact i64_in _ (by omega) | exact u64_in _ (by omega) | exact u8_in _ (by omega)))
      | ((with_reducible apply g_fld); first
        | ((with_reducible apply w_fldp (o := 2)); exact rfl; exact rfl; exact rfl; exact (by decide)))
      | ((with_reducible apply g_assign); first
        | ((with_reducible apply w_pure (v := .slice _ _ _)); exact rfl; exact rfl)
        | ((with_reducible apply w_pure (v := .string _)); exact rfl; exact rfl))
      | ((with_reducible apply g_box); first
        | ((with_reducible apply w_box (vs := [_, _, _])); exact rfl; exact rfl))
      | ((with_reducible apply w_alloc (ls := [_, _, _, _, _, _, _, _, _])); exact rfl; exact rfl))
    | with_reducible refine w_seq ?_
    | with_reducible refine w_nil ?_
    | with_reducible refine w_region ?_)
  have hmod : 0 ≤ ah % 64 ∧ ah % 64 < 64 := ⟨Int.emod_nonneg _ (by decide), Int.emod_lt_of_pos _ (by decide)⟩
  obtain ⟨a, ha⟩ : ∃ a : Nat, 8 + ah % 64 = (a : Int) := ⟨(8 + ah % 64).toNat, by omega⟩
  rw [ha]
  have ha2 : 8 ≤ a ∧ a ≤ 71 := by omega
  refine w_rq (Oct.rfill_run Oct.noneB a (by decide) (by omega) _ _ _) (fun _ => rfl) ?_
  rintro _ rfl
  have hfs := fill_size a
  obtain ⟨base, hbase⟩ : ∃ base, (Oct.fillV Oct.noneB a).data.toList = base := ⟨_, rfl⟩
  have hbl : base.length = a := by rw [← hbase, size_list, hfs]
  generalize Oct.fillV Oct.noneB a = W0 at *
  repeat' (first
    | ((with_reducible apply g_op); first
      | ((with_reducible apply g_move); first
        | ((with_reducible apply w_pure (v := .string _)); exact rfl; exact rfl))
      | ((with_reducible apply g_fld); first
        | ((with_reducible apply w_fldp (o := 1)); exact rfl; exact rfl; exact rfl; exact (by decide)))
      | ((with_reducible apply g_assign); first
        | ((with_reducible apply w_pure (v := .int _ _)); exact rfl; exact rfl)
        | ((with_reducible apply w_pure (v := .slice _ _ _)); exact rfl; exact rfl)
        | ((with_reducible apply w_pure (v := .string _)); exact rfl; exact rfl))
      | ((with_reducible apply g_call); first
        | ((with_reducible apply w_call (v := .int _ _)); exact rfl))
      | ((with_reducible apply g_store); first
        | ((with_reducible apply w_store (us := [.int _ _]) (ws := [_, _, _, _, _, _, _, _, _])); exact rfl; exact rfl; (first | assumption | (simp (disch := omega) only [upd_same, upd_ne]; first | done | assumption | exact rfl) | exact rfl); omega; exact rfl; exact rfl; exact rfl))
      | ((with_reducible apply w_alloc (ls := [_, _, _, _, _, _, _, _, _])); exact rfl; exact rfl))
    | with_reducible refine w_seq ?_
    | with_reducible refine w_nil ?_
    | with_reducible refine w_region ?_)
  have hzero : ∀ (k : Nat), (⟨k, 0, 0, 0, 0, 0, 0, 0⟩ : Dy).cs (.slice none 0 0) = [.slice none 0 0, .int .i64 k, .int .i64 0, .int .i64 0, .int .i64 0, .int .i64 0, .int .i64 0, .int .i64 0, .int .i64 0] := fun _ => rfl
  rw [hfs]
  refine w_meetK [(5, 5), (7, 12), (24, 85)] (fun σ' g' n' => ∃ ss vs W o7 o8, Gd ss vs ∧ W.data.toList = base ++ tl ss ∧ σ' 5 = .string W ∧ σ' 7 = .slice (raOf o7) ss.length ss.length ∧ σ' 8 = .slice (raOf o8) ss.length ss.length
    ∧ g' n = some (.cells 30 [tv tg l, iv tg x, .int .i64 ah]) ∧ g' (n + 1) = some (.cells 32 ((⟨(0 : Nat), 0, 0, 0, 0, 0, 0, 0⟩ : Dy).cs (.slice none 0 0))) ∧ g' (n + 2) = some (.cells 32 ((⟨a, 0, 0, 0, 0, 0, 0, 0⟩ : Dy).cs (.slice none 0 0)))
    ∧ Own g' (n + 3) n' 37 sy o7 (symsL ss vs) ∧ Own g' (n + 3) n' 9 ts o8 ss ∧ n + 3 ≤ n') ?_ ?_
  · intro K R hK
    repeat' (first
      | with_reducible refine w_block ?_)
    refine w_cntK [(5, 5), (7, 12), (24, 85)] (min l.length 12) (fun i (b : List ByteArray × List Int × ByteArray × Option Nat × Option Nat) σ g' n' => σ 9 = .int .i64 (i : Nat) ∧ σ 5 = .string b.2.2.1 ∧ σ 7 = ov b.2.2.2.1 i ∧ σ 8 = ov b.2.2.2.2 i ∧ b.1.length = i ∧ Gd b.1 b.2.1 ∧ b.2.2.1.data.toList = base ++ tl b.1
      ∧ g' n = some (.cells 30 [tv tg l, iv tg x, .int .i64 ah]) ∧ g' (n + 1) = some (.cells 32 ((⟨(0 : Nat), 0, 0, 0, 0, 0, 0, 0⟩ : Dy).cs (.slice none 0 0))) ∧ g' (n + 2) = some (.cells 32 ((⟨a, 0, 0, 0, 0, 0, 0, 0⟩ : Dy).cs (.slice none 0 0)))
      ∧ Own g' (n + 3) n' 37 sy b.2.2.2.1 (symsL b.1 b.2.1) ∧ Own g' (n + 3) n' 9 ts b.2.2.2.2 b.1 ∧ n + 3 ≤ n') ?_ ?_ ([], [], W0, none, none) ⟨rfl, rfl, rfl, rfl, rfl, ⟨rfl, Nat.zero_le _, fun _ h => (by cases h), fun _ h => (by cases h)⟩, by rw [hbase]; simp [tl], by simp (disch := omega) only [upd_same, upd_ne], by simp (disch := omega) only [upd_same, upd_ne]; rfl, by simp (disch := omega) only [upd_same, upd_ne]; rfl, rfl, rfl, by omega⟩
    · rintro i ⟨ss, vs, W, o7, o8⟩ σ gl nl hlt ⟨k9, k5, k7, k8, hi, hgd, hW, hg0, hg1, hg2, ho7, ho8, hn⟩ ih
      dsimp only at k5 k7 k8 hi hgd hW ho7 ho8
      obtain ⟨y, hy⟩ : ∃ y, l[i]? = some y := ⟨_, List.getElem?_eq_getElem (by omega)⟩
      have htl := tl_le ss (fun s hs => (hgd.txt s hs).1)
      have hWs := size_of hW
      rw [List.length_append, hbl] at hWs
      have hsl := syms_len ss vs
      have hs8 : (shortS y 8).size ≤ 8 := short_size y 8
      refine w_keep (i := 5) k5 (w_keep (i := 7) k7 (w_keep (i := 8) k8 (w_keep (i := 9) k9 ?_)))
      repeat' (first
        | ((with_reducible apply g_op); first
          | ((with_reducible apply g_load); first
            | ((with_reducible apply w_fl (v := .string _)); exact rfl; exact (fun _ => rfl); assumption; exact rfl)
            | ((with_reducible apply w_load (v := .func _ _ _)); exact rfl; (first | assumption | (simp (disch := omega) only [upd_same, upd_ne]; first | done | assumption | exact rfl) | exact rfl); exact rfl))
          | ((with_reducible apply g_move); first
            | ((with_reducible apply w_pure (v := .int _ _)); exact rfl; exact rfl)
            | ((with_reducible apply w_pure (v := .bool _)); exact rfl; exact rfl))
          | ((with_reducible apply g_bin); first
            | ((with_reducible apply w_pure (v := .bool _)); exact rfl; exact rfl))
          | ((with_reducible apply g_fld); first
            | ((with_reducible apply w_fldp (o := 0)); exact rfl; exact rfl; exact rfl; exact (by decide)))
          | ((with_reducible apply g_pick); first
            | ((with_reducible apply w_pk1 (v := .bool _)); exact rfl; exact rfl; (first | assumption | exact decide_eq_true (by assumption) | exact decide_eq_false (by assumption) | exact decide_eq_true (by omega) | exact decide_eq_false (by omega) | exact beq_iff_eq.2 (by omega) | exact beq_eq_false_iff_ne.2 (by omega) | exact bne_iff_ne.2 (by omega) | exact bne_eq_false_iff_eq.2 (by omega))))
          | ((with_reducible apply g_call); first
            | ((with_reducible apply w_call (v := .int _ _)); exact rfl))
          | ((with_reducible apply g_ix); first
            | ((with_reducible apply w_fx (sz := 1)); exact rfl; exact rfl; exact rfl; exact rfl; exact rfl; exact (fun _ => rfl); assumption; exact rfl)))
        | ((with_reducible apply g_gd); first
          | ((with_reducible apply w_gd_t); exact rfl; all_goals (intro hc; first | (exfalso; omega) | skip)))
        | with_reducible refine w_seq ?_
        | with_reducible refine w_nil ?_
        | with_reducible refine w_region ?_
        | with_reducible refine w_skip ?_
        | with_reducible refine w_block ?_
        | ((with_reducible apply w_ifd); exact rfl; all_goals (intro hc; first | (exfalso; omega) | skip)))
      refine w_rq (short_run y 8 (by decide) _ _ _) (fun _ => rfl) ?_
      rintro _ rfl
      repeat' (first
        | ((with_reducible apply g_op); first
          | ((with_reducible apply g_assign); first
            | ((with_reducible apply w_pure (v := .int _ _)); exact rfl; exact rfl)
            | ((with_reducible apply w_pure (v := .string _)); exact rfl; exact rfl)))
        | with_reducible refine w_seq ?_
        | with_reducible refine w_nil ?_
        | with_reducible refine w_region ?_)
      refine w_meetK [(10, 11), (41, 53)] (fun σ' g' n' => ∃ s : ByteArray, σ' 10 = .string s ∧ s.size ≤ 8 ∧ (∀ j, j < s.size → bt s j ≠ 0) ∧ gl = g' ∧ nl = n') ?_ ?_
      · intro K2 R2 hK2
        repeat' (first
          | with_reducible refine w_block ?_)
        refine w_whileK [(10, 11), (41, 53)] (fun (b : ByteArray × Nat) σ g' n' => σ 10 = .string b.1 ∧ σ 11 = .int .i64 (b.2 : Nat) ∧ b.1.size ≤ 8 ∧ (∀ j, j < b.1.size → j < b.2 → bt b.1 j ≠ 0) ∧ gl = g' ∧ nl = n') (fun b => b.1.size + 1 - b.2) ?_ (shortS y 8, 0) ⟨rfl, rfl, hs8, fun j _ h => absurd h (Nat.not_lt_zero j), rfl, rfl⟩
        rintro ⟨s, k⟩ σ2 _ _ ⟨k10, k11, hsz, hnz, rfl, rfl⟩ ih2
        dsimp only at k10 k11 hsz hnz
        refine w_keep (i := 10) k10 (w_keep (i := 11) k11 ?_)
        by_cases hk : k < s.size
        · have hcs : (s.extract 0 k).size = k := by rw [ByteArray.size_extract]; omega
          repeat' (first
            | ((with_reducible apply g_op); first
              | ((with_reducible apply g_move); first
                | ((with_reducible apply w_pure (v := .int _ _)); exact rfl; exact rfl)
                | ((with_reducible apply w_pure (v := .string _)); exact rfl; exact rfl))
              | ((with_reducible apply g_bin); first
                | ((with_reducible apply w_wrap); exact rfl; exact rfl; first | exact i64_in _ (by omega) | exact u64_in _ (by omega) | exact u8_in _ (by omega))
                | ((with_reducible apply w_pure (v := .bool _)); exact rfl; exact rfl))
              | ((with_reducible apply g_assign); first
                | ((with_reducible apply w_pure (v := .int _ _)); exact rfl; exact rfl)
                | ((with_reducible apply w_pure (v := .string _)); exact rfl; exact rfl))
              | ((with_reducible apply g_call); first
                | ((with_reducible apply w_call (v := .int _ _)); exact rfl))
              | ((with_reducible apply w_sidx); exact rfl; exact rfl; exact rfl; omega; omega)
              | ((with_reducible apply w_ssl); exact rfl; exact rfl; (first | exact num_of (by omega) | exact rfl); (first | exact num_of (by omega) | exact rfl); omega))
            | with_reducible refine w_seq ?_
            | with_reducible refine w_nil ?_
            | with_reducible refine w_region ?_
            | with_reducible refine w_skip ?_
            | with_reducible refine w_block ?_
            | with_reducible refine w_blk ?_
            | ((with_reducible apply w_ifd); exact rfl; all_goals (intro hc; first | (exfalso; omega) | skip)))
          · exact ih2 (s.extract 0 k, k + 1) _ _ _ (by dsimp only; omega) (by repeat' (first | with_reducible exact Fr.mix | with_reducible exact Fr.rfl' | with_reducible refine Fr.put ?_ ?_ | with_reducible refine Fr.mix2 ?_ ?_ | with_reducible refine Fr.put0 ?_ | exact rfl)) ⟨rfl, rfl, by dsimp only; omega, fun j h1 h2 => by rw [bt_cut s k j h1]; dsimp only at h1; exact hnz j (by omega) (by omega), rfl, rfl⟩
          · refine ih2 (s, k + 1) _ _ _ (by dsimp only; omega) (by repeat' (first | with_reducible exact Fr.mix | with_reducible exact Fr.rfl' | with_reducible refine Fr.put ?_ ?_ | with_reducible refine Fr.mix2 ?_ ?_ | with_reducible refine Fr.put0 ?_ | exact rfl)) ⟨rfl, rfl, hsz, fun j h1 h2 => ?_, rfl, rfl⟩
            by_cases e : j = k
            · subst e; exact hc
            · dsimp only at h1 h2
              exact hnz j h1 (by omega)
        · repeat' (first
            | ((with_reducible apply g_op); first
              | ((with_reducible apply g_move); first
                | ((with_reducible apply w_pure (v := .int _ _)); exact rfl; exact rfl)
                | ((with_reducible apply w_pure (v := .string _)); exact rfl; exact rfl))
              | ((with_reducible apply g_bin); first
                | ((with_reducible apply w_pure (v := .bool _)); exact rfl; exact rfl))
              | ((with_reducible apply g_call); first
                | ((with_reducible apply w_call (v := .int _ _)); exact rfl)))
            | with_reducible refine w_seq ?_
            | with_reducible refine w_nil ?_
            | with_reducible refine w_region ?_
            | ((with_reducible apply w_exit); exact rfl)
            | ((with_reducible apply w_ifd); exact rfl; all_goals (intro hc; first | (exfalso; omega) | skip)))
          exact hK2 _ _ _ (by repeat' (first | with_reducible exact Fr.mix | with_reducible exact Fr.rfl' | with_reducible refine Fr.put ?_ ?_ | with_reducible refine Fr.mix2 ?_ ?_ | with_reducible refine Fr.put0 ?_ | exact rfl)) ⟨s, rfl, hsz, fun j hj => hnz j hj (by omega), rfl, rfl⟩
      rintro σ2 _ _ ⟨s, k10, hsz, hnz, rfl, rfl⟩
      refine w_keep (i := 10) k10 ?_
      repeat' (first
        | ((with_reducible apply g_op); first
          | ((with_reducible apply g_load); first
            | ((with_reducible apply w_load (v := .func _ _ _)); exact rfl; (first | assumption | (simp (disch := omega) only [upd_same, upd_ne]; first | done | assumption | exact rfl) | exact rfl); exact rfl))
          | ((with_reducible apply g_move); first
            | ((with_reducible apply w_pure (v := .int _ _)); exact rfl; exact rfl))
          | ((with_reducible apply g_bin); first
            | ((with_reducible apply w_pure (v := .bool _)); exact rfl; exact rfl))
          | ((with_reducible apply g_fld); first
            | ((with_reducible apply w_fldp (o := 1)); exact rfl; exact rfl; exact rfl; exact (by decide)))
          | ((with_reducible apply g_assign); first
            | ((with_reducible apply w_pure (v := .int _ _)); exact rfl; exact rfl))
          | ((with_reducible apply g_call); first
            | ((with_reducible apply w_call (v := .int _ _)); exact rfl)))
        | with_reducible refine w_seq ?_
        | with_reducible refine w_nil ?_
        | with_reducible refine w_region ?_)
      refine w_meetK [(12, 12), (59, 64)] (fun σ' g' n' => ∃ v : Int, σ' 12 = .int .i64 v ∧ 0 ≤ v ∧ v ≤ 4095 ∧ gl = g' ∧ nl = n') ?_ ?_
      · intro K2 R2 hK2
        by_cases hix : i < x.length
        · obtain ⟨z, hz⟩ : ∃ z, x[i]? = some z := ⟨_, List.getElem?_eq_getElem hix⟩
          have hz12 := andr z 12 (by decide) 4095 (by decide)
          repeat' (first
            | ((with_reducible apply g_op); first
              | ((with_reducible apply g_load); first
                | ((with_reducible apply w_fl (v := .int _ _)); exact rfl; exact (fun _ => rfl); assumption; exact rfl)
                | ((with_reducible apply w_load (v := .func _ _ _)); exact rfl; (first | assumption | (simp (disch := omega) only [upd_same, upd_ne]; first | done | assumption | exact rfl) | exact rfl); exact rfl))
              | ((with_reducible apply g_move); first
                | ((with_reducible apply w_pure (v := .int _ _)); exact rfl; exact rfl))
              | ((with_reducible apply g_bin); first
                | ((with_reducible apply w_pure (v := .int _ _)); exact rfl; exact rfl))
              | ((with_reducible apply g_fld); first
                | ((with_reducible apply w_fldp (o := 1)); exact rfl; exact rfl; exact rfl; exact (by decide)))
              | ((with_reducible apply g_assign); first
                | ((with_reducible apply w_pure (v := .int _ _)); exact rfl; exact rfl))
              | ((with_reducible apply g_ix); first
                | ((with_reducible apply w_fx (sz := 1)); exact rfl; exact rfl; exact rfl; exact rfl; exact rfl; exact (fun _ => rfl); assumption; exact rfl)))
            | with_reducible refine w_nil ?_
            | with_reducible refine w_region ?_
            | ((with_reducible apply w_ifd); exact rfl; all_goals (intro hc; first | (exfalso; omega) | skip)))
          exact hK2 _ _ _ (by repeat' (first | with_reducible exact Fr.mix | with_reducible exact Fr.rfl' | with_reducible refine Fr.put ?_ ?_ | with_reducible refine Fr.mix2 ?_ ?_ | with_reducible refine Fr.put0 ?_ | exact rfl)) ⟨_, rfl, hz12.1, hz12.2, rfl, rfl⟩
        · repeat' (first
            | with_reducible refine w_skip ?_
            | ((with_reducible apply w_ifd); exact rfl; all_goals (intro hc; first | (exfalso; omega) | skip)))
          exact hK2 _ _ _ (by repeat' (first | with_reducible exact Fr.mix | with_reducible exact Fr.rfl' | with_reducible refine Fr.put ?_ ?_ | with_reducible refine Fr.mix2 ?_ ?_ | with_reducible refine Fr.put0 ?_ | exact rfl)) ⟨0, rfl, by decide, by decide, rfl, rfl⟩
      rintro σ3 _ _ ⟨v, k12, hv0, hv1, rfl, rfl⟩
      have hgd2 : Gd (ss ++ [s]) (vs ++ [v]) := ⟨by simp [hgd.len], by rw [List.length_append, hi]; simp; omega, fun t ht => by
        rcases List.mem_append.1 ht with h | h
        · exact hgd.txt t h
        · rw [List.mem_singleton.1 h]; exact ⟨hsz, hnz⟩, fun t ht => by
        rcases List.mem_append.1 ht with h | h
        · exact hgd.num t h
        · rw [List.mem_singleton.1 h]; exact ⟨hv0, hv1⟩⟩
      have hsn := syms_snoc ss vs s v hgd.len
      have hW2 : (W ++ s ++ ⟨#[0]⟩).data.toList = base ++ tl (ss ++ [s]) := by
        simp only [data_app, hW, tl_snoc, List.append_assoc]
      have hz1 : (⟨#[0]⟩ : ByteArray).size = 1 := rfl
      have hz2 : (W ++ s).size = a + (tl ss).length + s.size := by rw [ByteArray.size_append, hWs]
      have hv4 : 0 ≤ v % 4 ∧ v % 4 < 4 := ⟨Int.emod_nonneg _ (by decide), Int.emod_lt_of_pos _ (by decide)⟩
      have hsub : (W.size : Int) - (a : Int) = ((tl ss).length : Int) := by omega
      have hbne : (v % 4 != 0) = decide (v % 4 ≠ 0) := by rw [Bool.eq_iff_iff]; simp
      unfold Dy.cs at hg2
      dsimp only at hg2
      refine w_keep (i := 12) k12 ?_
      cases o8 with
      | none =>
        have h0 : ss = [] := own_none ho8
        subst h0
        have hi0 : i = 0 := hi.symm
        subst hi0
        cases o7 with
        | some p => exact absurd rfl ho7.1
        | none =>
          refine w_keep (i := 7) (v := .slice none 0 0) rfl ?_
          refine w_keep (i := 8) (v := .slice none 0 0) rfl ?_
          repeat' (first
            | ((with_reducible apply g_op); first
              | ((with_reducible apply g_load); first
                | ((with_reducible apply w_load (v := .int _ _)); exact rfl; (first | assumption | (simp (disch := omega) only [upd_same, upd_ne]; first | done | assumption | exact rfl) | exact rfl); exact rfl))
              | ((with_reducible apply g_move); first
                | ((with_reducible apply w_pure (v := .int _ _)); exact rfl; exact rfl)
                | ((with_reducible apply w_pure (v := .slice _ _ _)); exact rfl; exact rfl)
                | ((with_reducible apply w_pure (v := .string _)); exact rfl; exact rfl))
              | ((with_reducible apply g_bin); first
                | ((with_reducible apply w_cat); exact rfl; exact rfl; exact rfl; exact rfl; exact rfl; omega)
                | ((with_reducible apply w_and (j := 2) (c1 := 4)); exact rfl; exact rfl; exact rfl; exact rfl; exact rfl; exact (by decide); exact (by decide); exact (by decide))
                | ((with_reducible apply w_wrap); exact rfl; exact rfl; first | exact i64_in _ (by omega) | exact u64_in _ (by omega) | exact u8_in _ (by omega))
                | ((with_reducible apply w_pure (v := .bool _)); exact rfl; exact rfl))
              | ((with_reducible apply g_fld); first
                | ((with_reducible apply w_fldp (o := 1)); exact rfl; exact rfl; exact rfl; exact (by decide)))
              | ((with_reducible apply g_assign); first
                | ((with_reducible apply w_pure (v := .int _ _)); exact rfl; exact rfl)
                | ((with_reducible apply w_pure (v := .slice _ _ _)); exact rfl; exact rfl)
                | ((with_reducible apply w_pure (v := .string _)); exact rfl; exact rfl))
              | ((with_reducible apply g_call); first
                | ((with_reducible apply w_call (v := .int _ _)); exact rfl)
                | ((with_reducible apply w_app0 (ns := [_])); exact rfl; exact rfl; exact rfl; exact rfl; exact rfl; exact rfl; (first | assumption | (simp (disch := omega) only [upd_same, upd_ne]; first | done | assumption | exact rfl) | exact rfl); exact rfl; exact rfl; exact (by decide); exact ⟨by decide, by decide⟩)
                | ((with_reducible apply w_app0 (ns := [_, _, _])); exact rfl; exact rfl; exact rfl; exact rfl; exact rfl; exact rfl; (first | assumption | (simp (disch := omega) only [upd_same, upd_ne]; first | done | assumption | exact rfl) | exact rfl); exact rfl; exact rfl; exact (by decide); exact ⟨by decide, by decide⟩))
              | ((with_reducible apply g_build); first
                | ((with_reducible apply w_pure (v := .agg #[_, _, _])); exact rfl; exact rfl))
              | ((with_reducible apply w_bsl (ls := [_])); exact rfl; exact rfl; exact rfl; exact ⟨by decide, rfl⟩; exact rfl)
              | ((with_reducible apply w_bsl (ls := [_, _, _])); exact rfl; exact rfl; exact rfl; exact ⟨by decide, rfl⟩; exact rfl))
            | with_reducible refine w_seq ?_
            | with_reducible refine w_nil ?_
            | with_reducible refine w_region ?_
            | with_reducible refine w_blk ?_)
          refine ih ([] ++ [s], vs ++ [v], W ++ s ++ ⟨#[0]⟩, some (nl + 1 + 1 + 1), some (nl + 1)) _ _ _ (by repeat' (first | with_reducible exact Fr.mix | with_reducible exact Fr.rfl' | with_reducible refine Fr.put ?_ ?_ | with_reducible refine Fr.mix2 ?_ ?_ | with_reducible refine Fr.put0 ?_ | exact rfl)) ⟨rfl, rfl, rfl, rfl, rfl, hgd2, hW2, by simp (disch := omega) only [upd_ne]; exact hg0, by simp (disch := omega) only [upd_ne]; exact hg1, by simp (disch := omega) only [upd_ne]; exact hg2, ⟨by dsimp only; rw [hsn]; simp, by omega, by omega, ?_⟩, ⟨by simp, by omega, by omega, ?_⟩, by omega⟩
          · dsimp only
            rw [hsn, show symsL [] vs = [] from rfl]
            simp (disch := omega) only [upd_same, upd_ne]
            rw [← hsub, ← hbne]
            rfl
          · simp (disch := omega) only [upd_same, upd_ne]
            rfl
      | some p8 =>
        have hne : ss ≠ [] := ho8.1
        obtain ⟨p7, rfl⟩ := own_pos ho7 (fun e => hne (List.length_eq_zero_iff.1 (by rw [← hsl, e]; rfl)))
        refine w_keep (i := 7) (v := slc p7 0 i) rfl ?_
        refine w_keep (i := 8) (v := slc p8 0 i) rfl ?_
        repeat' (first
          | ((with_reducible apply g_op); first
            | ((with_reducible apply g_move); first
              | ((with_reducible apply w_pure (v := .slice _ _ _)); exact rfl; exact rfl)
              | ((with_reducible apply w_pure (v := .string _)); exact rfl; exact rfl))
            | ((with_reducible apply w_bsl (ls := [_])); exact rfl; exact rfl; exact rfl; exact ⟨by decide, rfl⟩; exact rfl))
          | with_reducible refine w_seq ?_
          | with_reducible refine w_region ?_)
        have hp78 : p7 ≠ p8 := fun e => by
          have h1 := ho7.2.2.2
          rw [e, ho8.2.2.2] at h1
          cases h1
        refine w_own1 (enc := ts) (y := s) (by_ := 16) (sz := 1) (lo := n + 3) (o := some p8) (xs := ss) (ho8.later (by omega) (fun j h1 h2 => upd_ne (by omega))) (by rw [hi]; rfl) rfl rfl rfl rfl rfl (fun _ => rfl) upd_same rfl rfl rfl (by omega) (by omega) ?_
        intro g1 h1 h2 h3
        have ho7' : Own g1 (n + 3) (nl + 1 + 1) 37 sy (some p7) (symsL ss vs) := own_keep ho7 (by omega) (fun j q1 q2 q3 => by cases q3; rw [h1 p7 (by omega) (fun e => hp78 (by cases e; rfl)), upd_ne (by omega)])
        have r0 : g1 n = _ := (h1 n (by omega) (by have := ho8.2.1; simp; omega)).trans ((upd_ne (by omega)).trans hg0)
        have r1 : g1 (n + 1) = _ := (h1 _ (by omega) (by have := ho8.2.1; simp; omega)).trans ((upd_ne (by omega)).trans hg1)
        have r2 : g1 (n + 2) = _ := (h1 _ (by omega) (by have := ho8.2.1; simp; omega)).trans ((upd_ne (by omega)).trans hg2)
        repeat' (first
          | ((with_reducible apply g_op); first
            | ((with_reducible apply g_load); first
              | ((with_reducible apply w_load (v := .int _ _)); exact rfl; (first | assumption | (simp (disch := omega) only [upd_same, upd_ne]; first | done | assumption | exact rfl) | exact rfl); exact rfl))
            | ((with_reducible apply g_move); first
              | ((with_reducible apply w_pure (v := .int _ _)); exact rfl; exact rfl)
              | ((with_reducible apply w_pure (v := .slice _ _ _)); exact rfl; exact rfl)
              | ((with_reducible apply w_pure (v := .string _)); exact rfl; exact rfl))
            | ((with_reducible apply g_bin); first
              | ((with_reducible apply w_and (j := 2) (c1 := 4)); exact rfl; exact rfl; exact rfl; exact rfl; exact rfl; exact (by decide); exact (by decide); exact (by decide))
              | ((with_reducible apply w_wrap); exact rfl; exact rfl; first | exact i64_in _ (by omega) | exact u64_in _ (by omega) | exact u8_in _ (by omega))
              | ((with_reducible apply w_pure (v := .bool _)); exact rfl; exact rfl))
            | ((with_reducible apply g_fld); first
              | ((with_reducible apply w_fldp (o := 1)); exact rfl; exact rfl; exact rfl; exact (by decide)))
            | ((with_reducible apply g_assign); first
              | ((with_reducible apply w_pure (v := .slice _ _ _)); exact rfl; exact rfl))
            | ((with_reducible apply g_call); first
              | ((with_reducible apply w_call (v := .int _ _)); exact rfl))
            | ((with_reducible apply g_build); first
              | ((with_reducible apply w_pure (v := .agg #[_, _, _])); exact rfl; exact rfl))
            | ((with_reducible apply w_bsl (ls := [_, _, _])); exact rfl; exact rfl; exact rfl; exact ⟨by decide, rfl⟩; exact rfl))
          | with_reducible refine w_seq ?_
          | with_reducible refine w_nil ?_
          | with_reducible refine w_region ?_)
        refine w_own1 (enc := sy) (y := (((tl ss).length : Int), decide (v % 4 ≠ 0), v)) (by_ := 24) (sz := 3) (lo := n + 3) (o := some p7) (xs := symsL ss vs) (ho7'.later (by omega) (fun j h1 h2 => upd_ne (by omega))) (by rw [hsl, hi]; rfl) rfl rfl rfl rfl rfl (fun _ => rfl) upd_same rfl (by rw [← hsub, ← hbne]; rfl) rfl (by omega) (by omega) ?_
        intro g2 q1 q2 q3
        repeat' (first
          | ((with_reducible apply g_op); first
            | ((with_reducible apply g_move); first
              | ((with_reducible apply w_pure (v := .int _ _)); exact rfl; exact rfl)
              | ((with_reducible apply w_pure (v := .string _)); exact rfl; exact rfl))
            | ((with_reducible apply g_bin); first
              | ((with_reducible apply w_cat); exact rfl; exact rfl; exact rfl; exact rfl; exact rfl; omega)
              | ((with_reducible apply w_wrap); exact rfl; exact rfl; first | exact i64_in _ (by omega) | exact u64_in _ (by omega) | exact u8_in _ (by omega)))
            | ((with_reducible apply g_assign); first
              | ((with_reducible apply w_pure (v := .int _ _)); exact rfl; exact rfl)
              | ((with_reducible apply w_pure (v := .slice _ _ _)); exact rfl; exact rfl)
              | ((with_reducible apply w_pure (v := .string _)); exact rfl; exact rfl)))
          | with_reducible refine w_nil ?_
          | with_reducible refine w_region ?_
          | with_reducible refine w_blk ?_)
        rw [← hsn] at q3
        refine ih (ss ++ [s], vs ++ [v], W ++ s ++ ⟨#[0]⟩, some (nl + 1 + 1 + 1), some (nl + 1)) _ _ _ (by repeat' (first | with_reducible exact Fr.mix | with_reducible exact Fr.rfl' | with_reducible refine Fr.put ?_ ?_ | with_reducible refine Fr.mix2 ?_ ?_ | with_reducible refine Fr.put0 ?_ | exact rfl)) ⟨rfl, rfl, ?_, ?_, by simp [hi], hgd2, hW2, ?_, ?_, ?_, q3, ?_, by omega⟩
        · exact congrArg (fun k => slc (nl + 1 + 1 + 1) 0 k) (show (symsL ss vs ++ [(((tl ss).length : Int), decide (v % 4 ≠ 0), v)]).length = i + 1 by simp [hsl, hi])
        · exact congrArg (fun k => slc (nl + 1) 0 k) (show (ss ++ [s]).length = i + 1 by simp [hi])
        · exact (q1 n (by omega) (by have := ho7.2.1; simp; omega)).trans ((upd_ne (by omega)).trans r0)
        · exact (q1 _ (by omega) (by have := ho7.2.1; simp; omega)).trans ((upd_ne (by omega)).trans r1)
        · exact (q1 _ (by omega) (by have := ho7.2.1; simp; omega)).trans ((upd_ne (by omega)).trans r2)
        · exact own_keep h3 (by omega) (fun j a1 a2 a3 => by cases a3; rw [q1 _ (by omega) (by have := ho7.2.2.1; simp; omega), upd_ne (by omega)])
    · rintro ⟨ss, vs, W, o7, o8⟩ σ gl nl ⟨k9, k5, k7, k8, hi, hgd, hW, hg0, hg1, hg2, ho7, ho8, hn⟩
      dsimp only at k5 k7 k8 hi hgd hW ho7 ho8
      have e7 := own_ov ho7
      have e8 := own_ov ho8
      rw [syms_len, hi] at e7
      rw [hi] at e8
      rw [e7] at k7
      rw [e8] at k8
      refine w_keep (i := 5) k5 (w_keep (i := 7) k7 (w_keep (i := 8) k8 (w_keep (i := 9) k9 ?_)))
      repeat' (first
        | ((with_reducible apply g_op); first
          | ((with_reducible apply g_load); first
            | ((with_reducible apply w_load (v := .func _ _ _)); exact rfl; (first | assumption | (simp (disch := omega) only [upd_same, upd_ne]; first | done | assumption | exact rfl) | exact rfl); exact rfl))
          | ((with_reducible apply g_move); first
            | ((with_reducible apply w_pure (v := .int _ _)); exact rfl; exact rfl)
            | ((with_reducible apply w_pure (v := .bool _)); exact rfl; exact rfl))
          | ((with_reducible apply g_bin); first
            | ((with_reducible apply w_pure (v := .bool _)); exact rfl; exact rfl))
          | ((with_reducible apply g_fld); first
            | ((with_reducible apply w_fldp (o := 0)); exact rfl; exact rfl; exact rfl; exact (by decide)))
          | ((with_reducible apply g_pick); first
            | ((with_reducible apply w_pk1 (v := .bool _)); exact rfl; exact rfl; (first | assumption | exact decide_eq_true (by assumption) | exact decide_eq_false (by assumption) | exact decide_eq_true (by omega) | exact decide_eq_false (by omega) | exact beq_iff_eq.2 (by omega) | exact beq_eq_false_iff_ne.2 (by omega) | exact bne_iff_ne.2 (by omega) | exact bne_eq_false_iff_eq.2 (by omega)))
            | ((with_reducible apply w_pk0 (v := .bool _)); exact rfl; exact rfl; (first | assumption | exact decide_eq_true (by assumption) | exact decide_eq_false (by assumption) | exact decide_eq_true (by omega) | exact decide_eq_false (by omega) | exact beq_iff_eq.2 (by omega) | exact beq_eq_false_iff_ne.2 (by omega) | exact bne_iff_ne.2 (by omega) | exact bne_eq_false_iff_eq.2 (by omega))))
          | ((with_reducible apply g_call); first
            | ((with_reducible apply w_call (v := .int _ _)); exact rfl)))
        | ((with_reducible apply g_gd); first
          | ((with_reducible apply w_gd_t); exact rfl; all_goals (intro hc; first | (exfalso; omega) | skip)))
        | with_reducible refine w_seq ?_
        | with_reducible refine w_nil ?_
        | with_reducible refine w_region ?_
        | ((with_reducible apply w_exit); exact rfl)
        | ((with_reducible apply w_no); exact rfl)
        | ((with_reducible apply w_ifd); exact rfl; all_goals (intro hc; first | (exfalso; omega) | skip)))
      all_goals exact hK _ _ _ (by repeat' (first | with_reducible exact Fr.mix | with_reducible exact Fr.rfl' | with_reducible refine Fr.put ?_ ?_ | with_reducible refine Fr.mix2 ?_ ?_ | with_reducible refine Fr.put0 ?_ | exact rfl)) ⟨ss, vs, W, o7, o8, hgd, hW, rfl, by rw [hi]; rfl, by rw [hi]; rfl, hg0, hg1, hg2, ho7, ho8, hn⟩
  · rintro σ' gl nl ⟨ss, vs, W, o7, o8, hgd, hW, k5, k7, k8, hg0, hg1, hg2, ho7, ho8, hn⟩
    have htl := tl_le ss (fun s hs => (hgd.txt s hs).1)
    have hfew := hgd.few
    have hWs := size_of hW
    rw [List.length_append, hbl] at hWs
    have hsl := syms_len ss vs
    have hsub : (W.size : Int) - (a : Int) = ((tl ss).length : Int) := by omega
    have hsz : ∀ s ∈ ss, s.size ≤ 9223372036854775807 := fun s hs => Nat.le_trans (hgd.txt s hs).1 (by decide)
    unfold Dy.cs at hg1 hg2
    dsimp only at hg1 hg2
    refine w_env ?_
    intro τ hτ
    have k3 : τ 3 = ptr (n + 1) 0 := (hτ 3).trans rfl
    have k5 : τ 5 = .string W := (hτ 5).trans k5
    have k6 : τ 6 = ptr (n + 2) 0 := (hτ 6).trans rfl
    have k7 : τ 7 = .slice (raOf o7) ss.length ss.length := (hτ 7).trans k7
    have k8 : τ 8 = .slice (raOf o8) ss.length ss.length := (hτ 8).trans k8
    clear hτ
    refine w_keep (i := 3) k3 (w_keep (i := 5) k5 (w_keep (i := 6) k6 (w_keep (i := 7) k7 (w_keep (i := 8) k8 ?_))))
    repeat' (first
      | ((with_reducible apply g_op); first
        | ((with_reducible apply g_load); first
          | ((with_reducible apply w_load (v := .int _ _)); exact rfl; (first | assumption | (simp (disch := omega) only [upd_same, upd_ne]; first | done | assumption | exact rfl) | exact rfl); exact rfl))
        | ((with_reducible apply g_move); first
          | ((with_reducible apply w_pure (v := .string _)); exact rfl; exact rfl))
        | ((with_reducible apply g_bin); first
          | ((with_reducible apply w_wrap); exact rfl; exact rfl; first | exact i64_in _ (by omega) | exact u64_in _ (by omega) | exact u8_in _ (by omega)))
        | ((with_reducible apply g_fld); first
          | ((with_reducible apply w_fldp (o := 1)); exact rfl; exact rfl; exact rfl; exact (by decide))
          | ((with_reducible apply w_fldp (o := 2)); exact rfl; exact rfl; exact rfl; exact (by decide))
          | ((with_reducible apply w_fldp (o := 3)); exact rfl; exact rfl; exact rfl; exact (by decide)))
        | ((with_reducible apply g_assign); first
          | ((with_reducible apply w_pure (v := .int _ _)); exact rfl; exact rfl))
        | ((with_reducible apply g_call); first
          | ((with_reducible apply w_call (v := .int _ _)); exact rfl))
        | ((with_reducible apply g_store); first
          | ((with_reducible apply w_store (us := [.int _ _]) (ws := [_, _, _, _, _, _, _, _, _])); exact rfl; exact rfl; (first | assumption | (simp (disch := omega) only [upd_same, upd_ne]; first | done | assumption | exact rfl) | exact rfl); omega; exact rfl; exact rfl; exact rfl)))
      | with_reducible refine w_seq ?_
      | with_reducible refine w_nil ?_
      | with_reducible refine w_region ?_)
    refine w_block ?_
    refine w_gen (fun G N => G (n + 1) = some (.cells 32 [.slice none 0 0, .int .i64 (0 : Nat), .int .i64 0, .int .i64 0, .int .i64 0, .int .i64 0, .int .i64 0, .int .i64 0, .int .i64 0]) ∧ G (n + 2) = some (.cells 32 [.slice none 0 0, .int .i64 a, .int .i64 (tl ss).length, .int .i64 (a + (tl ss).length : Nat), .int .i64 0, .int .i64 0, .int .i64 0, .int .i64 0, .int .i64 0]) ∧ Own G (n + 3) N 37 sy o7 (symsL ss vs) ∧ Own G (n + 3) N 9 ts o8 ss ∧ nl = N) ⟨?_, ?_, ?_, ?_, rfl⟩ ?_
    · simp (disch := omega) only [upd_ne]; exact hg1
    · simp (disch := omega) only [upd_same, upd_ne]
      rw [hsub, hWs]
    · exact ho7.later (by omega) (fun j h1 h2 => by simp (disch := omega) only [upd_ne])
    · exact ho8.later (by omega) (fun j h1 h2 => by simp (disch := omega) only [upd_ne])
    clear hg0 hg1 hg2 ho7 ho8
    rintro G _ ⟨hg1, hg2, ho7, ho8, rfl⟩
    have hrow := own_row ho7
    refine w_rngK [(5, 5), (13, 13), (95, 107)] (symsL ss vs) (fun i rest (V : ByteArray) σ g' n' => σ 13 = .int .i64 (i : Nat) ∧ σ 5 = .string V ∧ G = g' ∧ nl = n' ∧ V.data.toList = base ++ (tl ss ++ rl ((symsL ss vs).take i))) ?_ ?_ W ⟨rfl, rfl, rfl, rfl, by rw [hW]; simp [rl]⟩
    · rintro i y rest V σ _ _ hy hlt ⟨k13, k5, rfl, rfl, hV⟩ ih
      have hlt' := hlt
      rw [hsl] at hlt'
      have hya : symAt ss vs i = y := by have := syms_at ss vs i (by omega); rw [hy] at this; exact (Option.some.inj this).symm
      have hb1 : y.1 ≤ 9223372036854775807 ∧ y.2.2 ≤ 9223372036854775807 := by
        have := offs_le ss i
        have := mem_num hgd i
        rw [← hya]; unfold symAt; dsimp only; omega
      have hVs := size_of hV
      simp only [List.length_append, rl_len, List.length_take] at hVs
      have h24 := symB_size y.1 y.2.1 y.2.2
      obtain ⟨y1, y2, y3⟩ := y
      dsimp only at hb1 h24
      refine w_keep (i := 5) k5 (w_keep (i := 13) k13 ?_)
      repeat' (first
        | ((with_reducible apply g_op); first
          | ((with_reducible apply g_load); first
            | ((with_reducible apply w_ld (v := .agg #[_, _, _])); exact rfl; assumption; exact (fun _ => rfl); assumption; exact (by decide); exact rfl))
          | ((with_reducible apply g_move); first
            | ((with_reducible apply w_pure (v := .int _ _)); exact rfl; exact rfl)
            | ((with_reducible apply w_pure (v := .slice _ _ _)); exact rfl; exact rfl)
            | ((with_reducible apply w_pure (v := .string _)); exact rfl; exact rfl))
          | ((with_reducible apply g_bin); first
            | ((with_reducible apply w_pure (v := .bool _)); exact rfl; exact rfl))
          | ((with_reducible apply g_call); first
            | ((with_reducible apply w_call (v := .int _ _)); exact rfl))
          | ((with_reducible apply g_ix); first
            | ((with_reducible apply w_ix (sz := 3)); exact rfl; exact rfl; exact rfl; exact rfl; exact (by decide); exact rfl; assumption; exact (fun _ => rfl); assumption; omega)))
        | with_reducible refine w_seq ?_
        | with_reducible refine w_nil ?_
        | with_reducible refine w_region ?_
        | with_reducible refine w_skip ?_
        | with_reducible refine w_block ?_
        | ((with_reducible apply w_ifd); exact rfl; all_goals (intro hc; first | (exfalso; omega) | skip)))
      refine w_rq (rbytes_run y1 y2 y3 hb1.1 hb1.2 _ _ _) (fun _ => rfl) ?_
      rintro _ rfl
      repeat' (first
        | ((with_reducible apply g_op); first
          | ((with_reducible apply g_move); first
            | ((with_reducible apply w_pure (v := .int _ _)); exact rfl; exact rfl))
          | ((with_reducible apply g_bin); first
            | ((with_reducible apply w_cat); exact rfl; exact rfl; exact rfl; exact rfl; exact rfl; omega)
            | ((with_reducible apply w_wrap); exact rfl; exact rfl; first | exact i64_in _ (by omega) | exact u64_in _ (by omega) | exact u8_in _ (by omega)))
          | ((with_reducible apply g_assign); first
            | ((with_reducible apply w_pure (v := .int _ _)); exact rfl; exact rfl)
            | ((with_reducible apply w_pure (v := .string _)); exact rfl; exact rfl)))
        | with_reducible refine w_nil ?_
        | with_reducible refine w_region ?_
        | with_reducible refine w_blk ?_)
      exact ih _ _ _ _ (by repeat' (first | with_reducible exact Fr.mix | with_reducible exact Fr.rfl' | with_reducible refine Fr.put ?_ ?_ | with_reducible refine Fr.mix2 ?_ ?_ | with_reducible refine Fr.put0 ?_ | exact rfl)) ⟨rfl, rfl, rfl, rfl, by rw [data_app, hV, List.take_add_one, hy]; show _ = base ++ (tl ss ++ rl (_ ++ [_])); rw [rl_snoc]; simp only [List.append_assoc]⟩
    · rintro V σ _ _ ⟨k13, k5, rfl, rfl, hV⟩
      rw [List.take_length] at hV
      rw [hsl] at k13
      have hVs := size_of hV
      simp only [List.length_append, rl_len, hsl] at hVs
      have htz := quads_size (tableN ss)
      rw [tableN_len] at htz
      have hbk : bks ss ≤ 12 := by unfold bks; omega
      have hts : (tableV ss).size ≤ 1000 := by unfold tableV; omega
      refine w_keep (i := 5) k5 (w_keep (i := 13) k13 ?_)
      repeat' (first
        | ((with_reducible apply g_op); first
          | ((with_reducible apply g_move); first
            | ((with_reducible apply w_pure (v := .int _ _)); exact rfl; exact rfl)
            | ((with_reducible apply w_pure (v := .slice _ _ _)); exact rfl; exact rfl)
            | ((with_reducible apply w_pure (v := .string _)); exact rfl; exact rfl))
          | ((with_reducible apply g_bin); first
            | ((with_reducible apply w_pure (v := .bool _)); exact rfl; exact rfl))
          | ((with_reducible apply g_fld); first
            | ((with_reducible apply w_fldp (o := 4)); exact rfl; exact rfl; exact rfl; exact (by decide)))
          | ((with_reducible apply g_call); first
            | ((with_reducible apply w_call (v := .int _ _)); exact rfl))
          | ((with_reducible apply g_store); first
            | ((with_reducible apply w_store (us := [.int _ _]) (ws := [_, _, _, _, _, _, _, _, _])); exact rfl; exact rfl; (first | assumption | (simp (disch := omega) only [upd_same, upd_ne]; first | done | assumption | exact rfl) | exact rfl); omega; exact rfl; exact rfl; exact rfl)))
        | with_reducible refine w_seq ?_
        | with_reducible refine w_nil ?_
        | with_reducible refine w_region ?_
        | ((with_reducible apply w_exit); exact rfl)
        | ((with_reducible apply w_ifd); exact rfl; all_goals (intro hc; first | (exfalso; omega) | skip)))
      refine w_rf (rtable_run ss (by omega) hsz) (fun _ => rfl) (sn_cons ?_ sn_nil) ?_
      · have hfz : ∀ g1 N, Own g1 (n + 3) N 9 ts o8 ss → L1.freeze Try.prog g1 tg 0 9 (.slice (raOf o8) ss.length ss.length) = some (tv tg ss) := fun g1 N h => by
          have := h.fz (P := Try.prog) (k := 7) (tg := tg) (lo' := 0) (by omega) rfl (by decide) (fun _ => rfl) (sn_plains (all_flat (fun _ => rfl) _))
          rw [own_ov h] at this
          exact this
        exact hfz _ nl (ho8.later (Nat.le_refl _) (fun j h1 h2 => upd_ne (by omega)))
      rintro _ rfl
      repeat' (first
        | ((with_reducible apply g_op); first
          | ((with_reducible apply g_load); first
            | ((with_reducible apply w_load (v := .agg #[_, _, _, _, _, _, _, _, _])); exact rfl; (first | assumption | (simp (disch := omega) only [upd_same, upd_ne]; first | done | assumption | exact rfl) | exact rfl); exact rfl))
          | ((with_reducible apply g_move); first
            | ((with_reducible apply w_pure (v := .slice _ _ _)); exact rfl; exact rfl)
            | ((with_reducible apply w_pure (v := .string _)); exact rfl; exact rfl)
            | ((with_reducible apply w_pure (v := .tuple _)); exact rfl; exact rfl))
          | ((with_reducible apply g_bin); first
            | ((with_reducible apply w_cat); exact rfl; exact rfl; exact rfl; exact rfl; exact rfl; omega))
          | ((with_reducible apply g_assign); first
            | ((with_reducible apply w_pure (v := .int _ _)); exact rfl; exact rfl)
            | ((with_reducible apply w_pure (v := .slice _ _ _)); exact rfl; exact rfl)
            | ((with_reducible apply w_pure (v := .string _)); exact rfl; exact rfl))
          | ((with_reducible apply g_store); first
            | ((with_reducible apply w_store (us := [_, _, _, _, _, _, _, _, _]) (ws := [_, _, _, _, _, _, _, _, _])); exact rfl; exact rfl; (first | assumption | (simp (disch := omega) only [upd_same, upd_ne]; first | done | assumption | exact rfl) | exact rfl); omega; exact rfl; exact rfl; exact rfl))
          | ((with_reducible apply w_pure (v := .int _ _)); exact rfl; exact rfl)
          | ((with_reducible apply w_pure (v := .string _)); exact rfl; exact rfl))
        | with_reducible refine w_seq ?_
        | with_reducible refine w_nil ?_
        | ((with_reducible apply w_draw); kernel_rfl; kernel_rfl))
      have hoF : Own G (n + 3) nl 37 sy o7 (symsL ss vs) := ho7
      have hfin : Vw (V ++ tableV ss) base ss vs := ⟨hgd, by omega, by omega, by rw [data_app, hV]; unfold tableV; rw [quads_data]; simp only [List.append_assoc]⟩
      have hVz : V.size = base.length + (tl ss).length + 24 * ss.length := by omega
      refine w_rtct (w := .string (V ++ tableV ss)) (u := .slice (raOf o7) ss.length ss.length) (v := .agg #[.slice none 0 0, .int .i64 a, .int .i64 (tl ss).length, .int .i64 (a + (tl ss).length : Nat), .int .i64 V.size, .int .i64 0, .int .i64 0, .int .i64 0, .int .i64 0]) rfl rfl rfl (by simp (disch := omega) only [upd_same, upd_ne]; rfl) rfl rfl ?_
      refine ⟨.tuple #[.string (V ++ tableV ss), .agg #[fz #[] 0 [], .int .i64 a, .int .i64 (tl ss).length, .int .i64 (a + (tl ss).length : Nat), .int .i64 V.size, .int .i64 0, .int .i64 0, .int .i64 0, .int .i64 0], fz #[] (symsL ss vs).length ((symsL ss vs).flatMap sy)], sn_tuple (l := [_, _, _]) (r := [_, _, _]) (sn_cons (sn_plain rfl) (sn_cons (sn_agg (l := [_, _, _, _, _, _, _, _, _]) (r := [_, _, _, _, _, _, _, _, _]) (sn_cons sn_none (sn_plains rfl))) (sn_cons ?_ sn_nil))), V ++ tableV ss, base, ss, vs, hfin, ?_⟩
      · have hfz : ∀ g1 N, Own g1 (n + 3) N 37 sy o7 (symsL ss vs) → L1.freeze Try.prog g1 #[] n 8 (.slice (raOf o7) ss.length ss.length) = some (fz #[] (symsL ss vs).length ((symsL ss vs).flatMap sy)) := fun g1 N h => by
          have := h.fz (P := Try.prog) (k := 6) (tg := #[]) (lo' := n) (by omega) rfl (by decide) (fun _ => rfl) (sn_plains (all_flat (fun _ => rfl) _))
          rw [own_ov h] at this
          rw [← hsl]
          exact this
        exact hfz _ nl (ho7.later (Nat.le_refl _) (fun j h1 h2 => by rw [upd_ne (by omega), upd_ne (by omega)]))
      · rw [← hbl, hVz]
        rfl
end Sym
end Go.Proofs.Ytoknnbjkjhigbaa.L

