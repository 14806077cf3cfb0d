/- SymbolBytes: walked, and its plain law. -/
import Derived.Test.Ytoknnbjkjhigbaac10D
namespace Go.Proofs.Ytoknnbjkjhigbaa.L.SymbolBytes
open Go.L1 Go.IntWalk Go.Proofs.Ytoknnbjkjhigbaa.L Sym
set_option linter.unusedVariables false
set_option linter.unusedSimpArgs false
set_option maxHeartbeats 4000000
def tab : Tb := L.T
theorem tabok : ∀ C : Cx, C.P = Try.prog → TbOk C tab := L.tabok
def printf : ByteArray := ⟨#[112, 114, 105, 110, 116, 102]⟩
theorem hash_printf : hashN printf = 125371814 := by decide +kernel
theorem awake_run : Rf Try.prog T 7 [] (fun v => v = .bool true) := by
  refine c_froz Try.func7 rfl rfl rfl rfl rfl rfl ?_
  intro g n
  repeat' (first
    | ((with_reducible apply g_op); first
      | ((with_reducible apply g_assign); first
        | ((with_reducible apply w_pure (v := .bool _)); exact rfl; exact rfl)))
    | with_reducible refine w_seq ?_
    | with_reducible refine w_nil ?_
    | with_reducible refine w_region ?_)
  refine w_rq (hash_run printf (by decide) _ _ _) (fun _ => rfl) ?_
  rintro _ rfl
  rw [hash_printf]
  repeat' (first
    | ((with_reducible apply g_op); first
      | ((with_reducible apply g_bin); first
        | ((with_reducible apply w_pure (v := .bool _)); exact rfl; exact rfl))
      | ((with_reducible apply g_assign); first
        | ((with_reducible apply w_pure (v := .bool _)); exact rfl; exact rfl)))
    | with_reducible refine w_nil ?_
    | ((with_reducible apply w_ret (v := .bool _)); exact rfl))
  exact fr_plain rfl rfl
def shortS (s : ByteArray) (k : Int) : ByteArray := if (s.size : Int) > k then s.extract 0 k.toNat else s
theorem short_run (s : ByteArray) (k : Int) (hk : 0 ≤ k) (g n m) : Rn Try.prog T 8 [.string s, .int .i64 k] g n m (fun v g' n' => v = .string (shortS s k) ∧ g' = g ∧ n' = n) := by
  refine c_quiet Try.func8 rfl rfl rfl rfl rfl ?_
  by_cases h : (s.size : Int) > k
  · repeat' (first
      | ((with_reducible apply g_op); first
        | ((with_reducible apply g_move); first
          | ((with_reducible apply w_pure (v := .int _ _)); exact rfl; exact rfl)
          | ((with_reducible apply w_pure (v := .string _)); exact rfl; exact rfl))
        | ((with_reducible apply g_bin); first
          | ((with_reducible apply w_pure (v := .bool _)); exact rfl; exact rfl))
        | ((with_reducible apply g_assign); first
          | ((with_reducible apply w_pure (v := .string _)); exact rfl; exact rfl))
        | ((with_reducible apply g_call); first
          | ((with_reducible apply w_call (v := .int _ _)); exact rfl))
        | ((with_reducible apply w_ssl); exact rfl; exact rfl; (first | exact num_of (by omega) | exact rfl); (first | exact num_of (by omega) | exact rfl); omega))
      | with_reducible refine w_seq ?_
      | with_reducible refine w_nil ?_
      | with_reducible refine w_region ?_
      | ((with_reducible apply w_ifd); exact rfl; all_goals (intro hc; first | (exfalso; omega) | skip))
      | ((with_reducible apply w_ret (v := .string _)); exact rfl))
    exact ⟨rfl, congrArg Value.string (if_pos h).symm⟩
  · repeat' (first
      | ((with_reducible apply g_op); first
        | ((with_reducible apply g_move); first
          | ((with_reducible apply w_pure (v := .int _ _)); exact rfl; exact rfl)
          | ((with_reducible apply w_pure (v := .string _)); exact rfl; exact rfl))
        | ((with_reducible apply g_bin); first
          | ((with_reducible apply w_pure (v := .bool _)); exact rfl; exact rfl))
        | ((with_reducible apply g_assign); first
          | ((with_reducible apply w_pure (v := .string _)); exact rfl; exact rfl))
        | ((with_reducible apply g_call); first
          | ((with_reducible apply w_call (v := .int _ _)); exact rfl)))
      | with_reducible refine w_seq ?_
      | with_reducible refine w_nil ?_
      | with_reducible refine w_region ?_
      | with_reducible refine w_skip ?_
      | ((with_reducible apply w_ifd); exact rfl; all_goals (intro hc; first | (exfalso; omega) | skip))
      | ((with_reducible apply w_ret (v := .string _)); exact rfl))
    exact ⟨rfl, congrArg Value.string (if_neg h).symm⟩
theorem short_size (u : ByteArray) (k : Nat) : (shortS u k).size ≤ k := by
  unfold shortS
  split
  · rw [ByteArray.size_extract]; omega
  · omega
def raOf (o : Option Nat) : Option Addr := match o with | none => none | some i => some ⟨i, 0, none⟩
theorem own_ov {α : Type} {e : TypeId} {enc : α → List Value} {g : Nat → Option Ob} {lo n : Nat} {o : Option Nat} {l : List α} (h : Own g lo n e enc o l) : ov o l.length = .slice (raOf o) l.length l.length := by
  cases o with
  | none => have : l = [] := h; subst this; rfl
  | some i => rfl
set_option maxHeartbeats 0 in
theorem walk (u : ByteArray) (a : Int) (d : Bool) (x : Int) (l : List ByteArray) (hu : u.size ≤ 9223372036854775807) (ha : a ≤ 9223372036854775807) (hx : x ≤ 9223372036854775807) (hl : l.length ≤ 9223372036854775807) (g : Nat → Option Ob) (s : Nat) : Rn Try.prog T 5 [.string u, .agg #[.int .i64 a, .bool d, .int .i64 x], tv tg l] g s s (fun v _ _ => v = .bool true) := by
  refine c_open Try.func5 rfl rfl rfl rfl rfl rfl ?_
  repeat' (first
    | ((with_reducible apply g_op); first
      | ((with_reducible apply g_assign); first
        | ((with_reducible apply w_pure (v := .bool _)); exact rfl; exact rfl))
      | ((with_reducible apply g_box); first
        | ((with_reducible apply w_box (vs := [_, _, _])); exact rfl; exact rfl)))
    | with_reducible refine w_seq ?_
    | with_reducible refine w_nil ?_
    | with_reducible refine w_region ?_)
  refine w_rf awake_run (fun _ => rfl) sn_nil ?_
  rintro v rfl
  repeat' (first
    | ((with_reducible apply g_op); first
      | ((with_reducible apply g_move); first
        | ((with_reducible apply w_pure (v := .string _)); exact rfl; exact rfl))
      | ((with_reducible apply g_assign); first
        | ((with_reducible apply w_pure (v := .bool _)); exact rfl; exact rfl)))
    | with_reducible refine w_seq ?_
    | with_reducible refine w_nil ?_
    | with_reducible refine w_region ?_)
  refine w_rq (short_run u 60 (by decide) _ _ _) (fun _ => rfl) ?_
  rintro _ rfl
  repeat' (first
    | ((with_reducible apply g_op); first
      | ((with_reducible apply g_assign); first
        | ((with_reducible apply w_pure (v := .int _ _)); exact rfl; exact rfl)
        | ((with_reducible apply w_pure (v := .slice _ _ _)); exact rfl; exact rfl)
        | ((with_reducible apply w_pure (v := .string _)); exact rfl; exact rfl)))
    | with_reducible refine w_seq ?_
    | with_reducible refine w_nil ?_
    | with_reducible refine w_region ?_)
  refine w_meetK [(8, 9), (17, 34)] (fun σ' g' n' => ∃ o : Option Nat, g' s = some (.cells 37 [.int .i64 a, .bool d, .int .i64 x]) ∧ σ' 8 = .slice (raOf o) ((l.take (min l.length 12)).map fun t => shortS t 8).length ((l.take (min l.length 12)).map fun t => shortS t 8).length ∧ Own g' (s + 1) n' 9 ts o ((l.take (min l.length 12)).map fun t => shortS t 8) ∧ s + 1 ≤ n') ?_ ?_
  · intro K R hK
    repeat' (first
      | with_reducible refine w_block ?_)
    refine w_cntK [(8, 9), (17, 34)] (min l.length 12) (fun i (o : Option Nat) σ g' n' => σ 9 = .int .i64 (i : Nat) ∧ σ 8 = ov o i
      ∧ g' s = some (.cells 37 [.int .i64 a, .bool d, .int .i64 x]) ∧ Own g' (s + 1) n' 9 ts o ((l.take i).map fun t => shortS t 8) ∧ s + 1 ≤ n') ?_ ?_ none ⟨rfl, rfl, upd_same, rfl, by omega⟩
    · rintro i o σ gl nl hlt ⟨k9, k8, hg, ho, hn⟩ ih
      refine w_keep (i := 8) k8 (w_keep (i := 9) k9 ?_)
      obtain ⟨y, hy⟩ : ∃ y, l[i]? = some y := ⟨_, List.getElem?_eq_getElem (by omega)⟩
      have hlen : ((l.take i).map fun t => shortS t 8).length = i := by simp; omega
      have hsn : ((l.take (i + 1)).map fun t => shortS t 8) = ((l.take i).map fun t => shortS t 8) ++ [shortS y 8] := by rw [List.take_add_one, hy]; simp
      cases o with
      | none =>
        have hi0 : i = 0 := by have h : ((l.take i).map fun t => shortS t 8) = [] := ho; rw [h] at hlen; simpa using hlen.symm
        subst hi0
        simp only [ov] at k8
        repeat' (first
          | ((with_reducible apply g_op); first
            | ((with_reducible apply g_load); first
              | ((with_reducible apply w_fl (v := .string _)); exact rfl; exact (fun _ => rfl); assumption; exact rfl))
            | ((with_reducible apply g_move); first
              | ((with_reducible apply w_pure (v := .int _ _)); exact rfl; exact rfl)
              | ((with_reducible apply w_pure (v := .bool _)); exact rfl; exact rfl)
              | ((with_reducible apply w_pure (v := .slice _ _ _)); exact rfl; exact rfl)
              | ((with_reducible apply w_pure (v := .func _ _ _)); exact rfl; exact rfl))
            | ((with_reducible apply g_bin); first
              | ((with_reducible apply w_pure (v := .bool _)); exact rfl; exact rfl))
            | ((with_reducible apply g_pick); first
              | ((with_reducible apply w_pk1 (v := .bool _)); exact rfl; exact rfl; (first | assumption | exact decide_eq_true (by assumption) | exact decide_eq_false (by assumption) | exact decide_eq_true (by omega) | exact decide_eq_false (by omega) | exact beq_iff_eq.2 (by omega) | exact beq_eq_false_iff_ne.2 (by omega) | exact bne_iff_ne.2 (by omega) | exact bne_eq_false_iff_eq.2 (by omega))))
            | ((with_reducible apply g_call); first
              | ((with_reducible apply w_call (v := .int _ _)); exact rfl))
            | ((with_reducible apply g_ix); first
              | ((with_reducible apply w_fx (sz := 1)); exact rfl; exact rfl; exact rfl; exact rfl; exact rfl; exact (fun _ => rfl); assumption; exact rfl)))
          | ((with_reducible apply g_gd); first
            | ((with_reducible apply w_gd_t); exact rfl; all_goals (intro hc; first | (exfalso; omega) | skip)))
          | with_reducible refine w_seq ?_
          | with_reducible refine w_nil ?_
          | with_reducible refine w_region ?_
          | with_reducible refine w_skip ?_
          | with_reducible refine w_block ?_
          | ((with_reducible apply w_yes); exact rfl))
        refine w_rq (short_run y 8 (by decide) _ _ _) (fun _ => rfl) ?_
        rintro _ rfl
        repeat' (first
          | ((with_reducible apply g_op); first
            | ((with_reducible apply g_move); first
              | ((with_reducible apply w_pure (v := .int _ _)); exact rfl; exact rfl))
            | ((with_reducible apply g_bin); first
              | ((with_reducible apply w_wrap); exact rfl; exact rfl; first | exact i64_in _ (by omega) | exact u64_in _ (by omega) | exact u8_in _ (by omega)))
            | ((with_reducible apply g_assign); first
              | ((with_reducible apply w_pure (v := .int _ _)); exact rfl; exact rfl)
              | ((with_reducible apply w_pure (v := .slice _ _ _)); exact rfl; exact rfl))
            | ((with_reducible apply g_call); first
              | ((with_reducible apply w_app0 (ns := [_])); exact rfl; exact rfl; exact rfl; exact rfl; exact rfl; exact rfl; (first | assumption | (simp (disch := omega) only [upd_same, upd_ne]; first | done | assumption | exact rfl) | exact rfl); exact rfl; exact rfl; exact (by decide); exact ⟨by decide, by decide⟩))
            | ((with_reducible apply w_bsl (ls := [_])); exact rfl; exact rfl; exact rfl; exact ⟨by decide, rfl⟩; exact rfl))
          | with_reducible refine w_nil ?_
          | with_reducible refine w_region ?_
          | with_reducible refine w_blk ?_)
        refine ih (some (nl + 1)) _ _ _ (by repeat' (first | with_reducible exact Fr.mix | with_reducible exact Fr.rfl' | with_reducible refine Fr.put ?_ ?_ | with_reducible refine Fr.mix2 ?_ ?_ | with_reducible refine Fr.put0 ?_ | exact rfl)) ⟨rfl, rfl, ?_, ⟨by rw [hsn]; simp, by omega, by omega, ?_⟩, by omega⟩
        · simp (disch := omega) only [upd_same, upd_ne]; exact hg
        · rw [hsn, ho]
          simp (disch := omega) only [upd_same, upd_ne]; rfl
      | some o =>
        simp only [ov] at k8
        repeat' (first
          | ((with_reducible apply g_op); first
            | ((with_reducible apply g_load); first
              | ((with_reducible apply w_fl (v := .string _)); exact rfl; exact (fun _ => rfl); assumption; exact rfl))
            | ((with_reducible apply g_move); first
              | ((with_reducible apply w_pure (v := .int _ _)); exact rfl; exact rfl)
              | ((with_reducible apply w_pure (v := .bool _)); exact rfl; exact rfl)
              | ((with_reducible apply w_pure (v := .slice _ _ _)); exact rfl; exact rfl)
              | ((with_reducible apply w_pure (v := .func _ _ _)); exact rfl; exact rfl))
            | ((with_reducible apply g_bin); first
              | ((with_reducible apply w_pure (v := .bool _)); exact rfl; exact rfl))
            | ((with_reducible apply g_pick); first
              | ((with_reducible apply w_pk1 (v := .bool _)); exact rfl; exact rfl; (first | assumption | exact decide_eq_true (by assumption) | exact decide_eq_false (by assumption) | exact decide_eq_true (by omega) | exact decide_eq_false (by omega) | exact beq_iff_eq.2 (by omega) | exact beq_eq_false_iff_ne.2 (by omega) | exact bne_iff_ne.2 (by omega) | exact bne_eq_false_iff_eq.2 (by omega))))
            | ((with_reducible apply g_call); first
              | ((with_reducible apply w_call (v := .int _ _)); exact rfl))
            | ((with_reducible apply g_ix); first
              | ((with_reducible apply w_fx (sz := 1)); exact rfl; exact rfl; exact rfl; exact rfl; exact rfl; exact (fun _ => rfl); assumption; exact rfl)))
          | ((with_reducible apply g_gd); first
            | ((with_reducible apply w_gd_t); exact rfl; all_goals (intro hc; first | (exfalso; omega) | skip)))
          | with_reducible refine w_seq ?_
          | with_reducible refine w_nil ?_
          | with_reducible refine w_region ?_
          | with_reducible refine w_skip ?_
          | with_reducible refine w_block ?_
          | ((with_reducible apply w_ifd); exact rfl; all_goals (intro hc; first | (exfalso; omega) | skip)))
        refine w_rq (short_run y 8 (by decide) _ _ _) (fun _ => rfl) ?_
        rintro _ rfl
        repeat' (first
          | ((with_reducible apply g_op); first
            | ((with_reducible apply w_bsl (ls := [_])); exact rfl; exact rfl; exact rfl; exact ⟨by decide, rfl⟩; exact rfl)))
        refine w_own1 (enc := ts) (y := shortS y 8) (by_ := 16) (sz := 1) (lo := s + 1) (o := some o) (xs := (l.take i).map fun t => shortS t 8) (ho.later (by omega) (fun j h1 h2 => upd_ne (by omega))) (by rw [hlen]; rfl) rfl rfl rfl rfl rfl (fun _ => rfl) upd_same rfl rfl rfl (by omega) (by omega) ?_
        intro g' h1 h2 h3
        rw [← hsn] at h3 ⊢
        have hlen1 : ((l.take (i + 1)).map fun t => shortS t 8).length = i + 1 := by simp; omega
        rw [hlen1]
        simp only [ov]
        have ho2 := ho.2.1
        have hgs : g' s = some (.cells 37 [.int .i64 a, .bool d, .int .i64 x]) := by
          rw [h1 s (by omega) (by simp; omega), upd_ne (by omega)]; exact hg
        repeat' (first
          | ((with_reducible apply g_op); first
            | ((with_reducible apply g_move); first
              | ((with_reducible apply w_pure (v := .int _ _)); exact rfl; exact rfl))
            | ((with_reducible apply g_bin); first
              | ((with_reducible apply w_wrap); exact rfl; exact rfl; first | exact i64_in _ (by omega) | exact u64_in _ (by omega) | exact u8_in _ (by omega)))
            | ((with_reducible apply g_assign); first
              | ((with_reducible apply w_pure (v := .int _ _)); exact rfl; exact rfl)
              | ((with_reducible apply w_pure (v := .slice _ _ _)); exact rfl; exact rfl)))
          | with_reducible refine w_nil ?_
          | with_reducible refine w_region ?_
          | with_reducible refine w_blk ?_)
        exact ih (some (nl + 1)) _ _ _ (by repeat' (first | with_reducible exact Fr.mix | with_reducible exact Fr.rfl' | with_reducible refine Fr.put ?_ ?_ | with_reducible refine Fr.mix2 ?_ ?_ | with_reducible refine Fr.put0 ?_ | exact rfl)) ⟨rfl, rfl, hgs, h3, by omega⟩
    · rintro o σ gl nl ⟨k9, k8, hg, ho, hn⟩
      have h8 := own_ov ho
      rw [show ((l.take (min l.length 12)).map fun t => shortS t 8).length = min l.length 12 by simp] at h8
      rw [h8] at k8
      refine w_keep (i := 8) k8 (w_keep (i := 9) k9 ?_)
      repeat' (first
        | ((with_reducible apply g_op); first
          | ((with_reducible apply g_move); first
            | ((with_reducible apply w_pure (v := .int _ _)); exact rfl; exact rfl)
            | ((with_reducible apply w_pure (v := .bool _)); exact rfl; exact rfl)
            | ((with_reducible apply w_pure (v := .func _ _ _)); exact rfl; exact rfl))
          | ((with_reducible apply g_bin); first
            | ((with_reducible apply w_pure (v := .bool _)); exact rfl; exact rfl))
          | ((with_reducible apply g_pick); first
            | ((with_reducible apply w_pk1 (v := .bool _)); exact rfl; exact rfl; (first | assumption | exact decide_eq_true (by assumption) | exact decide_eq_false (by assumption) | exact decide_eq_true (by omega) | exact decide_eq_false (by omega) | exact beq_iff_eq.2 (by omega) | exact beq_eq_false_iff_ne.2 (by omega) | exact bne_iff_ne.2 (by omega) | exact bne_eq_false_iff_eq.2 (by omega)))
            | ((with_reducible apply w_pk0 (v := .bool _)); exact rfl; exact rfl; (first | assumption | exact decide_eq_true (by assumption) | exact decide_eq_false (by assumption) | exact decide_eq_true (by omega) | exact decide_eq_false (by omega) | exact beq_iff_eq.2 (by omega) | exact beq_eq_false_iff_ne.2 (by omega) | exact bne_iff_ne.2 (by omega) | exact bne_eq_false_iff_eq.2 (by omega))))
          | ((with_reducible apply g_call); first
            | ((with_reducible apply w_call (v := .int _ _)); exact rfl)))
        | ((with_reducible apply g_gd); first
          | ((with_reducible apply w_gd_t); exact rfl; all_goals (intro hc; first | (exfalso; omega) | skip)))
        | with_reducible refine w_seq ?_
        | with_reducible refine w_nil ?_
        | with_reducible refine w_region ?_
        | ((with_reducible apply w_exit); exact rfl)
        | ((with_reducible apply w_no); exact rfl)
        | ((with_reducible apply w_ifd); exact rfl; all_goals (intro hc; first | (exfalso; omega) | skip)))
      all_goals exact hK _ _ _ (by repeat' (first | with_reducible exact Fr.mix | with_reducible exact Fr.rfl' | with_reducible refine Fr.put ?_ ?_ | with_reducible refine Fr.mix2 ?_ ?_ | with_reducible refine Fr.put0 ?_ | exact rfl)) ⟨o, hg, by rw [show ((l.take (min l.length 12)).map fun t => shortS t 8).length = min l.length 12 by simp]; rfl, ho, hn⟩
  · rintro σ' gl nl ⟨o, hg, k8, ho, hn⟩
    have hlen : ((l.take (min l.length 12)).map fun t => shortS t 8).length = min l.length 12 := by simp
    have hsz : ∀ t ∈ ((l.take (min l.length 12)).map fun t => shortS t 8), t.size ≤ 9223372036854775807 := by
      intro t ht
      obtain ⟨y, _, rfl⟩ := List.mem_map.1 ht
      have := short_size y 8
      exact Nat.le_trans this (by decide)
    have hf : ∀ g1 n1, Own g1 (s + 1) n1 9 ts o ((l.take (min l.length 12)).map fun t => shortS t 8) → L1.freeze Try.prog g1 tg 0 9 (.slice (raOf o) ((l.take (min l.length 12)).map fun t => shortS t 8).length ((l.take (min l.length 12)).map fun t => shortS t 8).length) = some (tv tg ((l.take (min l.length 12)).map fun t => shortS t 8)) := fun g1 n1 h => by
      have := h.fz (P := Try.prog) (k := 7) (tg := tg) (lo' := 0) (by omega) rfl (by decide) (fun _ => rfl) (sn_plains (all_flat (fun _ => rfl) _))
      rw [own_ov h] at this
      exact this
    have hs60 : (shortS u 60).size ≤ 60 := short_size u 60
    generalize ((l.take (min l.length 12)).map fun t => shortS t 8) = L at *
    obtain ⟨V0, hV0⟩ : ∃ V0, V0 = Value.slice (raOf o) L.length L.length := ⟨_, rfl⟩
    rw [← hV0] at k8 hf
    refine w_keep (i := 8) k8 ?_
    repeat' (first
      | with_reducible refine w_seq ?_
      | with_reducible refine w_region ?_)
    refine w_pure (v := V0) rfl rfl ?_
    refine w_rf (table_run L (by omega) hsz) (fun _ => rfl) (sn_cons (hf _ _ ho) sn_nil) ?_
    rintro _ rfl
    repeat' (first
      | ((with_reducible apply g_op); first
        | ((with_reducible apply g_move); first
          | ((with_reducible apply w_pure (v := .tuple _)); exact rfl; exact rfl))
        | ((with_reducible apply g_assign); first
          | ((with_reducible apply w_pure (v := .int _ _)); exact rfl; exact rfl)
          | ((with_reducible apply w_pure (v := .string _)); exact rfl; exact rfl))
        | ((with_reducible apply w_pure (v := .int _ _)); exact rfl; exact rfl)
        | ((with_reducible apply w_pure (v := .string _)); exact rfl; exact rfl))
      | with_reducible refine w_seq ?_
      | with_reducible refine w_nil ?_
      | with_reducible refine w_region ?_)
    refine w_pure (v := V0) rfl rfl ?_
    refine w_rf (rtable_run L (by omega) hsz) (fun _ => rfl) (sn_cons (hf _ _ ho) sn_nil) ?_
    rintro _ rfl
    repeat' (first
      | ((with_reducible apply g_op); first
        | ((with_reducible apply g_move); first
          | ((with_reducible apply w_pure (v := .bool _)); exact rfl; exact rfl)
          | ((with_reducible apply w_pure (v := .string _)); exact rfl; exact rfl)
          | ((with_reducible apply w_pure (v := .tuple _)); exact rfl; exact rfl))
        | ((with_reducible apply g_assign); first
          | ((with_reducible apply w_pure (v := .int _ _)); exact rfl; exact rfl)
          | ((with_reducible apply w_pure (v := .string _)); exact rfl; exact rfl))
        | ((with_reducible apply w_pure (v := .int _ _)); exact rfl; exact rfl)
        | ((with_reducible apply w_pure (v := .string _)); exact rfl; exact rfl))
      | ((with_reducible apply g_gd); first
        | ((with_reducible apply w_want); exact rfl))
      | with_reducible refine w_seq ?_
      | with_reducible refine w_nil ?_
      | ((with_reducible apply w_draw); kernel_rfl; kernel_rfl))
    refine w_rq (hash_run (shortS u 60) (by omega) _ _ _) (fun _ => rfl) ?_
    rintro _ rfl
    repeat' (first
      | ((with_reducible apply g_op); first
        | ((with_reducible apply g_move); first
          | ((with_reducible apply w_pure (v := .string _)); exact rfl; exact rfl)))
      | ((with_reducible apply g_gd); first
        | ((with_reducible apply w_want); exact rfl)))
    refine w_rq (rhash_run (shortS u 60) (by omega) _ _ _) (fun _ => rfl) ?_
    rintro _ rfl
    repeat' (first
      | ((with_reducible apply g_op); first
        | ((with_reducible apply g_load); first
          | ((with_reducible apply w_load (v := .agg #[_, _, _])); exact rfl; (first | assumption | (simp (disch := omega) only [upd_same, upd_ne]; first | done | assumption | exact rfl) | exact rfl); exact rfl))
        | ((with_reducible apply g_move); first
          | ((with_reducible apply w_pure (v := .bool _)); exact rfl; exact rfl))
        | ((with_reducible apply g_bin); first
          | ((with_reducible apply w_pure (v := .bool _)); exact rfl; exact rfl))
        | ((with_reducible apply w_pure (v := .bool _)); exact rfl; exact rfl))
      | ((with_reducible apply g_gd); first
        | ((with_reducible apply w_want); exact rfl)
        | ((with_reducible apply w_gd_t); exact rfl; all_goals (intro hc; first | (exfalso; omega) | skip))))
    all_goals first | (exfalso; exact absurd rfl (by assumption)) | skip
    refine w_rq (bytes_run a d x ha hx _ _ _) (fun _ => rfl) ?_
    rintro _ rfl
    repeat' (first
      | ((with_reducible apply g_op); first
        | ((with_reducible apply g_load); first
          | ((with_reducible apply w_load (v := .agg #[_, _, _])); exact rfl; (first | assumption | (simp (disch := omega) only [upd_same, upd_ne]; first | done | assumption | exact rfl) | exact rfl); exact rfl)))
      | ((with_reducible apply g_gd); first
        | ((with_reducible apply w_gd_t); exact rfl; all_goals (intro hc; first | (exfalso; omega) | skip))))
    refine w_rq (rbytes_run a d x ha hx _ _ _) (fun _ => rfl) ?_
    rintro _ rfl
    repeat' (first
      | ((with_reducible apply g_op); first
        | ((with_reducible apply g_move); first
          | ((with_reducible apply w_pure (v := .int _ _)); exact rfl; exact rfl)
          | ((with_reducible apply w_pure (v := .bool _)); exact rfl; exact rfl)
          | ((with_reducible apply w_pure (v := .string _)); exact rfl; exact rfl))
        | ((with_reducible apply g_bin); first
          | ((with_reducible apply w_teq); exact rfl; exact rfl; exact rfl; exact rfl; exact rfl)
          | ((with_reducible apply w_pure (v := .bool _)); exact rfl; exact rfl))
        | ((with_reducible apply g_pick); first
          | ((with_reducible apply w_pk1 (v := .bool _)); exact rfl; exact rfl; (first | assumption | exact decide_eq_true (by assumption) | exact decide_eq_false (by assumption) | exact decide_eq_true (by omega) | exact decide_eq_false (by omega) | exact beq_iff_eq.2 (by omega) | exact beq_eq_false_iff_ne.2 (by omega) | exact bne_iff_ne.2 (by omega) | exact bne_eq_false_iff_eq.2 (by omega)))
          | ((with_reducible apply w_pk0 (v := .bool _)); exact rfl; exact rfl; (first | assumption | exact decide_eq_true (by assumption) | exact decide_eq_false (by assumption) | exact decide_eq_true (by omega) | exact decide_eq_false (by omega) | exact beq_iff_eq.2 (by omega) | exact beq_eq_false_iff_ne.2 (by omega) | exact bne_iff_ne.2 (by omega) | exact bne_eq_false_iff_eq.2 (by omega))))
        | ((with_reducible apply g_assign); first
          | ((with_reducible apply w_pure (v := .bool _)); exact rfl; exact rfl))
        | ((with_reducible apply w_pure (v := .bool _)); exact rfl; exact rfl))
      | ((with_reducible apply g_gd); first
        | ((with_reducible apply w_pass); exact rfl)
        | ((with_reducible apply w_gd_t); exact rfl; all_goals (intro hc; first | (exfalso; omega) | skip)))
      | with_reducible refine w_nil ?_
      | ((with_reducible apply w_ret (v := .bool _)); exact rfl))
    all_goals first | rfl | (exfalso; exact absurd rfl (by assumption)) | skip
theorem wfI_le {n : Int} (h : wfI .i64 n) : n ≤ 9223372036854775807 := by
  unfold wfI at h
  simp only [Lit.wf, IntKind.min, IntKind.max, IntKind.signed, IntKind.bits, Bool.and_eq_true, decide_eq_true_eq, if_true] at h
  omega
theorem proved (x0 : ByteArray) (x1 : Int × Bool × Int) (x2 : List ByteArray) (w0 : wfT x0) {q : Prop} (w1 : wfI .i64 x1.1 ∧ q ∧ wfI .i64 x1.2.2) (w2 : wfL wfT x2) : Rn Try.prog tab 5 [.string x0, .agg ((kPair (kInt .i64) (kPair kBool (kInt .i64))).enc x1).toArray, fz tg x2.length (x2.flatMap kStr.enc)] (fun _ => none) 0 0 (fun v _ _ => v = .bool true) := by
  obtain ⟨a, d, x⟩ := x1
  exact walk x0 a d x x2 w0 (wfI_le w1.1) (wfI_le w1.2.2) w2.1 _ 0
end Go.Proofs.Ytoknnbjkjhigbaa.L.SymbolBytes

