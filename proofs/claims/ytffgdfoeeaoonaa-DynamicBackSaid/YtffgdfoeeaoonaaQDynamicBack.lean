/- DynamicBack: walked, and its plain law. -/
import Derived.Test.Ytffgdfoeeaoonaac09S
import Derived.Test.YtffgdfoeeaoonaaL1W
namespace Go.Proofs.Ytffgdfoeeaoonaa.L.DynamicBack
open Go.L1 Go.IntWalk Go.Proofs.Ytffgdfoeeaoonaa.L
set_option linter.unusedVariables false
set_option linter.unusedSimpArgs false
set_option maxHeartbeats 4000000
set_option maxRecDepth 20000
def raOf (o : Option Nat) : Option Addr := match o with | none => none | some i => some ⟨i, 0, none⟩
theorem own_ov {α : Type} {e : TypeId} {enc : α → List Value} {g : Nat → Option Ob} {lo n : Nat} {o : Option Nat} {l : List α} (h : Own g lo n e enc o l) : ov o l.length = .slice (raOf o) l.length l.length := by
  cases o with
  | none => have : l = [] := h; subst this; rfl
  | some i => rfl
def tab : Tb := L.T
theorem tabok : ∀ C : Cx, C.P = Try.prog → TbOk C tab := L.tabok
theorem andr (x : Int) (j : Nat) (hj : j ≤ 62) (m : Int) (hm : m = 2 ^ j - 1) : 0 ≤ IntKind.i64.wrap ((BitVec.ofInt IntKind.i64.bits x &&& BitVec.ofInt IntKind.i64.bits m).toNat : Nat) ∧ IntKind.i64.wrap ((BitVec.ofInt IntKind.i64.bits x &&& BitVec.ofInt IntKind.i64.bits m).toNat : Nat) ≤ m := by
  have h : IntKind.i64.wrap ((BitVec.ofInt IntKind.i64.bits x &&& BitVec.ofInt IntKind.i64.bits m).toNat : Nat) = x % 2 ^ j := and_i64 x j hj m hm
  have hp : (0 : Int) < 2 ^ j := Int.pow_pos (by decide)
  have h1 := Int.emod_nonneg x (Int.ne_of_gt hp)
  have h2 := Int.emod_lt_of_pos x hp
  rw [h]
  omega
def msk (x : Int) : Int := IntKind.i64.wrap ((BitVec.ofInt IntKind.i64.bits x &&& BitVec.ofInt IntKind.i64.bits 1099511627775).toNat : Nat)
theorem mskI (x : Int) : ∃ a : Int, IntKind.i64.wrap ((BitVec.ofInt IntKind.i64.bits x &&& BitVec.ofInt IntKind.i64.bits 1099511627775).toNat : Nat) = a ∧ 0 ≤ a ∧ a ≤ 1099511627775 := ⟨_, rfl, andr x 40 (by decide) _ (by decide)⟩
theorem msk_range (x : Int) : 0 ≤ msk x ∧ msk x ≤ 1099511627775 := by obtain ⟨a, h1, h2⟩ := mskI x; unfold msk; rw [h1]; exact h2
theorem ents_len (d : Dyn) : (entsD d).length ≤ d.nd.length + 11 ∧ 1 ≤ (entsD d).length := by
  unfold entsD
  simp only [List.length_append, List.length_map, List.length_singleton]
  have : (bigE d tags).length ≤ 8 := List.length_filterMap_le _ _
  have h1 : (if d.f6 > 0 then [((9 : Int), (24 : Int))] else []).length ≤ 1 := by split <;> simp
  have h2 : (if d.f3 > 0 then [((11 : Int), (24 : Int))] else []).length ≤ 1 := by split <;> simp
  omega
theorem short_size (u : ByteArray) : (shortS u 40).size ≤ 40 := by
  unfold shortS
  split
  · rw [ByteArray.size_extract]; omega
  · omega
set_option maxHeartbeats 0 in
theorem walk (nd : List Int) (q0 q1 q2 q3 q4 q5 q6 : Int) (u : ByteArray) (hnd : nd.length ≤ 9223372036854775807) (hu : u.size ≤ 9223372036854775807) (g : Nat → Option Ob) (s : Nat) : Rn Try.prog T 3 [iv tg nd, .agg #[.int .i64 q0, .int .i64 q1, .int .i64 q2, .int .i64 q3, .int .i64 q4, .int .i64 q5, .int .i64 q6], .string u] g s s (fun v _ _ => v = .bool true) := by
  refine c_open Try.func3 rfl rfl rfl rfl rfl rfl ?_
  repeat' (first
    | ((with_reducible apply g_op); first
      | ((with_reducible apply g_assign); first
        | ((with_reducible apply w_pure (v := .bool _)); exact rfl; exact rfl))
      | ((with_reducible apply g_box); first
        | ((with_reducible apply w_box (vs := [_, _, _, _, _, _, _])); exact rfl; exact rfl)))
    | with_reducible refine w_seq ?_
    | with_reducible refine w_nil ?_
    | with_reducible refine w_region ?_)
  refine w_rf awake_run (fun _ => rfl) sn_nil ?_
  rintro v rfl
  repeat' (first
    | ((with_reducible apply g_op); first
      | ((with_reducible apply g_load); first
        | ((with_reducible apply w_load (v := .int _ _)); exact rfl; (first | assumption | (simp (disch := omega) only [upd_same, upd_ne]; first | done | assumption | exact rfl) | exact rfl); exact rfl))
      | ((with_reducible apply g_move); first
        | ((with_reducible apply w_pure (v := .int _ _)); exact rfl; exact rfl))
      | ((with_reducible apply g_bin); first
        | ((with_reducible apply w_pure (v := .int _ _)); exact rfl; exact rfl))
      | ((with_reducible apply g_assign); first
        | ((with_reducible apply w_pure (v := .int _ _)); exact rfl; exact rfl)
        | ((with_reducible apply w_pure (v := .bool _)); exact rfl; exact rfl))
      | ((with_reducible apply g_store); first
        | ((with_reducible apply w_store (us := [_, _, _, _, _, _, _, _, _]) (ws := [_, _, _, _, _, _, _, _, _])); exact rfl; exact rfl; (first | assumption | (simp (disch := omega) only [upd_same, upd_ne]; first | done | assumption | exact rfl) | exact rfl); omega; exact rfl; exact rfl; exact rfl))
      | ((with_reducible apply g_build); first
        | ((with_reducible apply w_pure (v := .agg #[_, _, _, _, _, _, _, _, _])); exact rfl; exact rfl))
      | ((with_reducible apply w_alloc (ls := [_, _, _, _, _, _, _, _, _])); exact rfl; exact rfl)
      | ((with_reducible apply w_pure (v := .pointer _)); exact rfl; exact rfl))
    | with_reducible refine w_seq ?_
    | with_reducible refine w_nil ?_
    | with_reducible refine w_region ?_)
  obtain ⟨a0, e0, r0⟩ := mskI q0
  obtain ⟨a1, e1, r1⟩ := mskI q1
  obtain ⟨a2, e2, r2⟩ := mskI q2
  obtain ⟨a3, e3, r3⟩ := mskI q3
  obtain ⟨a5, e5, r5⟩ := mskI q5
  obtain ⟨a6, e6, r6⟩ := mskI q6
  obtain ⟨a4, e4, r4⟩ : ∃ a : Int, IntKind.i64.wrap ((BitVec.ofInt IntKind.i64.bits q4 &&& BitVec.ofInt IntKind.i64.bits 1023).toNat : Nat) = a ∧ 0 ≤ a ∧ a ≤ 1023 := ⟨_, rfl, andr q4 10 (by decide) _ (by decide)⟩
  obtain ⟨a7, e7, r7⟩ : ∃ a : Int, IntKind.i64.wrap ((BitVec.ofInt IntKind.i64.bits q0 &&& BitVec.ofInt IntKind.i64.bits 4095).toNat : Nat) = a ∧ 0 ≤ a ∧ a ≤ 4095 := ⟨_, rfl, andr q0 12 (by decide) _ (by decide)⟩
  rw [e0, e1, e2, e3, e4, e5, e6, e7]
  have m1 : IntKind.i64.wrap (24 * a4) = 24 * a4 := i64_in _ (by omega)
  have m2 : IntKind.i64.wrap (a7 * 64) = a7 * 64 := i64_in _ (by omega)
  rw [m1, m2]
  have hok : ∀ l : List Int, l.length ≤ 64 → (∀ x ∈ l, 0 ≤ x ∧ x ≤ 1099511627775) → Dyn.ok ⟨l, a1, a5, a2, a0, a3, 24 * a4, a6, a7 * 64⟩ := fun l h1 h2 => ⟨h1, fun x hx => by have := h2 x hx; omega, fun t => by
    unfold Dyn.get
    repeat' split
    all_goals (dsimp only; omega), by
    show (24 * a4).tmod 24 = 0
    exact Int.mul_tmod_right 24 a4⟩
  clear e0 e1 e2 e3 e4 e5 e6 e7 m1 m2 r0 r1 r2 r3 r4 r5 r6 r7
  refine w_meetK [(10, 10), (50, 70)] (fun σ' g' n' => ∃ o : Option Nat, g' (s + 1) = some (.cells 26 (Dyn.cs ⟨[], a1, a5, a2, a0, a3, 24 * a4, a6, a7 * 64⟩ (.slice (raOf o) ((nd.take (min nd.length 64)).map msk).length ((nd.take (min nd.length 64)).map msk).length))) ∧ Own g' (s + 2) n' 3 ii o ((nd.take (min nd.length 64)).map msk) ∧ s + 2 ≤ n') ?_ ?_
  · intro K R hK
    repeat' (first
      | with_reducible refine w_block ?_)
    refine w_cntK [(10, 10), (50, 70)] (min nd.length 64) (fun i (o : Option Nat) σ g' n' => σ 10 = .int .i64 (i : Nat)
      ∧ g' (s + 1) = some (.cells 26 (Dyn.cs ⟨[], a1, a5, a2, a0, a3, 24 * a4, a6, a7 * 64⟩ (ov o i))) ∧ Own g' (s + 2) n' 3 ii o ((nd.take i).map msk) ∧ s + 2 ≤ n') ?_ ?_ none ⟨rfl, by simp (disch := omega) only [upd_same, upd_ne]; rfl, rfl, by omega⟩
    · rintro i o σ gl nl hlt ⟨k10, hg, ho, hn⟩ ih
      refine w_keep (i := 10) k10 ?_
      obtain ⟨x, hx⟩ : ∃ x, nd[i]? = some x := ⟨_, List.getElem?_eq_getElem (by omega)⟩
      have hlen : ((nd.take i).map msk).length = i := by simp; omega
      have hsn : (nd.take (i + 1)).map msk = (nd.take i).map msk ++ [msk x] := by rw [List.take_add_one, hx]; simp
      have hmx : IntKind.i64.wrap ((BitVec.ofInt IntKind.i64.bits x &&& BitVec.ofInt IntKind.i64.bits 1099511627775).toNat : Nat) = msk x := rfl
      cases o with
      | none =>
        have hi0 : i = 0 := by have h : (nd.take i).map msk = [] := ho; rw [h] at hlen; simpa using hlen.symm
        subst hi0
        simp only [ov] at hg
        repeat' (first
          | ((with_reducible apply g_op); first
            | ((with_reducible apply g_load); first
              | ((with_reducible apply w_fl (v := .int _ _)); exact rfl; exact (fun _ => rfl); assumption; exact rfl)
              | ((with_reducible apply w_load (v := .slice _ _ _)); exact rfl; (first | assumption | (simp (disch := omega) only [upd_same, upd_ne]; first | done | assumption | exact rfl) | exact rfl); exact rfl))
            | ((with_reducible apply g_move); first
              | ((with_reducible apply w_pure (v := .int _ _)); exact rfl; exact rfl)
              | ((with_reducible apply w_pure (v := .bool _)); exact rfl; exact rfl)
              | ((with_reducible apply w_pure (v := .func _ _ _)); exact rfl; exact rfl))
            | ((with_reducible apply g_bin); first
              | ((with_reducible apply w_wrap); exact rfl; exact rfl; first | exact i64_in _ (by omega) | exact u64_in _ (by omega) | exact u8_in _ (by omega))
              | ((with_reducible apply w_pure (v := .bool _)); exact rfl; exact rfl)
              | ((with_reducible apply w_pure (v := .int _ _)); exact rfl; exact rfl))
            | ((with_reducible apply g_fld); first
              | ((with_reducible apply w_fldp (o := 0)); exact rfl; exact rfl; exact rfl; exact (by decide)))
            | ((with_reducible apply g_pick); first
              | ((with_reducible apply w_pk1 (v := .bool _)); exact rfl; exact rfl; (first | assumption | exact decide_eq_true (by assumption) | exact decide_eq_false (by assumption) | exact decide_eq_true (by omega) | exact decide_eq_false (by omega) | exact beq_iff_eq.2 (by omega) | exact beq_eq_false_iff_ne.2 (by omega) | exact bne_iff_ne.2 (by omega) | exact bne_eq_false_iff_eq.2 (by omega))))
            | ((with_reducible apply g_assign); first
              | ((with_reducible apply w_pure (v := .int _ _)); exact rfl; exact rfl))
            | ((with_reducible apply g_call); first
              | ((with_reducible apply w_call (v := .int _ _)); exact rfl)
              | ((with_reducible apply w_app0 (ns := [_])); exact rfl; exact rfl; exact rfl; exact rfl; exact rfl; exact rfl; (first | assumption | (simp (disch := omega) only [upd_same, upd_ne]; first | done | assumption | exact rfl) | exact rfl); exact rfl; exact rfl; exact (by decide); exact ⟨by decide, by decide⟩))
            | ((with_reducible apply g_store); first
              | ((with_reducible apply w_store (us := [.slice _ _ _]) (ws := [_, _, _, _, _, _, _, _, _])); exact rfl; exact rfl; (first | assumption | (simp (disch := omega) only [upd_same, upd_ne]; first | done | assumption | exact rfl) | exact rfl); omega; exact rfl; exact rfl; exact rfl))
            | ((with_reducible apply g_ix); first
              | ((with_reducible apply w_fx (sz := 1)); exact rfl; exact rfl; exact rfl; exact rfl; exact rfl; exact (fun _ => rfl); assumption; exact rfl))
            | ((with_reducible apply w_bsl (ls := [_])); exact rfl; exact rfl; exact rfl; exact ⟨by decide, rfl⟩; exact rfl))
          | ((with_reducible apply g_gd); first
            | ((with_reducible apply w_gd_t); exact rfl; all_goals (intro hc; first | (exfalso; omega) | skip)))
          | with_reducible refine w_seq ?_
          | with_reducible refine w_nil ?_
          | with_reducible refine w_region ?_
          | with_reducible refine w_skip ?_
          | with_reducible refine w_block ?_
          | with_reducible refine w_blk ?_
          | ((with_reducible apply w_draw); kernel_rfl; kernel_rfl)
          | ((with_reducible apply w_yes); exact rfl))
        refine ih (some (nl + 1)) _ _ _ (by repeat' (first | with_reducible exact Fr.mix | with_reducible exact Fr.rfl' | with_reducible refine Fr.put ?_ ?_ | with_reducible refine Fr.mix2 ?_ ?_ | with_reducible refine Fr.put0 ?_ | exact rfl)) ⟨by push_cast; rfl, ?_, ⟨by rw [hsn]; simp, by omega, by omega, ?_⟩, by omega⟩
        · simp (disch := omega) only [upd_same, upd_ne]; rfl
        · rw [hsn, ho]
          simp (disch := omega) only [upd_same, upd_ne]; rfl
      | some o =>
        simp only [ov] at hg
        repeat' (first
          | ((with_reducible apply g_op); first
            | ((with_reducible apply g_load); first
              | ((with_reducible apply w_fl (v := .int _ _)); exact rfl; exact (fun _ => rfl); assumption; exact rfl)
              | ((with_reducible apply w_load (v := .slice _ _ _)); exact rfl; (first | assumption | (simp (disch := omega) only [upd_same, upd_ne]; first | done | assumption | exact rfl) | exact rfl); exact rfl))
            | ((with_reducible apply g_move); first
              | ((with_reducible apply w_pure (v := .int _ _)); exact rfl; exact rfl)
              | ((with_reducible apply w_pure (v := .bool _)); exact rfl; exact rfl)
              | ((with_reducible apply w_pure (v := .func _ _ _)); exact rfl; exact rfl))
            | ((with_reducible apply g_bin); first
              | ((with_reducible apply w_pure (v := .bool _)); exact rfl; exact rfl)
              | ((with_reducible apply w_pure (v := .int _ _)); exact rfl; exact rfl))
            | ((with_reducible apply g_fld); first
              | ((with_reducible apply w_fldp (o := 0)); exact rfl; exact rfl; exact rfl; exact (by decide)))
            | ((with_reducible apply g_pick); first
              | ((with_reducible apply w_pk1 (v := .bool _)); exact rfl; exact rfl; (first | assumption | exact decide_eq_true (by assumption) | exact decide_eq_false (by assumption) | exact decide_eq_true (by omega) | exact decide_eq_false (by omega) | exact beq_iff_eq.2 (by omega) | exact beq_eq_false_iff_ne.2 (by omega) | exact bne_iff_ne.2 (by omega) | exact bne_eq_false_iff_eq.2 (by omega))))
            | ((with_reducible apply g_call); first
              | ((with_reducible apply w_call (v := .int _ _)); exact rfl))
            | ((with_reducible apply g_ix); first
              | ((with_reducible apply w_fx (sz := 1)); exact rfl; exact rfl; exact rfl; exact rfl; exact rfl; exact (fun _ => rfl); assumption; exact rfl))
            | ((with_reducible apply w_bsl (ls := [_])); exact rfl; exact rfl; exact rfl; exact ⟨by decide, rfl⟩; exact rfl))
          | ((with_reducible apply g_gd); first
            | ((with_reducible apply w_gd_t); exact rfl; all_goals (intro hc; first | (exfalso; omega) | skip)))
          | with_reducible refine w_seq ?_
          | with_reducible refine w_nil ?_
          | with_reducible refine w_region ?_
          | with_reducible refine w_skip ?_
          | with_reducible refine w_block ?_
          | ((with_reducible apply w_draw); kernel_rfl; kernel_rfl)
          | ((with_reducible apply w_ifd); exact rfl; all_goals (intro hc; first | (exfalso; omega) | skip)))
        refine w_own1 (enc := ii) (y := msk x) (by_ := 8) (sz := 1) (lo := s + 2) (o := some o) (xs := (nd.take i).map msk) (ho.later (by omega) (fun j h1 h2 => upd_ne (by omega))) (by rw [hlen]; rfl) rfl rfl rfl rfl rfl (fun _ => rfl) upd_same rfl rfl rfl (by omega) (by omega) ?_
        intro g' h1 h2 h3
        rw [← hsn] at h3 ⊢
        have hlen1 : ((nd.take (i + 1)).map msk).length = i + 1 := by simp; omega
        rw [hlen1]
        simp only [ov]
        have ho2 := ho.2.1
        have hgs : g' (s + 1) = some (.cells 26 (Dyn.cs ⟨[], a1, a5, a2, a0, a3, 24 * a4, a6, a7 * 64⟩ (slc o 0 i))) := by
          rw [h1 (s + 1) (by omega) (by simp; omega), upd_ne (by omega)]; exact hg
        repeat' (first
          | ((with_reducible apply g_op); first
            | ((with_reducible apply g_move); first
              | ((with_reducible apply w_pure (v := .int _ _)); exact rfl; exact rfl))
            | ((with_reducible apply g_bin); first
              | ((with_reducible apply w_wrap); exact rfl; exact rfl; first | exact i64_in _ (by omega) | exact u64_in _ (by omega) | exact u8_in _ (by omega)))
            | ((with_reducible apply g_fld); first
              | ((with_reducible apply w_fldp (o := 0)); exact rfl; exact rfl; exact rfl; exact (by decide)))
            | ((with_reducible apply g_assign); first
              | ((with_reducible apply w_pure (v := .int _ _)); exact rfl; exact rfl))
            | ((with_reducible apply g_store); first
              | ((with_reducible apply w_store (us := [.slice _ _ _]) (ws := [_, _, _, _, _, _, _, _, _])); exact rfl; exact rfl; (first | assumption | (simp (disch := omega) only [upd_same, upd_ne]; first | done | assumption | exact rfl) | exact rfl); omega; exact rfl; exact rfl; exact rfl)))
          | with_reducible refine w_nil ?_
          | with_reducible refine w_region ?_
          | with_reducible refine w_blk ?_)
        refine ih (some (nl + 1)) _ _ _ (by repeat' (first | with_reducible exact Fr.mix | with_reducible exact Fr.rfl' | with_reducible refine Fr.put ?_ ?_ | with_reducible refine Fr.mix2 ?_ ?_ | with_reducible refine Fr.put0 ?_ | exact rfl)) ⟨by push_cast; rfl, ?_, h3.later (by omega) (fun j h1 h2 => upd_ne (by omega)), by omega⟩
        simp (disch := omega) only [upd_same, upd_ne]; rfl
    · rintro o σ gl nl ⟨k10, hg, ho, hn⟩
      refine w_keep (i := 10) k10 ?_
      repeat' (first
        | ((with_reducible apply g_op); first
          | ((with_reducible apply g_move); first
            | ((with_reducible apply w_pure (v := .int _ _)); exact rfl; exact rfl)
            | ((with_reducible apply w_pure (v := .bool _)); exact rfl; exact rfl)
            | ((with_reducible apply w_pure (v := .func _ _ _)); exact rfl; exact rfl))
          | ((with_reducible apply g_bin); first
            | ((with_reducible apply w_pure (v := .bool _)); exact rfl; exact rfl))
          | ((with_reducible apply g_pick); first
            | ((with_reducible apply w_pk1 (v := .bool _)); exact rfl; exact rfl; (first | assumption | exact decide_eq_true (by assumption) | exact decide_eq_false (by assumption) | exact decide_eq_true (by omega) | exact decide_eq_false (by omega) | exact beq_iff_eq.2 (by omega) | exact beq_eq_false_iff_ne.2 (by omega) | exact bne_iff_ne.2 (by omega) | exact bne_eq_false_iff_eq.2 (by omega)))
            | ((with_reducible apply w_pk0 (v := .bool _)); exact rfl; exact rfl; (first | assumption | exact decide_eq_true (by assumption) | exact decide_eq_false (by assumption) | exact decide_eq_true (by omega) | exact decide_eq_false (by omega) | exact beq_iff_eq.2 (by omega) | exact beq_eq_false_iff_ne.2 (by omega) | exact bne_iff_ne.2 (by omega) | exact bne_eq_false_iff_eq.2 (by omega))))
          | ((with_reducible apply g_call); first
            | ((with_reducible apply w_call (v := .int _ _)); exact rfl)))
        | ((with_reducible apply g_gd); first
          | ((with_reducible apply w_gd_t); exact rfl; all_goals (intro hc; first | (exfalso; omega) | skip)))
        | with_reducible refine w_seq ?_
        | with_reducible refine w_nil ?_
        | with_reducible refine w_region ?_
        | ((with_reducible apply w_exit); exact rfl)
        | ((with_reducible apply w_no); exact rfl)
        | ((with_reducible apply w_ifd); exact rfl; all_goals (intro hc; first | (exfalso; omega) | skip)))
      all_goals exact hK _ _ _ (by repeat' (first | with_reducible exact Fr.mix | with_reducible exact Fr.rfl' | with_reducible refine Fr.put ?_ ?_ | with_reducible refine Fr.mix2 ?_ ?_ | with_reducible refine Fr.put0 ?_ | exact rfl)) ⟨o, by rw [← own_ov ho, show ((nd.take (min nd.length 64)).map msk).length = min nd.length 64 by simp]; exact hg, ho, hn⟩
  · rintro σ' gl nl ⟨o, hg, ho, hn⟩
    generalize hL : (nd.take (min nd.length 64)).map msk = L at ho hg
    have hlen : L.length = min nd.length 64 := by rw [← hL]; simp
    have hD := hok L (by omega) (by rw [← hL]; intro y hy; obtain ⟨z, _, rfl⟩ := List.mem_map.1 hy; exact msk_range z)
    generalize hDD : (⟨L, a1, a5, a2, a0, a3, 24 * a4, a6, a7 * 64⟩ : Dyn) = D at hD
    have hcs : ∀ v, Dyn.cs ⟨[], a1, a5, a2, a0, a3, 24 * a4, a6, a7 * 64⟩ v = [v, .int .i64 D.f1, .int .i64 D.f2, .int .i64 D.f3, .int .i64 D.f4, .int .i64 D.f5, .int .i64 D.f6, .int .i64 D.f7, .int .i64 D.f8] := fun v => by rw [← hDD]; rfl
    have hnd : D.nd = L := by rw [← hDD]
    rw [hcs] at hg
    have hwf : D.wf := ⟨fun x hx => by have := hD.nd x hx; omega, fun t => by have := hD.num t; omega⟩
    have hsz := bytesE_size (entsD D)
    have hel := ents_len D
    have hel2 := hD.len
    have hback := back D hD (shortS u 40)
    have hsh := short_size u
    have hcut : readS ((bytesE (entsD D)).extract 0 (((bytesE (entsD D)).size : Int) - 1).toNat) = (.zero, 17) := by
      have := cut D hD
      rw [show (((bytesE (entsD D)).size : Int) - 1).toNat = 16 * (entsD D).length - 1 by omega]
      exact this
    have hxs : ((bytesE (entsD D)).extract 0 (((bytesE (entsD D)).size : Int) - 1).toNat).size ≤ 100000000 := by rw [ByteArray.size_extract]; omega
    have hf : ∀ g1 n1, Own g1 (s + 2) n1 3 ii o L → L1.freeze Try.prog g1 tg 0 9 (.agg [.slice (raOf o) L.length L.length, .int .i64 D.f1, .int .i64 D.f2, .int .i64 D.f3, .int .i64 D.f4, .int .i64 D.f5, .int .i64 D.f6, .int .i64 D.f7, .int .i64 D.f8].toArray) = some (D.v tg) := fun g1 n1 h => by
      have := h.fz (P := Try.prog) (k := 6) (tg := tg) (lo' := 0) (by omega) rfl (by decide) (fun _ => rfl) (sn_plains (all_flat (fun _ => rfl) L))
      rw [own_ov h] at this
      rw [← hnd] at this ⊢
      exact sn_agg (sn_cons this (sn_plains rfl))
    clear hok hcs hL hDD
    refine w_env ?_
    intro τ hτ
    have k2 : τ 2 = .string u := (hτ 2).trans rfl
    have k7 : τ 7 = .bool true := (hτ 7).trans rfl
    have k9 : τ 9 = ptr (s + 1) 0 := (hτ 9).trans rfl
    clear hτ
    refine w_keep (i := 2) k2 (w_keep (i := 7) k7 (w_keep (i := 9) k9 ?_))
    obtain ⟨V0, hV0⟩ : ∃ V0, V0 = Value.slice (raOf o) L.length L.length := ⟨_, rfl⟩
    rw [← hV0] at hg hf
    repeat' (first
      | with_reducible refine w_seq ?_
      | with_reducible refine w_region ?_)
    refine w_load (v := .agg #[V0, .int .i64 D.f1, .int .i64 D.f2, .int .i64 D.f3, .int .i64 D.f4, .int .i64 D.f5, .int .i64 D.f6, .int .i64 D.f7, .int .i64 D.f8]) rfl hg rfl ?_
    refine w_rf (bytes_run D hwf (by omega)) (fun _ => rfl) (sn_cons (hf _ _ ho) sn_nil) ?_
    rintro _ rfl
    repeat' (first
      | ((with_reducible apply g_op); first
        | ((with_reducible apply g_move); first
          | ((with_reducible apply w_pure (v := .string _)); exact rfl; exact rfl))))
    refine w_rq (short_run u 40 (by decide) _ _ _) (fun _ => rfl) ?_
    rintro _ rfl
    repeat' (first
      | ((with_reducible apply g_op); first
        | ((with_reducible apply g_bin); first
          | ((with_reducible apply w_cat); exact rfl; exact rfl; exact rfl; exact rfl; exact rfl; omega))))
    refine w_rf (read_run _ (by rw [ByteArray.size_append]; omega)) (fun _ => rfl) (sn_cons (sn_plain rfl) sn_nil) ?_
    rintro _ rfl
    rw [hback]
    repeat' (first
      | ((with_reducible apply g_op); first
        | ((with_reducible apply g_move); first
          | ((with_reducible apply w_pure (v := .tuple _)); exact rfl; exact rfl))
        | ((with_reducible apply g_assign); first
          | ((with_reducible apply w_pure (v := .int _ _)); exact rfl; exact rfl))
        | ((with_reducible apply g_store); first
          | ((with_reducible apply w_store (us := [_, _, _, _, _, _, _, _, _]) (ws := [_, _, _, _, _, _, _, _, _])); exact rfl; exact rfl; (first | assumption | (simp (disch := omega) only [upd_same, upd_ne]; first | done | assumption | exact rfl) | exact rfl); omega; exact rfl; exact rfl; exact rfl))
        | ((with_reducible apply w_alloc (ls := [_, _, _, _, _, _, _, _, _])); exact rfl; exact rfl)
        | ((with_reducible apply w_pure (v := .int _ _)); exact rfl; exact rfl)
        | ((with_reducible apply w_pure (v := .agg _)); exact rfl; exact rfl))
      | with_reducible refine w_seq ?_
      | with_reducible refine w_nil ?_
      | with_reducible refine w_region ?_)
    refine w_load (v := .agg #[V0, .int .i64 D.f1, .int .i64 D.f2, .int .i64 D.f3, .int .i64 D.f4, .int .i64 D.f5, .int .i64 D.f6, .int .i64 D.f7, .int .i64 D.f8]) rfl (by simp (disch := omega) only [upd_ne]; exact hg) rfl ?_
    refine w_rf (bytes_run D hwf (by omega)) (fun _ => rfl) (sn_cons (hf _ (nl + 1) (ho.later (by omega) (fun j h1 h2 => by simp (disch := omega) only [upd_ne]))) sn_nil) ?_
    rintro _ rfl
    repeat' (first
      | ((with_reducible apply g_op); first
        | ((with_reducible apply g_move); first
          | ((with_reducible apply w_pure (v := .string _)); exact rfl; exact rfl))
        | ((with_reducible apply g_bin); first
          | ((with_reducible apply w_wrap); exact rfl; exact rfl; first | exact i64_in _ (by omega) | exact u64_in _ (by omega) | exact u8_in _ (by omega))
          | ((with_reducible apply w_pure (v := .bool _)); exact rfl; exact rfl))
        | ((with_reducible apply g_assign); first
          | ((with_reducible apply w_pure (v := .string _)); exact rfl; exact rfl))
        | ((with_reducible apply g_call); first
          | ((with_reducible apply w_call (v := .int _ _)); exact rfl))
        | ((with_reducible apply w_ssl); exact rfl; exact rfl; (first | exact num_of (by omega) | exact rfl); (first | exact num_of (by omega) | exact rfl); omega))
      | with_reducible refine w_seq ?_
      | with_reducible refine w_nil ?_
      | with_reducible refine w_region ?_
      | with_reducible refine w_skip ?_
      | ((with_reducible apply w_ifd); exact rfl; all_goals (intro hc; first | (exfalso; omega) | skip)))
    all_goals first | (exfalso; omega) | skip
    refine w_rf (read_run _ hxs) (fun _ => rfl) (sn_cons (sn_plain rfl) sn_nil) ?_
    rintro _ rfl
    rw [hcut]
    repeat' (first
      | ((with_reducible apply g_op); first
        | ((with_reducible apply g_move); first
          | ((with_reducible apply w_pure (v := .int _ _)); exact rfl; exact rfl)
          | ((with_reducible apply w_pure (v := .bool _)); exact rfl; exact rfl)
          | ((with_reducible apply w_pure (v := .tuple _)); exact rfl; exact rfl))
        | ((with_reducible apply g_bin); first
          | ((with_reducible apply w_pure (v := .bool _)); exact rfl; exact rfl))
        | ((with_reducible apply g_assign); first
          | ((with_reducible apply w_pure (v := .int _ _)); exact rfl; exact rfl))
        | ((with_reducible apply g_store); first
          | ((with_reducible apply w_store (us := [_, _, _, _, _, _, _, _, _]) (ws := [_, _, _, _, _, _, _, _, _])); exact rfl; exact rfl; (first | assumption | (simp (disch := omega) only [upd_same, upd_ne]; first | done | assumption | exact rfl) | exact rfl); omega; exact rfl; exact rfl; exact rfl))
        | ((with_reducible apply w_alloc (ls := [_, _, _, _, _, _, _, _, _])); exact rfl; exact rfl)
        | ((with_reducible apply w_pure (v := .int _ _)); exact rfl; exact rfl)
        | ((with_reducible apply w_pure (v := .bool _)); exact rfl; exact rfl)
        | ((with_reducible apply w_pure (v := .agg _)); exact rfl; exact rfl))
      | ((with_reducible apply g_gd); first
        | ((with_reducible apply w_want); exact rfl))
      | with_reducible refine w_seq ?_
      | with_reducible refine w_nil ?_
      | with_reducible refine w_region ?_)
    refine w_load (v := .agg #[iv #[] D.nd, .int .i64 D.f1, .int .i64 D.f2, .int .i64 D.f3, .int .i64 D.f4, .int .i64 D.f5, .int .i64 D.f6, .int .i64 D.f7, .int .i64 D.f8]) rfl (by simp (disch := omega) only [upd_same, upd_ne]; rfl) rfl ?_
    repeat' (first
      | ((with_reducible apply g_gd); first
        | ((with_reducible apply w_want); exact rfl)))
    refine w_load (v := .agg #[V0, .int .i64 D.f1, .int .i64 D.f2, .int .i64 D.f3, .int .i64 D.f4, .int .i64 D.f5, .int .i64 D.f6, .int .i64 D.f7, .int .i64 D.f8]) rfl (by simp (disch := omega) only [upd_ne]; exact hg) rfl ?_
    repeat' (first
      | ((with_reducible apply g_gd); first
        | ((with_reducible apply w_want); exact rfl)))
    refine w_rf (same_run D D (by omega) (by omega)) (fun _ => rfl) (sn_cons (sn_agg (l := [_, _, _, _, _, _, _, _, _]) (sn_cons iv_sn (sn_plains rfl))) (sn_cons (hf _ (nl + 1 + 1) (ho.later (by omega) (fun j h1 h2 => by simp (disch := omega) only [upd_ne]))) sn_nil)) ?_
    rintro _ rfl
    rw [decide_eq_true rfl]
    repeat' (first
      | ((with_reducible apply g_op); first
        | ((with_reducible apply g_move); first
          | ((with_reducible apply w_pure (v := .int _ _)); exact rfl; exact rfl)
          | ((with_reducible apply w_pure (v := .bool _)); exact rfl; exact rfl))
        | ((with_reducible apply g_bin); first
          | ((with_reducible apply w_pure (v := .bool _)); exact rfl; exact rfl))
        | ((with_reducible apply g_pick); first
          | ((with_reducible apply w_pk1 (v := .bool _)); exact rfl; exact rfl; (first | assumption | exact decide_eq_true (by assumption) | exact decide_eq_false (by assumption) | exact decide_eq_true (by omega) | exact decide_eq_false (by omega) | exact beq_iff_eq.2 (by omega) | exact beq_eq_false_iff_ne.2 (by omega) | exact bne_iff_ne.2 (by omega) | exact bne_eq_false_iff_eq.2 (by omega))))
        | ((with_reducible apply g_assign); first
          | ((with_reducible apply w_pure (v := .bool _)); exact rfl; exact rfl))
        | ((with_reducible apply w_pure (v := .bool _)); exact rfl; exact rfl))
      | ((with_reducible apply g_gd); first
        | ((with_reducible apply w_want); exact rfl))
      | with_reducible refine w_nil ?_
      | ((with_reducible apply w_ret (v := .bool _)); exact rfl))
    all_goals first | rfl | trace_state
theorem proved (x0 : List Int) (x1 : Int × Int × Int × Int × Int × Int × Int) (x2 : ByteArray) {q : Prop} (w0 : wfL (wfI .i64) x0) (w1 : q) (w2 : wfT x2) : Rn Try.prog tab 3 [fz tg x0.length (x0.flatMap (kInt .i64).enc), .agg ((kPair (kInt .i64) (kPair (kInt .i64) (kPair (kInt .i64) (kPair (kInt .i64) (kPair (kInt .i64) (kPair (kInt .i64) (kInt .i64))))))).enc x1).toArray, .string x2] (fun _ => none) 0 0 (fun v _ _ => v = .bool true) := by
  obtain ⟨q0, q1, q2, q3, q4, q5, q6⟩ := x1
  exact walk x0 q0 q1 q2 q3 q4 q5 q6 x2 w0.1 w2 _ 0
end Go.Proofs.Ytffgdfoeeaoonaa.L.DynamicBack

