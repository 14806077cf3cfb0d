/- StackPlaces: walked, and its plain law. -/
import Derived.Test.Ytkpofbkedolhnaac17F
import Derived.Test.YtkpofbkedolhnaarefG
import Derived.Test.YtkpofbkedolhnaarefT
import Derived.Test.YtkpofbkedolhnaaL1W
namespace Go.Proofs.Ytkpofbkedolhnaa.L.StackPlaces
open Go.L1 Go.IntWalk Go.Proofs.Ytkpofbkedolhnaa.L Stk Oct
set_option linter.unusedVariables false
set_option linter.unusedSimpArgs false
set_option maxHeartbeats 4000000
set_option maxRecDepth 20000
def tab : Tb := L.T
theorem tabok : ∀ C : Cx, C.P = Try.prog → TbOk C tab := L.tabok
theorem has_app (a b : ByteArray) (c : UInt8) : has (a ++ b) c = (has a c || has b c) := by unfold has; rw [data_app, List.any_append]
theorem has_one (q : Int) (h : 97 ≤ q ∧ q ≤ 104) : has (nums [q]) 0 = false := by
  unfold has
  rw [nums_data]
  show (UInt8.ofNat q.toNat == 0 || false) = false
  rw [Bool.or_false]
  obtain ⟨k, rfl⟩ : ∃ k : Nat, q = k := ⟨q.toNat, by omega⟩
  rw [Int.toNat_natCast]
  have h2 : k = 97 ∨ k = 98 ∨ k = 99 ∨ k = 100 ∨ k = 101 ∨ k = 102 ∨ k = 103 ∨ k = 104 := by omega
  rcases h2 with rfl | rfl | rfl | rfl | rfl | rfl | rfl | rfl <;> rfl
theorem tx_le : ∀ l : List ByteArray, (∀ t ∈ l, t.size ≤ 20) → txN l ≤ 21 * l.length
  | [], _ => Nat.le_refl _
  | s :: r, h => by
    have := tx_le r (fun t ht => h t (List.mem_cons_of_mem _ ht))
    have := h s (List.mem_cons_self ..)
    rw [txN, List.length_cons]; omega
set_option maxHeartbeats 0 in
theorem walk (x : Int) (long : List Int) (g : Nat → Option Ob) (s0 : Nat) : Rn Try.prog T 6 [.int .i64 x, fz tg long.length (long.flatMap (kInt .i64).enc)] g s0 s0 (fun v _ _ => v = .bool true) := by
  refine c_open Try.func6 rfl rfl rfl rfl rfl rfl ?_
  repeat' (first
    | ((with_reducible apply g_op); first
      | ((with_reducible apply g_assign); first
        | ((with_reducible apply w_pure (v := .bool _)); exact rfl; exact rfl)))
    | with_reducible refine w_seq ?_
    | with_reducible refine w_nil ?_
    | with_reducible refine w_region ?_)
  refine w_rf awake_run (fun _ => rfl) sn_nil ?_
  rintro v rfl
  have hy8 : 0 ≤ x % 64 ∧ x % 64 < 64 := ⟨Int.emod_nonneg _ (by decide), Int.emod_lt_of_pos _ (by decide)⟩
  repeat' (first
    | ((with_reducible apply g_op); first
      | ((with_reducible apply g_move); first
        | ((with_reducible apply w_pure (v := .int _ _)); exact rfl; exact rfl))
      | ((with_reducible apply g_bin); first
        | ((with_reducible apply w_and (j := 6) (c1 := 64)); exact rfl; exact rfl; exact rfl; exact rfl; exact rfl; exact (by decide); exact (by decide); exact (by decide))
        | ((with_reducible apply w_wrap); exact rfl; exact rfl; first | exact i64_in _ (by omega) | exact u64_in _ (by omega) | exact u8_in _ (by omega)))
      | ((with_reducible apply g_assign); first
        | ((with_reducible apply w_pure (v := .int _ _)); exact rfl; exact rfl)
        | ((with_reducible apply w_pure (v := .bool _)); exact rfl; exact rfl)
        | ((with_reducible apply w_pure (v := .slice _ _ _)); exact rfl; exact rfl)))
    | with_reducible refine w_seq ?_
    | with_reducible refine w_nil ?_
    | with_reducible refine w_region ?_)
  refine w_meetK [(7, 10), (27, 58)] (fun σ' g' n' => ∃ (a : List ByteArray) (o : Option Nat), σ' 7 = .slice (raOf o) a.length a.length ∧ Own g' s0 n' 9 ts o a ∧ a.length ≤ 8 ∧ (∀ t ∈ a, has t 0 = false ∧ t.size ≤ 20) ∧ s0 ≤ n') ?_ ?_
  · intro K R hK
    repeat' (first
      | with_reducible refine w_block ?_)
    refine w_cntK [(7, 10), (27, 58)] (min long.length 8) (fun i (b : List ByteArray × Option Nat) σ g' n' => σ 7 = ov b.2 i ∧ σ 8 = .int .i64 (i : Nat) ∧ Own g' s0 n' 9 ts b.2 b.1 ∧ b.1.length = i ∧ (∀ t ∈ b.1, has t 0 = false ∧ t.size ≤ 20) ∧ s0 ≤ n') ?_ ?_ ([], none) ⟨rfl, rfl, rfl, rfl, fun t ht => (by cases ht), Nat.le_refl _⟩
    · rintro i ⟨b, o⟩ σ gl nl hlt ⟨k7, k8, ho, hbl, hb, hn⟩ ih
      dsimp only at k7 ho hbl hb
      obtain ⟨v, hv⟩ : ∃ v, long[i]? = some v := ⟨_, List.getElem?_eq_getElem (by omega)⟩
      have hv' : long[((i : Int)).toNat]? = some v := hv
      obtain ⟨M, hM, hM9⟩ := rest v 20 (by decide) (by decide)
      refine w_keep (i := 8) k8 ?_
      refine w_keep (i := 7) k7 ?_
      repeat' (first
        | ((with_reducible apply g_op); first
          | ((with_reducible apply g_move); first
            | ((with_reducible apply w_pure (v := .int _ _)); exact rfl; exact rfl)
            | ((with_reducible apply w_pure (v := .bool _)); exact rfl; exact rfl)
            | ((with_reducible apply w_pure (v := .func _ _ _)); exact rfl; exact rfl))
          | ((with_reducible apply g_bin); first
            | ((with_reducible apply w_pure (v := .bool _)); exact rfl; exact rfl))
          | ((with_reducible apply g_pick); first
            | ((with_reducible apply w_pk1 (v := .bool _)); exact rfl; exact rfl; (first | assumption | exact decide_eq_true (by assumption) | exact decide_eq_false (by assumption) | exact decide_eq_true (by omega) | exact decide_eq_false (by omega) | exact beq_iff_eq.2 (by omega) | exact beq_eq_false_iff_ne.2 (by omega) | exact bne_iff_ne.2 (by omega) | exact bne_eq_false_iff_eq.2 (by omega))))
          | ((with_reducible apply g_call); first
            | ((with_reducible apply w_call (v := .int _ _)); exact rfl)))
        | ((with_reducible apply g_gd); first
          | ((with_reducible apply w_gd_t); exact rfl; all_goals (intro hc; first | (exfalso; omega) | skip)))
        | with_reducible refine w_seq ?_
        | with_reducible refine w_nil ?_
        | with_reducible refine w_region ?_
        | with_reducible refine w_skip ?_
        | ((with_reducible apply w_ifd); exact rfl; all_goals (intro hc; first | (exfalso; omega) | skip)))
      refine w_block ?_
      repeat' (first
        | ((with_reducible apply g_op); first
          | ((with_reducible apply g_assign); first
            | ((with_reducible apply w_pure (v := .int _ _)); exact rfl; exact rfl)
            | ((with_reducible apply w_pure (v := .string _)); exact rfl; exact rfl)))
        | with_reducible refine w_seq ?_
        | with_reducible refine w_nil ?_
        | with_reducible refine w_region ?_)
      refine w_meetK [(9, 10), (37, 54)] (fun σ' g' n' => ∃ s : ByteArray, σ' 9 = .string s ∧ has s 0 = false ∧ s.size ≤ 20 ∧ (∀ j, j < nl → g' j = gl j) ∧ nl ≤ n') ?_ ?_
      · intro K2 R2 hK2
        repeat' (first
          | with_reducible refine w_block ?_)
        refine w_cntK [(9, 10), (37, 54)] M (fun k (s : ByteArray) σ g' n' => σ 9 = .string s ∧ σ 10 = .int .i64 (k : Nat) ∧ has s 0 = false ∧ s.size = k ∧ (∀ j, j < nl → g' j = gl j) ∧ nl ≤ n') ?_ ?_ ⟨#[]⟩ ⟨rfl, rfl, rfl, rfl, fun _ _ => rfl, Nat.le_refl _⟩
        · rintro k s σ2 g2 n2 hlt2 ⟨k9, k10, hs0, hsz, hg2, hn2⟩ ih2
          have h97 := has_one (97 + (i : Int)) (by omega)
          have hn97 : (nums [97 + (i : Int)]).size = 1 := by rw [nums_size]; rfl
          refine w_keep (i := 9) k9 (w_keep (i := 10) k10 ?_)
          repeat' (first
            | ((with_reducible apply g_op); first
              | ((with_reducible apply g_load); first
                | ((with_reducible apply w_fl (v := .int _ _)); exact rfl; exact (fun _ => rfl); assumption; exact rfl))
              | ((with_reducible apply g_move); first
                | ((with_reducible apply w_pure (v := .int _ _)); exact rfl; exact rfl)
                | ((with_reducible apply w_pure (v := .string _)); exact rfl; exact rfl)
                | ((with_reducible apply w_pure (v := .func _ _ _)); exact rfl; exact rfl))
              | ((with_reducible apply g_bin); first
                | ((with_reducible apply w_wrap); exact rfl; exact rfl; first | exact i64_in _ (by omega) | exact u64_in _ (by omega) | exact u8_in _ (by omega))
                | ((with_reducible apply w_pure (v := .bool _)); exact rfl; exact rfl)
                | ((with_reducible apply w_pure (v := .int _ _)); exact rfl; exact rfl))
              | ((with_reducible apply w_conv); exact rfl; exact rfl; exact rfl; first | exact i64_in _ (by omega) | exact u64_in _ (by omega) | exact u8_in _ (by omega) | exact u32_in _ (by omega))
              | ((with_reducible apply g_ix); first
                | ((with_reducible apply w_fx (sz := 1)); exact rfl; exact rfl; exact rfl; exact rfl; exact rfl; exact (fun _ => rfl); assumption; exact rfl))
              | ((with_reducible apply w_bsl (ls := [_])); exact rfl; exact rfl; exact rfl; exact ⟨by decide, rfl⟩; exact rfl))
            | with_reducible refine w_seq ?_
            | with_reducible refine w_nil ?_
            | with_reducible refine w_region ?_
            | with_reducible refine w_skip ?_
            | with_reducible refine w_block ?_
            | ((with_reducible apply w_ifd); exact rfl; all_goals (intro hc; first | (exfalso; omega) | skip)))
          refine w_b2s (ns := [97 + (i : Int)]) rfl rfl rfl rfl upd_same rfl ?_
          repeat' (first
            | ((with_reducible apply g_op); first
              | ((with_reducible apply g_move); first
                | ((with_reducible apply w_pure (v := .int _ _)); exact rfl; exact rfl))
              | ((with_reducible apply g_bin); first
                | ((with_reducible apply w_cat); exact rfl; exact rfl; exact rfl; exact rfl; exact rfl; omega)
                | ((with_reducible apply w_wrap); exact rfl; exact rfl; first | exact i64_in _ (by omega) | exact u64_in _ (by omega) | exact u8_in _ (by omega)))
              | ((with_reducible apply g_assign); first
                | ((with_reducible apply w_pure (v := .int _ _)); exact rfl; exact rfl)
                | ((with_reducible apply w_pure (v := .string _)); exact rfl; exact rfl)))
            | with_reducible refine w_nil ?_
            | with_reducible refine w_region ?_
            | with_reducible refine w_blk ?_)
          exact ih2 (s ++ nums [97 + (i : Int)]) _ _ _ (by repeat' (first | with_reducible exact Fr.mix | with_reducible exact Fr.rfl' | with_reducible refine Fr.put ?_ ?_ | with_reducible refine Fr.mix2 ?_ ?_ | with_reducible refine Fr.put0 ?_ | exact rfl)) ⟨rfl, rfl, by rw [has_app, hs0, h97]; rfl, by rw [ByteArray.size_append, hn97, hsz], fun j hj => by rw [upd_ne (by omega)]; exact hg2 j hj, by omega⟩
        · rintro s σ2 g2 n2 ⟨k9, k10, hs0, hsz, hg2, hn2⟩
          refine w_keep (i := 9) k9 (w_keep (i := 10) k10 ?_)
          repeat' (first
            | ((with_reducible apply g_op); first
              | ((with_reducible apply g_load); first
                | ((with_reducible apply w_fl (v := .int _ _)); exact rfl; exact (fun _ => rfl); assumption; exact rfl))
              | ((with_reducible apply g_move); first
                | ((with_reducible apply w_pure (v := .int _ _)); exact rfl; exact rfl)
                | ((with_reducible apply w_pure (v := .func _ _ _)); exact rfl; exact rfl))
              | ((with_reducible apply g_bin); first
                | ((with_reducible apply w_pure (v := .bool _)); exact rfl; exact rfl)
                | ((with_reducible apply w_pure (v := .int _ _)); exact rfl; exact rfl))
              | ((with_reducible apply g_ix); first
                | ((with_reducible apply w_fx (sz := 1)); exact rfl; exact rfl; exact rfl; exact rfl; exact rfl; exact (fun _ => rfl); assumption; exact rfl)))
            | with_reducible refine w_seq ?_
            | with_reducible refine w_nil ?_
            | with_reducible refine w_region ?_
            | ((with_reducible apply w_exit); exact rfl)
            | ((with_reducible apply w_ifd); exact rfl; all_goals (intro hc; first | (exfalso; omega) | skip)))
          all_goals first | (exfalso; omega) | skip
          all_goals exact hK2 _ _ _ (by repeat' (first | with_reducible exact Fr.mix | with_reducible exact Fr.rfl' | with_reducible refine Fr.put ?_ ?_ | with_reducible refine Fr.mix2 ?_ ?_ | with_reducible refine Fr.put0 ?_ | exact rfl)) ⟨s, rfl, hs0, by omega, hg2, hn2⟩
      rintro σ2 g2 n2 ⟨s, k9, hs0, hsz, hg2, hn2⟩
      refine w_keep (i := 9) k9 ?_
      have ho2 := ho.later hn2 (fun j h1 h2 => hg2 j h2)
      have hbs : (b ++ [s]).length = i + 1 := by rw [List.length_append, hbl]; rfl
      have hall : ∀ t ∈ b ++ [s], has t 0 = false ∧ t.size ≤ 20 := by
        intro t ht
        rcases List.mem_append.1 ht with h | h
        · exact hb t h
        · rw [List.mem_singleton.1 h]; exact ⟨hs0, hsz⟩
      cases o with
      | none =>
        have hb0 : b = [] := own_none ho
        subst hb0
        have hi0 : i = 0 := hbl.symm
        subst hi0
        repeat' (first
          | ((with_reducible apply g_op); first
            | ((with_reducible apply g_move); first
              | ((with_reducible apply w_pure (v := .int _ _)); exact rfl; exact rfl)
              | ((with_reducible apply w_pure (v := .slice _ _ _)); exact rfl; exact rfl)
              | ((with_reducible apply w_pure (v := .string _)); exact rfl; exact rfl))
            | ((with_reducible apply g_bin); first
              | ((with_reducible apply w_wrap); exact rfl; exact rfl; first | exact i64_in _ (by omega) | exact u64_in _ (by omega) | exact u8_in _ (by omega)))
            | ((with_reducible apply g_assign); first
              | ((with_reducible apply w_pure (v := .int _ _)); exact rfl; exact rfl)
              | ((with_reducible apply w_pure (v := .slice _ _ _)); exact rfl; exact rfl))
            | ((with_reducible apply g_call); first
              | ((with_reducible apply w_app0 (ns := [_])); exact rfl; exact rfl; exact rfl; exact rfl; exact rfl; exact rfl; (first | assumption | (simp (disch := omega) only [upd_same, upd_ne]; first | done | assumption | exact rfl) | exact rfl); exact rfl; exact rfl; exact (by decide); exact ⟨by decide, by decide⟩))
            | ((with_reducible apply w_bsl (ls := [_])); exact rfl; exact rfl; exact rfl; exact ⟨by decide, rfl⟩; exact rfl))
          | with_reducible refine w_nil ?_
          | with_reducible refine w_region ?_
          | with_reducible refine w_blk ?_)
        refine ih ([s], some (n2 + 1)) _ _ _ (by repeat' (first | with_reducible exact Fr.mix | with_reducible exact Fr.rfl' | with_reducible refine Fr.put ?_ ?_ | with_reducible refine Fr.mix2 ?_ ?_ | with_reducible refine Fr.put0 ?_ | exact rfl)) ⟨rfl, rfl, ⟨by simp, by omega, by omega, ?_⟩, rfl, hall, by omega⟩
        simp (disch := omega) only [upd_same, upd_ne]
        rfl
      | some o =>
        repeat' (first
          | ((with_reducible apply g_op); first
            | ((with_reducible apply g_move); first
              | ((with_reducible apply w_pure (v := .slice _ _ _)); exact rfl; exact rfl)
              | ((with_reducible apply w_pure (v := .string _)); exact rfl; exact rfl))
            | ((with_reducible apply w_bsl (ls := [_])); exact rfl; exact rfl; exact rfl; exact ⟨by decide, rfl⟩; exact rfl))
          | with_reducible refine w_region ?_)
        refine w_own1 (enc := ts) (y := s) (by_ := 16) (sz := 1) (lo := s0) (o := some o) (xs := b) (ho2.later (by omega) (fun j h1 h2 => upd_ne (by omega))) (by rw [hbl]; rfl) rfl rfl rfl rfl rfl (fun _ => rfl) upd_same rfl rfl rfl (by omega) (by omega) ?_
        intro g' h1 h2 h3
        repeat' (first
          | ((with_reducible apply g_op); first
            | ((with_reducible apply g_move); first
              | ((with_reducible apply w_pure (v := .int _ _)); exact rfl; exact rfl))
            | ((with_reducible apply g_bin); first
              | ((with_reducible apply w_wrap); exact rfl; exact rfl; first | exact i64_in _ (by omega) | exact u64_in _ (by omega) | exact u8_in _ (by omega)))
            | ((with_reducible apply g_assign); first
              | ((with_reducible apply w_pure (v := .int _ _)); exact rfl; exact rfl)
              | ((with_reducible apply w_pure (v := .slice _ _ _)); exact rfl; exact rfl)))
          | with_reducible refine w_nil ?_
          | with_reducible refine w_region ?_
          | with_reducible refine w_blk ?_)
        exact ih (b ++ [s], some (n2 + 1)) _ _ _ (by repeat' (first | with_reducible exact Fr.mix | with_reducible exact Fr.rfl' | with_reducible refine Fr.put ?_ ?_ | with_reducible refine Fr.mix2 ?_ ?_ | with_reducible refine Fr.put0 ?_ | exact rfl)) ⟨congrArg (fun q => slc (n2 + 1) 0 q) hbs, rfl, h3, hbs, hall, by omega⟩
    · rintro ⟨b, o⟩ σ gl nl ⟨k7, k8, ho, hbl, hb, hn⟩
      dsimp only at k7 ho hbl hb
      have h7 := own_ov ho
      rw [hbl] at h7
      rw [h7] at k7
      refine w_keep (i := 7) k7 (w_keep (i := 8) k8 ?_)
      repeat' (first
        | ((with_reducible apply g_op); first
          | ((with_reducible apply g_move); first
            | ((with_reducible apply w_pure (v := .int _ _)); exact rfl; exact rfl)
            | ((with_reducible apply w_pure (v := .bool _)); exact rfl; exact rfl)
            | ((with_reducible apply w_pure (v := .func _ _ _)); exact rfl; exact rfl))
          | ((with_reducible apply g_bin); first
            | ((with_reducible apply w_pure (v := .bool _)); exact rfl; exact rfl))
          | ((with_reducible apply g_pick); first
            | ((with_reducible apply w_pk1 (v := .bool _)); exact rfl; exact rfl; (first | assumption | exact decide_eq_true (by assumption) | exact decide_eq_false (by assumption) | exact decide_eq_true (by omega) | exact decide_eq_false (by omega) | exact beq_iff_eq.2 (by omega) | exact beq_eq_false_iff_ne.2 (by omega) | exact bne_iff_ne.2 (by omega) | exact bne_eq_false_iff_eq.2 (by omega)))
            | ((with_reducible apply w_pk0 (v := .bool _)); exact rfl; exact rfl; (first | assumption | exact decide_eq_true (by assumption) | exact decide_eq_false (by assumption) | exact decide_eq_true (by omega) | exact decide_eq_false (by omega) | exact beq_iff_eq.2 (by omega) | exact beq_eq_false_iff_ne.2 (by omega) | exact bne_iff_ne.2 (by omega) | exact bne_eq_false_iff_eq.2 (by omega))))
          | ((with_reducible apply g_call); first
            | ((with_reducible apply w_call (v := .int _ _)); exact rfl)))
        | ((with_reducible apply g_gd); first
          | ((with_reducible apply w_gd_t); exact rfl; all_goals (intro hc; first | (exfalso; omega) | skip)))
        | with_reducible refine w_seq ?_
        | with_reducible refine w_nil ?_
        | with_reducible refine w_region ?_
        | ((with_reducible apply w_exit); exact rfl)
        | ((with_reducible apply w_no); exact rfl)
        | ((with_reducible apply w_ifd); exact rfl; all_goals (intro hc; first | (exfalso; omega) | skip)))
      all_goals first | (exfalso; omega) | skip
      all_goals exact hK _ _ _ (by repeat' (first | with_reducible exact Fr.mix | with_reducible exact Fr.rfl' | with_reducible refine Fr.put ?_ ?_ | with_reducible refine Fr.mix2 ?_ ?_ | with_reducible refine Fr.put0 ?_ | exact rfl)) ⟨b, o, by rw [hbl]; rfl, ho, by omega, hb, hn⟩
  rintro σ1 g1 n1 ⟨a, o, k7, ho, hal, hat, hn1⟩
  have hfz := own_tv ho
  have row := own_row ho
  obtain ⟨ra, hra⟩ : ∃ ra, raOf o = ra := ⟨_, rfl⟩
  rw [hra] at k7 hfz row
  have htx := tx_le a (fun t ht => (hat t ht).2)
  have hmay := may_texts a (fun t ht => (hat t ht).1)
  have hz : szN a [] [] = (8 * (5 + a.length) + txN a + 15) / 16 * 16 := by unfold szN; simp [txN]
  obtain ⟨T0, hT0⟩ : ∃ T0 : Int, 2048 + 16 * (x % 64) = T0 := ⟨_, rfl⟩
  obtain ⟨S, hS1, hS2, hS3⟩ := buildV_ok T0 a [] [] (by omega) hmay (by omega)
  obtain ⟨hp1, hp2⟩ := places T0 a S hS3 (by omega) (by omega)
  refine w_keep (i := 7) k7 ?_
  refine w_env ?_
  intro τ hτ
  have k5 : τ 5 = .bool true := (hτ 5).trans rfl
  have k6 : τ 6 = .int .i64 T0 := (hτ 6).trans (congrArg (Value.int .i64) hT0)
  have k7 : τ 7 = .slice ra a.length a.length := (hτ 7).trans rfl
  clear hτ
  refine w_keep (i := 5) k5 (w_keep (i := 6) k6 (w_keep (i := 7) k7 ?_))
  repeat' (first
    | ((with_reducible apply g_op); first
      | ((with_reducible apply g_move); first
        | ((with_reducible apply w_pure (v := .int _ _)); exact rfl; exact rfl)
        | ((with_reducible apply w_pure (v := .slice _ _ _)); exact rfl; exact rfl)))
    | with_reducible refine w_seq ?_
    | with_reducible refine w_region ?_)
  refine w_rf (build_run T0 a [] [] (by omega) (by decide) (by decide)) (fun _ => rfl) (sn_cons (sn_plain rfl) (sn_cons hfz (sn_cons sn_none (sn_cons sn_none sn_nil)))) ?_
  rintro _ rfl
  rw [hS2]
  generalize szN a [] [] = Z at *
  dsimp only
  repeat' (first
    | ((with_reducible apply g_op); first
      | ((with_reducible apply g_move); first
        | ((with_reducible apply w_pure (v := .int _ _)); exact rfl; exact rfl)
        | ((with_reducible apply w_pure (v := .bool _)); exact rfl; exact rfl)
        | ((with_reducible apply w_pure (v := .slice _ _ _)); exact rfl; exact rfl)
        | ((with_reducible apply w_pure (v := .string _)); exact rfl; exact rfl)
        | ((with_reducible apply w_pure (v := .tuple _)); exact rfl; exact rfl))
      | ((with_reducible apply g_bin); first
        | ((with_reducible apply w_wrap); exact rfl; exact rfl; first | exact i64_in _ (by omega) | exact u64_in _ (by omega) | exact u8_in _ (by omega))
        | ((with_reducible apply w_pure (v := .bool _)); exact rfl; exact rfl))
      | ((with_reducible apply g_pick); first
        | ((with_reducible apply w_pk0 (v := .bool _)); exact rfl; exact rfl; (first | assumption | exact decide_eq_true (by assumption) | exact decide_eq_false (by assumption) | exact decide_eq_true (by omega) | exact decide_eq_false (by omega) | exact beq_iff_eq.2 (by omega) | exact beq_eq_false_iff_ne.2 (by omega) | exact bne_iff_ne.2 (by omega) | exact bne_eq_false_iff_eq.2 (by omega))))
      | ((with_reducible apply g_assign); first
        | ((with_reducible apply w_pure (v := .int _ _)); exact rfl; exact rfl)
        | ((with_reducible apply w_pure (v := .string _)); exact rfl; exact rfl))
      | ((with_reducible apply g_call); first
        | ((with_reducible apply w_call (v := .int _ _)); exact rfl))
      | ((with_reducible apply w_pure (v := .int _ _)); exact rfl; exact rfl)
      | ((with_reducible apply w_pure (v := .string _)); exact rfl; exact rfl))
    | ((with_reducible apply g_gd); first
      | ((with_reducible apply w_want); exact rfl))
    | with_reducible refine w_seq ?_
    | with_reducible refine w_nil ?_
    | with_reducible refine w_region ?_
    | with_reducible refine w_skip ?_
    | ((with_reducible apply w_ifn); exact rfl; all_goals (intro hc; first | (exfalso; omega) | skip)))
  all_goals first | (exfalso; omega) | skip
  refine w_block ?_
  refine w_env ?_
  intro τ2 hτ
  have k5 : τ2 5 = .bool true := (hτ 5).trans rfl
  have k7 : τ2 7 = .slice ra a.length a.length := (hτ 7).trans rfl
  have k11 : τ2 11 = .int .i64 (T0 - Z) := (hτ 11).trans rfl
  have k12 : τ2 12 = .string S := (hτ 12).trans rfl
  have k14 : τ2 14 = .int .i64 T0 := (hτ 14).trans rfl
  have k15 : τ2 15 = .int .i64 ((a.length : Int) - 1) := (hτ 15).trans rfl
  clear hτ
  refine w_keep (i := 5) k5 (w_keep (i := 7) k7 (w_keep (i := 11) k11 (w_keep (i := 12) k12 (w_keep (i := 14) k14 (w_keep (i := 15) k15 ?_)))))
  refine w_whileK [(4, 4), (14, 19), (80, 125)] (α := Nat) (fun j σ g' n' => σ 14 = .int .i64 (T0 - txN a + (txN (a.take j) : Nat)) ∧ σ 15 = .int .i64 ((j : Int) - 1) ∧ j ≤ a.length ∧ g1 = g' ∧ n1 = n') (fun j => j) ?_ a.length ⟨by rw [List.take_length]; show Value.int .i64 T0 = Value.int .i64 _; congr 1; omega, rfl, Nat.le_refl _, rfl, rfl⟩
  rintro j σ _ _ ⟨k14, k15, hj, rfl, rfl⟩ ih
  cases j with
  | zero =>
    refine w_keep (i := 14) k14 (w_keep (i := 15) k15 ?_)
    repeat' (first
      | ((with_reducible apply g_op); first
        | ((with_reducible apply g_move); first
          | ((with_reducible apply w_pure (v := .int _ _)); exact rfl; exact rfl)
          | ((with_reducible apply w_pure (v := .string _)); exact rfl; exact rfl))
        | ((with_reducible apply g_bin); first
          | ((with_reducible apply w_pure (v := .bool _)); exact rfl; exact rfl)))
      | with_reducible refine w_seq ?_
      | with_reducible refine w_nil ?_
      | with_reducible refine w_region ?_
      | ((with_reducible apply w_exit); exact rfl)
      | ((with_reducible apply w_no); exact rfl))
    all_goals first | (exfalso; omega) | skip
    refine w_rq (rget_run S 0 8 (by omega) _ _ _) (fun _ => rfl) ?_
    rintro _ rfl
    rw [hp1]
    dsimp only
    repeat' (first
      | ((with_reducible apply g_op); first
        | ((with_reducible apply g_move); first
          | ((with_reducible apply w_pure (v := .int _ _)); exact rfl; exact rfl)
          | ((with_reducible apply w_pure (v := .bool _)); exact rfl; exact rfl)
          | ((with_reducible apply w_pure (v := .slice _ _ _)); exact rfl; exact rfl)
          | ((with_reducible apply w_pure (v := .tuple _)); exact rfl; exact rfl))
        | ((with_reducible apply g_bin); first
          | ((with_reducible apply w_pure (v := .bool _)); exact rfl; exact rfl))
        | ((with_reducible apply g_assign); first
          | ((with_reducible apply w_pure (v := .int _ _)); exact rfl; exact rfl)
          | ((with_reducible apply w_pure (v := .bool _)); exact rfl; exact rfl))
        | ((with_reducible apply g_call); first
          | ((with_reducible apply w_call (v := .int _ _)); exact rfl))
        | ((with_reducible apply w_conv); exact rfl; exact rfl; exact rfl; first | exact i64_in _ (by omega) | exact u64_in _ (by omega) | exact u8_in _ (by omega) | exact u32_in _ (by omega))
        | ((with_reducible apply w_pure (v := .int _ _)); exact rfl; exact rfl)
        | ((with_reducible apply w_pure (v := .bool _)); exact rfl; exact rfl))
      | ((with_reducible apply g_gd); first
        | ((with_reducible apply w_want); exact rfl))
      | with_reducible refine w_seq ?_
      | with_reducible refine w_nil ?_
      | with_reducible refine w_region ?_
      | ((with_reducible apply w_ret (v := .bool _)); exact rfl))
    all_goals first | (exfalso; omega) | skip
    all_goals first | rfl | exact congrArg Value.bool (decide_eq_true rfl) | trace_state
  | succ i =>
    obtain ⟨t, ht⟩ : ∃ t, a[i]? = some t := ⟨_, List.getElem?_eq_getElem (by omega)⟩
    have ht' : a[((i : Int)).toNat]? = some t := ht
    obtain ⟨q1, q2⟩ := hp2 i t ht
    obtain ⟨ht0, hts⟩ := hat t (List.mem_of_getElem? ht)
    have q2 := q2 ht0 (by omega)
    have htk := txN_take a i t ht
    have htl := txN_le a (i + 1)
    rw [htk] at k14 htl
    rw [show (((i + 1 : Nat) : Int) - 1) = (i : Int) by omega] at k15
    rw [show ((8 * (i + 1) : Nat) : Int) = 8 * ((i : Int) + 1) by omega] at q1
    have hq : ∀ p : Int, p = (Z : Int) - txN a + (txN (a.take i) : Nat) → textV S p 1024 = (t, true) := fun p hp => by rw [hp]; exact q2
    generalize hU : txN (a.take i) = U at *
    refine w_keep (i := 14) k14 (w_keep (i := 15) k15 ?_)
    repeat' (first
      | ((with_reducible apply g_op); first
        | ((with_reducible apply g_load); first
          | ((with_reducible apply w_ld (v := .string _)); exact rfl; assumption; exact (fun _ => rfl); assumption; exact (by decide); exact rfl))
        | ((with_reducible apply g_move); first
          | ((with_reducible apply w_pure (v := .int _ _)); exact rfl; exact rfl)
          | ((with_reducible apply w_pure (v := .slice _ _ _)); exact rfl; exact rfl)
          | ((with_reducible apply w_pure (v := .string _)); exact rfl; exact rfl))
        | ((with_reducible apply g_bin); first
          | ((with_reducible apply w_wrap); exact rfl; exact rfl; first | exact i64_in _ (by omega) | exact u64_in _ (by omega) | exact u8_in _ (by omega))
          | ((with_reducible apply w_pure (v := .bool _)); exact rfl; exact rfl))
        | ((with_reducible apply g_assign); first
          | ((with_reducible apply w_pure (v := .int _ _)); exact rfl; exact rfl))
        | ((with_reducible apply g_call); first
          | ((with_reducible apply w_call (v := .int _ _)); exact rfl))
        | ((with_reducible apply g_ix); first
          | ((with_reducible apply w_ix (sz := 1)); exact rfl; exact rfl; exact rfl; exact rfl; exact (by decide); exact rfl; assumption; exact (fun _ => rfl); assumption; omega)))
      | with_reducible refine w_seq ?_
      | with_reducible refine w_nil ?_
      | with_reducible refine w_region ?_
      | with_reducible refine w_skip ?_
      | with_reducible refine w_block ?_
      | ((with_reducible apply w_yes); exact rfl))
    all_goals first | (exfalso; omega) | skip
    refine w_rq (rget_run S (8 * ((i : Int) + 1)) 8 (by omega) _ _ _) (fun _ => rfl) ?_
    rintro _ rfl
    rw [q1]
    dsimp only
    repeat' (first
      | ((with_reducible apply g_op); first
        | ((with_reducible apply g_move); first
          | ((with_reducible apply w_pure (v := .int _ _)); exact rfl; exact rfl)
          | ((with_reducible apply w_pure (v := .bool _)); exact rfl; exact rfl)
          | ((with_reducible apply w_pure (v := .string _)); exact rfl; exact rfl)
          | ((with_reducible apply w_pure (v := .tuple _)); exact rfl; exact rfl))
        | ((with_reducible apply g_bin); first
          | ((with_reducible apply w_wrap); exact rfl; exact rfl; first | exact i64_in _ (by omega) | exact u64_in _ (by omega) | exact u8_in _ (by omega))
          | ((with_reducible apply w_pure (v := .bool _)); exact rfl; exact rfl))
        | ((with_reducible apply g_assign); first
          | ((with_reducible apply w_pure (v := .int _ _)); exact rfl; exact rfl)
          | ((with_reducible apply w_pure (v := .bool _)); exact rfl; exact rfl))
        | ((with_reducible apply w_conv); exact rfl; exact rfl; exact rfl; first | exact i64_in _ (by omega) | exact u64_in _ (by omega) | exact u8_in _ (by omega) | exact u32_in _ (by omega))
        | ((with_reducible apply w_pure (v := .int _ _)); exact rfl; exact rfl)
        | ((with_reducible apply w_pure (v := .bool _)); exact rfl; exact rfl))
      | ((with_reducible apply g_gd); first
        | ((with_reducible apply w_want); exact rfl))
      | with_reducible refine w_seq ?_
      | with_reducible refine w_nil ?_
      | with_reducible refine w_region ?_
      | with_reducible refine w_skip ?_
      | ((with_reducible apply w_ifn); exact rfl; all_goals (intro hc; first | (exfalso; omega) | skip)))
    all_goals first | (exfalso; omega) | skip
    refine w_rq (rtext_int S _ 1024 (by omega) (by decide) ⟨by omega, by omega⟩ _ _ _) (fun _ => rfl) ?_
    intro v hv
    rw [hq] at hv
    · subst hv
      dsimp only
      repeat' (first
        | ((with_reducible apply g_op); first
          | ((with_reducible apply g_load); first
            | ((with_reducible apply w_ld (v := .string _)); exact rfl; assumption; exact (fun _ => rfl); assumption; exact (by decide); exact rfl))
          | ((with_reducible apply g_move); first
            | ((with_reducible apply w_pure (v := .int _ _)); exact rfl; exact rfl)
            | ((with_reducible apply w_pure (v := .bool _)); exact rfl; exact rfl)
            | ((with_reducible apply w_pure (v := .slice _ _ _)); exact rfl; exact rfl)
            | ((with_reducible apply w_pure (v := .string _)); exact rfl; exact rfl)
            | ((with_reducible apply w_pure (v := .tuple _)); exact rfl; exact rfl))
          | ((with_reducible apply g_bin); first
            | ((with_reducible apply w_wrap); exact rfl; exact rfl; first | exact i64_in _ (by omega) | exact u64_in _ (by omega) | exact u8_in _ (by omega))
            | ((with_reducible apply w_tne); exact rfl; exact rfl; exact rfl; exact rfl; exact rfl))
          | ((with_reducible apply g_assign); first
            | ((with_reducible apply w_pure (v := .int _ _)); exact rfl; exact rfl)
            | ((with_reducible apply w_pure (v := .bool _)); exact rfl; exact rfl)
            | ((with_reducible apply w_pure (v := .string _)); exact rfl; exact rfl))
          | ((with_reducible apply g_ix); first
            | ((with_reducible apply w_ix (sz := 1)); exact rfl; exact rfl; exact rfl; exact rfl; exact (by decide); exact rfl; assumption; exact (fun _ => rfl); assumption; omega))
          | ((with_reducible apply w_pure (v := .bool _)); exact rfl; exact rfl)
          | ((with_reducible apply w_pure (v := .string _)); exact rfl; exact rfl))
        | ((with_reducible apply g_gd); first
          | ((with_reducible apply w_want); exact rfl))
        | with_reducible refine w_seq ?_
        | with_reducible refine w_nil ?_
        | with_reducible refine w_region ?_
        | with_reducible refine w_skip ?_
        | with_reducible refine w_blk ?_
        | ((with_reducible apply w_ifd); exact rfl; all_goals (intro hc; first | (exfalso; omega) | skip))
        | ((with_reducible apply w_ret (v := .bool _)); exact rfl))
      all_goals first | (exfalso; omega) | exact absurd (rfl : t = t) (by assumption) | skip
      exact ih i _ _ _ (by omega) (by repeat' (first | with_reducible exact Fr.mix | with_reducible exact Fr.rfl' | with_reducible refine Fr.put ?_ ?_ | with_reducible refine Fr.mix2 ?_ ?_ | with_reducible refine Fr.put0 ?_ | exact rfl)) ⟨by show Value.int .i64 _ = Value.int .i64 _; rw [hU]; congr 1; omega, rfl, by omega, rfl, rfl⟩
    · omega
theorem proved (x0 : Int) (x1 : List Int) {p q : Prop} (w0 : p) (w1 : q) : Rn Try.prog tab 6 [.int .i64 x0, fz tg x1.length (x1.flatMap (kInt .i64).enc)] (fun _ => none) 0 0 (fun v _ _ => v = .bool true) := walk x0 x1 _ 0
end Go.Proofs.Ytkpofbkedolhnaa.L.StackPlaces

