/- needs.Round. -/
import Derived.Test.Ytgljofdhdnhekaac12I
namespace Go.Proofs.Ytgljofdhdnhekaa.L
open Go.L1 Go.IntWalk
set_option linter.unusedVariables false
set_option linter.unusedSimpArgs false
set_option maxHeartbeats 4000000
structure DS where
  op : List (ByteArray × Bool)
  dn : List (ByteArray × Bool)
  rd : Bool
def DS.isO (s : DS) (x : ByteArray) : Bool := (mget s.op x).getD false
def DS.isD (s : DS) (x : ByteArray) : Bool := (mget s.dn x).getD false
def stepIn (t : Tbl) (rec : ByteArray → DS → Option DS) (st : DS) (s : ByteArray) : Option DS := if (mget t s).isSome = false ∨ st.isD s = true then some st else if st.isO s = true then some { st with rd := true } else rec s st
def inS (t : Tbl) : Nat → ByteArray → DS → Option DS
  | 0, _, _ => none
  | f + 1, name, st => (((mget t name).getD []).foldlM (stepIn t (inS t f)) { st with op := mput st.op name true }).map fun s2 => { s2 with op := mput s2.op name false, dn := mput s2.dn name true }
structure RSt (g : Nat → Option Ob) (c nn p i : Nat) (t : Tbl) (st : DS) : Prop where
  hi : i < p
  hp : p < c
  hn : c + 6 ≤ nn
  tbl : g i = some (.map (ents Value.string (tv tg) t))
  b5 : g p = some (.cells 47 [.map (some i)])
  mo : g c = some (.map (ents Value.string Value.bool st.op))
  md : g (c + 1) = some (.map (ents Value.string Value.bool st.dn))
  bo : g (c + 2) = some (.cells 53 [.map (some c)])
  bd : g (c + 3) = some (.cells 53 [.map (some (c + 1))])
  br : g (c + 4) = some (.cells 4 [.bool st.rd])
  bi : g (c + 5) = some (.cells 54 [.func (.func 21) #[] #[ptr (c + 2) 0, ptr p 0, ptr (c + 3) 0, ptr (c + 4) 0, ptr (c + 5) 0]])
theorem RSt.setO {g : Nat → Option Ob} {c nn p i : Nat} {t : Tbl} {st : DS} (h : RSt g c nn p i t st) (o : List (ByteArray × Bool)) : RSt (upd g c (some (.map (ents Value.string Value.bool o)))) c nn p i t { st with op := o } := by
  have hi := h.hi
  have hp := h.hp
  refine ⟨h.hi, h.hp, h.hn, ?_, ?_, upd_same, ?_, ?_, ?_, ?_, ?_⟩ <;> rw [upd_ne (by omega)]
  · exact h.tbl
  · exact h.b5
  · exact h.md
  · exact h.bo
  · exact h.bd
  · exact h.br
  · exact h.bi
theorem RSt.setD {g : Nat → Option Ob} {c nn p i : Nat} {t : Tbl} {st : DS} (h : RSt g c nn p i t st) (o : List (ByteArray × Bool)) : RSt (upd g (c + 1) (some (.map (ents Value.string Value.bool o)))) c nn p i t { st with dn := o } := by
  have hi := h.hi
  have hp := h.hp
  refine ⟨h.hi, h.hp, h.hn, ?_, ?_, ?_, upd_same, ?_, ?_, ?_, ?_⟩ <;> rw [upd_ne (by omega)]
  · exact h.tbl
  · exact h.b5
  · exact h.mo
  · exact h.bo
  · exact h.bd
  · exact h.br
  · exact h.bi
theorem RSt.setR {g : Nat → Option Ob} {c nn p i : Nat} {t : Tbl} {st : DS} (h : RSt g c nn p i t st) (o : Bool) : RSt (upd g (c + 4) (some (.cells 4 [.bool o]))) c nn p i t { st with rd := o } := by
  have hi := h.hi
  have hp := h.hp
  refine ⟨h.hi, h.hp, h.hn, ?_, ?_, ?_, ?_, ?_, ?_, upd_same, ?_⟩ <;> rw [upd_ne (by omega)]
  · exact h.tbl
  · exact h.b5
  · exact h.mo
  · exact h.md
  · exact h.bo
  · exact h.bd
  · exact h.bi
theorem in_run (t : Tbl) (hB : ∀ x v, mget t x = some v → v.length ≤ 100) (c p i m : Nat) (hm : m ≤ c) : ∀ (f : Nat) (name : ByteArray) (st st' : DS), inS t f name st = some st' → (mget t name).isSome = true → ∀ (g : Nat → Option Ob) (n : Nat), RSt g c n p i t st →
    Rn Try.prog T 21 [.string name, ptr (c + 2) 0, ptr p 0, ptr (c + 3) 0, ptr (c + 4) 0, ptr (c + 5) 0] g n m (fun _ g' n' => RSt g' c n' p i t st' ∧ n ≤ n' ∧ ∀ j, j < c → g' j = g j) := by
  intro f
  induction f with
  | zero => intro name st st' h; cases h
  | succ f ihf =>
    intro name st st' h hin g n hs
    simp only [inS] at h
    obtain ⟨s2, h2, rfl⟩ := Option.map_eq_some_iff.1 h
    refine c_open Try.func21 rfl rfl rfl rfl rfl rfl ?_
    have hi := hs.hi
    have hp := hs.hp
    have hn := hs.hn
    have b5 := hs.b5
    have bo := hs.bo
    repeat' (first
      | ((with_reducible apply g_op); first
        | ((with_reducible apply g_load); first
          | ((with_reducible apply w_load (v := .map _)); exact rfl; (first | assumption | (simp (disch := omega) only [upd_same, upd_ne]; first | done | assumption | exact rfl) | exact rfl); exact rfl))
        | ((with_reducible apply g_move); first
          | ((with_reducible apply w_pure (v := .string _)); exact rfl; exact rfl)))
      | with_reducible refine w_seq ?_
      | with_reducible refine w_region ?_
      | with_reducible refine w_scope ?_)
    refine w_mput (ek := Value.string) (evv := Value.bool) (es := st.op) (key := name) (v := true) rfl rfl rfl rfl (keyK_str (by kernel_rfl)) hs.mo (by omega) ?_
    repeat' (first
      | ((with_reducible apply g_op); first
        | ((with_reducible apply g_load); first
          | ((with_reducible apply w_load (v := .map _)); exact rfl; (first | assumption | (simp (disch := omega) only [upd_same, upd_ne]; first | done | assumption | exact rfl) | exact rfl); exact rfl))
        | ((with_reducible apply g_move); first
          | ((with_reducible apply w_pure (v := .string _)); exact rfl; exact rfl)))
      | with_reducible refine w_seq ?_
      | with_reducible refine w_nil ?_
      | with_reducible refine w_region ?_
      | with_reducible refine w_label ?_)
    refine w_look (ek := Value.string) (evv := tv tg) (es := t) (key := name) (z := .slice none 0 0) rfl rfl rfl (keyK_str (by kernel_rfl)) rfl (by simp (disch := omega) only [upd_ne]; exact hs.tbl) ?_
    obtain ⟨nd, hnd⟩ := Option.isSome_iff_exists.1 hin
    have hndl := hB name nd hnd
    rw [hnd] at h2 ⊢
    rw [Option.getD_some] at h2
    have hs1 := hs.setO (mput st.op name true)
    repeat' (first
      | ((with_reducible apply g_op); first
        | ((with_reducible apply g_move); first
          | ((with_reducible apply w_pure (v := .int _ _)); exact rfl; exact rfl))
        | ((with_reducible apply g_call); first
          | ((with_reducible apply w_call (v := .int _ _)); exact rfl)))
      | with_reducible refine w_nil ?_
      | with_reducible refine w_block ?_)
    refine w_rngK [(8, 10), (17, 42)] nd (fun j rest (s1 : DS) σ g' n' => σ 17 = .int .i64 (j : Nat) ∧ RSt g' c n' p i t s1 ∧ rest.foldlM (stepIn t (inS t f)) s1 = some s2 ∧ n ≤ n' ∧ ∀ j, j < c → g' j = g j) ?_ ?_ _ ⟨rfl, hs1, h2, Nat.le_refl _, fun j hj => upd_ne (by omega)⟩
    · rintro j s rest s1 σ g1 n1 hx hjl ⟨k17, hs1, hfo, hn1, hf1⟩ ih
      refine w_keep (i := 17) k17 ?_
      have c5 := hs1.b5
      have co := hs1.bo
      have cd := hs1.bd
      have cr := hs1.br
      have ci := hs1.bi
      rw [List.foldlM_cons] at hfo
      obtain ⟨s1', hst, hfo⟩ := Option.bind_eq_some_iff.1 hfo
      unfold stepIn at hst
      repeat' (first
        | ((with_reducible apply g_op); first
          | ((with_reducible apply g_load); first
            | ((with_reducible apply w_fl (v := .string _)); exact rfl; exact (fun _ => rfl); assumption; exact rfl)
            | ((with_reducible apply w_load (v := .map _)); exact rfl; (first | assumption | (simp (disch := omega) only [upd_same, upd_ne]; first | done | assumption | exact rfl) | exact rfl); exact rfl))
          | ((with_reducible apply g_move); first
            | ((with_reducible apply w_pure (v := .string _)); exact rfl; exact rfl))
          | ((with_reducible apply g_bin); first
            | ((with_reducible apply w_pure (v := .bool _)); exact rfl; exact rfl))
          | ((with_reducible apply g_assign); first
            | ((with_reducible apply w_pure (v := .string _)); exact rfl; exact rfl))
          | ((with_reducible apply g_ix); first
            | ((with_reducible apply w_fx (sz := 1)); exact rfl; exact rfl; exact rfl; exact rfl; exact rfl; exact (fun _ => rfl); assumption; exact rfl)))
        | with_reducible refine w_seq ?_
        | with_reducible refine w_nil ?_
        | with_reducible refine w_region ?_
        | with_reducible refine w_skip ?_
        | with_reducible refine w_block ?_
        | ((with_reducible apply w_ifd); exact rfl; all_goals (intro hc; first | (exfalso; omega) | skip)))
      refine w_look2 (ek := Value.string) (evv := tv tg) (es := t) (key := s) (z := .slice none 0 0) rfl rfl rfl (keyK_str (by kernel_rfl)) rfl hs1.tbl ?_
      cases hts : mget t s with
      | none =>
        rw [if_pos (.inl (by rw [hts]; rfl))] at hst
        cases hst
        repeat' (first
          | ((with_reducible apply g_op); first
            | ((with_reducible apply g_move); first
              | ((with_reducible apply w_pure (v := .int _ _)); exact rfl; exact rfl)
              | ((with_reducible apply w_pure (v := .bool _)); exact rfl; exact rfl)
              | ((with_reducible apply w_pure (v := .tuple _)); exact rfl; exact rfl))
            | ((with_reducible apply g_bin); first
              | ((with_reducible apply w_wrap); exact rfl; exact rfl; first | exact i64_in _ (by omega) | exact u64_in _ (by omega) | exact u8_in _ (by omega)))
            | ((with_reducible apply g_assign); first
              | ((with_reducible apply w_pure (v := .bool _)); exact rfl; exact rfl)
              | ((with_reducible apply w_pure (v := .slice _ _ _)); exact rfl; exact rfl))
            | ((with_reducible apply w_pure (v := .bool _)); exact rfl; exact rfl)
            | ((with_reducible apply w_pure (v := .slice _ _ _)); exact rfl; exact rfl))
          | ((with_reducible apply g_gd); first
            | ((with_reducible apply w_pass); exact rfl))
          | with_reducible refine w_seq ?_
          | with_reducible refine w_nil ?_
          | with_reducible refine w_region ?_
          | with_reducible refine w_block ?_
          | ((with_reducible apply w_exit); exact rfl)
          | ((with_reducible apply w_yes); exact rfl))
        exact ih s1 _ _ _ (by repeat' (first | with_reducible exact Fr.mix | with_reducible exact Fr.rfl' | with_reducible refine Fr.put ?_ ?_ | with_reducible refine Fr.mix2 ?_ ?_ | with_reducible refine Fr.put0 ?_ | exact rfl)) ⟨by push_cast; rfl, hs1, hfo, hn1, hf1⟩
      | some nds =>
        repeat' (first
          | ((with_reducible apply g_op); first
            | ((with_reducible apply g_load); first
              | ((with_reducible apply w_load (v := .map _)); exact rfl; (first | assumption | (simp (disch := omega) only [upd_same, upd_ne]; first | done | assumption | exact rfl) | exact rfl); exact rfl))
            | ((with_reducible apply g_move); first
              | ((with_reducible apply w_pure (v := .bool _)); exact rfl; exact rfl)
              | ((with_reducible apply w_pure (v := .string _)); exact rfl; exact rfl)
              | ((with_reducible apply w_pure (v := .tuple _)); exact rfl; exact rfl))
            | ((with_reducible apply g_assign); first
              | ((with_reducible apply w_pure (v := .bool _)); exact rfl; exact rfl)
              | ((with_reducible apply w_pure (v := .func _ _ _)); exact rfl; exact rfl))
            | ((with_reducible apply w_pure (v := .bool _)); exact rfl; exact rfl)
            | ((with_reducible apply w_pure (v := .func _ _ _)); exact rfl; exact rfl))
          | ((with_reducible apply g_gd); first
            | ((with_reducible apply w_want); exact rfl))
          | with_reducible refine w_seq ?_
          | with_reducible refine w_nil ?_
          | with_reducible refine w_region ?_
          | with_reducible refine w_block ?_)
        refine w_look (ek := Value.string) (evv := Value.bool) (es := s1.dn) (key := s) (z := .bool false) rfl rfl rfl (keyK_str (by kernel_rfl)) rfl hs1.md ?_
        rw [gd]
        cases hD : (mget s1.dn s).getD false with
        | true =>
          rw [if_pos (.inr hD)] at hst
          cases hst
          repeat' (first
            | ((with_reducible apply g_op); first
              | ((with_reducible apply g_move); first
                | ((with_reducible apply w_pure (v := .int _ _)); exact rfl; exact rfl))
              | ((with_reducible apply g_bin); first
                | ((with_reducible apply w_wrap); exact rfl; exact rfl; first | exact i64_in _ (by omega) | exact u64_in _ (by omega) | exact u8_in _ (by omega)))
              | ((with_reducible apply g_assign); first
                | ((with_reducible apply w_pure (v := .bool _)); exact rfl; exact rfl))
              | ((with_reducible apply w_pure (v := .bool _)); exact rfl; exact rfl))
            | with_reducible refine w_nil ?_
            | with_reducible refine w_region ?_
            | ((with_reducible apply w_exit); exact rfl)
            | ((with_reducible apply w_yes); exact rfl))
          exact ih s1 _ _ _ (by repeat' (first | with_reducible exact Fr.mix | with_reducible exact Fr.rfl' | with_reducible refine Fr.put ?_ ?_ | with_reducible refine Fr.mix2 ?_ ?_ | with_reducible refine Fr.put0 ?_ | exact rfl)) ⟨by push_cast; rfl, hs1, hfo, hn1, hf1⟩
        | false =>
          rw [if_neg (by rintro (h | h); rw [hts] at h; cases h; rw [show s1.isD s = false from hD] at h; cases h)] at hst
          repeat' (first
            | ((with_reducible apply g_op); first
              | ((with_reducible apply g_load); first
                | ((with_reducible apply w_load (v := .map _)); exact rfl; (first | assumption | (simp (disch := omega) only [upd_same, upd_ne]; first | done | assumption | exact rfl) | exact rfl); exact rfl))
              | ((with_reducible apply g_move); first
                | ((with_reducible apply w_pure (v := .string _)); exact rfl; exact rfl))
              | ((with_reducible apply g_assign); first
                | ((with_reducible apply w_pure (v := .bool _)); exact rfl; exact rfl))
              | ((with_reducible apply w_pure (v := .bool _)); exact rfl; exact rfl))
            | with_reducible refine w_seq ?_
            | with_reducible refine w_nil ?_
            | with_reducible refine w_region ?_
            | ((with_reducible apply w_no); exact rfl))
          refine w_look (ek := Value.string) (evv := Value.bool) (es := s1.op) (key := s) (z := .bool false) rfl rfl rfl (keyK_str (by kernel_rfl)) rfl hs1.mo ?_
          rw [gd]
          cases hO : (mget s1.op s).getD false with
          | true =>
            rw [if_pos (show s1.isO s = true from hO)] at hst
            cases hst
            repeat' (first
              | ((with_reducible apply g_op); first
                | ((with_reducible apply g_move); first
                  | ((with_reducible apply w_pure (v := .int _ _)); exact rfl; exact rfl))
                | ((with_reducible apply g_bin); first
                  | ((with_reducible apply w_wrap); exact rfl; exact rfl; first | exact i64_in _ (by omega) | exact u64_in _ (by omega) | exact u8_in _ (by omega)))
                | ((with_reducible apply g_assign); first
                  | ((with_reducible apply w_pure (v := .bool _)); exact rfl; exact rfl))
                | ((with_reducible apply g_store); first
                  | ((with_reducible apply w_store (us := [.bool _]) (ws := [_])); exact rfl; exact rfl; (first | assumption | (simp (disch := omega) only [upd_same, upd_ne]; first | done | assumption | exact rfl) | exact rfl); omega; exact rfl; exact rfl; exact rfl)))
              | with_reducible refine w_seq ?_
              | with_reducible refine w_nil ?_
              | with_reducible refine w_region ?_
              | ((with_reducible apply w_exit); exact rfl)
              | ((with_reducible apply w_yes); exact rfl))
            exact ih { s1 with rd := true } _ _ _ (by repeat' (first | with_reducible exact Fr.mix | with_reducible exact Fr.rfl' | with_reducible refine Fr.put ?_ ?_ | with_reducible refine Fr.mix2 ?_ ?_ | with_reducible refine Fr.put0 ?_ | exact rfl)) ⟨by push_cast; rfl, hs1.setR true, hfo, hn1, fun j hj => (upd_ne (by omega)).trans (hf1 j hj)⟩
          | false =>
            rw [if_neg (by rw [show s1.isO s = false from hO]; simp)] at hst
            repeat' (first
              | ((with_reducible apply g_op); first
                | ((with_reducible apply g_load); first
                  | ((with_reducible apply w_load (v := .func _ _ _)); exact rfl; (first | assumption | (simp (disch := omega) only [upd_same, upd_ne]; first | done | assumption | exact rfl) | exact rfl); exact rfl))
                | ((with_reducible apply g_move); first
                  | ((with_reducible apply w_pure (v := .string _)); exact rfl; exact rfl))
                | ((with_reducible apply g_assign); first
                  | ((with_reducible apply w_pure (v := .bool _)); exact rfl; exact rfl)))
              | with_reducible refine w_nil ?_
              | with_reducible refine w_region ?_
              | with_reducible refine w_skip ?_
              | with_reducible refine w_blk ?_
              | ((with_reducible apply w_no); exact rfl))
            refine w_rn (ihf s s1 s1' hst (by rw [hts]; rfl) _ _ hs1) (fun _ => rfl) ?_
            rintro _ g3 n3 ⟨hs3, hn3, hf3⟩
            repeat' (first
              | ((with_reducible apply g_op); first
                | ((with_reducible apply g_move); first
                  | ((with_reducible apply w_pure (v := .int _ _)); exact rfl; exact rfl))
                | ((with_reducible apply g_bin); first
                  | ((with_reducible apply w_wrap); exact rfl; exact rfl; first | exact i64_in _ (by omega) | exact u64_in _ (by omega) | exact u8_in _ (by omega))))
              | with_reducible refine w_nil ?_
              | with_reducible refine w_region ?_
              | with_reducible refine w_blk ?_)
            exact ih s1' _ _ _ (by repeat' (first | with_reducible exact Fr.mix | with_reducible exact Fr.rfl' | with_reducible refine Fr.put ?_ ?_ | with_reducible refine Fr.mix2 ?_ ?_ | with_reducible refine Fr.put0 ?_ | exact rfl)) ⟨by push_cast; rfl, hs3, hfo, by omega, fun j hj => (hf3 j hj).trans (hf1 j hj)⟩
    · rintro s1 σ g1 n1 ⟨k17, hs1, hfo, hn1, hf1⟩
      refine w_keep (i := 17) k17 ?_
      have hfo : s1 = s2 := by simpa using hfo
      subst hfo
      have co := hs1.bo
      have cd := hs1.bd
      have hs2 := hs1.setO (mput s1.op name false)
      repeat' (first
        | ((with_reducible apply g_op); first
          | ((with_reducible apply g_bin); first
            | ((with_reducible apply w_pure (v := .bool _)); exact rfl; exact rfl)))
        | with_reducible refine w_seq ?_
        | with_reducible refine w_nil ?_
        | with_reducible refine w_region ?_
        | ((with_reducible apply w_exit); exact rfl)
        | ((with_reducible apply w_ifd); exact rfl; all_goals (intro hc; first | (exfalso; omega) | skip)))
      have hs3 := hs2.setD (mput s1.dn name true)
      have hn6 := hs1.hn
      refine w_mm (v0 := .map (some c)) (v1 := .string name) (v2 := .map (some (c + 1))) (v3 := .string name) (v4 := undef) (v5 := undef) (n1 := n1) (n2 := n1) (g1 := upd g1 c (some (.map (ents Value.string Value.bool (mput s1.op name false))))) (g2 := upd (upd g1 c (some (.map (ents Value.string Value.bool (mput s1.op name false))))) (c + 1) (some (.map (ents Value.string Value.bool (mput s1.dn name true))))) (by kernel_rfl) (by kernel_rfl) rfl (st_load (i := c + 2) (off := 0) rfl co (part_one (P := Try.prog) (t := 53) (by kernel_rfl))) (st_pure rfl rfl) (st_load (i := c + 3) (off := 0) rfl cd (part_one (P := Try.prog) (t := 53) (by kernel_rfl))) (st_pure rfl rfl)
        (st_mput (ek := Value.string) (evv := Value.bool) (es := s1.op) (key := name) (v := false) rfl rfl rfl rfl (keyK_str (by kernel_rfl)) hs1.mo (by omega)) (st_mput (ek := Value.string) (evv := Value.bool) (es := s1.dn) (key := name) (v := true) rfl rfl rfl rfl (keyK_str (by kernel_rfl)) (by rw [upd_ne (by omega)]; exact hs1.md) (by omega))
        (st_load (i := c + 3) (off := 0) rfl (by rw [upd_ne (by omega)]; exact cd) (part_one (P := Try.prog) (t := 53) (by kernel_rfl))) ?_
      repeat' (first
        | ((with_reducible apply w_end (v := .tuple #[])); exact rfl))
      exact ⟨hs3, hn1, fun j hj => by simp (disch := omega) only [upd_ne]; exact hf1 j hj⟩
def ds0 : DS := ⟨[], [], false⟩
def roundFo (t : Tbl) (f : Nat) (st : DS) (s : ByteArray) : Option DS := if st.isD s = true then some st else inS t f s st
/-- What needs.Round finds; 'none': not enough rounds. -/
def roundS' (l : List Lib) (root : ByteArray) (f : Nat) : Option Bool := ((wk l root).names.foldlM (roundFo (tabS l) f) ds0).map DS.rd
theorem walkS_ok (t : Tbl) (root : ByteArray) : (walkS t root).ok t := by
  suffices H : ∀ (f i : Nat) (w : Wk), w.ok t → (walkGo t f i w).ok t from H _ _ _ (meet_ok ⟨List.nodup_nil, fun x hx => (by cases hx), fun x => (by simp [mget])⟩ root 0)
  intro f
  induction f with
  | zero => intro i w h; exact h
  | succ f ih =>
    intro i w h
    unfold walkGo
    split
    · refine ih _ _ ?_
      unfold roundS
      generalize (mget t (w.names.getD i ⟨#[]⟩)).getD [] = nd
      generalize (mget w.depth (w.names.getD i ⟨#[]⟩)).getD 0 + 1 = dp
      have hgen : ∀ (nd : List ByteArray) (w : Wk), w.ok t → (nd.foldl (fun w' s => meetS t w' s dp) w).ok t := by
        intro nd
        induction nd with
        | nil => intro w h; exact h
        | cons s nd ih => intro w h; exact ih _ (meet_ok h s dp)
      exact hgen nd w h
    · exact h
theorem round_run (l : List Lib) (root : ByteArray) (hl : Fits l) (f : Nat) (r : Bool) (hr : roundS' l root f = some r) : Rf Try.prog T 9 [lv tg l, .string root] (fun v => v = .bool r) := by
  refine c_froz Try.func9 rfl rfl rfl rfl rfl rfl ?_
  intro g n
  have hll := hl.len
  repeat' (first
    | ((with_reducible apply g_op); first
      | ((with_reducible apply g_move); first
        | ((with_reducible apply w_pure (v := .func _ _ _)); exact rfl; exact rfl))
      | ((with_reducible apply g_assign); first
        | ((with_reducible apply w_pure (v := .bool _)); exact rfl; exact rfl)))
    | with_reducible refine w_seq ?_
    | with_reducible refine w_nil ?_
    | with_reducible refine w_region ?_)
  refine w_rn (table_run l (by omega) g n n (Nat.le_refl _)) (fun _ => rfl) ?_
  rintro _ g1 n1 ⟨rfl, ht, hf, hn⟩
  repeat' (first
    | ((with_reducible apply g_op); first
      | ((with_reducible apply g_load); first
        | ((with_reducible apply w_load (v := .map _)); exact rfl; (first | assumption | (simp (disch := omega) only [upd_same, upd_ne]; first | done | assumption | exact rfl) | exact rfl); exact rfl))
      | ((with_reducible apply g_move); first
        | ((with_reducible apply w_pure (v := .string _)); exact rfl; exact rfl))
      | ((with_reducible apply g_store); first
        | ((with_reducible apply w_store (us := [.map _]) (ws := [_])); exact rfl; exact rfl; (first | assumption | (simp (disch := omega) only [upd_same, upd_ne]; first | done | assumption | exact rfl) | exact rfl); omega; exact rfl; exact rfl; exact rfl))
      | ((with_reducible apply w_alloc (ls := [.map _])); exact rfl; exact rfl))
    | with_reducible refine w_seq ?_
    | with_reducible refine w_nil ?_
    | with_reducible refine w_region ?_)
  refine w_rn (walk_run (tabS l) root n _ _ n (by omega) (by omega) (by simp (disch := omega) only [upd_ne]; exact ht) (by have := tab_len l; omega) hl.tab) (fun _ => rfl) ?_
  rintro _ g2 c ⟨o1, o2, rfl, hs, hf2⟩
  have r1 := hs.r1
  have hnn := hs.hn
  have hok := walkS_ok (tabS l) root
  have hlen := ok_len hok
  have htl := tab_len l
  have hw : walkS (tabS l) root = wk l root := rfl
  have hin : ∀ x ∈ (wk l root).names, (mget (tabS l) x).isSome = true := hok.within
  rw [hw] at r1 hlen
  rw [hw]
  unfold roundS' at hr
  obtain ⟨s2, hfo, hr⟩ := Option.map_eq_some_iff.1 hr
  subst hr
  generalize wk l root = w at *
  have gt : g2 n = some (.map (ents Value.string (tv tg) (tabS l))) := hs.tbl
  have gp : g2 n1 = some (.cells 47 [.map (some n)]) := by rw [hf2 n1 (by omega)]; exact upd_same
  repeat' (first
    | ((with_reducible apply g_op); first
      | ((with_reducible apply g_move); first
        | ((with_reducible apply w_pure (v := .tuple _)); exact rfl; exact rfl))
      | ((with_reducible apply g_assign); first
        | ((with_reducible apply w_pure (v := .map _)); exact rfl; exact rfl)
        | ((with_reducible apply w_pure (v := ov _ _)); exact rfl; exact rfl))
      | ((with_reducible apply w_pure (v := .map _)); exact rfl; exact rfl)
      | ((with_reducible apply w_pure (v := ov _ _)); exact rfl; exact rfl))
    | with_reducible refine w_seq ?_
    | with_reducible refine w_nil ?_
    | with_reducible refine w_region ?_)
  refine w_mkm ?_
  repeat' (first
    | fail)
  refine w_mkm ?_
  repeat' (first
    | ((with_reducible apply g_op); first
      | ((with_reducible apply g_move); first
        | ((with_reducible apply w_pure (v := ov _ _)); exact rfl; exact rfl))
      | ((with_reducible apply g_store); first
        | ((with_reducible apply w_store (us := [.bool _]) (ws := [_])); exact rfl; exact rfl; (first | assumption | (simp (disch := omega) only [upd_same, upd_ne]; first | done | assumption | exact rfl) | exact rfl); omega; exact rfl; exact rfl; exact rfl)
        | ((with_reducible apply w_store (us := [.func _ _ _]) (ws := [_])); exact rfl; exact rfl; (first | assumption | (simp (disch := omega) only [upd_same, upd_ne]; first | done | assumption | exact rfl) | exact rfl); omega; exact rfl; exact rfl; exact rfl)
        | ((with_reducible apply w_store (us := [.map _]) (ws := [_])); exact rfl; exact rfl; (first | assumption | (simp (disch := omega) only [upd_same, upd_ne]; first | done | assumption | exact rfl) | exact rfl); omega; exact rfl; exact rfl; exact rfl))
      | ((with_reducible apply w_alloc (ls := [.bool _])); exact rfl; exact rfl)
      | ((with_reducible apply w_alloc (ls := [.nilFunc])); exact rfl; exact rfl)
      | ((with_reducible apply w_alloc (ls := [.map _])); exact rfl; exact rfl)
      | ((with_reducible apply w_pure (v := .func _ _ _)); exact rfl; exact rfl))
    | with_reducible refine w_seq ?_
    | with_reducible refine w_nil ?_
    | with_reducible refine w_region ?_)
  cases o1 with
  | none =>
    have e0 : w.names = [] := r1
    rw [e0] at hfo
    have hfo : ds0 = s2 := by simpa using hfo
    subst hfo
    repeat' (first
      | ((with_reducible apply g_op); first
        | ((with_reducible apply g_move); first
          | ((with_reducible apply w_pure (v := .int _ _)); exact rfl; exact rfl))
        | ((with_reducible apply g_call); first
          | ((with_reducible apply w_call (v := .int _ _)); exact rfl)))
      | with_reducible refine w_nil ?_
      | with_reducible refine w_block ?_)
    refine w_unroll ?_
    repeat' (first
      | ((with_reducible apply g_op); first
        | ((with_reducible apply g_load); first
          | ((with_reducible apply w_load (v := .bool _)); exact rfl; (first | assumption | (simp (disch := omega) only [upd_same, upd_ne]; first | done | assumption | exact rfl) | exact rfl); exact rfl))
        | ((with_reducible apply g_bin); first
          | ((with_reducible apply w_pure (v := .bool _)); exact rfl; exact rfl))
        | ((with_reducible apply g_assign); first
          | ((with_reducible apply w_pure (v := .bool _)); exact rfl; exact rfl)))
      | with_reducible refine w_seq ?_
      | with_reducible refine w_nil ?_
      | with_reducible refine w_region ?_
      | ((with_reducible apply w_exit); exact rfl)
      | ((with_reducible apply w_no); exact rfl)
      | ((with_reducible apply w_ret (v := .bool _)); exact rfl))
    exact fr_plain rfl rfl
  | some o1 =>
    have p1 := r1.2.2.1
    repeat' (first
      | ((with_reducible apply g_op); first
        | ((with_reducible apply g_move); first
          | ((with_reducible apply w_pure (v := .int _ _)); exact rfl; exact rfl))
        | ((with_reducible apply g_call); first
          | ((with_reducible apply w_call (v := .int _ _)); exact rfl)))
      | with_reducible refine w_nil ?_
      | with_reducible refine w_block ?_)
    refine w_rngK [(14, 14), (29, 40)] w.names (fun j rest (s1 : DS) σ g' n' => σ 29 = .int .i64 (j : Nat) ∧ RSt g' c n' n1 n (tabS l) s1 ∧ rest.foldlM (roundFo (tabS l) f) s1 = some s2 ∧ (∀ j, j < c → g' j = g2 j)) ?_ ?_ ds0 ⟨rfl, ⟨by omega, by omega, by omega, ?_, ?_, ?_, ?_, ?_, ?_, ?_, ?_⟩, hfo, fun j hj => ?_⟩
    · rintro j s rest s1 σ g3 n3 hx hjl ⟨k29, hs1, hfo, hf3⟩ ih
      refine w_keep (i := 29) k29 ?_
      have cd := hs1.bd
      have ci := hs1.bi
      have cm := hs1.md
      have ho1 := (hf3 o1 p1).trans r1.2.2.2
      have his := hin s (List.mem_of_getElem? hx)
      rw [List.foldlM_cons] at hfo
      obtain ⟨s1', hst, hfo⟩ := Option.bind_eq_some_iff.1 hfo
      unfold roundFo at hst
      repeat' (first
        | ((with_reducible apply g_op); first
          | ((with_reducible apply g_bin); first
            | ((with_reducible apply w_pure (v := .bool _)); exact rfl; exact rfl))
          | ((with_reducible apply g_ix); first
            | ((with_reducible apply w_ixr (sz := 1)); exact rfl; exact rfl; exact rfl; exact rfl; omega; omega)))
        | with_reducible refine w_seq ?_
        | with_reducible refine w_nil ?_
        | with_reducible refine w_region ?_
        | with_reducible refine w_skip ?_
        | with_reducible refine w_block ?_
        | ((with_reducible apply w_ifd); exact rfl; all_goals (intro hc; first | (exfalso; omega) | skip)))
      refine w_load (v := .string s) rfl ho1 (own_ts hx) ?_
      repeat' (first
        | ((with_reducible apply g_op); first
          | ((with_reducible apply g_load); first
            | ((with_reducible apply w_load (v := .map _)); exact rfl; (first | assumption | (simp (disch := omega) only [upd_same, upd_ne]; first | done | assumption | exact rfl) | exact rfl); exact rfl))
          | ((with_reducible apply g_move); first
            | ((with_reducible apply w_pure (v := .string _)); exact rfl; exact rfl))
          | ((with_reducible apply g_assign); first
            | ((with_reducible apply w_pure (v := .string _)); exact rfl; exact rfl)))
        | with_reducible refine w_seq ?_
        | with_reducible refine w_nil ?_
        | with_reducible refine w_region ?_)
      refine w_look (ek := Value.string) (evv := Value.bool) (es := s1.dn) (key := s) (z := .bool false) rfl rfl rfl (keyK_str (by kernel_rfl)) rfl hs1.md ?_
      rw [gd]
      cases hD : (mget s1.dn s).getD false with
      | true =>
        rw [if_pos (show s1.isD s = true from hD)] at hst
        cases hst
        repeat' (first
          | ((with_reducible apply g_op); first
            | ((with_reducible apply g_move); first
              | ((with_reducible apply w_pure (v := .int _ _)); exact rfl; exact rfl))
            | ((with_reducible apply g_bin); first
              | ((with_reducible apply w_wrap); exact rfl; exact rfl; first | exact i64_in _ (by omega) | exact u64_in _ (by omega) | exact u8_in _ (by omega)))
            | ((with_reducible apply w_pure (v := .bool _)); exact rfl; exact rfl))
          | with_reducible refine w_nil ?_
          | with_reducible refine w_region ?_
          | with_reducible refine w_skip ?_
          | with_reducible refine w_blk ?_
          | ((with_reducible apply w_no); exact rfl))
        exact ih s1 _ _ _ (by repeat' (first | with_reducible exact Fr.mix | with_reducible exact Fr.rfl' | with_reducible refine Fr.put ?_ ?_ | with_reducible refine Fr.mix2 ?_ ?_ | with_reducible refine Fr.put0 ?_ | exact rfl)) ⟨by push_cast; rfl, hs1, hfo, hf3⟩
      | false =>
        rw [if_neg (by rw [show s1.isD s = false from hD]; simp)] at hst
        repeat' (first
          | ((with_reducible apply g_op); first
            | ((with_reducible apply g_load); first
              | ((with_reducible apply w_load (v := .func _ _ _)); exact rfl; (first | assumption | (simp (disch := omega) only [upd_same, upd_ne]; first | done | assumption | exact rfl) | exact rfl); exact rfl))
            | ((with_reducible apply g_move); first
              | ((with_reducible apply w_pure (v := .string _)); exact rfl; exact rfl))
            | ((with_reducible apply w_pure (v := .bool _)); exact rfl; exact rfl))
          | with_reducible refine w_nil ?_
          | with_reducible refine w_region ?_
          | ((with_reducible apply w_yes); exact rfl))
        refine w_rn (in_run (tabS l) hl.tab c n1 n n (by omega) f s s1 s1' hst his _ _ hs1) (fun _ => rfl) ?_
        rintro _ g4 n4 ⟨hs4, hn4, hf4⟩
        repeat' (first
          | ((with_reducible apply g_op); first
            | ((with_reducible apply g_move); first
              | ((with_reducible apply w_pure (v := .int _ _)); exact rfl; exact rfl))
            | ((with_reducible apply g_bin); first
              | ((with_reducible apply w_wrap); exact rfl; exact rfl; first | exact i64_in _ (by omega) | exact u64_in _ (by omega) | exact u8_in _ (by omega))))
          | with_reducible refine w_nil ?_
          | with_reducible refine w_region ?_
          | with_reducible refine w_blk ?_)
        exact ih s1' _ _ _ (by repeat' (first | with_reducible exact Fr.mix | with_reducible exact Fr.rfl' | with_reducible refine Fr.put ?_ ?_ | with_reducible refine Fr.mix2 ?_ ?_ | with_reducible refine Fr.put0 ?_ | exact rfl)) ⟨by push_cast; rfl, hs4, hfo, fun j hj => (hf4 j hj).trans (hf3 j hj)⟩
    · rintro s1 σ g3 n3 ⟨k29, hs1, hfo, hf3⟩
      have hfo : s1 = s2 := by simpa using hfo
      subst hfo
      refine w_keep (i := 29) k29 ?_
      have cr := hs1.br
      repeat' (first
        | ((with_reducible apply g_op); first
          | ((with_reducible apply g_load); first
            | ((with_reducible apply w_load (v := .bool _)); exact rfl; (first | assumption | (simp (disch := omega) only [upd_same, upd_ne]; first | done | assumption | exact rfl) | exact rfl); exact rfl))
          | ((with_reducible apply g_bin); first
            | ((with_reducible apply w_pure (v := .bool _)); exact rfl; exact rfl))
          | ((with_reducible apply g_assign); first
            | ((with_reducible apply w_pure (v := .bool _)); exact rfl; exact rfl)))
        | with_reducible refine w_seq ?_
        | with_reducible refine w_nil ?_
        | with_reducible refine w_region ?_
        | ((with_reducible apply w_exit); exact rfl)
        | ((with_reducible apply w_ifd); exact rfl; all_goals (intro hc; first | (exfalso; omega) | skip))
        | ((with_reducible apply w_ret (v := .bool _)); exact rfl))
      exact fr_plain rfl rfl
    all_goals (simp (disch := omega) only [upd_same, upd_ne])
    all_goals first | exact gt | exact gp | rfl | (simp [put, ev]; done)
end Go.Proofs.Ytgljofdhdnhekaa.L

