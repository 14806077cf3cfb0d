/- The reference: Of. -/
import Derived.Test.Ytgljofdhdnhekaac12G
namespace Go.Proofs.Ytgljofdhdnhekaa.L
open Go.L1 Go.IntWalk
set_option linter.unusedVariables false
set_option linter.unusedSimpArgs false
set_option maxHeartbeats 4000000
structure Rw where
  names : List ByteArray
  depths : List Int
  missing : List ByteArray
def ofMeet (l : List Lib) (dp : Int) (w : Rw) (s : ByteArray) : Rw :=
  if (findL l s).isSome = true then (if hasB w.names s = true then w else { w with names := w.names ++ [s], depths := w.depths ++ [dp + 1] })
  else (if hasB w.missing s = true then w else { w with missing := w.missing ++ [s] })
def ofRound (l : List Lib) (w : Rw) (i : Nat) : Rw := ((findL l (w.names.getD i ⟨#[]⟩)).getD []).foldl (ofMeet l (w.depths.getD i 0)) w
def ofGo (l : List Lib) : Nat → Nat → Rw → Rw
  | 0, _, w => w
  | f + 1, i, w => if i < w.names.length then ofGo l f (i + 1) (ofRound l w i) else w
def ofS (l : List Lib) (root : ByteArray) : Rw := if (findL l root).isSome = true then ofGo l (l.length + 1) 0 ⟨[root], [0], []⟩ else ⟨[], [], [root]⟩
structure Rw.ok (l : List Lib) (w : Rw) : Prop where
  nodup : w.names.Nodup
  within : ∀ x ∈ w.names, (findL l x).isSome = true
  same : w.depths.length = w.names.length
theorem hasB_iff {l : List ByteArray} {x : ByteArray} : hasB l x = true ↔ x ∈ l := by unfold hasB; simp
theorem Rw.ok.meet {l : List Lib} {w : Rw} (h : w.ok l) (dp : Int) (s : ByteArray) : (ofMeet l dp w s).ok l := by
  unfold ofMeet
  split
  · rename_i h1
    split
    · exact h
    · rename_i h2
      have hn : s ∉ w.names := fun hm => h2 (hasB_iff.2 hm)
      refine ⟨?_, ?_, by simp [h.same]⟩
      · simp only [List.nodup_append, List.nodup_cons, List.not_mem_nil, not_false_eq_true, List.nodup_nil, and_self, List.mem_singleton]
        exact ⟨h.nodup, trivial, fun a ha b hb e => by subst hb; subst e; exact hn ha⟩
      · intro x hx
        rcases List.mem_append.1 hx with hx | hx
        · exact h.within x hx
        · rw [List.mem_singleton.1 hx]; exact h1
  · split
    · exact h
    · exact ⟨h.nodup, h.within, h.same⟩
theorem findL_mem {l : List Lib} {x : ByteArray} (h : (findL l x).isSome = true) : x ∈ l.map Lib.name := by
  obtain ⟨v, hv⟩ := Option.isSome_iff_exists.1 h
  unfold findL at hv
  obtain ⟨y, h1, rfl⟩ := Option.map_eq_some_iff.1 hv
  have := List.find?_some h1
  rw [decide_eq_true_eq] at this
  exact List.mem_map.2 ⟨y, List.mem_of_find?_eq_some h1, this⟩
theorem Rw.ok.len {l : List Lib} {w : Rw} (h : w.ok l) : w.names.length ≤ l.length := by
  have := nodup_len w.names (l.map Lib.name) h.nodup (fun x hx => findL_mem (h.within x hx))
  simpa using this
theorem ofMeet_keep {l : List Lib} {w : Rw} {k : Nat} {nm : ByteArray} {dp d0 : Int} (h1 : w.names[k]? = some nm) (h2 : w.depths[k]? = some dp) (s : ByteArray) : (ofMeet l d0 w s).names[k]? = some nm ∧ (ofMeet l d0 w s).depths[k]? = some dp ∧ (ofMeet l d0 w s).missing.length ≤ w.missing.length + 1 := by
  unfold ofMeet
  repeat' split
  · exact ⟨h1, h2, by omega⟩
  · exact ⟨by rw [List.getElem?_append_left (List.getElem?_eq_some_iff.1 h1).1]; exact h1, by rw [List.getElem?_append_left (List.getElem?_eq_some_iff.1 h2).1]; exact h2, by simp⟩
  · exact ⟨h1, h2, by omega⟩
  · exact ⟨h1, h2, by simp⟩
def rdep (K : Int) (w : Rw) : Prop := ∀ d ∈ w.depths, 0 ≤ d ∧ d ≤ K
theorem ofMeet_dep {l : List Lib} {w : Rw} {K d0 : Int} (h : rdep K w) (hd : 0 ≤ d0 + 1 ∧ d0 + 1 ≤ K) (s : ByteArray) : rdep K (ofMeet l d0 w s) := by
  unfold ofMeet
  repeat' split
  · exact h
  · intro d hd'
    rcases List.mem_append.1 hd' with hd' | hd'
    · exact h d hd'
    · rw [List.mem_singleton.1 hd']; exact hd
  · exact h
  · exact h
def ii1 (a : Int) : List Value := [.int .i64 a]
theorem own_ts {l : List ByteArray} {k : Nat} {x : ByteArray} (h : l[k]? = some x) : L1.part Try.prog 9 (l.flatMap ts) (0 + ((k : Nat) : Int).toNat * 1) = some (.string x) := by
  rw [part_one (by kernel_rfl), flat_ts, List.getElem?_map, show 0 + ((k : Int)).toNat * 1 = k by omega, h]; rfl
theorem flat_ii (l : List Int) : l.flatMap ii = l.map (Value.int .i64) := by induction l <;> simp_all [ii]
theorem own_ii {l : List Int} {k : Nat} {x : Int} (h : l[k]? = some x) : L1.part Try.prog 3 (l.flatMap ii) (0 + ((k : Nat) : Int).toNat * 1) = some (.int .i64 x) := by
  rw [part_one (by kernel_rfl), flat_ii, List.getElem?_map, show 0 + ((k : Int)).toNat * 1 = k by omega, h]; rfl
structure OSt (g : Nat → Option Ob) (n nn : Nat) (w : Rw) (a1 a2 : Nat) (o3 : Option Nat) : Prop where
  hn : n + 2 ≤ nn
  z : g n = some (.cells 45 [.slice none 0 0, .slice none 0 0, .slice none 0 0])
  b : g (n + 1) = some (.cells 45 [slc a1 0 w.names.length, slc a2 0 w.depths.length, ov o3 w.missing.length])
  r1 : Own g (n + 2) nn 9 ts (some a1) w.names
  r2 : Own g (n + 2) nn 3 ii (some a2) w.depths
  r3 : Own g (n + 2) nn 9 ts o3 w.missing
  ne : o3 ≠ some a1
theorem own_ne2 {α β : Type} {g : Nat → Option Ob} {lo n lo' n' a : Nat} {o : Option Nat} {e e' : TypeId} {enc : α → List Value} {enc' : β → List Value} {l : List α} {l' : List β} (h1 : Own g lo n e enc (some a) l) (h2 : Own g lo' n' e' enc' o l') (he : e ≠ e') : some a ≠ o := by
  rintro rfl
  exact own_ne h1 h2 he rfl
def ofV (s : Array Value) (w : Rw) : Value := .agg #[tv s w.names, iv s w.depths, tv s w.missing]
theorem of_run (l : List Lib) (root : ByteArray) (hl : Fits l) : Rf Try.prog T 17 [lv tg l, .string root] (fun v => v = ofV #[] (ofS l root)) := by
  refine c_froz Try.func17 rfl rfl rfl rfl rfl rfl ?_
  intro g n
  have hll := hl.len
  obtain ⟨R, hR⟩ : ∃ R, R = ofS l root := ⟨_, rfl⟩
  rw [← hR]
  unfold ofS at hR
  repeat' (first
    | ((with_reducible apply g_op); first
      | ((with_reducible apply g_move); first
        | ((with_reducible apply w_pure (v := .string _)); exact rfl; exact rfl)
        | ((with_reducible apply w_pure (v := .func _ _ _)); exact rfl; exact rfl))
      | ((with_reducible apply w_alloc (ls := [_, _, _])); exact rfl; exact rfl))
    | with_reducible refine w_seq ?_
    | with_reducible refine w_nil ?_
    | with_reducible refine w_region ?_)
  refine w_rn (find_run l root (by omega) _ _ _) (fun _ => rfl) ?_
  rintro _ _ _ ⟨rfl, rfl, rfl⟩
  cases hr : findL l root with
  | none =>
    rw [hr] at hR
    have hR : R = ⟨[], [], [root]⟩ := hR
    subst hR
    repeat' (first
      | ((with_reducible apply g_op); first
        | ((with_reducible apply g_load); first
          | ((with_reducible apply w_load (v := .agg #[_, _, _])); exact rfl; (first | assumption | (simp (disch := omega) only [upd_same, upd_ne]; first | done | assumption | exact rfl) | exact rfl); exact rfl))
        | ((with_reducible apply g_move); first
          | ((with_reducible apply w_pure (v := .bool _)); exact rfl; exact rfl)
          | ((with_reducible apply w_pure (v := .string _)); exact rfl; exact rfl)
          | ((with_reducible apply w_pure (v := .tuple _)); exact rfl; exact rfl))
        | ((with_reducible apply g_fld); first
          | ((with_reducible apply w_fldp (o := 2)); exact rfl; exact rfl; exact rfl; exact (by decide)))
        | ((with_reducible apply g_assign); first
          | ((with_reducible apply w_pure (v := .bool _)); exact rfl; exact rfl)
          | ((with_reducible apply w_pure (v := .slice _ _ _)); exact rfl; exact rfl))
        | ((with_reducible apply g_store); first
          | ((with_reducible apply w_store (us := [.slice _ _ _]) (ws := [_, _, _])); exact rfl; exact rfl; (first | assumption | (simp (disch := omega) only [upd_same, upd_ne]; first | done | assumption | exact rfl) | exact rfl); omega; exact rfl; exact rfl; exact rfl)
          | ((with_reducible apply w_store (us := [_, _, _]) (ws := [_, _, _])); exact rfl; exact rfl; (first | assumption | (simp (disch := omega) only [upd_same, upd_ne]; first | done | assumption | exact rfl) | exact rfl); omega; exact rfl; exact rfl; exact rfl))
        | ((with_reducible apply w_bsl (ls := [_])); exact rfl; exact rfl; exact rfl; exact ⟨by decide, rfl⟩; exact rfl)
        | ((with_reducible apply w_pure (v := .bool _)); exact rfl; exact rfl)
        | ((with_reducible apply w_pure (v := .slice _ _ _)); exact rfl; exact rfl))
      | with_reducible refine w_seq ?_
      | with_reducible refine w_nil ?_
      | with_reducible refine w_region ?_
      | ((with_reducible apply w_yes); exact rfl)
      | ((with_reducible apply w_retc (v := .agg #[_, _, _])); exact rfl; exact rfl; (first | assumption | (simp (disch := omega) only [upd_same, upd_ne]; first | done | assumption | exact rfl) | exact rfl); exact rfl))
    refine ⟨_, sn_agg (l := [_, _, _]) (sn_cons sn_none (sn_cons sn_none (sn_cons (sn_row (sz := 1) (l := [.string root]) (e := 9) (vs := [.string root]) (by simp (disch := omega) only [upd_same, upd_ne]; rfl) (by omega) rfl (by decide) rfl (sn_plains rfl)) sn_nil))), rfl⟩
  | some nd0 =>
    rw [hr] at hR
    have hR : R = ofGo l (l.length + 1) 0 ⟨[root], [0], []⟩ := hR
    repeat' (first
      | ((with_reducible apply g_op); first
        | ((with_reducible apply g_move); first
          | ((with_reducible apply w_pure (v := .bool _)); exact rfl; exact rfl)
          | ((with_reducible apply w_pure (v := .string _)); exact rfl; exact rfl)
          | ((with_reducible apply w_pure (v := .tuple _)); exact rfl; exact rfl))
        | ((with_reducible apply g_fld); first
          | ((with_reducible apply w_fldp (o := 0)); exact rfl; exact rfl; exact rfl; exact (by decide))
          | ((with_reducible apply w_fldp (o := 1)); exact rfl; exact rfl; exact rfl; exact (by decide)))
        | ((with_reducible apply g_assign); first
          | ((with_reducible apply w_pure (v := .int _ _)); exact rfl; exact rfl)
          | ((with_reducible apply w_pure (v := .bool _)); exact rfl; exact rfl)
          | ((with_reducible apply w_pure (v := .func _ _ _)); exact rfl; exact rfl))
        | ((with_reducible apply g_store); first
          | ((with_reducible apply w_store (us := [.slice _ _ _]) (ws := [_, _, _])); exact rfl; exact rfl; (first | assumption | (simp (disch := omega) only [upd_same, upd_ne]; first | done | assumption | exact rfl) | exact rfl); omega; exact rfl; exact rfl; exact rfl))
        | ((with_reducible apply w_bsl (ls := [_])); exact rfl; exact rfl; exact rfl; exact ⟨by decide, rfl⟩; exact rfl)
        | ((with_reducible apply w_pure (v := .bool _)); exact rfl; exact rfl)
        | ((with_reducible apply w_pure (v := .func _ _ _)); exact rfl; exact rfl))
      | with_reducible refine w_seq ?_
      | with_reducible refine w_nil ?_
      | with_reducible refine w_region ?_
      | with_reducible refine w_skip ?_
      | with_reducible refine w_block ?_
      | ((with_reducible apply w_no); exact rfl))
    have hw0 : (⟨[root], [0], []⟩ : Rw).ok l := ⟨by simp, fun x hx => by rw [List.mem_singleton.1 hx, hr]; rfl, rfl⟩
    refine w_whileK [(8, 15), (33, 118)] (α := Nat × Rw × Nat × Nat × Option Nat) (fun x σ g' n' => σ 8 = .int .i64 (x.1 : Nat) ∧ OSt g' n n' x.2.1 x.2.2.1 x.2.2.2.1 x.2.2.2.2 ∧ x.2.1.ok l ∧ x.1 ≤ x.2.1.names.length ∧ ofGo l (l.length + 1 - x.1) x.1 x.2.1 = R ∧ x.2.1.missing.length ≤ 100 * x.1 ∧ rdep x.1 x.2.1) (fun x => l.length + 1 - x.1) ?_ (0, ⟨[root], [0], []⟩, n + 2, n + 3, none) ⟨rfl, ⟨by omega, ?_, ?_, ⟨by simp, by dsimp only; omega, by dsimp only; omega, ?_⟩, ⟨by simp, by dsimp only; omega, by dsimp only; omega, ?_⟩, rfl, by simp⟩, hw0, by simp, hR.symm, by simp, fun d hd => by simp at hd; subst hd; simp⟩
    · rintro ⟨k, w, a1, a2, o3⟩ σ gl nl ⟨k8, hs, hok, hk, hgo, hml, hdb⟩ ih
      dsimp only at k8 hs hok hk hgo hml hdb
      refine w_keep (i := 8) k8 ?_
      have hlen := hok.len
      have hb := hs.b
      obtain ⟨f, hf⟩ : ∃ f, l.length + 1 - k = f + 1 := ⟨l.length - k, by omega⟩
      rw [hf, ofGo] at hgo
      by_cases hlt : k < w.names.length
      · rw [if_pos hlt] at hgo
        obtain ⟨nm, hnm⟩ : ∃ nm, w.names[k]? = some nm := ⟨_, List.getElem?_eq_getElem hlt⟩
        obtain ⟨dp, hdp⟩ : ∃ dp, w.depths[k]? = some dp := ⟨_, List.getElem?_eq_getElem (by rw [hok.same]; exact hlt)⟩
        obtain ⟨nd, hnd⟩ := Option.isSome_iff_exists.1 (hok.within nm (List.mem_of_getElem? hnm))
        have hrs : ofRound l w k = nd.foldl (ofMeet l dp) w := by unfold ofRound; rw [List.getD_eq_getElem?_getD, List.getD_eq_getElem?_getD, hnm, hdp]; simp [hnd]
        rw [hrs] at hgo
        have hndl : nd.length ≤ 100 := hl.tab nm nd (by rw [tab_get]; exact hnd)
        have hdpk := hdb dp (List.mem_of_getElem? hdp)
        repeat' (first
          | ((with_reducible apply g_op); first
            | ((with_reducible apply g_load); first
              | ((with_reducible apply w_load (v := .slice _ _ _)); exact rfl; (first | assumption | (simp (disch := omega) only [upd_same, upd_ne]; first | done | assumption | exact rfl) | exact rfl); exact rfl))
            | ((with_reducible apply g_move); first
              | ((with_reducible apply w_pure (v := .int _ _)); exact rfl; exact rfl)
              | ((with_reducible apply w_pure (v := .func _ _ _)); exact rfl; exact rfl))
            | ((with_reducible apply g_bin); first
              | ((with_reducible apply w_pure (v := .bool _)); exact rfl; exact rfl))
            | ((with_reducible apply g_fld); first
              | ((with_reducible apply w_fldp (o := 0)); exact rfl; exact rfl; exact rfl; exact (by decide)))
            | ((with_reducible apply g_call); first
              | ((with_reducible apply w_call (v := .int _ _)); exact rfl))
            | ((with_reducible apply g_ix); first
              | ((with_reducible apply w_ixr (sz := 1)); exact rfl; exact rfl; exact rfl; exact rfl; omega; omega)))
          | with_reducible refine w_seq ?_
          | with_reducible refine w_nil ?_
          | with_reducible refine w_region ?_
          | with_reducible refine w_skip ?_
          | with_reducible refine w_block ?_
          | ((with_reducible apply w_ifd); exact rfl; all_goals (intro hc; first | (exfalso; omega) | skip)))
        refine w_load (v := .string nm) rfl hs.r1.2.2.2 (own_ts hnm) ?_
        repeat' (first
          | fail)
        refine w_rn (find_run l nm (by omega) _ _ _) (fun _ => rfl) ?_
        rintro _ gl nl ⟨rfl, rfl, rfl⟩
        rw [hnd]
        repeat' (first
          | ((with_reducible apply g_op); first
            | ((with_reducible apply g_move); first
              | ((with_reducible apply w_pure (v := .tuple _)); exact rfl; exact rfl))
            | ((with_reducible apply g_assign); first
              | ((with_reducible apply w_pure (v := .int _ _)); exact rfl; exact rfl)
              | ((with_reducible apply w_pure (v := .bool _)); exact rfl; exact rfl)
              | ((with_reducible apply w_pure (v := .func _ _ _)); exact rfl; exact rfl))
            | ((with_reducible apply w_pure (v := .bool _)); exact rfl; exact rfl)
            | ((with_reducible apply w_pure (v := .func _ _ _)); exact rfl; exact rfl))
          | with_reducible refine w_seq ?_
          | with_reducible refine w_nil ?_
          | with_reducible refine w_region ?_
          | with_reducible refine w_block ?_)
        refine w_rngK [(11, 15), (50, 118)] nd (fun j rest (x : Rw × Nat × Nat × Option Nat) σ g' n' => σ 11 = .int .i64 (j : Nat) ∧ OSt g' n n' x.1 x.2.1 x.2.2.1 x.2.2.2 ∧ x.1.ok l ∧ x.1.names[k]? = some nm ∧ x.1.depths[k]? = some dp ∧ rest.foldl (ofMeet l dp) x.1 = nd.foldl (ofMeet l dp) w ∧ x.1.missing.length ≤ 100 * k + j ∧ rdep ((k : Int) + 1) x.1) ?_ ?_ (w, a1, a2, o3) ⟨rfl, hs, hok, hnm, hdp, rfl, by dsimp only; omega, fun d hd => by have := hdb d hd; omega⟩
        · rintro j s rest ⟨w', b1, b2, q3⟩ σ2 g2 n2 hx hjl ⟨k11, hs', hok', hnm', hdp', hfo, hml', hdb'⟩ ih2
          dsimp only at hs' hok' hnm' hdp' hfo hml' hdb'
          refine w_keep (i := 11) k11 ?_
          have hb' := hs'.b
          have hlen' := hok'.len
          rw [List.foldl_cons] at hfo
          obtain ⟨y1, y2, y3⟩ := ofMeet_keep (l := l) (d0 := dp) hnm' hdp' s
          have y4 := hok'.meet dp s
          have y5 := ofMeet_dep (l := l) hdb' (d0 := dp) (by omega) s
          repeat' (first
            | ((with_reducible apply g_op); first
              | ((with_reducible apply g_load); first
                | ((with_reducible apply w_fl (v := .string _)); exact rfl; exact (fun _ => rfl); assumption; exact rfl))
              | ((with_reducible apply g_move); first
                | ((with_reducible apply w_pure (v := .int _ _)); exact rfl; exact rfl)
                | ((with_reducible apply w_pure (v := .func _ _ _)); exact rfl; exact rfl))
              | ((with_reducible apply g_bin); first
                | ((with_reducible apply w_pure (v := .bool _)); exact rfl; exact rfl))
              | ((with_reducible apply g_call); first
                | ((with_reducible apply w_call (v := .int _ _)); exact rfl))
              | ((with_reducible apply g_ix); first
                | ((with_reducible apply w_fx (sz := 1)); exact rfl; exact rfl; exact rfl; exact rfl; exact rfl; exact (fun _ => rfl); assumption; exact rfl)))
            | with_reducible refine w_seq ?_
            | with_reducible refine w_nil ?_
            | with_reducible refine w_region ?_
            | with_reducible refine w_skip ?_
            | with_reducible refine w_block ?_
            | ((with_reducible apply w_ifd); exact rfl; all_goals (intro hc; first | (exfalso; omega) | skip)))
          refine w_rn (find_run l s (by omega) _ _ _) (fun _ => rfl) ?_
          rintro _ g2 n2 ⟨rfl, rfl, rfl⟩
          have hnn' := hs'.hn
          have p1 := hs'.r1.2.2.1
          have p2 := hs'.r2.2.2.1
          have p3 := hs'.r1.2.1
          have p4 := hs'.r2.2.1
          cases hfs : findL l s with
          | none =>
            repeat' (first
              | ((with_reducible apply g_op); first
                | ((with_reducible apply g_load); first
                  | ((with_reducible apply w_fl (v := .string _)); exact rfl; exact (fun _ => rfl); assumption; exact rfl)
                  | ((with_reducible apply w_load (v := .slice _ _ _)); exact rfl; (first | assumption | (simp (disch := omega) only [upd_same, upd_ne]; first | done | assumption | exact rfl) | exact rfl); exact rfl))
                | ((with_reducible apply g_move); first
                  | ((with_reducible apply w_pure (v := .int _ _)); exact rfl; exact rfl)
                  | ((with_reducible apply w_pure (v := .tuple _)); exact rfl; exact rfl)
                  | ((with_reducible apply w_pure (v := .func _ _ _)); exact rfl; exact rfl))
                | ((with_reducible apply g_fld); first
                  | ((with_reducible apply w_fldp (o := 0)); exact rfl; exact rfl; exact rfl; exact (by decide)))
                | ((with_reducible apply g_assign); first
                  | ((with_reducible apply w_pure (v := .bool _)); exact rfl; exact rfl)
                  | ((with_reducible apply w_pure (v := .slice _ _ _)); exact rfl; exact rfl))
                | ((with_reducible apply g_ix); first
                  | ((with_reducible apply w_fx (sz := 1)); exact rfl; exact rfl; exact rfl; exact rfl; exact rfl; exact (fun _ => rfl); assumption; exact rfl))
                | ((with_reducible apply w_pure (v := .bool _)); exact rfl; exact rfl)
                | ((with_reducible apply w_pure (v := .slice _ _ _)); exact rfl; exact rfl))
              | with_reducible refine w_seq ?_
              | with_reducible refine w_nil ?_
              | ((with_reducible apply w_draw); kernel_rfl; kernel_rfl))
            refine w_rf (has_run w'.names s (by omega)) (fun _ => rfl) (sn_cons (hs'.r1.fz (k := 7) (lo' := 0) (by omega) rfl (by decide) ts_len (sn_plains (all_flat ts_plain _))) (sn_cons (sn_plain rfl) sn_nil)) ?_
            rintro _ rfl
            repeat' (first
              | ((with_reducible apply g_op); first
                | ((with_reducible apply g_load); first
                  | ((with_reducible apply w_fl (v := .string _)); exact rfl; exact (fun _ => rfl); assumption; exact rfl)
                  | ((with_reducible apply w_load (v := ov _ _)); exact rfl; (first | assumption | (simp (disch := omega) only [upd_same, upd_ne]; first | done | assumption | exact rfl) | exact rfl); exact rfl))
                | ((with_reducible apply g_move); first
                  | ((with_reducible apply w_pure (v := .int _ _)); exact rfl; exact rfl)
                  | ((with_reducible apply w_pure (v := .func _ _ _)); exact rfl; exact rfl))
                | ((with_reducible apply g_fld); first
                  | ((with_reducible apply w_fldp (o := 2)); exact rfl; exact rfl; exact rfl; exact (by decide)))
                | ((with_reducible apply g_assign); first
                  | ((with_reducible apply w_pure (v := .bool _)); exact rfl; exact rfl))
                | ((with_reducible apply g_ix); first
                  | ((with_reducible apply w_fx (sz := 1)); exact rfl; exact rfl; exact rfl; exact rfl; exact rfl; exact (fun _ => rfl); assumption; exact rfl)))
              | with_reducible refine w_seq ?_
              | with_reducible refine w_nil ?_
              | ((with_reducible apply w_draw); kernel_rfl; kernel_rfl))
            refine w_rf (has_run w'.missing s (by omega)) (fun _ => rfl) (sn_cons (hs'.r3.fz (k := 7) (lo' := 0) (by omega) rfl (by decide) ts_len (sn_plains (all_flat ts_plain _))) (sn_cons (sn_plain rfl) sn_nil)) ?_
            rintro _ rfl
            cases hm : hasB w'.missing s with
            | true =>
              have e : ofMeet l dp w' s = w' := by unfold ofMeet; simp [hfs, hm]
              rw [e] at hfo
              repeat' (first
                | ((with_reducible apply g_op); first
                  | ((with_reducible apply g_move); first
                    | ((with_reducible apply w_pure (v := .int _ _)); exact rfl; exact rfl)
                    | ((with_reducible apply w_pure (v := .bool _)); exact rfl; exact rfl))
                  | ((with_reducible apply g_bin); first
                    | ((with_reducible apply w_wrap); exact rfl; exact rfl; first | exact i64_in _ (by omega) | exact u64_in _ (by omega) | exact u8_in _ (by omega)))
                  | ((with_reducible apply g_assign); first
                    | ((with_reducible apply w_pure (v := .int _ _)); exact rfl; exact rfl)
                    | ((with_reducible apply w_pure (v := .bool _)); exact rfl; exact rfl))
                  | ((with_reducible apply w_pure (v := .bool _)); exact rfl; exact rfl))
                | ((with_reducible apply g_gd); first
                  | ((with_reducible apply w_want); exact rfl)
                  | ((with_reducible apply w_pass); exact rfl))
                | with_reducible refine w_seq ?_
                | with_reducible refine w_nil ?_
                | with_reducible refine w_region ?_
                | with_reducible refine w_skip ?_
                | with_reducible refine w_blk ?_
                | ((with_reducible apply w_no); exact rfl))
              exact ih2 (w', b1, b2, q3) _ _ _ (by repeat' (first | with_reducible exact Fr.mix | with_reducible exact Fr.rfl' | with_reducible refine Fr.put ?_ ?_ | with_reducible refine Fr.mix2 ?_ ?_ | with_reducible refine Fr.put0 ?_ | exact rfl)) ⟨by push_cast; rfl, hs', hok', hnm', hdp', hfo, by dsimp only; omega, hdb'⟩
            | false =>
              have e : ofMeet l dp w' s = { w' with missing := w'.missing ++ [s] } := by unfold ofMeet; simp [hfs, hm]
              rw [e] at hfo y1 y2 y3 y4 y5
              repeat' (first
                | ((with_reducible apply g_op); first
                  | ((with_reducible apply g_load); first
                    | ((with_reducible apply w_fl (v := .string _)); exact rfl; exact (fun _ => rfl); assumption; exact rfl)
                    | ((with_reducible apply w_load (v := ov _ _)); exact rfl; (first | assumption | (simp (disch := omega) only [upd_same, upd_ne]; first | done | assumption | exact rfl) | exact rfl); exact rfl))
                  | ((with_reducible apply g_move); first
                    | ((with_reducible apply w_pure (v := .int _ _)); exact rfl; exact rfl)
                    | ((with_reducible apply w_pure (v := .bool _)); exact rfl; exact rfl)
                    | ((with_reducible apply w_pure (v := .func _ _ _)); exact rfl; exact rfl))
                  | ((with_reducible apply g_fld); first
                    | ((with_reducible apply w_fldp (o := 2)); exact rfl; exact rfl; exact rfl; exact (by decide)))
                  | ((with_reducible apply g_assign); first
                    | ((with_reducible apply w_pure (v := .bool _)); exact rfl; exact rfl))
                  | ((with_reducible apply g_ix); first
                    | ((with_reducible apply w_fx (sz := 1)); exact rfl; exact rfl; exact rfl; exact rfl; exact rfl; exact (fun _ => rfl); assumption; exact rfl))
                  | ((with_reducible apply w_bsl (ls := [_])); exact rfl; exact rfl; exact rfl; exact ⟨by decide, rfl⟩; exact rfl)
                  | ((with_reducible apply w_pure (v := .bool _)); exact rfl; exact rfl))
                | ((with_reducible apply g_gd); first
                  | ((with_reducible apply w_want); exact rfl)
                  | ((with_reducible apply w_pass); exact rfl))
                | with_reducible refine w_seq ?_
                | with_reducible refine w_nil ?_
                | with_reducible refine w_region ?_
                | with_reducible refine w_skip ?_
                | ((with_reducible apply w_draw); kernel_rfl; kernel_rfl)
                | ((with_reducible apply w_yes); exact rfl)
                | ((with_reducible apply w_no); exact rfl))
              refine w_own2 (enc := ts) (y := s) (by_ := 16) (sz := 1) (lo := n + 2) (o := q3) (xs := w'.missing) (hs'.r3.later (by omega) (fun j h1 h2 => upd_ne (by omega))) rfl rfl rfl rfl rfl rfl (fun _ => rfl) upd_same rfl rfl rfl (by omega) (by omega) ?_
              intro g3 h1 h2 h3
              have q0 : ∀ j, j < n + 2 → g3 j = g2 j := fun j hj => by
                rw [h1 j (by omega) (fun e => by have := hs'.r3; rw [← e] at this; have := this.2.1; omega), upd_ne (by omega)]
              have c1 := (q0 (n + 1) (by omega)).trans hb'
              cases q3 <;> simp only [ov_none, ov_some] at c1 <;> (
                repeat' (first
                  | ((with_reducible apply g_op); first
                    | ((with_reducible apply g_move); first
                      | ((with_reducible apply w_pure (v := .int _ _)); exact rfl; exact rfl))
                    | ((with_reducible apply g_bin); first
                      | ((with_reducible apply w_wrap); exact rfl; exact rfl; first | exact i64_in _ (by omega) | exact u64_in _ (by omega) | exact u8_in _ (by omega)))
                    | ((with_reducible apply g_fld); first
                      | ((with_reducible apply w_fldp (o := 2)); exact rfl; exact rfl; exact rfl; exact (by decide)))
                    | ((with_reducible apply g_assign); first
                      | ((with_reducible apply w_pure (v := .int _ _)); exact rfl; exact rfl))
                    | ((with_reducible apply g_store); first
                      | ((with_reducible apply w_store (us := [.slice _ _ _]) (ws := [_, _, _])); exact rfl; exact rfl; (first | assumption | (simp (disch := omega) only [upd_same, upd_ne]; first | done | assumption | exact rfl) | exact rfl); omega; exact rfl; exact rfl; exact rfl)))
                  | with_reducible refine w_nil ?_
                  | with_reducible refine w_region ?_
                  | with_reducible refine w_blk ?_)
                refine ih2 ({ w' with missing := w'.missing ++ [s] }, b1, b2, some (n2 + 1)) _ _ _ (by repeat' (first | with_reducible exact Fr.mix | with_reducible exact Fr.rfl' | with_reducible refine Fr.put ?_ ?_ | with_reducible refine Fr.mix2 ?_ ?_ | with_reducible refine Fr.put0 ?_ | exact rfl)) ⟨by push_cast; rfl, ⟨by omega, ?_, ?_, own_at hs'.r1 (by omega) (fun a ha => ?_), own_at hs'.r2 (by omega) (fun a ha => ?_), own_at h3 (by omega) (fun a ha => ?_), by dsimp only; simp; omega⟩, y4, y1, y2, hfo, by dsimp only at y3 ⊢; omega, y5⟩
                · rw [upd_ne (by omega), q0 n (by omega)]; exact hs'.z
                · rw [upd_same]; simp; rfl
                · dsimp only at ha; cases ha
                  rw [upd_ne (by omega), h1 _ (by omega) (Ne.symm hs'.ne), upd_ne (by omega)]
                · dsimp only at ha; cases ha
                  rw [upd_ne (by omega), h1 _ (by omega) (own_ne2 hs'.r2 hs'.r3 (by decide)), upd_ne (by omega)]
                · dsimp only at ha; cases ha
                  rw [upd_ne (by omega)])
          | some nds =>
            repeat' (first
              | ((with_reducible apply g_op); first
                | ((with_reducible apply g_load); first
                  | ((with_reducible apply w_fl (v := .string _)); exact rfl; exact (fun _ => rfl); assumption; exact rfl)
                  | ((with_reducible apply w_load (v := .slice _ _ _)); exact rfl; (first | assumption | (simp (disch := omega) only [upd_same, upd_ne]; first | done | assumption | exact rfl) | exact rfl); exact rfl))
                | ((with_reducible apply g_move); first
                  | ((with_reducible apply w_pure (v := .int _ _)); exact rfl; exact rfl)
                  | ((with_reducible apply w_pure (v := .tuple _)); exact rfl; exact rfl)
                  | ((with_reducible apply w_pure (v := .func _ _ _)); exact rfl; exact rfl))
                | ((with_reducible apply g_fld); first
                  | ((with_reducible apply w_fldp (o := 0)); exact rfl; exact rfl; exact rfl; exact (by decide)))
                | ((with_reducible apply g_assign); first
                  | ((with_reducible apply w_pure (v := .bool _)); exact rfl; exact rfl)
                  | ((with_reducible apply w_pure (v := .func _ _ _)); exact rfl; exact rfl))
                | ((with_reducible apply g_ix); first
                  | ((with_reducible apply w_fx (sz := 1)); exact rfl; exact rfl; exact rfl; exact rfl; exact rfl; exact (fun _ => rfl); assumption; exact rfl))
                | ((with_reducible apply w_pure (v := .bool _)); exact rfl; exact rfl)
                | ((with_reducible apply w_pure (v := .func _ _ _)); exact rfl; exact rfl))
              | with_reducible refine w_seq ?_
              | with_reducible refine w_nil ?_
              | ((with_reducible apply w_draw); kernel_rfl; kernel_rfl))
            refine w_rf (has_run w'.names s (by omega)) (fun _ => rfl) (sn_cons (hs'.r1.fz (k := 7) (lo' := 0) (by omega) rfl (by decide) ts_len (sn_plains (all_flat ts_plain _))) (sn_cons (sn_plain rfl) sn_nil)) ?_
            rintro _ rfl
            repeat' (first
              | ((with_reducible apply g_op); first
                | ((with_reducible apply g_load); first
                  | ((with_reducible apply w_fl (v := .string _)); exact rfl; exact (fun _ => rfl); assumption; exact rfl)
                  | ((with_reducible apply w_load (v := ov _ _)); exact rfl; (first | assumption | (simp (disch := omega) only [upd_same, upd_ne]; first | done | assumption | exact rfl) | exact rfl); exact rfl))
                | ((with_reducible apply g_move); first
                  | ((with_reducible apply w_pure (v := .int _ _)); exact rfl; exact rfl)
                  | ((with_reducible apply w_pure (v := .func _ _ _)); exact rfl; exact rfl))
                | ((with_reducible apply g_fld); first
                  | ((with_reducible apply w_fldp (o := 2)); exact rfl; exact rfl; exact rfl; exact (by decide)))
                | ((with_reducible apply g_assign); first
                  | ((with_reducible apply w_pure (v := .bool _)); exact rfl; exact rfl))
                | ((with_reducible apply g_ix); first
                  | ((with_reducible apply w_fx (sz := 1)); exact rfl; exact rfl; exact rfl; exact rfl; exact rfl; exact (fun _ => rfl); assumption; exact rfl)))
              | with_reducible refine w_seq ?_
              | with_reducible refine w_nil ?_
              | ((with_reducible apply w_draw); kernel_rfl; kernel_rfl))
            refine w_rf (has_run w'.missing s (by omega)) (fun _ => rfl) (sn_cons (hs'.r3.fz (k := 7) (lo' := 0) (by omega) rfl (by decide) ts_len (sn_plains (all_flat ts_plain _))) (sn_cons (sn_plain rfl) sn_nil)) ?_
            rintro _ rfl
            cases hm : hasB w'.names s with
            | true =>
              have e : ofMeet l dp w' s = w' := by unfold ofMeet; simp [hfs, hm]
              rw [e] at hfo
              repeat' (first
                | ((with_reducible apply g_op); first
                  | ((with_reducible apply g_move); first
                    | ((with_reducible apply w_pure (v := .int _ _)); exact rfl; exact rfl)
                    | ((with_reducible apply w_pure (v := .bool _)); exact rfl; exact rfl))
                  | ((with_reducible apply g_bin); first
                    | ((with_reducible apply w_wrap); exact rfl; exact rfl; first | exact i64_in _ (by omega) | exact u64_in _ (by omega) | exact u8_in _ (by omega)))
                  | ((with_reducible apply g_assign); first
                    | ((with_reducible apply w_pure (v := .int _ _)); exact rfl; exact rfl)
                    | ((with_reducible apply w_pure (v := .bool _)); exact rfl; exact rfl))
                  | ((with_reducible apply w_pure (v := .bool _)); exact rfl; exact rfl))
                | ((with_reducible apply g_gd); first
                  | ((with_reducible apply w_want); exact rfl)
                  | ((with_reducible apply w_pass); exact rfl))
                | with_reducible refine w_seq ?_
                | with_reducible refine w_nil ?_
                | with_reducible refine w_region ?_
                | with_reducible refine w_skip ?_
                | with_reducible refine w_blk ?_
                | ((with_reducible apply w_no); exact rfl))
              exact ih2 (w', b1, b2, q3) _ _ _ (by repeat' (first | with_reducible exact Fr.mix | with_reducible exact Fr.rfl' | with_reducible refine Fr.put ?_ ?_ | with_reducible refine Fr.mix2 ?_ ?_ | with_reducible refine Fr.put0 ?_ | exact rfl)) ⟨by push_cast; rfl, hs', hok', hnm', hdp', hfo, by dsimp only; omega, hdb'⟩
            | false =>
              have e : ofMeet l dp w' s = { w' with names := w'.names ++ [s], depths := w'.depths ++ [dp + 1] } := by unfold ofMeet; simp [hfs, hm]
              rw [e] at hfo y1 y2 y3 y4 y5
              repeat' (first
                | ((with_reducible apply g_op); first
                  | ((with_reducible apply g_load); first
                    | ((with_reducible apply w_fl (v := .string _)); exact rfl; exact (fun _ => rfl); assumption; exact rfl)
                    | ((with_reducible apply w_load (v := .slice _ _ _)); exact rfl; (first | assumption | (simp (disch := omega) only [upd_same, upd_ne]; first | done | assumption | exact rfl) | exact rfl); exact rfl))
                  | ((with_reducible apply g_move); first
                    | ((with_reducible apply w_pure (v := .int _ _)); exact rfl; exact rfl)
                    | ((with_reducible apply w_pure (v := .bool _)); exact rfl; exact rfl)
                    | ((with_reducible apply w_pure (v := .func _ _ _)); exact rfl; exact rfl))
                  | ((with_reducible apply g_fld); first
                    | ((with_reducible apply w_fldp (o := 0)); exact rfl; exact rfl; exact rfl; exact (by decide)))
                  | ((with_reducible apply g_assign); first
                    | ((with_reducible apply w_pure (v := .bool _)); exact rfl; exact rfl))
                  | ((with_reducible apply g_ix); first
                    | ((with_reducible apply w_fx (sz := 1)); exact rfl; exact rfl; exact rfl; exact rfl; exact rfl; exact (fun _ => rfl); assumption; exact rfl))
                  | ((with_reducible apply w_bsl (ls := [_])); exact rfl; exact rfl; exact rfl; exact ⟨by decide, rfl⟩; exact rfl)
                  | ((with_reducible apply w_pure (v := .bool _)); exact rfl; exact rfl))
                | ((with_reducible apply g_gd); first
                  | ((with_reducible apply w_want); exact rfl))
                | with_reducible refine w_seq ?_
                | with_reducible refine w_nil ?_
                | with_reducible refine w_region ?_
                | ((with_reducible apply w_draw); kernel_rfl; kernel_rfl)
                | ((with_reducible apply w_yes); exact rfl))
              refine w_own2 (enc := ts) (y := s) (by_ := 16) (sz := 1) (lo := n + 2) (o := some b1) (xs := w'.names) (hs'.r1.later (by omega) (fun j h1 h2 => upd_ne (by omega))) rfl rfl rfl rfl rfl rfl (fun _ => rfl) upd_same rfl rfl rfl (by omega) (by omega) ?_
              intro g3 h1 _ h3
              have q0 : ∀ j, j < n2 → j ≠ b1 → g3 j = g2 j := fun j hj hne => by
                rw [h1 j (by omega) (by simpa using hne), upd_ne (by omega)]
              have c1 := (q0 (n + 1) (by omega) (by omega)).trans hb'
              have e21 : b2 ≠ b1 := own_ne hs'.r2 hs'.r1 (by decide)
              have c2 := (q0 b2 p2 e21).trans hs'.r2.2.2.2
              have hdl := hok'.same
              have hkd := (List.getElem?_eq_some_iff.1 hdp').1
              repeat' (first
                | ((with_reducible apply g_op); first
                  | ((with_reducible apply g_load); first
                    | ((with_reducible apply w_load (v := .slice _ _ _)); exact rfl; (first | assumption | (simp (disch := omega) only [upd_same, upd_ne]; first | done | assumption | exact rfl) | exact rfl); exact rfl))
                  | ((with_reducible apply g_move); first
                    | ((with_reducible apply w_pure (v := .int _ _)); exact rfl; exact rfl))
                  | ((with_reducible apply g_fld); first
                    | ((with_reducible apply w_fldp (o := 0)); exact rfl; exact rfl; exact rfl; exact (by decide))
                    | ((with_reducible apply w_fldp (o := 1)); exact rfl; exact rfl; exact rfl; exact (by decide)))
                  | ((with_reducible apply g_store); first
                    | ((with_reducible apply w_store (us := [.slice _ _ _]) (ws := [_, _, _])); exact rfl; exact rfl; (first | assumption | (simp (disch := omega) only [upd_same, upd_ne]; first | done | assumption | exact rfl) | exact rfl); omega; exact rfl; exact rfl; exact rfl))
                  | ((with_reducible apply g_ix); first
                    | ((with_reducible apply w_ixr (sz := 1)); exact rfl; exact rfl; exact rfl; exact rfl; omega; omega)))
                | with_reducible refine w_nil ?_
                | ((with_reducible apply w_draw); kernel_rfl; kernel_rfl))
              refine w_load (v := .int .i64 dp) rfl (by simp (disch := omega) only [upd_ne]; exact c2) (own_ii hdp') ?_
              repeat' (first
                | ((with_reducible apply g_op); first
                  | ((with_reducible apply g_bin); first
                    | ((with_reducible apply w_wrap); exact rfl; exact rfl; first | exact i64_in _ (by omega) | exact u64_in _ (by omega) | exact u8_in _ (by omega)))
                  | ((with_reducible apply w_bsl (ls := [_])); exact rfl; exact rfl; exact rfl; exact ⟨by decide, rfl⟩; exact rfl)))
              refine w_own2 (enc := ii) (y := dp + 1) (by_ := 8) (sz := 1) (lo := n + 2) (o := some b2) (xs := w'.depths) (own_at hs'.r2 (by omega) fun a ha => by cases ha; simp (disch := omega) only [upd_ne]; exact q0 b2 p2 e21) rfl rfl rfl rfl rfl rfl (fun _ => rfl) upd_same rfl rfl rfl (by omega) (by omega) ?_
              intro g4 f1 _ f3
              have c3 := (f1 (n + 1) (by omega) (by simp; omega)).trans ((upd_ne (by omega)).trans upd_same)
              repeat' (first
                | ((with_reducible apply g_op); first
                  | ((with_reducible apply g_move); first
                    | ((with_reducible apply w_pure (v := .int _ _)); exact rfl; exact rfl)
                    | ((with_reducible apply w_pure (v := .bool _)); exact rfl; exact rfl))
                  | ((with_reducible apply g_bin); first
                    | ((with_reducible apply w_wrap); exact rfl; exact rfl; first | exact i64_in _ (by omega) | exact u64_in _ (by omega) | exact u8_in _ (by omega)))
                  | ((with_reducible apply g_fld); first
                    | ((with_reducible apply w_fldp (o := 1)); exact rfl; exact rfl; exact rfl; exact (by decide)))
                  | ((with_reducible apply g_assign); first
                    | ((with_reducible apply w_pure (v := .int _ _)); exact rfl; exact rfl))
                  | ((with_reducible apply g_store); first
                    | ((with_reducible apply w_store (us := [.slice _ _ _]) (ws := [_, _, _])); exact rfl; exact rfl; (first | assumption | (simp (disch := omega) only [upd_same, upd_ne]; first | done | assumption | exact rfl) | exact rfl); omega; exact rfl; exact rfl; exact rfl))
                  | ((with_reducible apply w_pure (v := .bool _)); exact rfl; exact rfl))
                | ((with_reducible apply g_gd); first
                  | ((with_reducible apply w_pass); exact rfl))
                | with_reducible refine w_seq ?_
                | with_reducible refine w_nil ?_
                | with_reducible refine w_region ?_
                | with_reducible refine w_skip ?_
                | with_reducible refine w_blk ?_
                | ((with_reducible apply w_no); exact rfl))
              refine ih2 ({ w' with names := w'.names ++ [s], depths := w'.depths ++ [dp + 1] }, n2 + 1, n2 + 3, q3) _ _ _ (by repeat' (first | with_reducible exact Fr.mix | with_reducible exact Fr.rfl' | with_reducible refine Fr.put ?_ ?_ | with_reducible refine Fr.mix2 ?_ ?_ | with_reducible refine Fr.put0 ?_ | exact rfl)) ⟨by push_cast; rfl, ⟨by omega, ?_, ?_, own_at h3 (by omega) (fun a ha => ?_), own_at f3 (by omega) (fun a ha => ?_), own_at hs'.r3 (by omega) (fun a ha => ?_), ?_⟩, y4, y1, y2, hfo, by dsimp only at y3 ⊢; omega, y5⟩
              · rw [upd_ne (by omega), f1 n (by omega) (by simp; omega)]
                simp (disch := omega) only [upd_ne]
                rw [q0 n (by omega) (by omega)]; exact hs'.z
              · rw [upd_same]
              · dsimp only at ha; cases ha
                rw [upd_ne (by omega), f1 _ (by omega) (by simp; omega)]
                simp (disch := omega) only [upd_ne]
              · dsimp only at ha; cases ha
                rw [upd_ne (by omega)]
              · dsimp only at ha
                have hq := hs'.r3
                rw [ha] at hq
                have g1 := hq.2.2.1
                have g2' := hq.2.1
                have g3' : a ≠ b1 := fun e => hs'.ne (by rw [ha, e])
                have g4' : a ≠ b2 := own_ne hq hs'.r2 (by decide)
                rw [upd_ne (by omega), f1 a (by omega) (by simpa using g4')]
                simp (disch := omega) only [upd_ne]
                exact q0 a g1 g3'
              · intro e
                have hq := hs'.r3
                dsimp only at e
                rw [e] at hq
                have := hq.2.2.1
                omega
        · rintro ⟨w', b1, b2, q3⟩ σ2 g2 n2 ⟨k11, hs', hok', hnm', hdp', hfo, hml', hdb'⟩
          dsimp only at hs' hok' hnm' hdp' hfo hml' hdb'
          refine w_keep (i := 11) k11 ?_
          have hfo : w' = nd.foldl (ofMeet l dp) w := hfo
          rw [← hfo] at hgo
          have hkl := (List.getElem?_eq_some_iff.1 hnm').1
          repeat' (first
            | ((with_reducible apply g_op); first
              | ((with_reducible apply g_move); first
                | ((with_reducible apply w_pure (v := .int _ _)); exact rfl; exact rfl)
                | ((with_reducible apply w_pure (v := .func _ _ _)); exact rfl; exact rfl))
              | ((with_reducible apply g_bin); first
                | ((with_reducible apply w_wrap); exact rfl; exact rfl; first | exact i64_in _ (by omega) | exact u64_in _ (by omega) | exact u8_in _ (by omega))
                | ((with_reducible apply w_pure (v := .bool _)); exact rfl; exact rfl))
              | ((with_reducible apply g_assign); first
                | ((with_reducible apply w_pure (v := .int _ _)); exact rfl; exact rfl))
              | ((with_reducible apply g_call); first
                | ((with_reducible apply w_call (v := .int _ _)); exact rfl)))
            | with_reducible refine w_seq ?_
            | with_reducible refine w_nil ?_
            | with_reducible refine w_region ?_
            | with_reducible refine w_blk ?_
            | ((with_reducible apply w_exit); exact rfl)
            | ((with_reducible apply w_ifd); exact rfl; all_goals (intro hc; first | (exfalso; omega) | skip)))
          exact ih (k + 1, w', b1, b2, q3) _ _ _ (by dsimp only; omega) (by repeat' (first | with_reducible exact Fr.mix | with_reducible exact Fr.rfl' | with_reducible refine Fr.put ?_ ?_ | with_reducible refine Fr.mix2 ?_ ?_ | with_reducible refine Fr.put0 ?_ | exact rfl)) ⟨by push_cast; rfl, hs', hok', by dsimp only; omega, by dsimp only; rw [show l.length + 1 - (k + 1) = f by omega]; exact hgo, by dsimp only; omega, by dsimp only; push_cast; exact hdb'⟩
      · rw [if_neg hlt] at hgo
        subst hgo
        have r1 := hs.r1
        have r2 := hs.r2
        have r3 := hs.r3
        have hnn := hs.hn
        have hz := hs.z
        have p1 := hs.r1.2.1
        have p2 := hs.r2.2.1
        have m1 : ∀ a, o3 = some a → n + 2 ≤ a := fun a ha => by subst ha; exact r3.2.1
        cases o3 <;> simp only [ov_none, ov_some] at hb <;> (
          repeat' (first
            | ((with_reducible apply g_op); first
              | ((with_reducible apply g_load); first
                | ((with_reducible apply w_load (v := .slice _ _ _)); exact rfl; (first | assumption | (simp (disch := omega) only [upd_same, upd_ne]; first | done | assumption | exact rfl) | exact rfl); exact rfl)
                | ((with_reducible apply w_load (v := .agg #[_, _, _])); exact rfl; (first | assumption | (simp (disch := omega) only [upd_same, upd_ne]; first | done | assumption | exact rfl) | exact rfl); exact rfl))
              | ((with_reducible apply g_move); first
                | ((with_reducible apply w_pure (v := .int _ _)); exact rfl; exact rfl))
              | ((with_reducible apply g_bin); first
                | ((with_reducible apply w_pure (v := .bool _)); exact rfl; exact rfl))
              | ((with_reducible apply g_fld); first
                | ((with_reducible apply w_fldp (o := 0)); exact rfl; exact rfl; exact rfl; exact (by decide)))
              | ((with_reducible apply g_call); first
                | ((with_reducible apply w_call (v := .int _ _)); exact rfl))
              | ((with_reducible apply g_store); first
                | ((with_reducible apply w_store (us := [_, _, _]) (ws := [_, _, _])); exact rfl; exact rfl; (first | assumption | (simp (disch := omega) only [upd_same, upd_ne]; first | done | assumption | exact rfl) | exact rfl); omega; exact rfl; exact rfl; exact rfl)))
            | with_reducible refine w_seq ?_
            | with_reducible refine w_nil ?_
            | with_reducible refine w_region ?_
            | ((with_reducible apply w_exit); exact rfl)
            | ((with_reducible apply w_ifd); exact rfl; all_goals (intro hc; first | (exfalso; omega) | skip))
            | ((with_reducible apply w_retc (v := .agg #[_, _, _])); exact rfl; exact rfl; (first | assumption | (simp (disch := omega) only [upd_same, upd_ne]; first | done | assumption | exact rfl) | exact rfl); exact rfl))
          refine ⟨_, sn_agg (l := [_, _, _]) (sn_cons ((own_at r1 (Nat.le_refl _) fun a ha => ?_).fz (k := 6) (lo' := n) (by omega) rfl (by decide) ts_len (sn_plains (all_flat ts_plain _))) (sn_cons ((own_at r2 (Nat.le_refl _) fun a ha => ?_).fz (k := 6) (lo' := n) (by omega) rfl (by decide) (fun _ => rfl) (sn_plains (all_flat (fun _ => rfl) _))) (sn_cons ((own_at r3 (Nat.le_refl _) fun a ha => ?_).fz (k := 6) (lo' := n) (by omega) rfl (by decide) ts_len (sn_plains (all_flat ts_plain _))) sn_nil))), rfl⟩
          · cases ha; rw [upd_ne (by omega)]
          · cases ha; rw [upd_ne (by omega)]
          · have := m1 a ha; rw [upd_ne (by omega)])
    all_goals (simp (disch := omega) only [upd_same, upd_ne])
    all_goals rfl
end Go.Proofs.Ytgljofdhdnhekaa.L

