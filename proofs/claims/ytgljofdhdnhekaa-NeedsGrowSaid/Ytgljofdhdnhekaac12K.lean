/- Plain: the program's closure is the reference's; what is reached. -/
import Derived.Test.Ytgljofdhdnhekaac12J
namespace Go.Proofs.Ytgljofdhdnhekaa.L
open Go.L1 Go.IntWalk
set_option linter.unusedVariables false
set_option linter.unusedSimpArgs false
set_option maxHeartbeats 4000000
def dOf : List (ByteArray × Int) → ByteArray → Option Int
  | [], _ => none
  | (y, d) :: l, x => if y = x then some d else dOf l x
theorem dOf_app (x : ByteArray) : ∀ (a b : List (ByteArray × Int)), dOf (a ++ b) x = (dOf a x).or (dOf b x)
  | [], b => by simp [dOf]
  | (y, d) :: a, b => by
    simp only [List.cons_append, dOf]
    split
    · rfl
    · exact dOf_app x a b
theorem dOf_none {x : ByteArray} : ∀ {ns : List ByteArray} {ds : List Int}, x ∉ ns → dOf (ns.zip ds) x = none
  | [], ds, h => by simp [dOf]
  | y :: ns, [], h => by simp [dOf]
  | y :: ns, d :: ds, h => by
    simp only [List.mem_cons, not_or] at h
    simp only [List.zip_cons_cons, dOf]
    rw [if_neg (fun e => h.1 e.symm)]
    exact dOf_none h.2
theorem dOf_at {x : ByteArray} : ∀ {ns : List ByteArray} {ds : List Int} {i : Nat} {d : Int}, ns.Nodup → ns[i]? = some x → ds[i]? = some d → dOf (ns.zip ds) x = some d
  | [], ds, i, d, hn, h1, h2 => by simp at h1
  | y :: ns, [], i, d, hn, h1, h2 => by simp at h2
  | y :: ns, e :: ds, 0, d, hn, h1, h2 => by
    simp only [List.getElem?_cons_zero, Option.some.injEq] at h1 h2
    subst h1; subst h2
    simp [dOf]
  | y :: ns, e :: ds, i + 1, d, hn, h1, h2 => by
    simp only [List.getElem?_cons_succ] at h1 h2
    obtain ⟨h3, h4⟩ := List.nodup_cons.1 hn
    simp only [List.zip_cons_cons, dOf]
    rw [if_neg (fun e => h3 (by subst e; exact List.mem_of_getElem? h1))]
    exact dOf_at h4 h1 h2
theorem dOf_mem {x : ByteArray} {ns : List ByteArray} {ds : List Int} (hl : ds.length = ns.length) (hn : ns.Nodup) : (dOf (ns.zip ds) x).isSome = true ↔ x ∈ ns := by
  constructor
  · intro h
    by_cases hx : x ∈ ns
    · exact hx
    · rw [dOf_none hx] at h; cases h
  · intro h
    obtain ⟨i, hi, rfl⟩ := List.mem_iff_getElem.1 h
    rw [dOf_at hn (List.getElem?_eq_getElem hi) (List.getElem?_eq_getElem (by omega))]
    rfl
theorem dIn_eq (x : ByteArray) : ∀ l : List (ByteArray × Int), dIn l x = (dOf l x).getD (-1)
  | [] => rfl
  | (y, d) :: l => by
    simp only [dIn, dOf]
    split
    · rfl
    · exact dIn_eq x l
structure Rel (w : Wk) (r : Rw) : Prop where
  names : w.names = r.names
  missing : w.missing = r.missing
  gone : ∀ x, (mget w.gone x).getD false = hasB r.missing x
  depth : ∀ x, mget w.depth x = dOf (r.names.zip r.depths) x
theorem Rel.meet {l : List Lib} {w : Wk} {r : Rw} (h : Rel w r) (hok : r.ok l) (dp : Int) (s : ByteArray) : Rel (meetS (tabS l) w s (dp + 1)) (ofMeet l dp r s) := by
  have hs : (mget w.depth s).isSome = hasB r.names s := by
    rw [h.depth, Bool.eq_iff_iff, dOf_mem hok.same hok.nodup, hasB_iff]
  unfold meetS ofMeet
  rw [tab_get, h.gone, hs]
  cases h1 : (findL l s).isSome with
  | true =>
    cases h2 : hasB r.names s with
    | true => simp only [Bool.true_eq_false, false_and, and_false, if_false, if_true]; exact h
    | false =>
      simp only [Bool.true_eq_false, false_and, and_self, if_false, if_true, Bool.false_eq_true]
      have hn : s ∉ r.names := fun hm => by rw [hasB_iff.2 hm] at h2; cases h2
      refine ⟨by simp [h.names], h.missing, h.gone, fun x => ?_⟩
      rw [mget_put, List.zip_append hok.same.symm, dOf_app, ← h.depth]
      by_cases e : x = s
      · subst e
        rw [if_pos rfl, h.depth, dOf_none hn]; simp [dOf]
      · rw [if_neg e]; simp [dOf, show ¬ s = x from fun h => e h.symm]
  | false =>
    cases h2 : hasB r.missing s with
    | true => simp only [Bool.true_eq_false, and_false, Bool.false_eq_true, false_and, if_false, if_true]; exact h
    | false =>
      simp only [and_self, if_true, Bool.false_eq_true, if_false]
      refine ⟨h.names, by simp [h.missing], fun x => ?_, h.depth⟩
      rw [mget_put]
      have e1 : hasB (r.missing ++ [s]) x = (hasB r.missing x || decide (s = x)) := by simp [hasB]
      rw [e1, ← h.gone]
      by_cases e : x = s
      · subst e; simp
      · rw [if_neg e]; simp [show ¬ s = x from fun h => e h.symm]
theorem Rel.fold {l : List Lib} (dp : Int) : ∀ (nd : List ByteArray) {w : Wk} {r : Rw}, Rel w r → r.ok l → Rel (nd.foldl (fun w' s => meetS (tabS l) w' s (dp + 1)) w) (nd.foldl (ofMeet l dp) r)
  | [], w, r, h, _ => h
  | s :: nd, w, r, h, hok => Rel.fold dp nd (h.meet hok dp s) (hok.meet dp s)
theorem Rel.round {l : List Lib} {w : Wk} {r : Rw} (h : Rel w r) (hok : r.ok l) {i : Nat} (hi : i < r.names.length) : Rel (roundS (tabS l) w i) (ofRound l r i) := by
  unfold roundS ofRound
  rw [h.names, tab_get]
  have h1 : r.names[i]? = some r.names[i] := List.getElem?_eq_getElem hi
  have h2 : r.depths[i]? = some (r.depths[i]'(by rw [hok.same]; exact hi)) := List.getElem?_eq_getElem (by rw [hok.same]; exact hi)
  have e1 : r.names.getD i ⟨#[]⟩ = r.names[i] := by rw [List.getD_eq_getElem?_getD, h1]; rfl
  have e2 : r.depths.getD i 0 = r.depths[i]'(by rw [hok.same]; exact hi) := by rw [List.getD_eq_getElem?_getD, h2]; rfl
  rw [e1, e2, h.depth, dOf_at hok.nodup h1 h2, Option.getD_some]
  exact Rel.fold _ _ h hok
theorem rel_go {l : List Lib} : ∀ (f i : Nat) {w : Wk} {r : Rw}, Rel w r → r.ok l → Rel (walkGo (tabS l) f i w) (ofGo l f i r)
  | 0, i, w, r, h, _ => h
  | f + 1, i, w, r, h, hok => by
    unfold walkGo ofGo
    rw [h.names]
    by_cases hi : i < r.names.length
    · rw [if_pos hi, if_pos hi]
      exact rel_go f (i + 1) (h.round hok hi) (ofFold_ok _ _ _ hok)
    · rw [if_neg hi, if_neg hi]; exact h
theorem fold_grow (t : Tbl) (dp : Int) : ∀ (nd : List ByteArray) (w : Wk), w.names.length ≤ (nd.foldl (fun w' s => meetS t w' s dp) w).names.length
  | [], w => Nat.le_refl _
  | s :: nd, w => by
    refine Nat.le_trans ?_ (fold_grow t dp nd _)
    show w.names.length ≤ (meetS t w s dp).names.length
    unfold meetS
    split
    · exact Nat.le_refl _
    · split
      · simp
      · exact Nat.le_refl _
theorem foldk_ok {t : Tbl} (dp : Int) : ∀ (nd : List ByteArray) (w : Wk), w.ok t → (nd.foldl (fun w' s => meetS t w' s dp) w).ok t
  | [], w, h => h
  | s :: nd, w, h => foldk_ok dp nd _ (meet_ok h s dp)
theorem walk_fuel {t : Tbl} : ∀ (f f' i : Nat) (w : Wk), w.ok t → i ≤ w.names.length → t.length + 1 - i ≤ f → t.length + 1 - i ≤ f' → walkGo t f i w = walkGo t f' i w
  | 0, f', i, w, hok, hi, h1, h2 => by have := ok_len hok; omega
  | f + 1, 0, i, w, hok, hi, h1, h2 => by have := ok_len hok; omega
  | f + 1, f' + 1, i, w, hok, hi, h1, h2 => by
    unfold walkGo
    by_cases hlt : i < w.names.length
    · rw [if_pos hlt, if_pos hlt]
      refine walk_fuel f f' (i + 1) _ (foldk_ok _ _ _ hok) ?_ (by omega) (by omega)
      exact Nat.le_trans hlt (fold_grow t _ _ w)
    · rw [if_neg hlt, if_neg hlt]
theorem rel_wk (l : List Lib) (root : ByteArray) : Rel (wk l root) (ofS l root) := by
  have hok0 : (meetS (tabS l) ⟨[], [], [], []⟩ root 0).ok (tabS l) := meet_ok ⟨List.nodup_nil, fun x hx => (by cases hx), fun x => (by simp [mget])⟩ root 0
  unfold wk walkS
  rw [walk_fuel _ (l.length + 1) 0 _ hok0 (Nat.zero_le _) (by omega) (by have := tab_len l; omega)]
  unfold ofS
  cases h : (findL l root).isSome with
  | true =>
    rw [if_pos rfl]
    refine rel_go _ _ ?_ ⟨by simp, fun x hx => by rw [List.mem_singleton.1 hx]; exact h, rfl⟩
    unfold meetS
    rw [tab_get, h]
    simp only [mget, Option.isSome_none, Bool.true_eq_false, false_and, and_self, if_false, if_true]
    refine ⟨rfl, rfl, fun x => (by simp [mget, hasB]), fun x => ?_⟩
    simp only [mput, mget, List.zip_cons_cons, List.zip_nil_left, dOf]
    by_cases e : x = root
    · simp [e]
    · simp [e, show ¬ root = x from fun h => e h.symm]
  | false =>
    rw [if_neg (by simp)]
    have e : meetS (tabS l) ⟨[], [], [], []⟩ root 0 = ⟨[], [], mput [] root true, [root]⟩ := by
      unfold meetS
      rw [tab_get, h]
      simp [mget]
    rw [e]
    unfold walkGo
    rw [if_neg (by simp)]
    refine ⟨rfl, rfl, fun x => ?_, fun x => rfl⟩
    simp only [mput, mget, hasB, List.any_cons, List.any_nil, Bool.or_false]
    by_cases e : x = root
    · simp [e]
    · simp [e, show ¬ root = x from fun h => e h.symm]
theorem order_eq (l : List Lib) (root : ByteArray) : orderS l root = rorderS l root := by
  have h := rel_wk l root
  unfold orderS rorderS
  rw [h.names, h.missing]
theorem depth_eq (l : List Lib) (root x : ByteArray) : (mget (wk l root).depth x).getD (-1) = rdepthS l root x := by
  unfold rdepthS
  rw [dIn_eq, (rel_wk l root).depth]
-- ---- what is reached
def Edge (l : List Lib) (x y : ByteArray) : Prop := y ∈ (findL l x).getD [] ∧ (findL l y).isSome = true
inductive Rch (l : List Lib) (x : ByteArray) : ByteArray → Prop where
  | refl : Rch l x x
  | tail {y z : ByteArray} (h : Rch l x y) (e : Edge l y z) : Rch l x z
theorem Rch.trans {l : List Lib} {x y z : ByteArray} (h : Rch l x y) (k : Rch l y z) : Rch l x z := by
  induction k with
  | refl => exact h
  | tail _ e ih => exact .tail ih e
theorem Rch.one {l : List Lib} {x y : ByteArray} (e : Edge l x y) : Rch l x y := .tail .refl e
theorem fold_inv {l : List Lib} {dp : Int} {J : Rw → Prop} : ∀ (nd : List ByteArray) (w : Rw), (∀ w s, s ∈ nd → J w → J (ofMeet l dp w s)) → J w → J (nd.foldl (ofMeet l dp) w)
  | [], w, _, h => h
  | s :: nd, w, hs, h => fold_inv nd _ (fun w q hq => hs w q (List.mem_cons_of_mem _ hq)) (hs w s (List.mem_cons_self ..) h)
theorem go_inv {l : List Lib} {I : Nat → Rw → Prop} (hs : ∀ i w, w.ok l → I i w → i < w.names.length → I (i + 1) (ofRound l w i)) : ∀ (f i : Nat) (w : Rw), w.ok l → i ≤ w.names.length → l.length + 1 - i ≤ f → I i w → I (ofGo l f i w).names.length (ofGo l f i w)
  | 0, i, w, hok, hi, hf, h => by have := hok.len; omega
  | f + 1, i, w, hok, hi, hf, h => by
    unfold ofGo
    by_cases hlt : i < w.names.length
    · rw [if_pos hlt]
      refine go_inv hs f (i + 1) _ (ofFold_ok _ _ _ hok) ?_ (by omega) (hs i w hok h hlt)
      have : w.names.length ≤ (ofRound l w i).names.length := fold_inv (J := fun r => w.names.length ≤ r.names.length) _ w (fun r s _ hr => by
        unfold ofMeet
        repeat' split
        · exact hr
        · simp; omega
        · exact hr
        · exact hr) (Nat.le_refl _)
      omega
    · rw [if_neg hlt]
      have : i = w.names.length := by omega
      subst this; exact h
/-- An invariant of all rounds holds at the end. -/
theorem ofS_inv {l : List Lib} {root : ByteArray} (hr : (findL l root).isSome = true) {I : Nat → Rw → Prop} (h0 : I 0 ⟨[root], [0], []⟩) (hs : ∀ i w, w.ok l → I i w → i < w.names.length → I (i + 1) (ofRound l w i)) : I (ofS l root).names.length (ofS l root) := by
  unfold ofS
  rw [if_pos hr]
  exact go_inv hs _ _ _ ⟨by simp, fun x hx => by rw [List.mem_singleton.1 hx]; exact hr, rfl⟩ (Nat.zero_le _) (by omega) h0
theorem meet_sub {l : List Lib} {dp : Int} {w : Rw} {s : ByteArray} : ∃ e, (ofMeet l dp w s).names = w.names ++ e := by
  unfold ofMeet
  repeat' split
  · exact ⟨[], by simp⟩
  · exact ⟨[s], rfl⟩
  · exact ⟨[], by simp⟩
  · exact ⟨[], by simp⟩
theorem fold_sub {l : List Lib} {dp : Int} (nd : List ByteArray) (w : Rw) : ∃ e, (nd.foldl (ofMeet l dp) w).names = w.names ++ e :=
  fold_inv (J := fun r => ∃ e, r.names = w.names ++ e) nd w (fun r s _ ⟨e, he⟩ => by
    obtain ⟨e', he'⟩ := meet_sub (l := l) (dp := dp) (w := r) (s := s)
    exact ⟨e ++ e', by rw [he', he, List.append_assoc]⟩) ⟨[], by simp⟩
theorem fold_all {l : List Lib} {dp : Int} : ∀ (nd : List ByteArray) (w : Rw), ∀ y ∈ nd, (findL l y).isSome = true → y ∈ (nd.foldl (ofMeet l dp) w).names
  | [], w, y, hy, _ => by cases hy
  | s :: nd, w, y, hy, hf => by
    rcases List.mem_cons.1 hy with rfl | hy
    · obtain ⟨e, he⟩ := fold_sub (l := l) (dp := dp) nd (ofMeet l dp w y)
      rw [List.foldl_cons, he]
      refine List.mem_append_left _ ?_
      unfold ofMeet
      rw [if_pos hf]
      split
      · rename_i h; exact hasB_iff.1 h
      · simp
    · exact fold_all nd _ y hy hf
theorem round_nd {w : Rw} {i : Nat} (hi : i < w.names.length) : w.names.getD i ⟨#[]⟩ = w.names[i] := by
  rw [List.getD_eq_getElem?_getD, List.getElem?_eq_getElem hi]; rfl
theorem names_iff {l : List Lib} {root x : ByteArray} (hr : (findL l root).isSome = true) : x ∈ (ofS l root).names ↔ Rch l root x := by
  have h1 : (∀ y ∈ (ofS l root).names, Rch l root y) ∧ root ∈ (ofS l root).names :=
    ofS_inv hr (I := fun _ w => (∀ y ∈ w.names, Rch l root y) ∧ root ∈ w.names) ⟨fun y hy => by rw [List.mem_singleton.1 hy]; exact .refl, by simp⟩ fun i w hok hI hi => by
      unfold ofRound
      rw [round_nd hi]
      refine fold_inv (J := fun w => (∀ y ∈ w.names, Rch l root y) ∧ root ∈ w.names) _ _ (fun r s hs hJ => ?_) hI
      unfold ofMeet
      repeat' split
      · exact hJ
      · rename_i hf hb
        refine ⟨fun y hy => ?_, List.mem_append_left _ hJ.2⟩
        rcases List.mem_append.1 hy with hy | hy
        · exact hJ.1 y hy
        · rw [List.mem_singleton.1 hy]
          exact .tail (hI.1 _ (List.getElem_mem hi)) ⟨hs, hf⟩
      · exact hJ
      · exact hJ
  have h2 : ∀ k y, (hk : k < (ofS l root).names.length) → Edge l ((ofS l root).names[k]) y → y ∈ (ofS l root).names := by
    have := ofS_inv hr (I := fun i w => ∀ k y, k < i → (hk : k < w.names.length) → Edge l (w.names[k]) y → y ∈ w.names) (fun k y hk => by omega) fun i w hok hI hi => by
      intro k y hk hk' he
      unfold ofRound at he hk' ⊢
      obtain ⟨e, hsub⟩ := fold_sub (l := l) (dp := w.depths.getD i 0) ((findL l (w.names.getD i ⟨#[]⟩)).getD []) w
      have hkw : k < w.names.length := by omega
      have hke : (((findL l (w.names.getD i ⟨#[]⟩)).getD []).foldl (ofMeet l (w.depths.getD i 0)) w).names[k] = w.names[k] := by
        simp only [hsub]; exact List.getElem_append_left hkw
      rw [hke] at he
      by_cases hki : k < i
      · rw [hsub]; exact List.mem_append_left _ (hI k y hki hkw he)
      · have : k = i := by omega
        subst this
        rw [round_nd hi]
        exact fold_all _ _ y he.1 he.2
    exact fun k y hk he => this k y hk hk he
  constructor
  · exact h1.1 x
  · intro h
    induction h with
    | refl => exact h1.2
    | tail _ e ih =>
      obtain ⟨k, hk, rfl⟩ := List.mem_iff_getElem.1 ih
      exact h2 k _ hk e
theorem depths_nonneg (l : List Lib) (root : ByteArray) : ∀ d ∈ (ofS l root).depths, 0 ≤ d := by
  cases hr : (findL l root).isSome with
  | true =>
    refine ofS_inv hr (I := fun _ w => ∀ d ∈ w.depths, 0 ≤ d) (fun d hd => by simp at hd; omega) fun i w hok hI hi => ?_
    unfold ofRound
    have h0 : 0 ≤ w.depths.getD i 0 := by
      rw [List.getD_eq_getElem?_getD]
      cases h : w.depths[i]? with
      | none => simp
      | some d => exact hI d (List.mem_of_getElem? h)
    refine fold_inv (J := fun w => ∀ d ∈ w.depths, 0 ≤ d) _ _ (fun r s hs hJ => ?_) hI
    unfold ofMeet
    repeat' split
    · exact hJ
    · intro d hd
      rcases List.mem_append.1 hd with hd | hd
      · exact hJ d hd
      · rw [List.mem_singleton.1 hd]; omega
    · exact hJ
    · exact hJ
  | false => unfold ofS; rw [hr, if_neg (by simp)]; intro d hd; cases hd
theorem dOf_val {x : ByteArray} {d : Int} : ∀ {L : List (ByteArray × Int)}, dOf L x = some d → (x, d) ∈ L
  | [], h => by cases h
  | (y, e) :: L, h => by
    simp only [dOf] at h
    split at h
    · rename_i hy; cases h; subst hy; simp
    · exact List.mem_cons_of_mem _ (dOf_val h)
theorem rdepth_nn {l : List Lib} {root x : ByteArray} : 0 ≤ rdepthS l root x ↔ x ∈ (ofS l root).names := by
  have hok := ofS_ok l root
  unfold rdepthS
  rw [dIn_eq, ← dOf_mem hok.same hok.nodup]
  cases h : dOf ((ofS l root).names.zip (ofS l root).depths) x with
  | none => simp
  | some d => simpa using depths_nonneg l root d (List.of_mem_zip (dOf_val h)).2
/-- Something that is reached comes back to itself. -/
def Cyc (l : List Lib) (r : ByteArray) : Prop := ∃ x y, Rch l r x ∧ Edge l x y ∧ Rch l y x
theorem rround_iff {l : List Lib} {root : ByteArray} (hr : (findL l root).isSome = true) : rroundS l root = true ↔ Cyc l root := by
  unfold rroundS Cyc
  simp only [List.any_eq_true, Bool.and_eq_true, decide_eq_true_eq, rdepth_nn]
  constructor
  · rintro ⟨x, hx, y, hy, hf, hxy⟩
    exact ⟨x, y, (names_iff hr).1 hx, ⟨hy, hf⟩, (names_iff hf).1 hxy⟩
  · rintro ⟨x, y, h1, ⟨h2, h3⟩, h4⟩
    exact ⟨x, (names_iff hr).2 h1, y, h2, h3, (names_iff h3).2 h4⟩
end Go.Proofs.Ytgljofdhdnhekaa.L

