/- Plain: one more library. -/
import Derived.Test.Ytgljofdhdnhekaac12P
namespace Go.Proofs.Ytgljofdhdnhekaa.L
open Go.L1 Go.IntWalk
set_option linter.unusedVariables false
set_option linter.unusedSimpArgs false
set_option maxHeartbeats 4000000
def newB : ByteArray := ⟨#[110, 101, 119]⟩
theorem new_ne (a : Int) : nameB a ≠ newB := fun e => by
  have := congrArg ByteArray.size e
  simp [nameB, newB, ByteArray.size] at this
/-- A name of a to p. -/
def Pn (x : ByteArray) : Prop := ∃ a : Int, x = nameB a
theorem Pn.new {x : ByteArray} (h : Pn x) : x ≠ newB := by obtain ⟨a, rfl⟩ := h; exact new_ne a
theorem list_closed {nd : List (List Int)} {many : Int} {x : ByteArray} {r : List ByteArray} (h : findL (listS nd many) x = some r) : ∀ y ∈ r, Pn y := by
  unfold findL at h
  obtain ⟨z, h1, rfl⟩ := Option.map_eq_some_iff.1 h
  obtain ⟨i, _, rfl⟩ := List.mem_map.1 (List.mem_of_find?_eq_some h1)
  intro y hy
  obtain ⟨a, _, rfl⟩ := List.mem_map.1 hy
  exact ⟨a, rfl⟩
theorem find_app (l m : List Lib) (x : ByteArray) : findL (l ++ m) x = (findL l x).or (findL m x) := by
  unfold findL
  rw [List.find?_append]
  cases l.find? (fun y => decide (y.name = x)) <;> rfl
theorem find_set (l : List Lib) (k : Nat) (y z : Lib) (x : ByteArray) (hk : l[k]? = some y) (hz : z.name = y.name) (hx : y.name ≠ x) : findL (l.set k z) x = findL l x := by
  induction l generalizing k with
  | nil => rfl
  | cons w l ih =>
    cases k with
    | zero =>
      simp only [List.getElem?_cons_zero, Option.some.injEq] at hk
      subst hk
      unfold findL
      simp [hz, hx]
    | succ k =>
      simp only [List.getElem?_cons_succ] at hk
      have := ih k hk
      unfold findL at this ⊢
      simp only [List.set_cons_succ, List.find?_cons]
      split
      · rfl
      · exact this
theorem find_set_at (l : List Lib) (k : Nat) (y z : Lib) (hk : l[k]? = some y) (hz : z.name = y.name) (hf : ∀ j w, j < k → l[j]? = some w → w.name ≠ y.name) : findL (l.set k z) y.name = some z.nd := by
  induction l generalizing k with
  | nil => simp at hk
  | cons w l ih =>
    cases k with
    | zero => unfold findL; simp [hz]
    | succ k =>
      simp only [List.getElem?_cons_succ] at hk
      have h0 := hf 0 w (by omega) rfl
      have := ih k hk (fun j v hj hv => hf (j + 1) v (by omega) hv)
      unfold findL at this ⊢
      simp only [List.set_cons_succ, List.find?_cons]
      rw [decide_eq_false h0]
      exact this
/-- Where two lists say the same of all names that come up, their closures are one. -/
theorem meet_same {l m : List Lib} {dp : Int} {s : ByteArray} (h : (findL m s).isSome = (findL l s).isSome) (w : Rw) : ofMeet m dp w s = ofMeet l dp w s := by
  unfold ofMeet; rw [h]
theorem fold_same {l m : List Lib} {dp : Int} : ∀ (r : List ByteArray) (w : Rw), (∀ s ∈ r, (findL m s).isSome = (findL l s).isSome) → r.foldl (ofMeet m dp) w = r.foldl (ofMeet l dp) w
  | [], w, _ => rfl
  | s :: r, w, h => by
    rw [List.foldl_cons, List.foldl_cons, meet_same (h s (List.mem_cons_self ..))]
    exact fold_same r _ fun s hs => h s (List.mem_cons_of_mem _ hs)
structure SubL (l m : List Lib) (new : ByteArray) (last : ByteArray) (nl : List ByteArray) : Prop where
  hsome : ∀ x, Pn x → (findL m x).isSome = (findL l x).isSome
  hsame : ∀ x, Pn x → x ≠ last → findL m x = findL l x
  hclosed : ∀ x r, findL l x = some r → ∀ y ∈ r, Pn y
  hlast : findL l last = some nl
theorem fold_pn {l : List Lib} {dp : Int} (r : List ByteArray) (w : Rw) (h : ∀ s ∈ r, Pn s) (hw : ∀ x ∈ w.names, Pn x) : ∀ x ∈ (r.foldl (ofMeet l dp) w).names, Pn x :=
  fold_inv (J := fun w => ∀ x ∈ w.names, Pn x) r w (fun w s hs hJ => by
    unfold ofMeet
    repeat' split
    · exact hJ
    · intro x hx
      rcases List.mem_append.1 hx with hx | hx
      · exact hJ x hx
      · rw [List.mem_singleton.1 hx]; exact h s hs
    · exact hJ
    · exact hJ) hw
theorem go_sub (l : List Lib) : ∀ (f i : Nat) (w : Rw), ∃ e, (ofGo l f i w).names = w.names ++ e
  | 0, i, w => ⟨[], by simp [ofGo]⟩
  | f + 1, i, w => by
    unfold ofGo
    split
    · obtain ⟨e, he⟩ := fold_sub (l := l) (dp := w.depths.getD i 0) ((findL l (w.names.getD i ⟨#[]⟩)).getD []) w
      obtain ⟨e', he'⟩ := go_sub l f (i + 1) (ofRound l w i)
      unfold ofRound at he'
      exact ⟨e ++ e', by unfold ofRound; rw [he', he, List.append_assoc]⟩
    · exact ⟨[], by simp⟩
theorem go_fuel {l : List Lib} : ∀ (f f' i : Nat) (w : Rw), w.ok l → i ≤ w.names.length → l.length + 1 - i ≤ f → l.length + 1 - i ≤ f' → ofGo l f i w = ofGo l f' i w
  | 0, f', i, w, hok, hi, h1, h2 => by have := hok.len; omega
  | f + 1, 0, i, w, hok, hi, h1, h2 => by have := hok.len; omega
  | f + 1, f' + 1, i, w, hok, hi, h1, h2 => by
    unfold ofGo
    by_cases hlt : i < w.names.length
    · rw [if_pos hlt, if_pos hlt]
      refine go_fuel f f' (i + 1) _ (ofFold_ok _ _ _ hok) ?_ (by omega) (by omega)
      obtain ⟨e, he⟩ := fold_sub (l := l) (dp := w.depths.getD i 0) ((findL l (w.names.getD i ⟨#[]⟩)).getD []) w
      unfold ofRound
      rw [he, List.length_append]
      omega
    · rw [if_neg hlt, if_neg hlt]
/-- Nothing is turned. -/
theorem go_same {l m : List Lib} (hs : ∀ x, Pn x → findL m x = findL l x) (hc : ∀ x r, findL l x = some r → ∀ y ∈ r, Pn y) : ∀ (f i : Nat) (w : Rw), (∀ x ∈ w.names, Pn x) → ofGo m f i w = ofGo l f i w
  | 0, i, w, h => rfl
  | f + 1, i, w, h => by
    unfold ofGo
    by_cases hlt : i < w.names.length
    · rw [if_pos hlt, if_pos hlt]
      have hn : Pn (w.names[i]) := h _ (List.getElem_mem hlt)
      have he : ofRound m w i = ofRound l w i := by
        unfold ofRound
        rw [round_nd hlt, hs _ hn]
        refine fold_same _ _ fun s hs' => ?_
        cases hf : findL l w.names[i] with
        | none => rw [hf] at hs'; cases hs'
        | some r => rw [hf] at hs'; rw [hs s (hc _ r hf s hs')]
      rw [he]
      refine go_same hs hc f (i + 1) _ ?_
      unfold ofRound
      rw [round_nd hlt]
      refine fold_pn _ _ (fun s hs' => ?_) h
      cases hf : findL l w.names[i] with
      | none => rw [hf] at hs'; cases hs'
      | some r => rw [hf] at hs'; exact hc _ r hf s hs'
    · rw [if_neg hlt, if_neg hlt]
/-- The last one needs a new one that needs the root. -/
theorem go_grow {l m : List Lib} {root last : ByteArray} {nl : List ByteArray} (hs : SubL l m newB last nl) (hml : findL m last = some (nl ++ [newB])) (hmn : findL m newB = some [root]) (hmr : (findL m root).isSome = true) (F : Rw) (hFr : root ∈ F.names) (hFl : F.names[F.names.length - 1]? = some last) (hFn : F.names.Nodup) (hFp : ∀ x ∈ F.names, Pn x) (hFd : F.depths.length = F.names.length) :
    ∀ (f i : Nat) (w : Rw), w.ok l → (∀ x ∈ w.names, Pn x) → i + 1 ≤ F.names.length → i ≤ w.names.length → ofGo l f i w = F → l.length + 1 - i ≤ f → (ofGo m (f + 1) i w).names = F.names ++ [newB] ∧ (ofGo m (f + 1) i w).missing = F.missing
  | 0, i, w, hok, hp, hi, hw, hF, hf => by have := hok.len; omega
  | f + 1, i, w, hok, hp, hi, hw, hF, hf => by
    have hlt : i < w.names.length := by
      by_cases hlt : i < w.names.length
      · exact hlt
      · exfalso
        unfold ofGo at hF
        rw [if_neg hlt] at hF
        subst hF
        omega
    have hin : (F.names)[i]? = some w.names[i] := by
      obtain ⟨e, he⟩ := go_sub l (f + 1) i w
      rw [hF] at he
      rw [he, List.getElem?_append_left hlt, List.getElem?_eq_getElem hlt]
    unfold ofGo at hF
    rw [if_pos hlt] at hF
    have hpn : Pn (w.names[i]) := hp _ (List.getElem_mem hlt)
    have hok1 : (ofRound l w i).ok l := ofFold_ok _ _ _ hok
    have hcl : ∀ s ∈ (findL l w.names[i]).getD [], Pn s := fun s hs' => by
      cases hf : findL l w.names[i] with
      | none => rw [hf] at hs'; cases hs'
      | some r => rw [hf] at hs'; exact hs.hclosed _ r hf s hs'
    have hp1 : ∀ x ∈ (ofRound l w i).names, Pn x := by
      unfold ofRound
      rw [round_nd hlt]
      exact fold_pn _ _ hcl hp
    have hg1 : i + 1 ≤ (ofRound l w i).names.length := by
      obtain ⟨e, he⟩ := fold_sub (l := l) (dp := w.depths.getD i 0) ((findL l (w.names.getD i ⟨#[]⟩)).getD []) w
      unfold ofRound
      rw [he, List.length_append]
      omega
    rw [show f + 1 + 1 = (f + 1) + 1 from rfl, ofGo, if_pos hlt]
    by_cases hil : i + 1 < F.names.length
    · have hne : w.names[i] ≠ last := fun e => by
        obtain ⟨g1, e1⟩ := List.getElem?_eq_some_iff.1 hin
        obtain ⟨g2, e2⟩ := List.getElem?_eq_some_iff.1 hFl
        exact List.pairwise_iff_getElem.1 hFn i (F.names.length - 1) g1 g2 (by omega) (by rw [e1, e2, e])
      have he : ofRound m w i = ofRound l w i := by
        unfold ofRound
        rw [round_nd hlt, hs.hsame _ hpn hne]
        exact fold_same _ _ fun s hs' => hs.hsome s (hcl s hs')
      rw [he]
      exact go_grow hs hml hmn hmr F hFr hFl hFn hFp hFd f (i + 1) _ hok1 hp1 (by omega) hg1 hF (by omega)
    · have hiN : i = F.names.length - 1 := by omega
      have hlast : w.names[i] = last := by
        rw [← hiN, hin] at hFl
        exact Option.some.inj hFl
      have hnl : ofRound l w i = nl.foldl (ofMeet l (w.depths.getD i 0)) w := by
        unfold ofRound
        rw [round_nd hlt, hlast, hs.hlast]; rfl
      have hend : ofRound l w i = F := by
        obtain ⟨e, he⟩ := go_sub l f (i + 1) (ofRound l w i)
        rw [hF] at he
        have hlen := congrArg List.length he
        rw [List.length_append] at hlen
        have h0 : i + 1 = (ofRound l w i).names.length := by omega
        cases f with
        | zero => rw [ofGo] at hF; exact hF
        | succ f => rw [ofGo, if_neg (by omega)] at hF; exact hF
      have hnp : ∀ s ∈ nl, (findL m s).isSome = (findL l s).isSome := fun s hs' => hs.hsome s (hs.hclosed _ nl hs.hlast s hs')
      have hnn : newB ∉ F.names := fun hm => (hFp _ hm).new rfl
      have hmr1 : ofRound m w i = { F with names := F.names ++ [newB], depths := F.depths ++ [w.depths.getD i 0 + 1] } := by
        unfold ofRound
        rw [round_nd hlt, hlast, hml, Option.getD_some, List.foldl_append, fold_same nl w hnp, ← hnl, hend]
        simp only [List.foldl_cons, List.foldl_nil]
        unfold ofMeet
        rw [hmn, if_pos (show (some [root]).isSome = true from rfl), if_neg (fun h => hnn (hasB_iff.1 h))]
      rw [hmr1]
      -- the new one's round
      rw [ofGo, if_pos (by simp; omega)]
      have hr2 : ofRound m { F with names := F.names ++ [newB], depths := F.depths ++ [w.depths.getD i 0 + 1] } (i + 1) = { F with names := F.names ++ [newB], depths := F.depths ++ [w.depths.getD i 0 + 1] } := by
        unfold ofRound
        have hx : (F.names ++ [newB]).getD (i + 1) ⟨#[]⟩ = newB := by
          rw [List.getD_eq_getElem?_getD, List.getElem?_append_right (by omega), show i + 1 - F.names.length = 0 by omega]; rfl
        simp only [hx, hmn, Option.getD_some, List.foldl_cons, List.foldl_nil]
        unfold ofMeet
        rw [if_pos hmr, if_pos (hasB_iff.2 (List.mem_append_left _ hFr))]
      rw [hr2]
      cases f with
      | zero => exact ⟨rfl, rfl⟩
      | succ f => rw [ofGo, if_neg (by simp; omega)]; exact ⟨rfl, rfl⟩
end Go.Proofs.Ytgljofdhdnhekaa.L

