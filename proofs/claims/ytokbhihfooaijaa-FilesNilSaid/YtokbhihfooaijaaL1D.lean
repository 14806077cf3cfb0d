/- What turns the heap keeps it standing to the model's: a new object, one that is written, one that is moved. -/
import Derived.Test.YtokbhihfooaijaaL1C
namespace Go.L1
open Go.RowKit
set_option linter.unusedVariables false
set_option linter.unusedSimpArgs false
theorem cell_of {w : World} {b o : Nat} {c : Array Value} {e : TypeId} {fz : Nat × Nat} (h : w.heap[b]? = some (.cells c e fz)) : w.cell? ⟨b, o, none⟩ = c[o]? := by simp [World.cell?, h]
theorem frozen_of {w : World} {b o : Nat} {c : Array Value} {e : TypeId} {fz : Nat × Nat} (h : w.heap[b]? = some (.cells c e fz)) : w.frozen? ⟨b, o, none⟩ = (fz.1 ≤ o && o < fz.2) := by obtain ⟨lo, hi⟩ := fz; simp [World.frozen?, h]
theorem addr_add (b o k : Nat) : (⟨b, o, none⟩ : Addr).add k = ⟨b, o + k, none⟩ := by unfold Addr.add; split <;> simp_all
def up (ρ : Rho) (i : Nat) (p : Nat × Nat) : Rho := ⟨fun j => if j = i then p else ρ j, ρ.ice, ρ.snow⟩
@[simp] theorem up_same (ρ : Rho) (i : Nat) (p : Nat × Nat) : up ρ i p i = p := if_pos rfl
theorem up_ne {ρ : Rho} {i j : Nat} {p : Nat × Nat} (h : j ≠ i) : up ρ i p j = ρ j := if_neg h
structure Good (C : Cx) (ρ : Rho) (H : Hp) (w : World) (ρ' : Rho) (H' : Hp) (w' : World) : Prop where
  more : More H.next ρ w H'.next ρ' w'
  hr : HR C ρ' H' w'
  mark : H'.mark = H.mark
  old : ∀ i, i < H.mark → H'.get i = H.get i
  size : w.heap.size ≤ w'.heap.size
  calm : ∀ b, b < w.heap.size → H.still ρ b → w'.heap[b]? = w.heap[b]?
  snow : ρ'.snow = ρ.snow
  born : ∀ i, H.mark ≤ i → H'.get i ≠ none → (∃ j, H.mark ≤ j ∧ H.get j ≠ none ∧ (ρ j).1 = (ρ' i).1) ∨ w.heap.size ≤ (ρ' i).1
theorem Good.refl {C ρ H w} (h : HR C ρ H w) : Good C ρ H w ρ H w := ⟨More.refl _ _ _, h, rfl, fun _ _ => rfl, Nat.le_refl _, fun _ _ _ => rfl, rfl, fun i hi hg => .inl ⟨i, hi, hg, rfl⟩⟩
theorem Good.trans {C ρ H w ρ' H' w' ρ'' H'' w''} (h : Good C ρ H w ρ' H' w') (k : Good C ρ' H' w' ρ'' H'' w'') : Good C ρ H w ρ'' H'' w'' :=
  ⟨h.more.trans k.more, k.hr, k.mark.trans h.mark, fun i hi => (k.old i (by rw [h.mark]; exact hi)).trans (h.old i hi), Nat.le_trans h.size k.size,
   fun b hb hs => (k.calm b (Nat.lt_of_lt_of_le hb h.size) (fun i hi hg => by
     rw [h.mark] at hi
     rcases h.born i hi hg with ⟨j, h1, h2, h3⟩ | h1
     · rw [← h3]; exact hs j h1 h2
     · omega)).trans (h.calm b hb hs),
   k.snow.trans h.snow,
   fun i hi hg => by
     rcases k.born i (by rw [h.mark]; exact hi) hg with ⟨j, h1, h2, h3⟩ | h1
     · rw [h.mark] at h1
       rw [← h3]; exact h.born j h1 h2
     · exact .inr (Nat.le_trans h.size h1)⟩
structure Calm (w w' : World) : Prop where
  os : w'.os = w.os
  tape : w'.tape = w.tape
  output : w'.output = w.output
theorem Calm.refl (w : World) : Calm w w := ⟨rfl, rfl, rfl⟩
variable {C : Cx} {ρ : Rho} {H : Hp} {w : World}
/-- A draw. -/
theorem HR.drew (hr : HR C ρ H w) {w' : World} (hh : w'.heap = w.heap) (hc : Calm w w') : Good C ρ H w ρ H w' := by
  have hk : Keeps w w' := fun b c e fz h => ⟨c, fz, by rw [hh]; exact h, rfl⟩
  have hm : More H.next ρ w H.next ρ w' := hr.more (Nat.le_refl _) (fun _ _ => rfl) hk rfl rfl (fun b _ _ => by rw [hh])
  refine ⟨hm, ⟨hr.below.trans ⟨hc.os, hc.tape, hc.output, by rw [hh]; exact Nat.le_refl _, fun k _ => by rw [hh]⟩, by rw [hh]; exact hr.hbase, hr.fm, hr.mn, fun i o hg => ?_, hr.apart, fun b hb => by rw [hh]; exact hr.ice b hb, fun b hb => by rw [hh]; exact hr.snow b hb⟩, rfl, fun _ _ => rfl, by rw [hh]; exact Nat.le_refl _, fun b _ _ => by rw [hh], rfl, fun i hi hg => .inl ⟨i, hi, hg, rfl⟩⟩
  obtain ⟨h1, h2⟩ := hr.ob i o hg
  exact ⟨h1, h2.same hm h1 (by rw [hh])⟩
/-- A new object, in the block behind the last one. -/
theorem HR.fresh (hr : HR C ρ H w) {o : Ob} {O : Obj} {w' : World} (hh : w'.heap = w.heap.push O) (hc : Calm w w')
    (ho : OR C (H.next + 1) (up ρ H.next (w.heap.size, 0)) w' H.next o) : Good C ρ H w (up ρ H.next (w.heap.size, 0)) (H.new o) w' := by
  have hold : ∀ k, k < w.heap.size → w'.heap[k]? = w.heap[k]? := fun k hk => by rw [hh, Array.getElem?_push, if_neg (by omega)]
  have hk : Keeps w w' := fun b c e fz h => ⟨c, fz, by rw [hold b (Array.getElem?_eq_some_iff.1 h).1]; exact h, rfl⟩
  have hne : ∀ i, i < H.next → up ρ H.next (w.heap.size, 0) i = ρ i := fun i hi => up_ne (by omega)
  have hm : More H.next ρ w (H.next + 1) (up ρ H.next (w.heap.size, 0)) w' := hr.more (by omega) hne hk rfl rfl (fun b hb _ => hold b hb)
  have hz : w'.heap.size = w.heap.size + 1 := by rw [hh, Array.size_push]
  have hb := hr.hbase
  refine ⟨hm, ⟨hr.below.trans ⟨hc.os, hc.tape, hc.output, by omega, fun k hk => hold k (by omega)⟩, by omega, hr.fm, Nat.le_trans hr.mn (Nat.le_succ _), fun i o' hg => ?_, fun i j hij hi hgi hgj => ?_, fun b hb => ⟨by have := (hr.ice b hb).1; omega, fun i hi hg => ?_⟩, fun b hb => ⟨by have := (hr.snow b hb).1; omega, fun i hi hg => ?_⟩⟩, rfl, fun i hi => ?_, by omega, fun b hb _ => hold b hb, rfl, fun i hi hg => ?_⟩
  · simp only [Hp.new] at hg ⊢
    by_cases e : i = H.next
    · subst e
      rw [if_pos rfl] at hg
      cases hg
      exact ⟨by omega, ho⟩
    · rw [if_neg e] at hg
      obtain ⟨h1, h2⟩ := hr.ob i o' hg
      exact ⟨by omega, h2.same hm h1 (hold _ h2.block)⟩
  · simp only [Hp.new] at hgi hgj
    have lt : ∀ k, k ≠ H.next → (if k = H.next then some o else H.get k) ≠ none → k < H.next ∧ (ρ k).1 < w.heap.size ∧ H.get k ≠ none := fun k hk hg => by
      rw [if_neg hk] at hg
      obtain ⟨x, hx⟩ := Option.ne_none_iff_exists'.1 hg
      exact ⟨(hr.ob k x hx).1, (hr.ob k x hx).2.block, hg⟩
    by_cases ei : i = H.next
    · subst ei
      obtain ⟨h1, h2, _⟩ := lt j (Ne.symm hij) hgj
      rw [up_same, hne j h1]
      show w.heap.size ≠ _
      omega
    · obtain ⟨h1, h2, h3⟩ := lt i ei hgi
      by_cases ej : j = H.next
      · subst ej
        rw [up_same, hne i h1]
        show _ ≠ w.heap.size
        omega
      · obtain ⟨k1, k2, k3⟩ := lt j ej hgj
        rw [hne i h1, hne j k1]
        exact hr.apart i j hij hi h3 k3
  · by_cases e : i = H.next
    · subst e; rw [up_same]; have := (hr.ice b hb).1; show w.heap.size ≠ b; omega
    · simp only [Hp.new, if_neg e] at hg
      rw [up_ne e]; exact (hr.ice b hb).2 i hi hg
  · by_cases e : i = H.next
    · subst e; rw [up_same]; have := (hr.snow b hb).1; show w.heap.size ≠ b; omega
    · simp only [Hp.new, if_neg e] at hg
      rw [up_ne e]; exact (hr.snow b hb).2 i hi hg
  · simp only [Hp.new]
    rw [if_neg (by have := hr.mn; omega)]
  · by_cases e : i = H.next
    · subst e; rw [up_same]; exact .inr (Nat.le_refl _)
    · simp only [Hp.new, if_neg e] at hg
      rw [up_ne e]; exact .inl ⟨i, hi, hg, rfl⟩
/-- One that is written: its block alone turns. -/
theorem HR.turn (hr : HR C ρ H w) {i : Nat} {o o' : Ob} {w' : World} (hm : H.mark ≤ i) (hg : H.get i = some o) (hb : ∀ k, k ≠ (ρ i).1 → w'.heap[k]? = w.heap[k]?) (hz : w'.heap.size = w.heap.size)
    (hc : Calm w w') (hk : Keeps w w') (hbase : C.base ≤ (ρ i).1) (ho : OR C H.next ρ w' i o') : Good C ρ H w ρ (H.put i (some o')) w' := by
  have hcalm : ∀ b, b < w.heap.size → H.still ρ b → w'.heap[b]? = w.heap[b]? := fun b _ hs => hb b (Ne.symm (hs i hm (by rw [hg]; simp)))
  have hmo : More H.next ρ w H.next ρ w' := hr.more (Nat.le_refl _) (fun _ _ => rfl) hk rfl rfl hcalm
  have hi : C.fence ≤ i := Nat.le_trans hr.fm hm
  have hlive : ∀ j, (H.put i (some o')).get j ≠ none → H.get j ≠ none := fun j hj => by
    by_cases e : j = i
    · subst e; rw [hg]; simp
    · simp only [Hp.put, if_neg e] at hj; exact hj
  refine ⟨hmo, ⟨hr.below.trans ⟨hc.os, hc.tape, hc.output, by omega, fun k hk' => hb k (by omega)⟩, by rw [hz]; exact hr.hbase, hr.fm, hr.mn, fun j x hj => ?_, fun j k hjk hfj hgj hgk => ?_, fun b hb => ⟨by rw [hz]; exact (hr.ice b hb).1, fun j hj hgj => (hr.ice b hb).2 j hj (hlive j hgj)⟩, fun b hb => ⟨by rw [hz]; exact (hr.snow b hb).1, fun j hj hgj => (hr.snow b hb).2 j hj (hlive j hgj)⟩⟩, rfl, fun j hj => ?_, by omega, hcalm, rfl, fun j hj hgj => .inl ⟨j, hj, hlive j hgj, rfl⟩⟩
  · simp only [Hp.put] at hj ⊢
    by_cases e : j = i
    · subst e
      rw [if_pos rfl] at hj
      cases hj
      exact ⟨(hr.ob j o hg).1, ho⟩
    · rw [if_neg e] at hj
      obtain ⟨h1, h2⟩ := hr.ob j x hj
      exact ⟨h1, h2.same hmo h1 (hb _ (Ne.symm (hr.apart i j (Ne.symm e) hi (by rw [hg]; simp) (by rw [hj]; simp))))⟩
  · simp only [Hp.put] at hgj hgk
    refine hr.apart j k hjk hfj ?_ ?_
    · by_cases e : j = i
      · subst e; rw [hg]; simp
      · rwa [if_neg e] at hgj
    · by_cases e : k = i
      · subst e; rw [hg]; simp
      · rwa [if_neg e] at hgk
  · simp only [Hp.put]; rw [if_neg (by omega)]
/-- One that is let go. -/
theorem HR.drop (hr : HR C ρ H w) {i : Nat} (hm : H.mark ≤ i) : Good C ρ H w ρ (H.put i none) w := by
  have hlive : ∀ j, (H.put i none).get j ≠ none → H.get j ≠ none := fun j hj => by
    by_cases e : j = i
    · subst e; simp [Hp.put] at hj
    · simp only [Hp.put, if_neg e] at hj; exact hj
  refine ⟨More.refl _ _ _, ⟨hr.below, hr.hbase, hr.fm, hr.mn, fun j x hj => ?_, fun j k hjk hfj hgj hgk => ?_, fun b hb => ⟨(hr.ice b hb).1, fun j hj hgj => (hr.ice b hb).2 j hj (hlive j hgj)⟩, fun b hb => ⟨(hr.snow b hb).1, fun j hj hgj => (hr.snow b hb).2 j hj (hlive j hgj)⟩⟩, rfl, fun j hj => ?_, Nat.le_refl _, fun _ _ _ => rfl, rfl, fun j hj hgj => .inl ⟨j, hj, hlive j hgj, rfl⟩⟩
  · simp only [Hp.put] at hj ⊢
    by_cases e : j = i
    · rw [if_pos e] at hj; cases hj
    · rw [if_neg e] at hj; exact hr.ob j x hj
  · simp only [Hp.put] at hgj hgk
    have h1 : j ≠ i := fun e => by rw [if_pos e] at hgj; exact hgj rfl
    have h2 : k ≠ i := fun e => by rw [if_pos e] at hgk; exact hgk rfl
    rw [if_neg h1] at hgj
    rw [if_neg h2] at hgk
    exact hr.apart j k hjk hfj hgj hgk
  · simp only [Hp.put]; rw [if_neg (by omega)]
/-- One that lives on in its block under a new number. -/
theorem HR.moved (hr : HR C ρ H w) {i o0 : Nat} {o o' : Ob} {w' : World} (hm : H.mark ≤ i) (hg : H.get i = some o) (hb : ∀ k, k ≠ (ρ i).1 → w'.heap[k]? = w.heap[k]?) (hz : w'.heap.size = w.heap.size)
    (hc : Calm w w') (hk : Keeps w w') (hbase : C.base ≤ (ρ i).1) (ho : OR C (H.next + 1) (up ρ H.next ((ρ i).1, o0)) w' H.next o') : Good C ρ H w (up ρ H.next ((ρ i).1, o0)) ((H.put i none).new o') w' := by
  have hne : ∀ j, j < H.next → up ρ H.next ((ρ i).1, o0) j = ρ j := fun j hj => up_ne (by omega)
  have hcalm : ∀ b, b < w.heap.size → H.still ρ b → w'.heap[b]? = w.heap[b]? := fun b _ hs => hb b (Ne.symm (hs i hm (by rw [hg]; simp)))
  have hmo : More H.next ρ w (H.next + 1) (up ρ H.next ((ρ i).1, o0)) w' := hr.more (by omega) hne hk rfl rfl hcalm
  have hi : C.fence ≤ i := Nat.le_trans hr.fm hm
  have hgi : H.get i ≠ none := by rw [hg]; simp
  have hin := (hr.ob i o hg).1
  have look : ∀ k x, ((H.put i none).new o').get k = some x → (k = H.next ∧ x = o') ∨ (k < H.next ∧ k ≠ i ∧ H.get k = some x) := fun k x hx => by
    replace hx : (if k = H.next then some o' else if k = i then none else H.get k) = some x := hx
    by_cases e : k = H.next
    · rw [if_pos e] at hx; cases hx; exact .inl ⟨e, rfl⟩
    · rw [if_neg e] at hx
      by_cases e2 : k = i
      · rw [if_pos e2] at hx; cases hx
      · rw [if_neg e2] at hx; exact .inr ⟨(hr.ob k x hx).1, e2, hx⟩
  have hlive : ∀ k, ((H.put i none).new o').get k ≠ none → (k = H.next ∧ (up ρ H.next ((ρ i).1, o0) k).1 = (ρ i).1) ∨ (H.get k ≠ none ∧ up ρ H.next ((ρ i).1, o0) k = ρ k) := fun k hk => by
    obtain ⟨x, hx⟩ := Option.ne_none_iff_exists'.1 hk
    rcases look k x hx with ⟨rfl, _⟩ | ⟨h1, h2, h3⟩
    · exact .inl ⟨rfl, by rw [up_same]⟩
    · exact .inr ⟨by rw [h3]; simp, hne k h1⟩
  refine ⟨hmo, ⟨hr.below.trans ⟨hc.os, hc.tape, hc.output, by omega, fun k hk' => hb k (by omega)⟩, by rw [hz]; exact hr.hbase, hr.fm, Nat.le_trans hr.mn (Nat.le_succ _), fun j x hj => ?_, fun j k hjk hfj hgj hgk => ?_, fun b hb => ⟨by rw [hz]; exact (hr.ice b hb).1, fun j hj hgj => ?_⟩, fun b hb => ⟨by rw [hz]; exact (hr.snow b hb).1, fun j hj hgj => ?_⟩⟩, rfl, fun j hj => ?_, by omega, hcalm, rfl, fun j hj hgj => ?_⟩
  · rcases look j x hj with ⟨rfl, rfl⟩ | ⟨h1, h2, h3⟩
    · exact ⟨Nat.lt_succ_self _, ho⟩
    · obtain ⟨_, h4⟩ := hr.ob j x h3
      exact ⟨Nat.lt_succ_of_lt h1, h4.same hmo h1 (hb _ (Ne.symm (hr.apart i j (Ne.symm h2) hi hgi (by rw [h3]; simp))))⟩
  · obtain ⟨x, hx⟩ := Option.ne_none_iff_exists'.1 hgj
    obtain ⟨y, hy⟩ := Option.ne_none_iff_exists'.1 hgk
    rcases look j x hx with ⟨rfl, rfl⟩ | ⟨h1, h2, h3⟩
    · rcases look k y hy with ⟨rfl, rfl⟩ | ⟨k1, k2, k3⟩
      · exact absurd rfl hjk
      · rw [up_same, hne k k1]; exact hr.apart i k (Ne.symm k2) hi hgi (by rw [k3]; simp)
    · rcases look k y hy with ⟨rfl, rfl⟩ | ⟨k1, k2, k3⟩
      · rw [up_same, hne j h1]; exact Ne.symm (hr.apart i j (Ne.symm h2) hi hgi (by rw [h3]; simp))
      · rw [hne j h1, hne k k1]; exact hr.apart j k hjk hfj (by rw [h3]; simp) (by rw [k3]; simp)
  · rcases hlive j hgj with ⟨_, h⟩ | ⟨h1, h2⟩
    · rw [h]; exact (hr.ice b hb).2 i hi hgi
    · rw [h2]; exact (hr.ice b hb).2 j hj h1
  · rcases hlive j hgj with ⟨_, h⟩ | ⟨h1, h2⟩
    · rw [h]; exact (hr.snow b hb).2 i hm hgi
    · rw [h2]; exact (hr.snow b hb).2 j hj h1
  · show (if j = H.next then some o' else if j = i then none else H.get j) = H.get j
    have := hr.mn
    have h1 : j ≠ H.next := by omega
    have h2 : j ≠ i := by omega
    simp [h1, h2]
  · rcases hlive j hgj with ⟨_, h⟩ | ⟨h1, h2⟩
    · exact .inl ⟨i, hm, hgi, h.symm⟩
    · exact .inl ⟨j, hj, h1, by rw [h2]⟩
-- ---- stores, as lists
theorem setCells_heap (b : Nat) : ∀ (vs : List Value) (o : Nat) (w : World) (c : Array Value) (e : TypeId) (fz : Nat × Nat), w.heap[b]? = some (.cells c e fz) →
    (w.setCells b o vs).heap[b]? = some (.cells (wrList c.toList o vs).toArray e fz) ∧ (∀ k, k ≠ b → (w.setCells b o vs).heap[k]? = w.heap[k]?) ∧ (w.setCells b o vs).heap.size = w.heap.size ∧ Calm w (w.setCells b o vs)
  | [], o, w, c, e, fz, h => ⟨by simpa [World.setCells, wrList] using h, fun _ _ => rfl, rfl, Calm.refl w⟩
  | v :: r, o, w, c, e, fz, h => by
    have h1 : (w.setCell ⟨b, o, none⟩ v).heap[b]? = some (.cells (c.setIfInBounds o v) e fz) := by simp [World.setCell, Array.getElem?_modify, h]
    have h2 : ∀ k, k ≠ b → (w.setCell ⟨b, o, none⟩ v).heap[k]? = w.heap[k]? := fun k hk => by simp [World.setCell, Array.getElem?_modify, Ne.symm hk]
    obtain ⟨a1, a2, a3, a4⟩ := setCells_heap b r (o + 1) _ _ e fz h1
    refine ⟨?_, fun k hk => (a2 k hk).trans (h2 k hk), a3.trans (by simp [World.setCell]), ⟨a4.os, a4.tape, a4.output⟩⟩
    rw [World.setCells, a1, wrList]
    simp
theorem wrList_length : ∀ (x l : List Value) (o : Nat), (wrList l o x).length = l.length
  | [], _, _ => rfl
  | _ :: x, l, o => by rw [wrList, wrList_length]; simp
theorem wrList_get : ∀ (x l : List Value) (o j : Nat), o + x.length ≤ l.length → (wrList l o x)[j]? = if o ≤ j ∧ j < o + x.length then x[j - o]? else l[j]?
  | [], l, o, j, h => by simp only [wrList, List.length_nil]; rw [if_neg (by omega)]
  | v :: x, l, o, j, h => by
    simp only [List.length_cons] at h
    rw [wrList, wrList_get x _ _ _ (by simp; omega)]
    by_cases h1 : j = o
    · subst h1
      rw [if_neg (by omega), if_pos (by simp), List.getElem?_set_self (by omega)]
      simp
    · by_cases h2 : o + 1 ≤ j ∧ j < o + 1 + x.length
      · rw [if_pos h2, if_pos (by simp; omega), show j - o = (j - (o + 1)) + 1 by omega]
        simp
      · rw [if_neg h2, if_neg (by simp; omega), List.getElem?_set_ne (by omega)]
theorem Keeps.block {w w' : World} {b : Nat} {c c' : Array Value} {e : TypeId} {fz fz' : Nat × Nat} (hb : ∀ k, k ≠ b → w'.heap[k]? = w.heap[k]?) (h : w.heap[b]? = some (.cells c e fz)) (h' : w'.heap[b]? = some (.cells c' e fz')) (hs : c'.size = c.size) : Keeps w w' := by
  intro k x e' fx hx
  by_cases e : k = b
  · subst e
    rw [h] at hx
    cases hx
    exact ⟨c', fz', h', hs⟩
  · exact ⟨x, fx, by rw [hb k e]; exact hx, rfl⟩
theorem all_one {l : List Value} (h : l.all one = true) {l' : List Value} {n ρ w} (hv : VRL C n ρ w l l') : ∀ v ∈ l', v.oneCell' = true := by
  intro v hm
  obtain ⟨j, hj, rfl⟩ := List.getElem_of_mem hm
  have hjl : j < l.length := by rw [hv.1]; exact hj
  obtain ⟨u, hu, hr⟩ := hv.2 j l[j] (List.getElem?_eq_getElem hjl)
  rw [List.getElem?_eq_getElem hj] at hu
  cases hu
  rw [hr.one_eq]
  exact List.all_eq_true.1 h _ (List.getElem_mem hjl)
/-- A row of cells is written, from a place on. -/
theorem HR.write (hr : HR C ρ H w) {i off : Nat} {e : TypeId} {vs l l' : List Value} (hm : H.mark ≤ i) (hg : H.get i = some (.cells e vs)) (hfit : off + l.length ≤ vs.length) (hl : VRL C H.next ρ w l l') (h1 : l.all one = true) :
    ((storeCells ⟨(ρ i).1, (ρ i).2 + off, none⟩ l' 0).run C.P w = .ok () (w.setCells (ρ i).1 ((ρ i).2 + off) l')) ∧ Good C ρ H w ρ (H.put i (some (.cells e (wrList vs off l)))) (w.setCells (ρ i).1 ((ρ i).2 + off) l') := by
  obtain ⟨hin, c, e', fz, hc, hv, hf⟩ := hr.ob i _ hg
  obtain ⟨he, hbase, hcold, hlone⟩ := hf (Nat.le_trans hr.fm hm)
  subst he
  have hlen : l.length = l'.length := hl.1
  have hin' : ∀ j, j < vs.length → (ρ i).2 + j < c.size := fun j hj => by
    obtain ⟨v', h2, _⟩ := hv j _ (List.getElem?_eq_getElem hj)
    exact (Array.getElem?_eq_some_iff.1 h2).1
  have hst := run_storeCells_cells (P := C.P) (ρ i).1 ((ρ i).2 + off) l' 0 w
    (fun j hj => by rw [cell_of hc, Array.getElem?_eq_getElem (by have := hin' (off + j) (by omega); omega)]; rfl)
    (fun j hj => by rw [frozen_of hc]; exact hcold _ (by have := hin' (off + j) (by omega); omega)) (all_one h1 hl)
  refine ⟨by simpa using hst, ?_⟩
  obtain ⟨a1, a2, a3, a4⟩ := setCells_heap (ρ i).1 l' ((ρ i).2 + off) w c e' fz hc
  have hsz : (wrList c.toList ((ρ i).2 + off) l').toArray.size = c.size := by simp [wrList_length]
  have hk : Keeps w (w.setCells (ρ i).1 ((ρ i).2 + off) l') := Keeps.block a2 hc a1 hsz
  have hmo : More H.next ρ w H.next ρ (w.setCells (ρ i).1 ((ρ i).2 + off) l') := hr.more (Nat.le_refl _) (fun _ _ => rfl) hk rfl rfl (fun b _ hs => a2 b (Ne.symm (hs i hm (by rw [hg]; simp))))
  by_cases hl0 : l.length = 0
  · have : l = [] := List.length_eq_zero_iff.1 hl0
    subst this
    refine hr.turn hm hg a2 a3 a4 hk hbase ⟨_, e', fz, a1, fun j v hj => ?_, fun _ => ⟨rfl, hbase, by rw [hsz]; exact hcold, fun hx => by rw [hsz, wrList_length]; exact hlone hx⟩⟩
    have : l' = [] := by cases l' with | nil => rfl | cons _ _ => simp at hlen
    subst this
    obtain ⟨v', h2, h3⟩ := hv j v (by simpa [wrList] using hj)
    exact ⟨v', by simpa [wrList] using h2, h3.mono hmo⟩
  refine hr.turn hm hg a2 a3 a4 hk hbase ⟨_, e', fz, a1, fun j v hj => ?_, fun _ => ⟨rfl, hbase, by rw [hsz]; exact hcold, fun hx => by rw [hsz, wrList_length]; exact hlone hx⟩⟩
  have hlast := hin' (off + (l.length - 1)) (by omega)
  rw [wrList_get _ _ _ _ hfit] at hj
  rw [List.getElem?_toArray, wrList_get l' c.toList _ _ (by have hq : c.toList.length = c.size := Array.length_toList; omega)]
  split at hj
  · rename_i hx
    rw [if_pos (by omega), show (ρ i).2 + j - ((ρ i).2 + off) = j - off by omega]
    obtain ⟨v', h2, h3⟩ := hl.2 _ v hj
    exact ⟨v', h2, h3.mono hmo⟩
  · rename_i hx
    rw [if_neg (by omega)]
    obtain ⟨v', h2, h3⟩ := hv j v hj
    exact ⟨v', by simpa using h2, h3.mono hmo⟩
end Go.L1
