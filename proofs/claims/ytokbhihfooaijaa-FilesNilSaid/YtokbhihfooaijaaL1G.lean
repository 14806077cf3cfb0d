/- Each operation of the interpreter is the model's: built, sliced, converted. -/
import Derived.Test.YtokbhihfooaijaaL1F
namespace Go.L1
open Go.RowKit
set_option linter.unusedVariables false
set_option linter.unusedSimpArgs false
variable {C : Cx} {ρ : Rho} {H H' : Hp} {w : World} {σ : Env} {a : Act} {v : Value}
theorem foldl_zip (off : Nat) : ∀ (l : List Value) (k : Nat) (cells : Array Value), ((l.zipIdx k).foldl (fun cs (p : Value × Nat) => cs.setIfInBounds (off + p.2) p.1) cells).toList = wrList cells.toList (off + k) l
  | [], k, cells => rfl
  | x :: l, k, cells => by
    rw [List.zipIdx_cons, List.foldl_cons, foldl_zip off l (k + 1), wrList]
    simp [Nat.add_assoc]
def PRL (C : Cx) (n : Nat) (ρ : Rho) (w : World) (ps ps' : List (Nat × Value)) : Prop := ps.length = ps'.length ∧ ∀ (j : Nat) (p : Nat × Value), ps[j]? = some p → ∃ p' : Nat × Value, ps'[j]? = some p' ∧ p'.1 = p.1 ∧ VR C n ρ w p.2 p'.2
theorem fill_ok {n : Nat} {place : Nat → Option (Nat × Nat)} : ∀ {ps ps' : List (Nat × Value)} {cells l : List Value} {cells' : Array Value}, VRL C n ρ w cells cells'.toList →
    PRL C n ρ w ps ps' → fillL place cells ps = some l →
    ∃ l' : Array Value, Instr.fill place cells' ps' = some l' ∧ VRL C n ρ w l l'.toList
  | [], ps', cells, l, cells', hv, ⟨hlen, hp⟩, h => by
    have : ps' = [] := List.length_eq_zero_iff.1 (by rw [← hlen]; rfl)
    subst this
    cases h
    exact ⟨cells', rfl, hv⟩
  | (i, x) :: ps, ps', cells, l, cells', hv, ⟨hlen, hp⟩, h => by
    cases ps' with
    | nil => simp at hlen
    | cons q ps' =>
      obtain ⟨p', h1, h2, h3⟩ := hp 0 _ rfl
      simp at h1
      subst h1
      obtain ⟨i', x'⟩ := q
      cases h2
      unfold fillL at h
      cases hpl : place i with
      | none => rw [hpl] at h; cases h
      | some os =>
        obtain ⟨off, size⟩ := os
        rw [hpl] at h
        simp only at h
        split at h
        · rename_i hc
          simp only [Bool.and_eq_true, decide_eq_true_eq] at hc
          have hx := VRL.cells h3
          have e1 : x'.cells.size = size := by have h9 := hx.1; have h8 := hc.1; simp only [Array.length_toList] at h9 h8; omega
          have e2 : off + x'.cells.size ≤ cells'.size := by have h9 := hv.1; have h8 := hc.2; simp only [Array.length_toList] at h9; omega
          have hw := VRL.wrList off hv hx
          have hz := foldl_zip off x'.cells.toList 0 cells'
          obtain ⟨l', g1, g2⟩ := fill_ok (place := place) (cells' := (x'.cells.toList.zipIdx).foldl (fun cs (p : Value × Nat) => cs.setIfInBounds (off + p.2) p.1) cells') (by rw [hz]; exact hw) ⟨by simpa using hlen, fun j p hj => hp (j + 1) p hj⟩ h
          refine ⟨l', ?_, g2⟩
          unfold Instr.fill
          simp only [hpl, e1]
          rw [if_neg (by simp; omega)]
          rw [← g1]
          congr 1
          rw [← Array.foldl_toList]
          simp
        · cases h
theorem parts_rel {ps : Array (Nat × Operand)} (he : EnvR C H.next ρ w σ a) (hx : ∀ p ∈ ps.toList, okX p.2 = true) :
    PRL C H.next ρ w (ps.toList.map fun p => (p.1, ev σ p.2)) (ps.map fun p => (p.1, a.eval p.2)).toList := by
  refine ⟨by simp, fun j p hj => ?_⟩
  rw [List.getElem?_map] at hj
  obtain ⟨q, hq, rfl⟩ := Option.map_eq_some_iff.1 hj
  refine ⟨(q.1, a.eval q.2), by rw [Array.toList_map, List.getElem?_map, hq]; rfl, rfl, he.ev (hx q (List.mem_of_getElem? hq))⟩
theorem run_mapM {α β : Type} {P : Program} {f : α → Sem β} {g : α → Option β} (hfg : ∀ x y, g x = some y → ∀ w, (f x).run P w = .ok y w) : ∀ {l : List α} {r : List β}, l.mapM g = some r → ∀ w, (l.mapM f).run P w = .ok r w
  | [], r, h, w => by simp at h; subst h; rfl
  | x :: l, r, h, w => by
    rw [List.mapM_cons] at h
    simp only [Option.bind_eq_bind, Option.bind_eq_some_iff] at h
    obtain ⟨y, hy, r', hr', h⟩ := h
    cases h
    rw [List.mapM_cons]
    simp [hfg x y hy, run_mapM hfg hr']
theorem zeroVR {P : Program} {t : TypeId} {z : Value} {n : Nat} (h : zeroOf P t = some z) : VR C n ρ w z z := .of2 (zero_flat h).1
theorem build_ok {t : TypeId} {ps : List (Nat × Value)} {ps' : Array (Nat × Value)} {z : Value} {pl : List (Nat × Nat)} {l : List Value} {n : Nat} (hz : zeroOf C.P t = some z) (hp : placesOf C.P t = some pl)
    (hps : PRL C n ρ w ps ps'.toList) (h : fillL (fun i => pl[i]?) z.cells.toList ps = some l) :
    ∃ v', (Instr.build t ps').run C.P w = .ok v' w ∧ VR C n ρ w (.agg l.toArray) v' := by
  obtain ⟨l', h1, h2⟩ := fill_ok (cells' := z.cells) (VRL.cells (zeroVR hz)) hps h
  refine ⟨.agg l', ?_, by have := VR.agg_of h2; simpa using this⟩
  unfold placesOf at hp
  unfold Instr.build
  cases hu : C.P.underlying t with
  | none => rw [hu] at hp; cases hp
  | some d =>
    rw [hu] at hp
    cases d <;> first | (cases hp; done) | skip
    · rename_i len e
      obtain ⟨s, hs, rfl⟩ := Option.map_eq_some_iff.1 hp
      have hf : ∀ (q : List (Nat × Value)) (c : Array Value) (r : Array Value), Instr.fill (fun i => ((List.range len).map fun i => (i * s, s))[i]?) c q = some r → Instr.fill (fun i => some (i * s, s)) c q = some r := by
        intro q
        induction q with
        | nil => intro c r hr; exact hr
        | cons x q ih =>
          intro c r hr
          obtain ⟨i, x⟩ := x
          unfold Instr.fill at hr ⊢
          cases hi : ((List.range len).map fun i => (i * s, s))[i]? with
          | none => rw [hi] at hr; cases hr
          | some os =>
            rw [hi] at hr
            rw [List.getElem?_map] at hi
            obtain ⟨i', hi', rfl⟩ := Option.map_eq_some_iff.1 hi
            obtain ⟨hlt, rfl⟩ := List.getElem?_eq_some_iff.1 hi'
            simp only [List.getElem_range] at hr ⊢
            split at hr
            · cases hr
            · rename_i hc; rw [if_neg hc]; exact ih _ _ hr
      simp [run_zero hz, run_underlying hu, run_sz hs, hf _ _ _ h1]
    · rename_i fs
      have hm : (fs.mapM fun f => (do let y ← sizeOf f.type; pure (f.offset, y) : Sem (Nat × Nat))).run C.P w = .ok pl.toArray w := by
        rw [Array.mapM_eq_mapM_toList, Sem.run_map, run_mapM (g := fun f : Field => (szOf C.P f.type).map fun s => (f.offset, s)) (fun f y hy w => by
          obtain ⟨s, hs, rfl⟩ := Option.map_eq_some_iff.1 hy
          simp [run_sz hs]) hp]
        simp
      simp only [Sem.run_bind, run_zero hz, run_underlying hu, Result.andThen_ok, hm]
      simp [h1]
theorem flat_get {n s : Nat} {z : List Value} (hz : z.length = s) {j : Nat} : ((List.replicate n z).flatten)[j]? = if j < n * s then z[j % s]? else none := by
  induction n generalizing j with
  | zero => simp
  | succ n ih =>
    rw [List.replicate_succ, List.flatten_cons]
    by_cases hj : j < s
    · rw [List.getElem?_append_left (by omega), if_pos (by rw [Nat.succ_mul]; omega), Nat.mod_eq_of_lt hj]
    · rw [List.getElem?_append_right (by omega), ih, hz]
      have h0 : 0 < s ∨ s = 0 := by omega
      rcases h0 with h0 | h0
      · rw [show j % s = (j - s) % s from Nat.mod_eq_sub_mod (by omega)]
        by_cases h1 : j - s < n * s
        · rw [if_pos h1, if_pos (by rw [Nat.succ_mul]; omega)]
        · rw [if_neg h1, if_neg (by rw [Nat.succ_mul]; omega)]
      · subst h0; simp
theorem flat_length {n s : Nat} {z : List Value} (hz : z.length = s) : ((List.replicate n z).flatten).length = n * s := by
  induction n with
  | zero => simp
  | succ n ih => rw [List.replicate_succ, List.flatten_cons, List.length_append, ih, hz, Nat.succ_mul]; omega
theorem range_zero {n s : Nat} {z : Array Value} (hz : z.size = s) : ((Array.range (n * s)).map fun i => z[i % z.size]!).toList = (List.replicate n z.toList).flatten := by
  apply List.ext_getElem?
  intro j
  rw [flat_get (s := s) (by simpa using hz)]
  simp only [Array.toList_map, Array.toList_range, List.getElem?_map]
  by_cases hj : j < n * s
  · have h0 : 0 < s := by rcases Nat.eq_zero_or_pos s with h | h; (subst h; simp at hj); exact h
    have hm : j % s < z.size := by rw [hz]; exact Nat.mod_lt _ h0
    rw [if_pos hj, List.getElem?_range hj]
    subst hz
    rw [Option.map_some, Array.getElem?_toList, Array.getElem?_eq_getElem hm, getElem!_pos z _ hm]
  · rw [if_neg hj, List.getElem?_eq_none (by simpa using hj)]
    rfl
end Go.L1
