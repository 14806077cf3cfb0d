/- Each operation of the interpreter is the model's: maps that are written, copy, make. -/
import Derived.Test.YtokbhihfooaijaaL1K
import Derived.IntWalk
namespace Go.L1
open Go.RowKit
set_option linter.unusedVariables false
set_option linter.unusedSimpArgs false
variable {C : Cx} {ρ : Rho} {H H' : Hp} {w : World} {σ : Env} {a : Act} {v : Value}
theorem run_getObj {P : Program} {w : World} {b : Nat} {en : Array MapEntry} {ck : Nat} (h : w.heap[b]? = some (.map en ck)) : (getObj b).run P w = .ok (.map en ck) w := by simp [getObj, Sem.run, h]
theorem run_setObj {P : Program} {w : World} {b : Nat} {en : Array MapEntry} {ck : Nat} (o : Obj) (h : w.heap[b]? = some (.map en ck)) : (setObj b o).run P w = .ok () { w with heap := w.heap.setIfInBounds b o } := by simp [setObj, Sem.run, h]
/-- A map that is written. -/
theorem HR.write_map (hr : HR C ρ H w) {i : Nat} {es es' : List (Value × Value)} {en en' : Array MapEntry} {ck ck' : Nat} (hm : H.mark ≤ i) (hg : H.get i = some (.map es)) (hb : w.heap[(ρ i).1]? = some (.map en ck)) (hbase : C.base ≤ (ρ i).1)
    (hs : en'.size = es'.length) (hv : ∀ (j : Nat) (e : Value × Value), es'[j]? = some e → ∃ e' : MapEntry, en'[j]? = some e' ∧ e'.key = e.1 ∧ flat2 e.1 = true ∧ VR C H.next ρ w e.2 e'.val) :
    Good C ρ H w ρ (H.put i (some (.map es'))) { w with heap := w.heap.setIfInBounds (ρ i).1 (.map en' ck') } := by
  have hlt := (Array.getElem?_eq_some_iff.1 hb).1
  have hne : ∀ k, k ≠ (ρ i).1 → (w.heap.setIfInBounds (ρ i).1 (.map en' ck'))[k]? = w.heap[k]? := fun k hk => Array.getElem?_setIfInBounds_ne (Ne.symm hk)
  have hk : Keeps w { w with heap := w.heap.setIfInBounds (ρ i).1 (.map en' ck') } := fun k c e fz h => by
    by_cases e : k = (ρ i).1
    · subst e; rw [hb] at h; cases h
    · exact ⟨c, fz, by show (w.heap.setIfInBounds _ _)[k]? = _; rw [hne k e]; exact h, rfl⟩
  refine hr.turn hm hg hne (by simp) ⟨rfl, rfl, rfl⟩ hk hbase ⟨Nat.le_trans hr.fm hm, hbase, en', ck', by show (w.heap.setIfInBounds _ _)[(ρ i).1]? = _; simp [hlt], hs, fun j e he => ?_⟩
  obtain ⟨e', a1, a2, a3, a4⟩ := hv j e he
  exact ⟨e', a1, a2, a3, a4.mono (hr.more (Nat.le_refl _) (fun _ _ => rfl) hk rfl rfl (fun b _ hs => hne b (Ne.symm (hs i hm (by rw [hg]; simp)))))⟩
theorem mapUpdate_ok (hr : HR C ρ H w) {t i : Nat} {m' k k' x x' : Value} {ke : TypeId × TypeId} {es : List (Value × Value)} {r : Option (Nat × Value)} (hm : VR C H.next ρ w (.map (some i)) m') (hk : VR C H.next ρ w k k') (hx : VR C H.next ρ w x x')
    (ht : mapOf C.P t = some ke) (hmk : H.mark ≤ i) (hok : keyOk C.P ke.1 k = true) (hg : H.get i = some (.map es)) (hr' : findKey C.P ke.1 k es 0 = some r) (hsb : sameOk es r k = true) :
    ∃ w', (Instr.mapUpdate t m' k' x').run C.P w = .ok () w' ∧ Good C ρ H w ρ (H.put i (some (.map (putEs es r k x)))) w' := by
  have hu := und_map ht
  have := hk.eq2 (keyOk_flat hok)
  subst this
  have hes : mapEs (.map (some i)) H = some es := by simp [mapEs, hg]
  rcases mapEs_ok hr hm hes with ⟨h, _⟩ | ⟨i', en, ck, hi, rfl, _, hb, hs, _, hbase, hv⟩
  · cases h
  · cases hi
    obtain ⟨r', h1, h2⟩ := findKey_ok (en := en.toList) hok (by simpa using hs.symm) (fun j e he => let ⟨e', a1, a2, _⟩ := hv j e he; ⟨e', by simpa using a1, a2⟩) hr' w
    cases r with
    | none =>
      subst h2
      have hrun : (Instr.mapUpdate t (.map (some (ρ i).1)) k' x').run C.P w = .ok () { w with heap := w.heap.setIfInBounds (ρ i).1 (.map (en.push { key := k', val := x', born := ck }) (ck + 1)) } := by
        simp [Instr.mapUpdate, run_underlying hu, run_getObj hb, check_ok hok, h1, run_setObj _ hb]
      refine ⟨_, hrun, hr.write_map hmk hg hb hbase (by simp [hs, putEs]) fun j e he => ?_⟩
      replace he : (es ++ [(k', x)])[j]? = some e := he
      by_cases hj : j < es.length
      · rw [List.getElem?_append_left hj] at he
        obtain ⟨e', a1, a2⟩ := hv j e he
        exact ⟨e', by rw [Array.getElem?_push, if_neg (by omega)]; exact a1, a2⟩
      · rw [List.getElem?_append_right (by omega)] at he
        have hj0 : j = es.length := by have := (List.getElem?_eq_some_iff.1 he).1; simp at this; omega
        subst hj0
        simp at he
        subst he
        exact ⟨{ key := k', val := x', born := ck }, by rw [Array.getElem?_push, if_pos hs.symm], rfl, keyOk_flat hok, hx⟩
    | some p =>
      obtain ⟨j, v⟩ := p
      obtain ⟨kk, e', q1, q2, q3, q4⟩ := h2
      subst q1
      have q5 : en[j]? = some e' := by simpa using q4
      have q6 : es[j]? = some (kk, v) := by simpa using q3
      obtain ⟨e2, a1, a2, a3, a4⟩ := hv j (kk, v) q6
      rw [q5] at a1
      cases a1
      have hsame : Instr.sameBits 10000 (es.getD j default).1 k' = true := hsb
      have hgd : es.getD j default = (kk, v) := by rw [List.getD_eq_getElem?_getD, q6]; rfl
      rw [hgd] at hsame
      have hold : ((en[j]?).map (·.key)).getD k' = kk := by rw [q5]; simpa using a2
      have hrun : (Instr.mapUpdate t (.map (some (ρ i).1)) k' x').run C.P w = .ok () { w with heap := w.heap.setIfInBounds (ρ i).1 (.map (en.modify j fun e => { e with key := k', val := x' }) ck) } := by
        simp only [Instr.mapUpdate, Sem.run_bind, run_underlying hu, Result.andThen_ok, run_getObj hb, check_ok hok, h1, hold, Instr.keyThatStays, hsame, if_true, Sem.run_pure, run_setObj _ hb]
      refine ⟨_, hrun, hr.write_map hmk hg hb hbase (by simp [hs, putEs]) fun q e he => ?_⟩
      replace he : (es.set j (k', x))[q]? = some e := he
      have hjl : j < es.length := (List.getElem?_eq_some_iff.1 q6).1
      by_cases hq : q = j
      · subst hq
        rw [List.getElem?_set_self hjl] at he
        cases he
        exact ⟨{ e' with key := k', val := x' }, by rw [Array.getElem?_modify, if_pos rfl, q5]; rfl, rfl, keyOk_flat hok, hx⟩
      · rw [List.getElem?_set_ne (Ne.symm hq)] at he
        obtain ⟨e3, b1, b2⟩ := hv q e he
        exact ⟨e3, by rw [Array.getElem?_modify, if_neg (Ne.symm hq)]; exact b1, b2⟩
theorem delete_ok (hr : HR C ρ H w) {t i ty : Nat} {ts : Array TypeId} {m' k k' : Value} {ke : TypeId × TypeId} {es : List (Value × Value)} {r : Option (Nat × Value)} (hm : VR C H.next ρ w (.map (some i)) m') (hk : VR C H.next ρ w k k')
    (h0 : ts[0]? = some t) (ht : mapOf C.P t = some ke) (hmk : H.mark ≤ i) (hok : keyOk C.P ke.1 k = true) (hg : H.get i = some (.map es)) (hr' : findKey C.P ke.1 k es 0 = some r) :
    ∃ w', (Builtin.delete_ ts ty #[m', k']).run C.P w = .ok (.tuple #[]) w' ∧ Good C ρ H w ρ (H.put i (some (.map (dropEs es r)))) w' := by
  have hu := und_map ht
  have := hk.eq2 (keyOk_flat hok)
  subst this
  have hes : mapEs (.map (some i)) H = some es := by simp [mapEs, hg]
  have e1 : ∀ m : Value, (#[m, k'] : Array Value)[0]? = some m := fun _ => rfl
  have e2 : ∀ m : Value, (#[m, k'] : Array Value)[1]? = some k' := fun _ => rfl
  rcases mapEs_ok hr hm hes with ⟨h, _⟩ | ⟨i', en, ck, hi, rfl, _, hb, hs, _, hbase, hv⟩
  · cases h
  · cases hi
    obtain ⟨r', h1, h2⟩ := findKey_ok (en := en.toList) hok (by simpa using hs.symm) (fun j e he => let ⟨e', a1, a2, _⟩ := hv j e he; ⟨e', by simpa using a1, a2⟩) hr' w
    cases r with
    | none =>
      subst h2
      have hrun : (Builtin.delete_ ts ty #[.map (some (ρ i).1), k']).run C.P w = .ok (.tuple #[]) { w with heap := w.heap.setIfInBounds (ρ i).1 (.map en ck) } := by
        simp [Builtin.delete_, h0, run_underlying hu, run_getObj hb, check_ok hok, h1, run_setObj _ hb]
      exact ⟨_, hrun, hr.write_map hmk hg hb hbase hs hv⟩
    | some p =>
      obtain ⟨j, v⟩ := p
      obtain ⟨kk, e', q1, q2, q3, q4⟩ := h2
      subst q1
      have q6 : es[j]? = some (kk, v) := by simpa using q3
      have hjl : j < es.length := (List.getElem?_eq_some_iff.1 q6).1
      have hrun : (Builtin.delete_ ts ty #[.map (some (ρ i).1), k']).run C.P w = .ok (.tuple #[]) { w with heap := w.heap.setIfInBounds (ρ i).1 (.map (en.eraseIdxIfInBounds j) ck) } := by
        simp [Builtin.delete_, h0, run_underlying hu, run_getObj hb, check_ok hok, h1, run_setObj _ hb]
      refine ⟨_, hrun, hr.write_map hmk hg hb hbase (by simp [Array.eraseIdxIfInBounds, hs, hjl, List.length_eraseIdx, dropEs]) fun q e he => ?_⟩
      replace he : (es.eraseIdx j)[q]? = some e := he
      rw [List.getElem?_eraseIdx] at he
      have hsz : j < en.size := by omega
      split at he
      · rename_i hq
        obtain ⟨e3, b1, b2⟩ := hv q e he
        refine ⟨e3, ?_, b2⟩
        rw [← b1]
        simp [Array.eraseIdxIfInBounds, hsz, Array.getElem?_eraseIdx, hq]
      · rename_i hq
        obtain ⟨e3, b1, b2⟩ := hv (q + 1) e he
        refine ⟨e3, ?_, b2⟩
        rw [← b1]
        simp [Array.eraseIdxIfInBounds, hsz, Array.getElem?_eraseIdx, hq]
theorem copy_ok (hr : HR C ρ H w) {t i off n e sz m ty : Nat} {cp : Nat} {ts : Array TypeId} {d' x x' : Value} {cs vs vs' : List Value} {e' : TypeId} (hd : VR C H.next ρ w (.slice (some ⟨i, off, none⟩) n cp) d') (hx : VR C H.next ρ w x x')
    (h0 : ts[0]? = some t) (he : elemOf C.P t = some e) (hsz : szOf C.P e = some sz) (hm : lenOf x = some m) (hcs : lenList x H sz = some cs) (hmk : H.mark ≤ i) (hg : H.get i = some (.cells e' vs)) (h1 : cs.all one = true) (hstr : ∀ s, x = .string s → sz = 1)
    (hw : wrCells vs off (cs.take (min m n * sz)) = some vs') :
    ∃ w', (Builtin.copy_ ts ty #[d', x']).run C.P w = .ok (.int .i64 (min m n : Nat)) w' ∧ Good C ρ H w ρ (H.put i (some (.cells e' vs'))) w' := by
  have hu := und_elem he
  have e1 : (#[d', x'] : Array Value)[0]? = some d' := rfl
  have e2 : (#[d', x'] : Array Value)[1]? = some x' := rfl
  have hlen := lenOf_ok hx hm
  obtain ⟨new', g1, g2, g3⟩ := firstCells_ok hr hx hm hcs hstr (Nat.min_le_left m n)
  unfold wrCells at hw
  split at hw
  · rename_i hfit
    cases hw
    cases hd with
    | atom hf => simp [flat1] at hf
    | slice hin hb ho hc hf =>
      rename_i b o cap
      by_cases h00 : min m n * sz = 0
      · have hnil : cs.take (min m n * sz) = [] := by rw [h00]; rfl
        rw [hnil] at g2 hfit ⊢
        have : new' = [] := List.length_eq_zero_iff.1 (by rw [← g2.1]; rfl)
        subst this
        have ht := hr.write (off := 0) (l := []) (l' := []) hmk hg (by simp) .nil rfl
        refine ⟨w, ?_, ?_⟩
        · simp [Builtin.copy_, h0, e1, e2, run_underlying hu, hlen, run_sz hsz, Nat.min_def] at g1 ⊢
          simp [g1, storeCells, goInt]
        · have := ht.2
          simpa [wrList, World.setCells] using this
      · have hn0 : 0 < n := by rcases Nat.eq_zero_or_pos n with h | h; (subst h; simp at h00); exact h
        subst hb
        have ho' := ho hn0
        subst ho'
        have hall : (cs.take (min m n * sz)).all one = true := List.all_eq_true.2 fun v hv => List.all_eq_true.1 h1 v (List.mem_of_mem_take hv)
        obtain ⟨w1, w2⟩ := hr.write hmk hg hfit g2 hall
        refine ⟨_, ?_, w2⟩
        simp only [Builtin.copy_, h0, e1, e2, Sem.run_bind, run_underlying hu, Result.andThen_ok, hlen, run_sz hsz]
        have g1' : (Builtin.firstCells sz (Nat.min m n) x').run C.P w = .ok new'.toArray w := g1
        rw [g1']
        simp only [Result.andThen_ok, Sem.run_bind, List.toList_toArray, w1, Sem.run_pure]
        rfl
  · cases hw
theorem makeSlice_ok (hr : HR C ρ H w) {t e by_ sz : Nat} {n : Int} {z : Value} (he : elemOf C.P t = some e) (hby : bytesOf C.P e = some by_) (hsz : szOf C.P e = some sz) (hz : zeroOf C.P e = some z) (hzl : sz = z.cells.toList.length)
    (h0 : 0 ≤ n) (h1 : n * by_ ≤ 140737488355328) (h2 : n ≤ 4611686018427387904) :
    OpV C ρ H w ((Instr.makeSlice t (.int .i64 n) (.int .i64 n)).run C.P w) (slc H.next 0 n.toNat) (H.new (.cells e ((List.replicate n.toNat z.cells.toList).flatten))) := by
  have hu := und_elem he
  obtain ⟨i, hi, hbi⟩ := run_by hby
  have hwr : IntKind.i64.wrap n = n := by
    exact IntWalk.i64_in n ⟨by omega, by omega⟩
  have hzs : z.cells.size = sz := by simpa using hzl.symm
  have hl := range_zero (n := n.toNat) (z := z.cells) hzs
  have hlen : ((List.replicate n.toNat z.cells.toList).flatten).length = n.toNat * sz := flat_length hzl.symm
  have e1 : ¬ ((i.bytes : Int) * n > 2 ^ 48) := by
    have e48 : (2 : Int) ^ 48 = 281474976710656 := by decide
    rw [e48, hbi, Int.mul_comm]
    omega
  have hVL : VRL C H.next ρ w ((List.replicate n.toNat z.cells.toList).flatten) ((List.replicate n.toNat z.cells.toList).flatten) := by
    refine ⟨rfl, fun j v hv => ⟨v, hv, ?_⟩⟩
    rw [flat_get hzl.symm] at hv
    split at hv
    · have hm := List.mem_of_getElem? hv
      have hz2 := VRL.cells (zeroVR (C := C) (n := H.next) (ρ := ρ) (w := w) hz)
      obtain ⟨u, hu1, hu2⟩ := hz2.2 _ v hv
      rw [hv] at hu1
      cases hu1
      exact hu2
    · cases hv
  refine ⟨_, { w with heap := w.heap.push (.cells ((List.replicate n.toNat z.cells.toList).flatten).toArray e (0, 0)) }, .slice (some ⟨w.heap.size, 0, none⟩) n.toNat n.toNat, ?_, hr.fresh_list hVL, VR.new_slice hr rfl (Nat.le_refl _) fun s hs => by rw [hsz] at hs; cases hs; simp [hlen]⟩
  have harr : (Array.range (n.toNat * sz)).map (fun i => (if n.toNat * sz = 0 then #[] else z.cells)[i % (if n.toNat * sz = 0 then (#[] : Array Value) else z.cells).size]!) = ((List.replicate n.toNat z.cells.toList).flatten).toArray := by
    apply Array.ext'
    by_cases hz0 : n.toNat * sz = 0
    · rw [hz0]
      have : ((List.replicate n.toNat z.cells.toList).flatten) = [] := List.length_eq_zero_iff.1 (by rw [hlen, hz0])
      rw [this]
      simp
    · simp only [hz0, if_false]
      rw [← hl, hzs]
  unfold Instr.makeSlice
  have n0 : ¬ n < 0 := by omega
  simp only [Sem.run_bind, run_underlying hu, Result.andThen_ok, asInt, asIntOf, Sem.run_pure, run_ti hi, hwr, n0, decide_false, e1, Bool.or_false, Bool.false_or, Bool.false_eq_true, if_false, Int.lt_irrefl, gt_iff_lt, or_false, false_or, run_askRoom, run_sz hsz]
  by_cases hz0 : n.toNat * sz = 0
  · simp only [hz0, if_true] at harr ⊢
    simp only [Sem.run_bind, Sem.run_pure, Result.andThen_ok, newRow, run_newObj, harr]
  · simp only [hz0, if_false] at harr ⊢
    simp only [Sem.run_bind, Sem.run_pure, run_zero hz, Result.andThen_ok, newRow, run_newObj, harr]
end Go.L1
