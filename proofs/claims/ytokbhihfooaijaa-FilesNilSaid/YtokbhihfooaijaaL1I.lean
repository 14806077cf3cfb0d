/- Each operation of the interpreter is the model's: conversions, append, copy, make. -/
import Derived.Test.YtokbhihfooaijaaL1H
import Derived.Laws.BytesString
import Derived.Laws.Append
namespace Go.L1
open Go.RowKit
set_option linter.unusedVariables false
set_option linter.unusedSimpArgs false
variable {C : Cx} {ρ : Rho} {H H' : Hp} {w : World} {σ : Env} {a : Act} {v : Value}
def OpV (C : Cx) (ρ : Rho) (H : Hp) (w : World) (r : Result Value) (v : Value) (H' : Hp) : Prop :=
  ∃ ρ' w' v', r = .ok v' w' ∧ Good C ρ H w ρ' H' w' ∧ VR C H'.next ρ' w' v v'
theorem OpV.pure (hr : HR C ρ H w) {r : Result Value} {v' : Value} (h : r = .ok v' w) (hv : VR C H.next ρ w v v') : OpV C ρ H w r v H := ⟨ρ, w, v', h, Good.refl hr, hv⟩
theorem size_data (s : ByteArray) : s.data.toList.length = s.size := by rw [Array.length_toList]; rfl
theorem byteCells (s : ByteArray) {n : Nat} : VRL C n ρ w (s.data.toList.map fun b => .int .u8 b.toNat) (s.data.toList.map fun b => .int .u8 b.toNat) :=
  ⟨rfl, fun j v hv => ⟨v, hv, by
    rw [List.getElem?_map] at hv
    obtain ⟨b, _, rfl⟩ := Option.map_eq_some_iff.1 hv
    exact .of1 rfl⟩⟩
/-- A text becomes a row of bytes. -/
theorem toBytes_ok (hr : HR C ρ H w) {e : TypeId} {s : ByteArray} (hke : C.P.underlying e = some (.int .u8)) (hsz : ∀ sz, szOf C.P e = some sz → sz = 1) :
    OpV C ρ H w ((Conv.stringToBytes e s).run C.P w) (slc H.next 0 s.size) (H.new (.cells e (s.data.toList.map fun b => .int .u8 b.toNat))) := by
  let cap := (Question.appendCap s.size 0 e).cut (w.tape w.drawn (.appendCap s.size 0 e))
  have hcap : s.size ≤ cap := Nat.le_add_right _ _
  let c : Array Value := (s.data.map fun b => Value.int .u8 b.toNat) ++ Array.replicate (cap - s.size) (.int .u8 0)
  have hcs : c.size = cap := by
    have : s.data.size = s.size := rfl
    simp only [c, Array.size_append, Array.size_map, Array.size_replicate, this]; omega
  let w' : World := { w with heap := w.heap.push (.cells c e (cap, cap + 1)), drawn := w.drawn + 1 }
  have hrun : (Conv.stringToBytes e s).run C.P w = .ok (.slice (some ⟨w.heap.size, 0, none⟩) s.size cap) w' := by
    have hfr : ∀ W : World, W.heap = w.heap.push (.cells c e (0, 0)) → W.tape = w.tape → W.os = w.os → W.output = w.output → W.drawn = w.drawn + 1 → (markStringish ⟨w.heap.size, 0, none⟩).run C.P W = .ok () w' := by
      intro W h1 h2 h3 h4 h5
      obtain ⟨wh, wt, wd, wo, wp⟩ := W
      simp only at h1 h2 h3 h4 h5
      subst h1 h2 h3 h4 h5
      have hsh : World.shape? { w with heap := w.heap.push (.cells c e (0, 0)), drawn := w.drawn + 1 } w.heap.size = some (e, cap) := by
        simp [World.shape?, hcs]
      simp only [markStringish, Sem.run_bind, run_shape, hsh, Result.andThen_ok, run_freeze]
      congr 1
      simp only [World.freeze, w']
      rw [if_neg (by decide)]
      congr 1
      apply Array.ext_getElem?
      intro k
      rw [Array.getElem?_modify]
      by_cases hk : w.heap.size = k
      · subst hk; simp
      · rw [if_neg hk, Array.getElem?_push, Array.getElem?_push, if_neg (Ne.symm hk), if_neg (Ne.symm hk)]
    unfold Conv.stringToBytes
    simp only [Sem.run_bind, run_choose, Question.forced, Bool.false_eq_true, if_false, Result.andThen_ok, newRow, run_newObj, Sem.run_pure]
    change (Result.andThen (Sem.run C.P (markStringish ⟨w.heap.size, 0, none⟩) { w with heap := w.heap.push (.cells c e (0, 0)), drawn := w.drawn + 1 }) _) = _
    rw [hfr { w with heap := w.heap.push (.cells c e (0, 0)), drawn := w.drawn + 1 } rfl rfl rfl rfl rfl]
    rfl
  refine ⟨_, w', _, hrun, hr.fresh_cells rfl ⟨rfl, rfl, rfl⟩ (fun off ho => by rw [hcs] at ho; simp; omega) (fun hx => by rw [lone_num hke] at hx; cases hx) (fun j v hj => ?_), VR.new_slice hr rfl hcap fun sz h => by rw [hsz sz h, hcs]; omega⟩
  have hjl : j < s.data.toList.length := by have := (List.getElem?_eq_some_iff.1 hj).1; simpa using this
  rw [List.getElem?_map] at hj
  obtain ⟨b, hb, rfl⟩ := Option.map_eq_some_iff.1 hj
  refine ⟨_, ?_, .of1 rfl⟩
  have hjs : j < s.data.size := by simpa using hjl
  simp only [c]
  rw [Array.getElem?_append_left (by simpa using hjs), Array.getElem?_map]
  rw [Array.getElem?_toList] at hb
  rw [hb]
  rfl
theorem strOf_ok : ∀ {l : List Value} {r : List UInt8}, strOf l = some r → ∃ ns : List Int, l = ns.map (Value.int .u8) ∧ r = ns.map fun n => UInt8.ofNat n.toNat
  | [], r, h => by cases h; exact ⟨[], rfl, rfl⟩
  | x :: l, r, h => by
    cases x <;> (try (simp [strOf] at h; done))
    rename_i k n
    cases k <;> (try (simp [strOf] at h; done))
    simp [strOf] at h
    obtain ⟨r', hr', rfl⟩ := h
    obtain ⟨ns, rfl, rfl⟩ := strOf_ok hr'
    exact ⟨n :: ns, rfl, rfl⟩
theorem push_fold : ∀ (ns : List Int) (s : ByteArray), ns.foldl (fun r n => r.push (UInt8.ofNat n.toNat)) s = ⟨(s.data.toList ++ ns.map fun n => UInt8.ofNat n.toNat).toArray⟩
  | [], s => by simp
  | n :: ns, s => by
    rw [List.foldl_cons, push_fold ns]
    simp [ByteArray.push]
theorem VRL.ints {n : Nat} {ns : List Int} {k : IntKind} {l' : List Value} (h : VRL C n ρ w (ns.map (Value.int k)) l') : l' = ns.map (Value.int k) := by
  apply List.ext_getElem?
  intro j
  by_cases hj : j < ns.length
  · obtain ⟨u, hu, hv⟩ := h.2 j (.int k ns[j]) (by simp [hj])
    rw [hu, hv.int]
    simp [hj]
  · rw [List.getElem?_eq_none (by rw [← h.1]; simpa using hj), List.getElem?_eq_none (by simpa using hj)]
theorem toStr_ok (hr : HR C ρ H w) {i off n e : Nat} {cp : Nat} {vs l0 : List Value} {l : List UInt8} {x' : Value} (hx : VR C H.next ρ w (.slice (some ⟨i, off, none⟩) n cp) x') (hg : H.get i = some (.cells e vs)) (hl : rdCells vs off n = some l0) (hs : strOf l0 = some l) :
    (Conv.bytesToString x').run C.P w = .ok (.string ⟨l.toArray⟩) w := by
  obtain ⟨ns, rfl, rfl⟩ := strOf_ok hs
  cases hx with
  | atom hf => simp [flat1] at hf
  | slice hi hb ho hc hf =>
    rename_i b o cap
    by_cases h0 : n = 0
    · subst h0
      have hns : ns = [] := by
        unfold rdCells at hl
        split at hl
        · cases ns with | nil => rfl | cons _ _ => simp at hl
        · cases hl
      subst hns
      simp [Conv.bytesToString, loadCells, loadCellsFrom]
      first | done | rfl
    · subst hb
      have ho' := ho (by omega)
      subst ho'
      obtain ⟨l', h1, h2⟩ := (hr.ob i _ hg).2.read hl
      have := h2.ints
      subst this
      simp only [Conv.bytesToString, Sem.run_bind, h1, Result.andThen, List.forIn_toArray]
      rw [run_forIn_bytes _ (by intro n r; simp [Sem.run_pure])]
      simp [push_fold]
      first | done | rfl
theorem toStr_frz {n k : Nat} {p : Array FieldStep} {f : FuncId} {s vs : Array Value} {l : List UInt8} {x' : Value} (hx : VR C k ρ w (.func (.via n p f false) s vs) x') (hn : vs.size = n) (hs : strOf vs.toList = some l) :
    (Conv.bytesToString x').run C.P w = .ok (.string ⟨l.toArray⟩) w := by
  obtain ⟨ns, h1, rfl⟩ := strOf_ok hs
  obtain ⟨a, cap, rfl, hc, ⟨rfl, rfl⟩ | ⟨b, o, c, e, z, rfl, hb, hi, hl, hv⟩⟩ := frz_inv hx
  · have hns : ns = [] := by cases ns with | nil => rfl | cons _ _ => simp at h1
    subst hns
    cases a <;> simp [Conv.bytesToString, loadCells, loadCellsFrom] <;> first | done | rfl
  · obtain ⟨l', g1, g2⟩ := read_at hb (frz_cells hl hv) (off := 0) (k := n) (l := vs.toList) (by
      unfold rdCells
      have hz : vs.toList.length = n := by rw [Array.length_toList]; exact hn
      rw [if_pos (by omega), List.drop_zero, ← hz, List.take_length])
    rw [h1] at g2
    have := g2.ints
    subst this
    rw [Nat.add_zero] at g1
    simp only [Conv.bytesToString, Sem.run_bind, g1, Result.andThen, List.forIn_toArray]
    rw [run_forIn_bytes _ (by intro n r; simp [Sem.run_pure])]
    simp [push_fold]
    first | done | rfl
-- ---- the first so many cells of what is appended or copied
theorem lenOf_ok {n m : Nat} {x x' : Value} (hx : VR C n ρ w x x') (h : lenOf x = some m) : (Builtin.lenOf x').run C.P w = .ok m w := by
  cases hx with
  | slice hi hb ho hc hf => simp [lenOf] at h; subst h; simp [Builtin.lenOf]
  | hollow => simp [lenOf] at h; subst h; simp [Builtin.lenOf]
  | frz0 => simp [lenOf] at h; subst h; simp [Builtin.lenOf]
  | frz hc hb hi hl hv => simp [lenOf] at h; subst h; simp [Builtin.lenOf]
  | atom hf =>
    cases x <;> first | (simp [flat1] at hf; done) | (simp [lenOf] at h <;> subst h <;> simp [Builtin.lenOf])
  | _ => simp [lenOf] at h
theorem firstCells_ok (hr : HR C ρ H w) {sz m k : Nat} {x x' : Value} {cs : List Value} (hx : VR C H.next ρ w x x') (hm : lenOf x = some m) (hl : lenList x H sz = some cs) (h1 : ∀ s, x = .string s → sz = 1) (hk : k ≤ m) :
    ∃ cs', (Builtin.firstCells sz k x').run C.P w = .ok cs'.toArray w ∧ VRL C H.next ρ w (cs.take (k * sz)) cs' ∧ cs.length = m * sz := by
  unfold lenList at hl
  split at hl
  · cases hl
    cases hx with
    | atom hf =>
      rename_i p q
      cases p with
      | succ _ => simp [flat1] at hf
      | zero =>
        simp [lenOf] at hm
        subst hm
        exact ⟨[], by simp [Builtin.firstCells], by simp; exact .nil, by simp⟩
  · rename_i i off n cp
    split at hl
    · rename_i e vs hg
      simp [lenOf] at hm
      subst hm
      cases hx with
      | atom hf => simp [flat1] at hf
      | slice hi hb ho hc hf =>
        rename_i b o cap
        have hcl : cs.length = n * sz := by
          unfold rdCells at hl
          split at hl
          · cases hl; simp; omega
          · cases hl
        by_cases h0 : k * sz = 0
        · exact ⟨[], by simp [Builtin.firstCells, loadCells, h0, loadCellsFrom], by rw [h0]; simp; exact .nil, hcl⟩
        · have hk0 : 0 < k := by rcases Nat.eq_zero_or_pos k with h | h; (subst h; simp at h0); exact h
          subst hb
          have ho' := ho (by omega)
          subst ho'
          have hks : k * sz ≤ n * sz := Nat.mul_le_mul_right _ hk
          have hl2 : rdCells vs off (k * sz) = some (cs.take (k * sz)) := by
            unfold rdCells at hl ⊢
            split at hl
            · cases hl
              rw [if_pos (by omega), List.take_take, Nat.min_eq_left hks]
            · cases hl
          obtain ⟨l', g1, g2⟩ := (hr.ob i _ hg).2.read hl2
          exact ⟨l', by simpa [Builtin.firstCells] using g1, g2, hcl⟩
    · cases hl
  · rename_i s
    cases hl
    have := hx.string
    subst this
    have hs1 := h1 s rfl
    subst hs1
    simp [lenOf] at hm
    subst hm
    refine ⟨(s.data.toList.map fun b => Value.int .u8 b.toNat).take k, ?_, by rw [Nat.mul_one]; exact (byteCells s).take k, by simp⟩
    simp only [Builtin.firstCells, Sem.run_pure]
    congr 1
    apply Array.ext'
    simp [ByteArray.extract, ByteArray.copySlice, List.map_take]
  · cases hl
    simp [lenOf] at hm
    subst hm
    obtain rfl : k = 0 := by omega
    cases hx with
    | atom hf => simp [flat1] at hf
    | hollow => exact ⟨[], by simp [Builtin.firstCells, loadCells, loadCellsFrom], by simp; exact .nil, by simp⟩
  · rename_i n p f s vs
    simp [lenOf] at hm
    subst hm
    split at hl
    · rename_i hsz
      cases hl
      have hcl : vs.toList.length = n * sz := by rw [Array.length_toList]; exact hsz
      have hks : k * sz ≤ n * sz := Nat.mul_le_mul_right _ hk
      obtain ⟨a, cap, rfl, hc, ⟨rfl, rfl⟩ | ⟨b, o, c, e, z, rfl, hb, hi, hl, hv⟩⟩ := frz_inv hx
      · obtain rfl : k = 0 := by omega
        refine ⟨[], ?_, by simp; exact .nil, by simp⟩
        cases a <;> simp [Builtin.firstCells, loadCells, loadCellsFrom]
      · obtain ⟨l', g1, g2⟩ := read_at hb (frz_cells hl hv) (off := 0) (k := k * sz) (l := vs.toList.take (k * sz)) (by
          unfold rdCells
          rw [if_pos (by omega), List.drop_zero])
        exact ⟨l', by simpa [Builtin.firstCells] using g1, g2, hcl⟩
    · cases hl
  · cases hl
end Go.L1
