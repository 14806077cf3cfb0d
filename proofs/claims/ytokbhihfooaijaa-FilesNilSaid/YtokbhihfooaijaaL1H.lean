/- Each operation of the interpreter is the model's: addresses, slices, conversions, append, copy. -/
import Derived.Test.YtokbhihfooaijaaL1G
namespace Go.L1
open Go.RowKit
set_option linter.unusedVariables false
set_option linter.unusedSimpArgs false
variable {C : Cx} {ρ : Rho} {H H' : Hp} {w : World} {σ : Env} {a : Act} {v : Value}
theorem und_fld {P : Program} {s f : Nat} {q : Nat × TypeId} (h : fldOf P s f = some q) : ∃ fs x, P.underlying s = some (.struct fs) ∧ fs[f]? = some x ∧ q = (x.offset, x.type) := by
  unfold fldOf at h
  split at h
  · rename_i fs hu
    obtain ⟨x, hx, rfl⟩ := Option.map_eq_some_iff.1 h
    exact ⟨fs, x, hu, hx, rfl⟩
  · cases h
theorem und_arr {P : Program} {t : TypeId} {q : Nat × TypeId} (h : arrOf P t = some q) : P.underlying t = some (.array q.1 q.2) := by
  unfold arrOf at h
  split at h
  · rename_i n e hu; cases h; exact hu
  · cases h
theorem und_elem {P : Program} {t e : TypeId} (h : elemOf P t = some e) : P.underlying t = some (.slice e) := by
  unfold elemOf at h
  split at h
  · rename_i e hu; cases h; exact hu
  · cases h
theorem und_map {P : Program} {t : TypeId} {q : TypeId × TypeId} (h : mapOf P t = some q) : P.underlying t = some (.map q.1 q.2) := by
  unfold mapOf at h
  split at h
  · rename_i k e hu; cases h; exact hu
  · cases h
theorem und_kind {P : Program} {t : TypeId} {k : IntKind} (h : kindOf P t = some k) : P.underlying t = some (.int k) := by
  unfold kindOf at h
  split at h
  · rename_i k hu; cases h; exact hu
  · cases h
theorem ptr_inv {n i off : Nat} {x' : Value} (h : VR C n ρ w (.pointer (some ⟨i, off, none⟩)) x') : x' = .pointer (some ⟨(ρ i).1, (ρ i).2 + off, none⟩) ∧ i < n := by
  cases h with
  | atom hf => simp [flat1] at hf
  | ptr hi => exact ⟨rfl, hi⟩
theorem fieldAddr_ok {n s f i off : Nat} {x' : Value} {q : Nat × TypeId} {z : Nat} (hx : VR C n ρ w (.pointer (some ⟨i, off, none⟩)) x') (hq : fldOf C.P s f = some q) (hz : szOf C.P q.2 = some z) (h0 : z ≠ 0) :
    ∃ v', (Instr.fieldAt s x' f).run C.P w = .ok v' w ∧ VR C n ρ w (ptr i (off + q.1)) v' := by
  obtain ⟨rfl, hi⟩ := ptr_inv hx
  obtain ⟨fs, y, hu, hy, rfl⟩ := und_fld hq
  refine ⟨.pointer (some ⟨(ρ i).1, (ρ i).2 + (off + y.offset), none⟩), ?_, .ptr hi⟩
  simp [Instr.fieldAt, run_underlying hu, hy, Instr.sureAddr, fieldPlace, run_sz hz, h0, addr_add, Nat.add_assoc]
theorem field_ok {n t f : Nat} {cs : Array Value} {x' : Value} {q : Nat × TypeId} (hx : VR C n ρ w (.agg cs) x') (hq : fldOf C.P t f = some q) (h : part C.P q.2 cs.toList q.1 = some v) :
    ∃ v', (Instr.field t x' f).run C.P w = .ok v' w ∧ VR C n ρ w v v' := by
  obtain ⟨cs', rfl, hv⟩ := hx.agg_list
  obtain ⟨fs, y, hu, hy, rfl⟩ := und_fld hq
  obtain ⟨v', h1, h2⟩ := part_ok hv h
  exact ⟨v', by simpa [Instr.field, run_underlying hu, hy, asAgg] using h1, h2⟩
theorem indexAddr_arr {n t i off sz : Nat} {k : IntKind} {x' : Value} {q : Int} {ne : Nat × TypeId} (hx : VR C n ρ w (.pointer (some ⟨i, off, none⟩)) x') (ht : arrOf C.P t = some ne) (hs : szOf C.P ne.2 = some sz) (h0 : 0 ≤ q) (h1 : q < ne.1) :
    ∃ v', (Instr.indexAt t x' (.int k q)).run C.P w = .ok v' w ∧ VR C n ρ w (ptr i (off + q.toNat * sz)) v' := by
  obtain ⟨rfl, hi⟩ := ptr_inv hx
  have hu := und_arr ht
  refine ⟨.pointer (some ⟨(ρ i).1, (ρ i).2 + (off + q.toNat * sz), none⟩), ?_, .ptr hi⟩
  simp [Instr.indexAt, asIntOf, run_underlying hu, Instr.sureAddr, h0, h1, run_sz hs, addr_add, Nat.add_assoc]
theorem indexAddr_slc {n t i off len sz : Nat} {e : TypeId} {k : IntKind} {x' : Value} {q : Int} (hx : VR C n ρ w (slc i off len) x') (ht : elemOf C.P t = some e) (hs : szOf C.P e = some sz) (h0 : 0 ≤ q) (h1 : q < len) :
    ∃ v', (Instr.indexAt t x' (.int k q)).run C.P w = .ok v' w ∧ VR C n ρ w (ptr i (off + q.toNat * sz)) v' := by
  have hu := und_elem ht
  cases hx with
  | atom hf => simp [flat1] at hf
  | slice hi hb ho hc hf =>
    rename_i b o cap
    have ho' := ho (by omega)
    subst hb
    subst ho'
    refine ⟨.pointer (some ⟨(ρ i).1, (ρ i).2 + (off + q.toNat * sz), none⟩), ?_, .ptr hi⟩
    simp [Instr.indexAt, asIntOf, run_underlying hu, h0, h1, run_sz hs, addr_add, Nat.add_assoc]
theorem frz_inv {n k : Nat} {p : Array FieldStep} {f : FuncId} {s vs : Array Value} {x' : Value} (hx : VR C n ρ w (.func (.via k p f false) s vs) x') : ∃ a cap, x' = .slice a k cap ∧ k ≤ cap ∧
    ((k = 0 ∧ vs = #[]) ∨ ∃ b o c e z, a = some ⟨b, o, none⟩ ∧ w.heap[b]? = some (Obj.cells c e z) ∧ ρ.cool s b ∧ o + vs.size ≤ c.size ∧ ∀ j, j < vs.size → VR C n ρ w (vs.getD j undef) (c.getD (o + j) undef)) := by
  cases hx with
  | atom hf => simp [flat1] at hf
  | frz0 => exact ⟨_, _, rfl, Nat.zero_le _, .inl ⟨rfl, rfl⟩⟩
  | frz hc hb hi hl hv => exact ⟨_, _, rfl, hc, .inr ⟨_, _, _, _, _, rfl, hb, hi, hl, hv⟩⟩
theorem fpl_inv' {n k : Nat} {p : Array FieldStep} {f : FuncId} {s vs : Array Value} {x' : Value} (hx : VR C n ρ w (.func (.via k p f true) s vs) x') : ∃ b o, x' = .pointer (some ⟨b, o + k, none⟩) ∧ ∀ k', VR C n ρ w (.func (.via k' p f true) s vs) (.pointer (some ⟨b, o + k', none⟩)) := by
  cases hx with
  | atom hf => simp [flat1] at hf
  | fpl hb hi hl hv => exact ⟨_, _, rfl, fun k' => .fpl hb hi hl hv⟩
theorem fieldAddr_frz {n k st f : Nat} {p : Array FieldStep} {g : FuncId} {s vs : Array Value} {x' : Value} {q : Nat × TypeId} {z : Nat} (hx : VR C n ρ w (.func (.via k p g true) s vs) x') (hq : fldOf C.P st f = some q) (hz : szOf C.P q.2 = some z) (h0 : z ≠ 0) :
    ∃ v', (Instr.fieldAt st x' f).run C.P w = .ok v' w ∧ VR C n ρ w (.func (.via (k + q.1) p g true) s vs) v' := by
  obtain ⟨b, o, rfl, hv⟩ := fpl_inv' hx
  obtain ⟨fs, y, hu, hy, rfl⟩ := und_fld hq
  refine ⟨.pointer (some ⟨b, o + (k + y.offset), none⟩), ?_, hv _⟩
  simp [Instr.fieldAt, run_underlying hu, hy, Instr.sureAddr, fieldPlace, run_sz hz, h0, addr_add, Nat.add_assoc]
theorem indexAddr_fpl {n t k sz : Nat} {p : Array FieldStep} {g : FuncId} {s vs : Array Value} {kd : IntKind} {x' : Value} {q : Int} {ne : Nat × TypeId} (hx : VR C n ρ w (.func (.via k p g true) s vs) x') (ht : arrOf C.P t = some ne) (hs : szOf C.P ne.2 = some sz) (h0 : 0 ≤ q) (h1 : q < ne.1) :
    ∃ v', (Instr.indexAt t x' (.int kd q)).run C.P w = .ok v' w ∧ VR C n ρ w (.func (.via (k + q.toNat * sz) p g true) s vs) v' := by
  obtain ⟨b, o, rfl, hv⟩ := fpl_inv' hx
  have hu := und_arr ht
  refine ⟨.pointer (some ⟨b, o + (k + q.toNat * sz), none⟩), ?_, hv _⟩
  simp [Instr.indexAt, asIntOf, run_underlying hu, Instr.sureAddr, h0, h1, run_sz hs, addr_add, Nat.add_assoc]
theorem indexAddr_frz {n t k sz : Nat} {p : Array FieldStep} {g : FuncId} {s vs : Array Value} {e : TypeId} {kd : IntKind} {x' : Value} {q : Int} (hx : VR C n ρ w (.func (.via k p g false) s vs) x') (ht : elemOf C.P t = some e) (hs : szOf C.P e = some sz) (h0 : 0 ≤ q) (h1 : q < k) :
    ∃ v', (Instr.indexAt t x' (.int kd q)).run C.P w = .ok v' w ∧ VR C n ρ w (.func (.via (q.toNat * sz) p g true) s vs) v' := by
  have hu := und_elem ht
  obtain ⟨a, cap, rfl, hc, ⟨rfl, rfl⟩ | ⟨b, o, c, e', z, rfl, hb, hi, hl, hv⟩⟩ := frz_inv hx
  · omega
  refine ⟨.pointer (some ⟨b, o + q.toNat * sz, none⟩), ?_, .fpl hb hi hl hv⟩
  simp [Instr.indexAt, asIntOf, run_underlying hu, h0, h1, run_sz hs, addr_add]
theorem index_agg {n t sz : Nat} {cs : Array Value} {k : IntKind} {x' : Value} {q : Int} {ne : Nat × TypeId} (hx : VR C n ρ w (.agg cs) x') (ht : arrOf C.P t = some ne) (hs : szOf C.P ne.2 = some sz) (h0 : 0 ≤ q) (h1 : q < ne.1) (h : part C.P ne.2 cs.toList (q.toNat * sz) = some v) :
    ∃ v', (Instr.index t x' (.int k q)).run C.P w = .ok v' w ∧ VR C n ρ w v v' := by
  obtain ⟨cs', rfl, hv⟩ := hx.agg_list
  obtain ⟨v', g1, g2⟩ := part_ok hv h
  exact ⟨v', by simpa [Instr.index, asIntOf, run_underlying (und_arr ht), h0, h1, run_sz hs] using g1, g2⟩
theorem index_str {t : TypeId} {k : IntKind} {s : ByteArray} {q : Int} (hu : C.P.underlying t = some .string) (h0 : 0 ≤ q) (h1 : q < s.size) :
    (Instr.index t (.string s) (.int k q)).run C.P w = .ok (.int .u8 ((s.data.toList.getD q.toNat 0).toNat : Nat)) w := by
  have hq : q.toNat < s.size := by omega
  have e : s[q.toNat]? = some s[q.toNat] := getElem?_pos s q.toNat hq
  have e2 : s.data.toList.getD q.toNat 0 = s[q.toNat] := by
    have : q.toNat < s.data.toList.length := by rw [Array.length_toList]; exact hq
    rw [List.getD_eq_getElem?_getD, List.getElem?_eq_getElem this]
    rfl
  rw [e2]
  simp [Instr.index, asIntOf, run_underlying hu, h0, e]
-- ---- slicing
theorem bound_ok {y : Nat} {x : Value} {d n : Nat} {code : BoundsCode} (h : numOf d (some x) = some n) (hy : n ≤ y) : (Instr.sliceBound x y code).run C.P w = .ok n w := by
  cases x <;> simp [numOf] at h
  rename_i k q
  obtain ⟨h0, rfl⟩ := h
  have h1 : q ≤ (y : Int) := by omega
  simp [Instr.sliceBound, asIntOf, h0, h1]
theorem bounds_ok {isSlice : Bool} {len cap l h m : Nat} {lo hi mx : Option Value} (hl : numOf 0 lo = some l) (hh : numOf len hi = some h) (hm : numOf h mx = some m) (h1 : l ≤ h) (h2 : h ≤ len) (h3 : m = h) (h4 : mx.isSome → hi.isSome) (hc : len ≤ cap) :
    (Instr.sliceBounds isSlice len cap lo hi mx).run C.P w = .ok (l, h, if mx.isSome then m else cap) w := by
  cases lo with
  | none =>
    cases hl
    cases hi with
    | none =>
      cases hh
      cases mx with
      | none => simp [Instr.sliceBounds]
      | some x => simp at h4
    | some y =>
      cases mx with
      | none => simp [Instr.sliceBounds, bound_ok (y := cap) hh (by omega)]
      | some x => simp [Instr.sliceBounds, bound_ok (y := cap) hm (by omega), bound_ok (y := m) hh (by omega)]
  | some z =>
    cases hi with
    | none =>
      cases hh
      cases mx with
      | none => simp [Instr.sliceBounds, bound_ok (y := len) hl h1]
      | some x => simp at h4
    | some y =>
      cases mx with
      | none => simp [Instr.sliceBounds, bound_ok (y := cap) hh (by omega), bound_ok (y := h) hl h1]
      | some x => simp [Instr.sliceBounds, bound_ok (y := cap) hm (by omega), bound_ok (y := m) hh (by omega), bound_ok (y := h) hl h1]
theorem numOf_rel {n d m : Nat} {x x' : Option Value} (hx : ∀ y, x = some y → ∃ y', x' = some y' ∧ VR C n ρ w y y') (hn : x = none → x' = none) (h : numOf d x = some m) : x' = x := by
  cases x with
  | none => exact hn rfl
  | some y =>
    obtain ⟨y', h1, h2⟩ := hx y rfl
    cases y <;> simp [numOf] at h
    have := h2.int
    subst this
    exact h1
theorem slice_frz {t e n l k m sz : Nat} {p : Array FieldStep} {f : FuncId} {s vs : Array Value} {x' : Value} {lo hi mx : Option Value} (hu : C.P.underlying t = some (.slice e)) (hs : szOf C.P e = some sz) (hl : numOf 0 lo = some l) (hh : numOf n hi = some k) (hm : numOf k mx = some m)
    (h1 : l ≤ k) (h2 : k ≤ n) (h3 : m = k) (h4 : mx.isSome → hi.isSome) (h5 : vs.size = n * sz) (hx : VR C H.next ρ w (.func (.via n p f false) s vs) x') :
    ∃ v', (Instr.sliceAt t x' lo hi mx).run C.P w = .ok v' w ∧ VR C H.next ρ w (.func (.via (k - l) p f false) s ((vs.toList.drop (l * sz)).take ((k - l) * sz)).toArray) v' := by
  subst h3
  obtain ⟨a, cap, rfl, hc, hf⟩ := frz_inv hx
  have hbd := bounds_ok (C := C) (w := w) (isSlice := true) (cap := cap) hl hh hm h1 h2 rfl h4 hc
  have hcap : ∃ M, (if mx.isSome then m else cap) = M ∧ m ≤ M ∧ M ≤ cap := by cases mx with | none => exact ⟨cap, rfl, by omega, Nat.le_refl _⟩ | some _ => exact ⟨m, rfl, Nat.le_refl _, by omega⟩
  obtain ⟨M, eM, hM1, hM2⟩ := hcap
  rw [eM] at hbd
  refine ⟨.slice (if M = l then a else a.map (·.add (l * sz))) (m - l) (M - l), by simp [Instr.sliceAt, Instr.slice, run_underlying hu, hbd, run_sz hs], ?_⟩
  by_cases h0 : m - l = 0
  · rw [h0, Nat.zero_mul, List.take_zero]; exact .frz0
  rcases hf with ⟨rfl, _⟩ | ⟨b, o, c, e', z, rfl, hb, hi, hcl, hv⟩
  · omega
  rw [if_neg (by omega)]
  have hls : l * sz + (m - l) * sz ≤ vs.size := by rw [← Nat.add_mul, h5]; exact Nat.mul_le_mul_right _ (by omega)
  have hsz : ((vs.toList.drop (l * sz)).take ((m - l) * sz)).toArray.size = (m - l) * sz := by simp; omega
  simp only [Option.map_some, addr_add]
  refine .frz (by omega) hb hi (by rw [hsz]; omega) fun j hj => ?_
  rw [hsz] at hj
  have := hv (l * sz + j) (by omega)
  rw [show o + l * sz + j = o + (l * sz + j) by omega]
  have e1 : ((vs.toList.drop (l * sz)).take ((m - l) * sz)).toArray.getD j undef = vs.getD (l * sz + j) undef := by
    rw [Array.getD_eq_getD_getElem?, Array.getD_eq_getD_getElem?, List.getElem?_toArray, List.getElem?_take, if_pos hj, List.getElem?_drop, Array.getElem?_toList]
  rw [e1]; exact this
theorem slice_ok (hr : HR C ρ H w) {t : TypeId} {x x' : Value} {lo hi mx lo' hi' mx' : Option Value} (hx : VR C H.next ρ w x x')
    (hlo : ∀ d m, numOf d lo = some m → lo' = lo) (hhi : ∀ d m, numOf d hi = some m → hi' = hi) (hmx : ∀ d m, numOf d mx = some m → mx' = mx) (hmn : mx = none → mx' = none) (h : sliceOf C.P t x lo hi mx H = some v) :
    ∃ v', (Instr.sliceAt t x' lo' hi' mx').run C.P w = .ok v' w ∧ VR C H.next ρ w v v' := by
  unfold sliceOf at h
  split at h
  · rename_i s hu
    have := hx.string
    subst this
    obtain ⟨l, hl, h⟩ := Option.bind_eq_some_iff.1 h
    obtain ⟨k, hk, h⟩ := Option.bind_eq_some_iff.1 h
    split at h
    · rename_i hc
      cases h
      obtain ⟨c1, c2, c3⟩ := hc
      have hmx0 : mx = none := by simpa using c1
      rw [hlo _ _ hl, hhi _ _ hk, hmn hmx0]
      have hb := bounds_ok (C := C) (w := w) (isSlice := false) (cap := s.size) hl hk (show numOf k none = some k from rfl) c2 c3 rfl (by simp) (Nat.le_refl _)
      exact ⟨_, by simp [Instr.sliceAt, Instr.slice, run_underlying hu, hb], .of1 rfl⟩
    · cases h
  · rename_i e hu
    have := hx.eq1 rfl
    subst this
    obtain ⟨s, hs, h1⟩ := Option.bind_eq_some_iff.1 h
    obtain ⟨l, hl, h2⟩ := Option.bind_eq_some_iff.1 h1
    obtain ⟨k, hk, h3⟩ := Option.bind_eq_some_iff.1 h2
    obtain ⟨m, hm, h4⟩ := Option.bind_eq_some_iff.1 h3
    clear h h1 h2 h3
    by_cases hc : l = 0 ∧ k = 0 ∧ m = 0 ∧ (mx.isSome → hi.isSome)
    · rw [if_pos hc] at h4
      cases h4
      obtain ⟨rfl, rfl, rfl, c4⟩ := hc
      rw [hlo _ _ hl, hhi _ _ hk]
      have hmx' : mx' = mx := by cases mx with | none => exact hmn rfl | some y => exact hmx _ _ hm
      rw [hmx']
      have hb := bounds_ok (C := C) (w := w) (isSlice := true) (cap := 0) hl hk hm (Nat.le_refl _) (Nat.le_refl _) rfl c4 (Nat.le_refl _)
      rw [ite_self] at hb
      exact ⟨.slice none 0 0, by simp [Instr.sliceAt, Instr.slice, run_underlying hu, hb, run_sz hs], .of1 rfl⟩
    · rw [if_neg hc] at h4; cases h4
  · rename_i e i off n cp hu
    obtain ⟨sz, hs, h1⟩ := Option.bind_eq_some_iff.1 h
    obtain ⟨l, hl, h2⟩ := Option.bind_eq_some_iff.1 h1
    obtain ⟨k, hk, h3⟩ := Option.bind_eq_some_iff.1 h2
    obtain ⟨m, hm, h4⟩ := Option.bind_eq_some_iff.1 h3
    clear h h1 h2 h3
    by_cases hc : l ≤ k ∧ k ≤ n ∧ m = k ∧ (mx.isSome → hi.isSome)
    · rw [if_pos hc] at h4
      obtain ⟨c1, c2, c3, c4⟩ := hc
      subst c3
      cases hg : H.get i with
      | none => rw [hg] at h4; cases h4
      | some o =>
        rw [hg] at h4
        cases o with
        | map es => cases h4
        | loop _ _ _ _ _ _ => cases h4
        | cells e' vs =>
          by_cases he : e' = e
          · simp only [he, if_true] at h4
            cases h4
            subst he
            rw [hlo _ _ hl, hhi _ _ hk]
            have hmx' : mx' = mx := by cases mx with | none => exact hmn rfl | some y => exact hmx _ _ hm
            rw [hmx']
            cases hx with
            | atom hf => simp [flat1] at hf
            | slice hin hb ho hcp hf =>
              rename_i b o cap
              have hbd := bounds_ok (C := C) (w := w) (isSlice := true) (cap := cap) hl hk hm c1 c2 rfl c4 hcp
              have hcap : ∃ M, (if mx.isSome then m else cap) = M ∧ m ≤ M ∧ M ≤ cap := by cases mx with | none => exact ⟨cap, rfl, by omega, Nat.le_refl _⟩ | some _ => exact ⟨m, rfl, Nat.le_refl _, by omega⟩
              obtain ⟨M, eM, hM1, hM2⟩ := hcap
              rw [eM] at hbd
              refine ⟨.slice (some (if M = l then ⟨b, o, none⟩ else ⟨b, o + l * sz, none⟩)) (m - l) (M - l), ?_, ?_⟩
              · simp only [Instr.sliceAt, Sem.run_bind, run_underlying hu, Result.andThen_ok, Instr.slice, hbd, run_sz hs, Sem.run_pure]
                congr 1
                by_cases hMl : M = l
                · simp [hMl]
                · simp [hMl, addr_add]
              · have hf' : ∀ o', (M ≠ l → o' = o + l * sz) → (M = l → o' = o) → (C.fence ≤ i → ∃ (c : Array Value) (e : TypeId) (fz : Nat × Nat), w.heap[b]? = some (Obj.cells c e fz) ∧ ∀ sz, szOf C.P e = some sz → o' + (M - l) * sz ≤ c.size) := by
                  intro o' h1 h2 hfi
                  obtain ⟨c, e2, fz, hcb, hsz2⟩ := hf hfi
                  refine ⟨c, e2, fz, hcb, fun s2 hs2 => ?_⟩
                  have hee : e2 = e' := by
                    obtain ⟨c', e3, fz', hc3, _, hf3⟩ := (hr.ob i _ hg).2
                    rw [← hb] at hc3
                    rw [hcb] at hc3
                    cases hc3
                    exact (hf3 hfi).1
                  subst hee
                  rw [hs] at hs2
                  cases hs2
                  have := hsz2 _ hs
                  by_cases hMl : M = l
                  · rw [h2 hMl, hMl]; simp; have := Nat.zero_le (cap * sz); omega
                  · rw [h1 hMl]
                    have h3 : l * sz + (M - l) * sz = M * sz := by rw [← Nat.add_mul, Nat.add_sub_cancel' (by omega)]
                    have h4 : M * sz ≤ cap * sz := Nat.mul_le_mul_right _ hM2
                    omega
                by_cases hMl : M = l
                · rw [if_pos hMl]
                  exact .slice hin hb (fun h0 => by omega) (by omega) (hf' o (fun h => absurd hMl h) (fun _ => rfl))
                · rw [if_neg hMl]
                  exact .slice hin hb (fun h0 => by rw [ho (by omega)]; omega) (by omega) (hf' _ (fun _ => rfl) (fun h => absurd h hMl))
          · simp only [he, if_false] at h4; cases h4
    · rw [if_neg hc] at h4; cases h4
  · rename_i e n p f s vs hu
    obtain ⟨sz, hs, h1⟩ := Option.bind_eq_some_iff.1 h
    obtain ⟨l, hl, h2⟩ := Option.bind_eq_some_iff.1 h1
    obtain ⟨k, hk, h3⟩ := Option.bind_eq_some_iff.1 h2
    obtain ⟨m, hm, h4⟩ := Option.bind_eq_some_iff.1 h3
    clear h h1 h2 h3
    by_cases hc : l ≤ k ∧ k ≤ n ∧ m = k ∧ (mx.isSome → hi.isSome) ∧ vs.size = n * sz
    · rw [if_pos hc] at h4
      cases h4
      obtain ⟨c1, c2, c3, c4, c5⟩ := hc
      rw [hlo _ _ hl, hhi _ _ hk]
      have hmx' : mx' = mx := by cases mx with | none => exact hmn rfl | some y => exact hmx _ _ hm
      rw [hmx']
      exact slice_frz hu hs hl hk hm c1 c2 c3 c4 c5 hx
    · rw [if_neg hc] at h4; cases h4
  · cases h
end Go.L1
