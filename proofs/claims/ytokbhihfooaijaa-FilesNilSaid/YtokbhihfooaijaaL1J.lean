/- Each operation of the interpreter is the model's: append. -/
import Derived.Test.YtokbhihfooaijaaL1I
namespace Go.L1
open Go.RowKit
set_option linter.unusedVariables false
set_option linter.unusedSimpArgs false
variable {C : Cx} {ρ : Rho} {H H' : Hp} {w : World} {σ : Env} {a : Act} {v : Value}
theorem run_by {P : Program} {t : TypeId} {n : Nat} (h : bytesOf P t = some n) : ∃ i, P.info? t = some i ∧ i.bytes = n := by
  obtain ⟨i, hi, rfl⟩ := Option.map_eq_some_iff.1 h
  exact ⟨i, hi, rfl⟩
theorem zeroCells_size (z : Array Value) (k : Nat) : (Builtin.zeroCells z k).size = k * z.size := by simp [Builtin.zeroCells]
/-- What append asks ahead, and what comes of it. -/
theorem append_run {P : Program} {sT xT e ty sz by_ m n cap : Nat} {ts : Array TypeId} {base : Option Addr} {x' : Value} {z : Value} {old new : Array Value} {w : World}
    (h0 : ts[0]? = some sT) (h1 : ts[1]? = some xT) (hu : P.underlying sT = some (.slice e)) (hsz : szOf P e = some sz) (hby : bytesOf P e = some by_)
    (hxu : (∃ q, P.underlying xT = some (.slice q)) ∨ P.underlying xT = some .string) (hz : zeroOf P e = some z) (hm : (Builtin.lenOf x').run P w = .ok m w) (hcap : cap < n + m)
    (hb : (n + m) * by_ ≤ 140737488355328) (hb2 : n + m ≤ 4611686018427387904)
    (hold : (Builtin.firstCells sz n (.slice base n cap)).run P { w with drawn := w.drawn + 1 } = .ok old { w with drawn := w.drawn + 1 }) (hnew : (Builtin.firstCells sz m x').run P { w with drawn := w.drawn + 1 } = .ok new { w with drawn := w.drawn + 1 }) :
    ∃ newCap, n + m ≤ newCap ∧ (Builtin.append_ ts ty #[.slice base n cap, x']).run P w = .ok (.slice (some ⟨w.heap.size, 0, none⟩) (n + m) newCap)
      { w with heap := w.heap.push (.cells (old ++ new ++ Builtin.zeroCells z.cells (newCap - (n + m))) e (0, 0)), drawn := w.drawn + 1 } := by
  obtain ⟨i, hi, hbi⟩ := run_by hby
  refine ⟨(Question.appendCap (n + m) cap e).cut (w.tape w.drawn (.appendCap (n + m) cap e)), Nat.le_add_right _ _, ?_⟩
  have c1 : ¬ ((n + m : Nat) : Int) > IntKind.i64.max := by rw [show IntKind.i64.max = 9223372036854775807 from rfl]; omega
  have c2 : ¬ Builtin.nextslicecap (n + m) cap * i.bytes > 2 ^ 48 := by
    have := Go.nextslicecap_le hcap
    rw [hbi]
    have h3 : Builtin.nextslicecap (n + m) cap * by_ ≤ 2 * (n + m) * by_ := Nat.mul_le_mul_right _ this
    have h4 : 2 * (n + m) * by_ = 2 * ((n + m) * by_) := Nat.mul_assoc _ _ _
    have e48 : (2 : Nat) ^ 48 = 281474976710656 := by decide
    omega
  have c3 : ¬ n + m ≤ cap := by omega
  have h2 : (#[Value.slice base n cap, x'] : Array Value)[0]? = some (.slice base n cap) := rfl
  have h3 : (#[Value.slice base n cap, x'] : Array Value)[1]? = some x' := rfl
  unfold Builtin.append_
  rcases hxu with ⟨q, hq⟩ | hq
  all_goals
    simp only [h0, h1, h2, h3, Sem.run_bind, run_underlying hu, run_underlying hq, Result.andThen_ok, run_sz hsz, Bool.false_eq_true, if_false, Sem.run_pure, hm]
    simp only [c3, if_false, c1, false_and, Bool.false_eq_true, Sem.run_bind, run_ti hi, Result.andThen_ok, c2, run_choose, Question.forced, run_askRoom]
    rw [hold]
    simp only [Result.andThen_ok, Bool.not_false, if_true, Sem.run_pure]
    rw [hnew]
    simp only [Result.andThen_ok, run_zero hz, newRow, Sem.run_bind, run_newObj, Sem.run_pure]
    try rfl
theorem append_stay {P : Program} {sT xT e ty sz m n cap : Nat} {ts : Array TypeId} {base : Option Addr} {x' : Value} {new : Array Value} {w w' : World}
    (h0 : ts[0]? = some sT) (h1 : ts[1]? = some xT) (hu : P.underlying sT = some (.slice e)) (hsz : szOf P e = some sz)
    (hxu : (∃ q, P.underlying xT = some (.slice q)) ∨ P.underlying xT = some .string) (hm : (Builtin.lenOf x').run P w = .ok m w) (hcap : n + m ≤ cap)
    (hnew : (Builtin.firstCells sz m x').run P w = .ok new w) (hst : match base with | some a => (storeCells (a.add (n * sz)) new.toList).run P w = .ok () w' | none => w' = w) :
    (Builtin.append_ ts ty #[.slice base n cap, x']).run P w = .ok (.slice base (n + m) cap) w' := by
  have h2 : (#[Value.slice base n cap, x'] : Array Value)[0]? = some (.slice base n cap) := rfl
  have h3 : (#[Value.slice base n cap, x'] : Array Value)[1]? = some x' := rfl
  unfold Builtin.append_
  rcases hxu with ⟨q, hq⟩ | hq
  all_goals
    simp only [h0, h1, h2, h3, Sem.run_bind, run_underlying hu, run_underlying hq, Result.andThen_ok, run_sz hsz, Bool.false_eq_true, if_false, Sem.run_pure, hm]
    simp only [hcap, if_true, Sem.run_bind, Bool.not_false, hnew, Result.andThen_ok]
    cases base with
    | none => simp only at hst; subst hst; simp
    | some a => simp only at hst; simp only [Sem.run_bind, hst, Result.andThen_ok, Sem.run_pure]
theorem appendable_spec {P : Program} {xT : Option TypeId} {e sz : Nat} {x : Value} {news : List Value} (h : appendable P xT e sz x news = true) :
    news.all one = true ∧ (∃ t, xT = some t ∧ ((∃ q, P.underlying t = some (.slice q)) ∨ P.underlying t = some .string)) ∧ (∃ z, zeroOf P e = some z ∧ z.cells.toList.length = sz) ∧ (∀ s, x = .string s → sz = 1) := by
  unfold appendable at h
  simp only [Bool.and_eq_true] at h
  obtain ⟨⟨⟨h1, h2⟩, h3⟩, h4⟩ := h
  refine ⟨h1, ?_, ?_, fun s hs => by subst hs; simpa using h4⟩
  · cases xT with
    | none => simp at h2
    | some t =>
      refine ⟨t, rfl, ?_⟩
      simp only [Option.bind_some] at h2
      split at h2
      · rename_i q hq; exact .inl ⟨_, hq⟩
      · rename_i hq; exact .inr hq
      · cases h2
  · split at h3
    · rename_i z hz; exact ⟨z, hz, by simpa using h3⟩
    · cases h3
theorem append_ok (hr : HR C ρ H w) {sT : TypeId} {ty : TypeId} {ts : Array TypeId} {s s' x x' : Value} (hs : VR C H.next ρ w s s') (hx : VR C H.next ρ w x x') (ht : ts[0]? = some sT) (h : appendTo C.P sT ts[1]? s x H = some (v, H')) :
    OpV C ρ H w ((Builtin.append_ ts ty #[s', x']).run C.P w) v H' := by
  unfold appendTo at h
  obtain ⟨e, he, h1⟩ := Option.bind_eq_some_iff.1 h
  obtain ⟨sz, hsz, h2⟩ := Option.bind_eq_some_iff.1 h1
  obtain ⟨by_, hby, h3⟩ := Option.bind_eq_some_iff.1 h2
  obtain ⟨m, hm, h4⟩ := Option.bind_eq_some_iff.1 h3
  obtain ⟨news, hnews, h5⟩ := Option.bind_eq_some_iff.1 h4
  clear h h1 h2 h3 h4
  by_cases hap : appendable C.P ts[1]? e sz x news = true
  · rw [if_pos hap] at h5
    obtain ⟨a1, ⟨xT, hxT, hxu⟩, ⟨z, hz, hzl⟩, hstr⟩ := appendable_spec hap
    have hu := und_elem (row_elem he)
    have hlen := lenOf_ok hx hm
    have hD : Good C ρ H w ρ H { w with drawn := w.drawn + 1 } := hr.drew rfl ⟨rfl, rfl, rfl⟩
    have hxD := hx.mono hD.more
    obtain ⟨nD, d1, d2, d3⟩ := firstCells_ok hD.hr hxD hm hnews hstr (Nat.le_refl m)
    rw [List.take_of_length_le (by omega)] at d2
    have hnl : nD.length = m * sz := by rw [← d2.1, d3]
    have h9 : z.cells.size = sz := by simpa using hzl
    cases s with
    | slice sa n cp =>
      cases sa with
      | none =>
        cases n with
        | succ _ => cases h5
        | zero => cases cp with
          | succ _ => cases h5
          | zero =>
            have := hs.eq1 rfl
            subst this
            simp only at h5
            by_cases hm0 : m = 0
            · rw [if_pos hm0] at h5
              cases h5
              subst hm0
              obtain ⟨new', g1, g2, g3⟩ := firstCells_ok hr hx hm hnews hstr (Nat.le_refl 0)
              exact OpV.pure hr (append_stay ht hxT hu hsz hxu hlen (Nat.le_refl _) g1 rfl) (.of1 rfl)
            · rw [if_neg hm0] at h5
              by_cases hb : m * by_ ≤ 140737488355328 ∧ m ≤ 4611686018427387904
              · rw [if_pos hb] at h5
                cases h5
                obtain ⟨newCap, k1, k2⟩ := append_run (P := C.P) (ty := ty) (base := none) (old := #[]) ht hxT hu hsz hby hxu hz hlen (n := 0) (cap := 0) (by omega) (by rw [Nat.zero_add]; exact hb.1) (by omega) (by simp [Builtin.firstCells]) d1
                rw [Nat.zero_add] at k1 k2
                have hsize : (#[] ++ nD.toArray ++ Builtin.zeroCells z.cells (newCap - m)).size = newCap * sz := by
                  rw [Array.size_append, Array.size_append, zeroCells_size, h9]
                  simp only [List.size_toArray, hnl]
                  have h8 : m * sz + (newCap - m) * sz = newCap * sz := by rw [← Nat.add_mul, Nat.add_sub_cancel' k1]
                  simpa using h8
                refine ⟨_, _, _, k2, hD.trans (hD.hr.fresh_cells rfl ⟨rfl, rfl, rfl⟩ (cold0 _) (fun hx => by rw [lone_row he] at hx; cases hx) fun j v hj => ?_), VR.new_slice (w := { w with drawn := w.drawn + 1 }) hD.hr rfl k1 fun s2 hs2 => by rw [hsz] at hs2; cases hs2; rw [hsize]; exact Nat.le_refl _⟩
                obtain ⟨u, hu1, hu2⟩ := d2.2 j v hj
                refine ⟨u, ?_, hu2⟩
                rw [Array.getElem?_append_left (by simp; exact (List.getElem?_eq_some_iff.1 hu1).1)]
                simpa using hu1
              · rw [if_neg hb] at h5; cases h5
      | some ad =>
        obtain ⟨i, off, spot⟩ := ad
        cases spot with
        | some _ => cases h5
        | none =>
          simp only at h5
          cases hs with
          | atom hf => simp [flat1] at hf
          | slice hin hb ho hc hf =>
            rename_i b o cap
            by_cases hm0 : m = 0
            · rw [if_pos hm0] at h5
              cases h5
              subst hm0
              obtain ⟨new', g1, g2, g3⟩ := firstCells_ok hr hx hm hnews hstr (Nat.le_refl 0)
              have hn0 : new' = [] := by have := g2.1; simp at this; exact List.length_eq_zero_iff.1 (by omega)
              subst hn0
              exact OpV.pure hr (append_stay (w' := w) ht hxT hu hsz hxu hlen (by omega) g1 (by simp [storeCells])) (.slice hin hb ho hc hf)
            · rw [if_neg hm0] at h5
              by_cases hbb : (n + m) * by_ ≤ 140737488355328 ∧ n + m ≤ 4611686018427387904 ∧ H.mark ≤ i
              · rw [if_pos hbb] at h5
                obtain ⟨b1, b2, hmk⟩ := hbb
                cases hg : H.get i with
                | none => rw [hg] at h5; cases h5
                | some ob =>
                  rw [hg] at h5
                  cases ob with
                  | map es => cases h5
                  | loop _ _ _ _ _ _ => cases h5
                  | cells e' vs =>
                    by_cases hee : e' = e
                    · subst hee
                      simp only [if_true] at h5
                      obtain ⟨old, hold, h6⟩ := Option.map_eq_some_iff.1 h5
                      cases h6
                      have hfi : C.fence ≤ i := Nat.le_trans hr.fm hmk
                      have hol : old.length = n * sz := by
                        unfold rdCells at hold
                        split at hold
                        · cases hold; simp; omega
                        · cases hold
                      -- what the row held, in either world
                      have hread : ∀ W : World, HR C ρ H W → ∃ l', (Builtin.firstCells sz n (.slice (some ⟨b, o, none⟩) n cap)).run C.P W = .ok l'.toArray W ∧ VRL C H.next ρ W old l' := fun W hW => by
                        by_cases hn0 : n = 0
                        · subst hn0
                          have : old = [] := List.length_eq_zero_iff.1 (by simpa using hol)
                          subst this
                          exact ⟨[], by simp [Builtin.firstCells, loadCells, loadCellsFrom], .nil⟩
                        · subst hb
                          have ho' := ho (by omega)
                          subst ho'
                          obtain ⟨l', q1, q2⟩ := (hW.ob i _ hg).2.read hold
                          exact ⟨l', by simpa [Builtin.firstCells] using q1, q2⟩
                      by_cases hfit : n + m ≤ cap
                      · obtain ⟨new', g1, g2, g3⟩ := firstCells_ok hr hx hm hnews hstr (Nat.le_refl m)
                        rw [List.take_of_length_le (by omega)] at g2
                        have hnl' : new'.length = m * sz := by rw [← g2.1, g3]
                        subst hb
                        obtain ⟨c, e2, fz, hcb, hcap⟩ := hf hfi
                        obtain ⟨c2, e3, fz2, hc2, hv2, hf2⟩ := (hr.ob i _ hg).2
                        rw [hcb] at hc2
                        cases hc2
                        obtain ⟨he3, hbase, hcold, _⟩ := hf2 hfi
                        subst he3
                        have hcz := hcap _ hsz
                        have hnm : (n + m) * sz ≤ cap * sz := Nat.mul_le_mul_right _ hfit
                        rw [Nat.add_mul] at hnm
                        have hst := run_storeCells_cells (P := C.P) (ρ i).1 (o + n * sz) new' 0 w
                          (fun j hj => by rw [cell_of hcb, Array.getElem?_eq_getElem (by omega)]; rfl)
                          (fun j hj => by rw [frozen_of hcb]; exact hcold _ (by omega)) (all_one a1 g2)
                        obtain ⟨s1, s2, s3, s4⟩ := setCells_heap (ρ i).1 new' (o + n * sz) w c e2 fz hcb
                        have hsz' : (wrList c.toList (o + n * sz) new').toArray.size = c.size := by simp [wrList_length]
                        have hk : Keeps w (w.setCells (ρ i).1 (o + n * sz) new') := Keeps.block s2 hcb s1 hsz'
                        have hmo : More H.next ρ w (H.next + 1) (up ρ H.next ((ρ i).1, o)) (w.setCells (ρ i).1 (o + n * sz) new') := hr.more (Nat.le_succ _) (fun j hj => by exact up_ne (by omega)) hk rfl rfl (fun b _ hs => s2 b (Ne.symm (hs i hmk (by rw [hg]; simp))))
                        have hrun := append_stay (P := C.P) (ty := ty) (w' := w.setCells (ρ i).1 (o + n * sz) new') ht hxT hu hsz hxu hlen hfit g1 (base := some ⟨(ρ i).1, o, none⟩) (by
                          simp only [addr_add, List.toList_toArray]
                          simpa using hst)
                        have hql : c.toList.length = c.size := Array.length_toList
                        refine ⟨_, _, _, hrun, hr.moved hmk hg s2 s3 s4 hk hbase (o0 := o) ⟨_, e2, fz, by rw [up_same]; exact s1, fun j v hj => ?_, fun _ => ⟨rfl, by rw [up_same]; exact hbase, by rw [hsz']; exact hcold, fun hx => by rw [lone_row he] at hx; cases hx⟩⟩,
                          .slice (Nat.lt_succ_self _) (by rw [up_same]) (fun _ => by rw [up_same]; rfl) hfit fun _ => ⟨_, e2, fz, s1, fun s hs => by rw [hsz']; exact hcap s hs⟩⟩
                        rw [up_same, List.getElem?_toArray, wrList_get _ _ _ _ (by omega)]
                        by_cases hj0 : j < n * sz
                        · rw [if_neg (by omega)]
                          rw [List.getElem?_append_left (by omega)] at hj
                          have hn0 : 0 < n := by rcases Nat.eq_zero_or_pos n with h | h; (subst h; simp at hj0); exact h
                          have ho' := ho hn0
                          unfold rdCells at hold
                          split at hold
                          · cases hold
                            rw [List.getElem?_take, if_pos hj0, List.getElem?_drop] at hj
                            obtain ⟨v', r1, r2⟩ := hv2 _ v hj
                            exact ⟨v', by rw [Array.getElem?_toList, ← r1, ho', Nat.add_assoc], r2.mono hmo⟩
                          · cases hold
                        · rw [List.getElem?_append_right (by omega), hol] at hj
                          obtain ⟨u, hu1, hu2⟩ := g2.2 _ v hj
                          have hjl := (List.getElem?_eq_some_iff.1 hu1).1
                          rw [if_pos (by simp only []; omega)]
                          exact ⟨u, by rw [← hu1]; congr 1; simp only []; omega, hu2.mono hmo⟩
                      · obtain ⟨oD, q1, q2⟩ := hread _ hD.hr
                        obtain ⟨newCap, k1, k2⟩ := append_run (P := C.P) (ty := ty) (base := some ⟨b, o, none⟩) (old := oD.toArray) ht hxT hu hsz hby hxu hz hlen (n := n) (cap := cap) (by omega) b1 b2 q1 d1
                        have hodl : oD.length = n * sz := by rw [← q2.1, hol]
                        have hsize : (oD.toArray ++ nD.toArray ++ Builtin.zeroCells z.cells (newCap - (n + m))).size = newCap * sz := by
                          rw [Array.size_append, Array.size_append, zeroCells_size, h9]
                          simp only [List.size_toArray, hnl, hodl]
                          rw [← Nat.add_mul, ← Nat.add_mul]
                          congr 1
                          omega
                        have hdrop := hD.hr.drop hmk
                        refine ⟨_, _, _, k2, hD.trans (hdrop.trans (hdrop.hr.fresh_cells rfl ⟨rfl, rfl, rfl⟩ (cold0 _) (fun hx => by rw [lone_row he] at hx; cases hx) fun j v hj => ?_)), VR.new_slice (H := H.put i none) (w := { w with drawn := w.drawn + 1 }) hdrop.hr rfl k1 fun s2 hs2 => by rw [hsz] at hs2; cases hs2; rw [hsize]; exact Nat.le_refl _⟩
                        obtain ⟨u, hu1, hu2⟩ := (q2.append d2).2 j v hj
                        refine ⟨u, ?_, hu2⟩
                        rw [Array.getElem?_append_left (by have := (List.getElem?_eq_some_iff.1 hu1).1; simpa using this)]
                        simpa using hu1
                    · simp only [hee, if_false] at h5; cases h5
              · rw [if_neg hbb] at h5; cases h5
    | _ => cases h5
  · rw [if_neg hap] at h5; cases h5
end Go.L1
