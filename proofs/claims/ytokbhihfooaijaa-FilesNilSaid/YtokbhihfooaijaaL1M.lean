/- Each operation of the interpreter is the model's: all of them. -/
import Derived.Test.YtokbhihfooaijaaL1L
import Derived.Lib.UnsafeStr
namespace Go.L1
open Go.RowKit
set_option linter.unusedVariables false
set_option linter.unusedSimpArgs false
variable {C : Cx} {ρ : Rho} {H H' : Hp} {w : World} {σ : Env} {a : Act} {v : Value}
theorem OpV.op {s : Sem Value} {r : Result Next} (h : OpV C ρ H w (s.run C.P w) v H') (hr : ∀ x w', s.run C.P w = .ok x w' → r = .ok (.value x) w') : OpOk C ρ H w r v H' := by
  obtain ⟨ρ', w', v', h1, h2, h3⟩ := h
  exact ⟨ρ', w', v', .inl (hr _ _ h1), h2, h3⟩
theorem bind_value {P : Program} {s : Sem Value} {w w' : World} {x : Value} (h : s.run P w = .ok x w') : (do pure (.value (← s)) : Sem Next).run P w = .ok (.value x) w' := by simp [h]
theorem bind_skip {P : Program} {s : Sem Unit} {w w' : World} (h : s.run P w = .ok () w') : (do s; pure .skip : Sem Next).run P w = .ok .skip w' := by simp [h]
theorem optX {x : Option Operand} (he : EnvR C H.next ρ w σ a) (hx : ∀ y, x = some y → okX y = true) (d m : Nat) (h : numOf d (x.map (ev σ)) = some m) : x.map a.eval = x.map (ev σ) := by
  cases x with
  | none => rfl
  | some y =>
    have hv := he.ev (hx y rfl)
    simp only [Option.map_some] at h ⊢
    cases hy : ev σ y <;> rw [hy] at h hv <;> simp [numOf] at h
    exact congrArg some hv.int
theorem slice_inv {n : Nat} {b : Option Addr} {m c : Nat} {x' : Value} (h : VR C n ρ w (.slice b m c) x') : ∃ b' c', x' = .slice b' m c' ∧ (b = none → b' = none) := by
  cases h with
  | atom hf => exact ⟨_, _, rfl, fun h => h⟩
  | slice => exact ⟨_, _, rfl, fun h => by cases h⟩
  | hollow => exact ⟨_, _, rfl, fun h => by cases h⟩
theorem slice_len {n : Nat} {b : Addr} {m c : Nat} {x' : Value} (h : VR C n ρ w (.slice (some b) m c) x') : c = m := by
  cases h with
  | atom hf => simp [flat1] at hf
  | slice => rfl
  | hollow => rfl
theorem op1_ok (hr : HR C ρ H w) (he : EnvR C H.next ρ w σ a) {o : Oper} (hx : ∀ x ∈ o.op.operands.toList, okX x = true) (h : op1 C.P σ o.op H = some (v, H')) : OpOk C ρ H w ((execOp a.eval o).run C.P w) v H' := by
  obtain ⟨dst, op, ty, pos, after, guard⟩ := o
  cases op with
  | move x =>
    have h9 := Option.map_eq_some_iff.1 (show (op0 C.P σ (.move x)).map (fun u => (u, H)) = some (v, H') from h)
    clear h
    obtain ⟨u, h, hu0⟩ := h9
    cases hu0
    simp only [op0] at h
    cases h
    exact OpOk.pure hr rfl (he.ev (hx x (by simp [Op.operands])))
  | assign x =>
    have h9 := Option.map_eq_some_iff.1 (show (op0 C.P σ (.assign x)).map (fun u => (u, H)) = some (v, H') from h)
    clear h
    obtain ⟨u, h, hu0⟩ := h9
    cases hu0
    simp only [op0] at h
    cases h
    exact OpOk.pure hr rfl (he.ev (hx x (by simp [Op.operands])))
  | pick c x y =>
    have h9 := Option.map_eq_some_iff.1 (show (op0 C.P σ (.pick c x y)).map (fun u => (u, H)) = some (v, H') from h)
    clear h
    obtain ⟨u, h, hu0⟩ := h9
    cases hu0
    simp only [op0] at h
    have hc := he.ev (hx c (by simp [Op.operands]))
    cases hv : ev σ c <;> rw [hv] at h hc <;> (try (cases h; done))
    rename_i t
    cases h
    have hcb := hc.bool
    refine OpOk.pure (v' := if t then a.eval x else a.eval y) hr ?_ ?_
    · simp only [execOp, hcb, asBool, Sem.run_bind, Sem.run_pure, Result.andThen_ok]
    · cases t with
      | true => exact he.ev (hx x (by simp [Op.operands]))
      | false => exact he.ev (hx y (by simp [Op.operands]))
  | alloc e =>
    simp only [op1] at h
    obtain ⟨z, hz, h2⟩ := Option.map_eq_some_iff.1 h
    cases h2
    have hv := VRL.cells (zeroVR (C := C) (n := H.next) (ρ := ρ) (w := w) hz)
    exact ⟨_, _, _, .inl (bind_value (by simp [Instr.alloc, run_zero hz, newVar, newRow])), hr.fresh_list hv, VR.new_ptr hr _⟩
  | box e x =>
    simp only [op1] at h
    have hv := VRL.cells (he.ev (hx x (by simp [Op.operands])))
    split at h
    · cases h
      exact ⟨_, _, _, .inl (bind_value (by simp [Instr.box, newVar, newRow])), hr.fresh_list hv, VR.new_ptr hr _⟩
    · cases h
  | build t ps =>
    have h9 := Option.map_eq_some_iff.1 (show (op0 C.P σ (.build t ps)).map (fun u => (u, H)) = some (v, H') from h)
    clear h
    obtain ⟨u, h, hu0⟩ := h9
    cases hu0
    simp only [op0] at h
    obtain ⟨z, hz, h1⟩ := Option.bind_eq_some_iff.1 h
    obtain ⟨pl, hpl, h2⟩ := Option.bind_eq_some_iff.1 h1
    obtain ⟨l, hl, h3⟩ := Option.map_eq_some_iff.1 h2
    cases h3
    have hp := parts_rel (ps := ps) he fun p hp => hx p.2 (by simp only [Op.operands]; simp; exact ⟨p.1, by simpa using hp⟩)
    obtain ⟨v', r1, r2⟩ := build_ok hz hpl hp hl
    exact OpOk.pure hr (bind_value r1) r2
  | buildSlice t n ps =>
    simp only [op1] at h
    obtain ⟨e, hel, h1⟩ := Option.bind_eq_some_iff.1 h
    obtain ⟨sz, hsz, h2⟩ := Option.bind_eq_some_iff.1 h1
    obtain ⟨z, hz, h3⟩ := Option.bind_eq_some_iff.1 h2
    split at h3
    · rename_i hc
      obtain ⟨l, hl, h4⟩ := Option.map_eq_some_iff.1 h3
      cases h4
      have hp := parts_rel (ps := ps) he fun p hp => hx p.2 (by simp only [Op.operands]; simp; exact ⟨p.1, by simpa using hp⟩)
      have hzs : z.cells.size = sz := by simpa using hc.2.symm
      have hrz := range_zero (n := n) (z := z.cells) hzs
      have hzv : VRL C H.next ρ w ((List.replicate n z.cells.toList).flatten) ((Array.range (n * sz)).map fun i => z.cells[i % z.cells.size]!).toList := by
        rw [hrz]
        refine ⟨rfl, fun j v hv => ⟨v, hv, ?_⟩⟩
        rw [flat_get hc.2.symm] at hv
        split at hv
        · obtain ⟨u, hu1, hu2⟩ := (VRL.cells (zeroVR (C := C) (n := H.next) (ρ := ρ) (w := w) hz)).2 _ v hv
          rw [hv] at hu1
          cases hu1
          exact hu2
        · cases hv
      obtain ⟨l', f1, f2⟩ := fill_ok hzv hp hl
      have hu := und_elem hel
      have hlen : l'.size = n * sz := by
        have hfl : ∀ (ps : List (Nat × Value)) (cells l : List Value), fillL (fun i => some (i * sz, sz)) cells ps = some l → l.length = cells.length := by
          intro ps
          induction ps with
          | nil => intro cells l h; cases h; rfl
          | cons p ps ih =>
            intro cells l h
            obtain ⟨i, x⟩ := p
            simp only [fillL] at h
            split at h
            · rw [ih _ _ h, wrList_length]
            · cases h
        have h9 := hfl _ _ _ hl
        rw [flat_length hc.2.symm] at h9
        have := f2.1
        simp only [Array.length_toList] at this
        omega
      have hrun : (Instr.buildSlice t n (ps.map fun p => (p.1, a.eval p.2))).run C.P w = .ok (.slice (some ⟨w.heap.size, 0, none⟩) n n) { w with heap := w.heap.push (.cells l' e (0, 0)) } := by
        have c1 : ¬ n * sz > 2 ^ 24 := by have : (2 : Nat) ^ 24 = 16777216 := by decide
                                          omega
        unfold Instr.buildSlice
        simp only [Sem.run_bind, run_underlying hu, Result.andThen_ok, run_sz hsz, c1, if_false]
        by_cases h0 : n * sz = 0
        · have e0 : (Array.map (fun i => z.cells[i % z.cells.size]!) (Array.range (n * sz))) = #[] := by rw [h0]; simp
          rw [e0] at f1
          simp only [h0, if_true, Sem.run_bind, Sem.run_pure, Result.andThen_ok]
          have e1 : (Array.map (fun x => (#[] : Array Value)[x % (#[] : Array Value).size]!) (Array.range 0)) = #[] := by simp
          simp only [e1, f1, Sem.run_bind, newRow, run_newObj, Result.andThen_ok, Sem.run_pure]
        · simp only [h0, if_false, Sem.run_bind, run_zero hz, Result.andThen_ok, Sem.run_pure, f1, newRow, run_newObj]
      refine ⟨_, _, _, .inl (bind_value hrun), ?_, VR.new_slice hr rfl (Nat.le_refl _) fun s hs => by rw [hsz] at hs; cases hs; rw [hlen]; exact Nat.le_refl _⟩
      have := hr.fresh_list (e := e) f2
      simpa using this
    · cases h3
  | load t x =>
    simp only [op1] at h
    obtain ⟨y, hy, h2⟩ := Option.map_eq_some_iff.1 h
    cases h2
    obtain ⟨v', r1, r2⟩ := loadAt_ok hr (he.ev (hx x (by simp [Op.operands]))) hy
    exact OpOk.pure hr (bind_value r1) r2
  | store t x y =>
    simp only [op1] at h
    obtain ⟨H2, hy, h2⟩ := Option.map_eq_some_iff.1 h
    cases h2
    obtain ⟨w', r1, r2⟩ := storeAt_ok hr (he.ev (hx x (by simp [Op.operands]))) (he.ev (hx y (by simp [Op.operands]))) hy
    exact ⟨ρ, w', undef, .inr ⟨bind_skip r1, rfl⟩, r2, VR.undef⟩
  | nilCheck x =>
    have h9 := Option.map_eq_some_iff.1 (show (op0 C.P σ (.nilCheck x)).map (fun u => (u, H)) = some (v, H') from h)
    clear h
    obtain ⟨u, h, hu0⟩ := h9
    cases hu0
    simp only [op0] at h
    have hv := he.ev (hx x (by simp [Op.operands]))
    cases hy : ev σ x <;> rw [hy] at h hv <;> (try (cases h; done))
    · rename_i ad
      cases ad with
      | none => cases h
      | some ad =>
        cases h
        cases hq : a.eval x <;> rw [hq] at hv <;> first | (cases hv; done) | skip
        rename_i ad'
        cases ad' with
        | none => cases hv
        | some ad' => exact OpOk.pure hr (by simp only [execOp, hq]; rfl) hv
    · rename_i fn b c
      cases fn <;> (try (cases h; done))
      · cases h
        cases hq : a.eval x <;> rw [hq] at hv <;> first | (cases hv; done) | skip
        rename_i fn' b' c'
        cases fn' <;> first | (cases hv; done) | skip
        exact OpOk.pure hr (by simp only [execOp, hq]; rfl) hv
      · rename_i k p g pt
        cases pt with
        | false => cases h
        | true =>
          cases h
          obtain ⟨b1, o1, hq, _⟩ := fpl_inv' hv
          rw [hq] at hv
          exact OpOk.pure hr (by simp only [execOp, hq]; rfl) hv
  | binOp op t x y yt =>
    have h9 := Option.map_eq_some_iff.1 (show (op0 C.P σ (.binOp op t x y yt)).map (fun u => (u, H)) = some (v, H') from h)
    clear h
    obtain ⟨u, h, hu0⟩ := h9
    cases hu0
    simp only [op0] at h
    have hr2 := h
    have hvx := he.ev (hx x (by simp [Op.operands]))
    have hvy := he.ev (hx y (by simp [Op.operands]))
    split at hr2
    · rename_i hn
      obtain ⟨b, hb, h3⟩ := Option.bind_eq_some_iff.1 hr2
      have hb' := isNil_ok hvy hb
      cases x <;> first | (simp [nilConst] at hn; done) | skip
      rename_i c
      have hs := equal_nil hn hb' w
      cases op <;> (try (cases h3; done)) <;> cases h3
      · exact OpOk.pure hr (bind_value (hs.1 _ _).1) (.of1 rfl)
      · exact OpOk.pure hr (bind_value (hs.2 _ _).1) (.of1 rfl)
    · split at hr2
      · rename_i hn
        obtain ⟨b, hb, h3⟩ := Option.bind_eq_some_iff.1 hr2
        have hb' := isNil_ok hvx hb
        cases y <;> first | (simp [nilConst] at hn; done) | skip
        rename_i c
        have hs := equal_nil hn hb' w
        cases op <;> (try (cases h3; done)) <;> cases h3
        · exact OpOk.pure hr (bind_value (hs.1 _ _).2) (.of1 rfl)
        · exact OpOk.pure hr (bind_value (hs.2 _ _).2) (.of1 rfl)
      · obtain ⟨v', r1, r2⟩ := bin_ok hvx hvy hr2
        exact OpOk.pure hr (bind_value r1) r2
  | unOp op t x =>
    have h9 := Option.map_eq_some_iff.1 (show (op0 C.P σ (.unOp op t x)).map (fun u => (u, H)) = some (v, H') from h)
    clear h
    obtain ⟨u, h, hu0⟩ := h9
    cases hu0
    simp only [op0] at h
    have hr2 := h
    obtain ⟨r1, r2⟩ := unOp_ok (C := C) (w := w) (he.ev (hx x (by simp [Op.operands]))) hr2
    exact OpOk.pure hr (bind_value r1) (.of1 r2)
  | makeInterface t x =>
    have h9 := Option.map_eq_some_iff.1 (show (op0 C.P σ (.makeInterface t x)).map (fun u => (u, H)) = some (v, H') from h)
    clear h
    obtain ⟨u, h, hu0⟩ := h9
    cases hu0
    simp only [op0] at h
    have hv := he.ev (hx x (by simp [Op.operands]))
    cases hu : C.P.underlying t with
    | none => rw [hu] at h; cases h
    | some d =>
      rw [hu] at h
      cases d <;> (try (cases h; done)) <;> cases h <;> exact OpOk.pure hr (bind_value (by simp [Instr.makeInterface, run_underlying hu])) (.iface hv)
  | makeFunc fn first caps =>
    have h9 := Option.map_eq_some_iff.1 (show (op0 C.P σ (.makeFunc fn first caps)).map (fun u => (u, H)) = some (v, H') from h)
    clear h
    obtain ⟨u, h, hu0⟩ := h9
    cases hu0
    simp only [op0] at h
    cases fn <;> (try (cases h; done))
    cases h
    have arr : ∀ (l : Array Operand), (∀ x ∈ l.toList, okX x = true) → (l.map (ev σ)).size = (l.map a.eval).size ∧ ∀ j, j < (l.map (ev σ)).size → VR C H.next ρ w ((l.map (ev σ)).getD j undef) ((l.map a.eval).getD j undef) := fun l hl => by
      refine ⟨by simp, fun j hj => ?_⟩
      have hj' : j < l.size := by simpa using hj
      rw [getD_get hj, getD_get (by simpa using hj')]
      simpa using he.ev (hl _ (by rw [← Array.getElem_toList hj']; exact List.getElem_mem _))
    have h1 := arr first fun x hm => hx x (by simp only [Op.operands, Array.toList_append]; exact List.mem_append_left _ hm)
    have h2 := arr caps fun x hm => hx x (by simp only [Op.operands, Array.toList_append]; exact List.mem_append_right _ hm)
    exact OpOk.pure hr (bind_value rfl) (.func h1.1 h1.2 h2.1 h2.2)
  | makeMap t r =>
    have hmk : (newObj (.map #[] 0)).run C.P w = .ok w.heap.size { w with heap := w.heap.push (.map #[] 0) } := rfl
    have hg : Good C ρ H w (up ρ H.next (w.heap.size, 0)) (H.new (.map [])) { w with heap := w.heap.push (.map #[] 0) } :=
      hr.fresh rfl ⟨rfl, rfl, rfl⟩ ⟨Nat.le_trans hr.fm hr.mn, by rw [up_same]; exact hr.hbase, #[], 0, by rw [up_same]; simp, rfl, fun j e he => by simp at he⟩
    have hv : VR C (H.new (.map [])).next (up ρ H.next (w.heap.size, 0)) { w with heap := w.heap.push (.map #[] 0) } (.map (some H.next)) (.map (some w.heap.size)) := by
      have := VR.map (C := C) (n := H.next + 1) (ρ := up ρ H.next (w.heap.size, 0)) (w := { w with heap := w.heap.push (.map #[] 0) }) (i := H.next) (Nat.lt_succ_self _)
      rw [up_same] at this
      exact this
    simp only [op1] at h
    cases r with
    | none =>
      cases h
      exact ⟨_, _, _, .inl (bind_value (by simp [Instr.makeMap, hmk])), hg, hv⟩
    | some x =>
      have hvx := he.ev (hx x (by simp [Op.operands]))
      simp only at h
      cases hy : ev σ x <;> rw [hy] at h hvx <;> (try (cases h; done))
      obtain ⟨ke, hke, h2⟩ := Option.map_eq_some_iff.1 h
      cases h2
      exact ⟨_, _, _, .inl (bind_value (by simp [Instr.makeMap, run_underlying (und_map hke), hvx.int, asInt, asIntOf, hmk])), hg, hv⟩
  | makeSlice t l c =>
    simp only [op1] at h
    have hvl := he.ev (hx l (by simp [Op.operands]))
    have hvc := he.ev (hx c (by simp [Op.operands]))
    split at h
    · rename_i n m hl hc
      rw [hl] at hvl
      rw [hc] at hvc
      obtain ⟨e, hel, h1⟩ := Option.bind_eq_some_iff.1 h
      obtain ⟨by_, hby, h2⟩ := Option.bind_eq_some_iff.1 h1
      obtain ⟨sz, hsz, h3⟩ := Option.bind_eq_some_iff.1 h2
      obtain ⟨z, hz, h4⟩ := Option.bind_eq_some_iff.1 h3
      split at h4
      · rename_i hq
        cases h4
        obtain ⟨q0, q1, q2, q3, q4⟩ := hq
        subst q0
        have := makeSlice_ok hr (t := t) hel hby hsz hz q1 q2 q3 q4
        refine OpV.op (s := Instr.makeSlice t (a.eval l) (a.eval c)) ?_ fun x w' hxx => bind_value hxx
        rw [hvc.int, hvl.int]
        exact this
      · cases h4
    · cases h
  | slice t x lo hi mx =>
    simp only [op1] at h
    obtain ⟨r, hr2, h2⟩ := Option.map_eq_some_iff.1 h
    cases h2
    obtain ⟨v', r1, r2⟩ := slice_ok (lo' := lo.map a.eval) (hi' := hi.map a.eval) (mx' := mx.map a.eval) hr (he.ev (hx x (by simp [Op.operands])))
      (fun d m hm => optX he (fun y hy => hx y (by subst hy; simp [Op.operands])) d m hm) (fun d m hm => optX he (fun y hy => hx y (by subst hy; simp [Op.operands])) d m hm)
      (fun d m hm => optX he (fun y hy => hx y (by subst hy; simp [Op.operands])) d m hm) (fun hn => by cases mx with | none => rfl | some _ => cases hn) hr2
    exact OpOk.pure hr (bind_value r1) r2
  | fieldAddr s x f =>
    have h9 := Option.map_eq_some_iff.1 (show (op0 C.P σ (.fieldAddr s x f)).map (fun u => (u, H)) = some (v, H') from h)
    clear h
    obtain ⟨u, h, hu0⟩ := h9
    cases hu0
    simp only [op0] at h
    have hv := he.ev (hx x (by simp [Op.operands]))
    split at h
    · rename_i i off hy
      rw [hy] at hv
      obtain ⟨q, hq, h1⟩ := Option.bind_eq_some_iff.1 h
      obtain ⟨z, hz, h2⟩ := Option.bind_eq_some_iff.1 h1
      split at h2
      · cases h2
      · rename_i h0
        cases h2
        obtain ⟨v', r1, r2⟩ := fieldAddr_ok hv hq hz h0
        exact OpOk.pure hr (bind_value r1) r2
    · rename_i k p g b vs hy
      rw [hy] at hv
      obtain ⟨q, hq, h1⟩ := Option.bind_eq_some_iff.1 h
      obtain ⟨z, hz, h2⟩ := Option.bind_eq_some_iff.1 h1
      split at h2
      · cases h2
      · rename_i h0
        cases h2
        obtain ⟨v', r1, r2⟩ := fieldAddr_frz hv hq hz h0
        exact OpOk.pure hr (bind_value r1) r2
    · cases h
  | field t x f =>
    have h9 := Option.map_eq_some_iff.1 (show (op0 C.P σ (.field t x f)).map (fun u => (u, H)) = some (v, H') from h)
    clear h
    obtain ⟨u, h, hu0⟩ := h9
    cases hu0
    simp only [op0] at h
    have hv := he.ev (hx x (by simp [Op.operands]))
    split at h
    · rename_i cs hy
      rw [hy] at hv
      obtain ⟨q, hq, h1⟩ := Option.bind_eq_some_iff.1 h
      obtain ⟨v', r1, r2⟩ := field_ok hv hq h1
      exact OpOk.pure hr (bind_value r1) r2
    · cases h
  | indexAddr t x j =>
    have h9 := Option.map_eq_some_iff.1 (show (op0 C.P σ (.indexAddr t x j)).map (fun u => (u, H)) = some (v, H') from h)
    clear h
    obtain ⟨u, h, hu0⟩ := h9
    cases hu0
    simp only [op0] at h
    have hv := he.ev (hx x (by simp [Op.operands]))
    have hj := he.ev (hx j (by simp [Op.operands]))
    split at h
    · rename_i i off k q hy hz
      rw [hy] at hv
      rw [hz] at hj
      obtain ⟨ne, hne, h1⟩ := Option.bind_eq_some_iff.1 h
      obtain ⟨sz, hsz, h2⟩ := Option.bind_eq_some_iff.1 h1
      split at h2
      · rename_i hc
        cases h2
        obtain ⟨v', r1, r2⟩ := indexAddr_arr (k := k) hv hne hsz hc.1 hc.2
        rw [← hj.int] at r1
        exact OpOk.pure hr (bind_value r1) r2
      · cases h2
    · rename_i i off n cp k q hy hz
      rw [hy] at hv
      rw [hz] at hj
      obtain ⟨e, hel, h1⟩ := Option.bind_eq_some_iff.1 h
      obtain ⟨sz, hsz, h2⟩ := Option.bind_eq_some_iff.1 h1
      split at h2
      · rename_i hc
        cases h2
        have hcp : cp = n := slice_len hv
        subst hcp
        obtain ⟨v', r1, r2⟩ := indexAddr_slc (k := k) hv hel hsz hc.1 hc.2
        rw [← hj.int] at r1
        exact OpOk.pure hr (bind_value r1) r2
      · cases h2
    · rename_i off p g b vs k q hy hz
      rw [hy] at hv
      rw [hz] at hj
      obtain ⟨ne, hne, h1⟩ := Option.bind_eq_some_iff.1 h
      obtain ⟨sz, hsz, h2⟩ := Option.bind_eq_some_iff.1 h1
      split at h2
      · rename_i hc
        cases h2
        obtain ⟨v', r1, r2⟩ := indexAddr_fpl (kd := k) hv hne hsz hc.1 hc.2
        rw [← hj.int] at r1
        exact OpOk.pure hr (bind_value r1) r2
      · cases h2
    · rename_i n p g b vs k q hy hz
      rw [hy] at hv
      rw [hz] at hj
      obtain ⟨e, hel, h1⟩ := Option.bind_eq_some_iff.1 h
      obtain ⟨sz, hsz, h2⟩ := Option.bind_eq_some_iff.1 h1
      split at h2
      · rename_i hc
        cases h2
        obtain ⟨v', r1, r2⟩ := indexAddr_frz (kd := k) hv hel hsz hc.1 hc.2.1
        rw [← hj.int] at r1
        exact OpOk.pure hr (bind_value r1) r2
      · cases h2
    · cases h
  | index t x j =>
    have h9 := Option.map_eq_some_iff.1 (show (op0 C.P σ (.index t x j)).map (fun u => (u, H)) = some (v, H') from h)
    clear h
    obtain ⟨u, h, hu0⟩ := h9
    cases hu0
    simp only [op0] at h
    have hv := he.ev (hx x (by simp [Op.operands]))
    have hj := he.ev (hx j (by simp [Op.operands]))
    split at h
    · rename_i s k q hu hy hz
      rw [hy] at hv
      rw [hz] at hj
      split at h
      · rename_i hc
        cases h
        have r1 := index_str (C := C) (w := w) (k := k) hu hc.1 hc.2
        rw [← hj.int, ← hv.string] at r1
        exact OpOk.pure hr (bind_value r1) (.of1 rfl)
      · cases h
    · rename_i cs k q hy hz
      rw [hy] at hv
      rw [hz] at hj
      obtain ⟨ne, hne, h1⟩ := Option.bind_eq_some_iff.1 h
      obtain ⟨sz, hsz, h2⟩ := Option.bind_eq_some_iff.1 h1
      split at h2
      · rename_i hc
        obtain ⟨v', r1, r2⟩ := index_agg (k := k) hv hne hsz hc.1 hc.2 h2
        rw [← hj.int] at r1
        exact OpOk.pure hr (bind_value r1) r2
      · cases h2
    · cases h
  | convert s d x =>
    have hv := he.ev (hx x (by simp [Op.operands]))
    simp only [op1] at h
    split at h
    · rename_i d1 k' k n hs hd hy
      rw [hy] at hv
      cases h
      refine OpOk.pure hr (bind_value (x := .int k' (k'.wrap n)) ?_) (.of1 rfl)
      simp only [convert, Sem.run_bind, run_underlying hs, run_underlying hd, Result.andThen_ok, hv.int]
      cases d1 <;> rfl
    · rename_i d1 st hs hd hy
      rw [hy] at hv
      cases h
      refine OpOk.pure hr (bind_value (x := .string st) ?_) (.of1 rfl)
      simp only [convert, Sem.run_bind, run_underlying hs, run_underlying hd, Result.andThen_ok, hv.string]
      cases d1 <;> rfl
    · rename_i d1 e st hs hd hy
      rw [hy] at hv
      split at h
      · rename_i hk
        cases h
        have hke := und_kind hk.1
        have := toBytes_ok hr (e := e) (s := st) hke fun sz hsz => by rw [hk.2] at hsz; cases hsz; rfl
        refine OpV.op (s := Conv.stringToBytes e st) this fun x w' hxx => bind_value ?_
        simp only [convert, Sem.run_bind, run_underlying hs, run_underlying hd, Result.andThen_ok, hv.string]
        cases d1 <;> simp [run_underlying hke, hxx]
      · cases h
    · rename_i pt i hs hd hy
      rw [hy] at hv
      split at h
      · rename_i z e v0 vs hz hg
        cases h
        obtain ⟨hq, hin⟩ := ptr_inv hv
        obtain ⟨_, c, e', fz, hc, hcv, _⟩ := hr.ob i _ hg
        obtain ⟨u0, hu0, _⟩ := hcv 0 v0 rfl
        have hlt : (ρ i).2 < c.size := (Array.getElem?_eq_some_iff.1 hu0).1
        have hsh : w.shape? (ρ i).1 = some (e', c.size) := by simp [World.shape?, hc]
        have hrun : (Conv.unsafePointer s d (.pointer (some ⟨(ρ i).1, (ρ i).2, none⟩))).run C.P w = .ok (.pointer (some ⟨(ρ i).1, (ρ i).2, none⟩)) w := by
          have hnc : ¬ c.size ≤ (ρ i).2 := by omega
          simp [Conv.unsafePointer, run_underlying hs, run_underlying hd, Conv.seenAt, viewAt, hsh, cellsIn, run_sz hz, hnc]
        refine OpOk.pure hr (bind_value (x := .pointer (some ⟨(ρ i).1, (ρ i).2, none⟩)) ?_) (by rw [hq] at hv; exact hv)
        rw [hq]
        simp only [convert, Sem.run_bind, run_underlying hs, run_underlying hd, Result.andThen_ok]
        exact hrun
      · cases h
    · rename_i u i hs hd hy
      rw [hy] at hv
      split at h
      · rename_i z e vs hz hg
        split at h
        · rename_i hcd
          cases h
          obtain ⟨hmk, hlo, hla⟩ := hcd
          obtain ⟨hq, hin⟩ := ptr_inv hv
          obtain ⟨_, c, e', fz, hc, hcv, hf⟩ := hr.ob i _ hg
          obtain ⟨he', _, _, hl⟩ := hf (Nat.le_trans hr.fm hmk)
          obtain ⟨h0, hcz⟩ := hl hlo
          subst he'
          have hsh : w.shape? (ρ i).1 = some (e', c.size) := by simp [World.shape?, hc]
          rw [h0] at hq
          have hrun : (Conv.unsafePointer s d (.pointer (some ⟨(ρ i).1, 0, none⟩))).run C.P w = .ok (.pointer (some ⟨(ρ i).1, 0, none⟩)) w := by
            have hva : (variablesAt ⟨(ρ i).1, 0, none⟩ u 1).run C.P w = .ok true w := by
              rw [← hcz] at hla
              simp [variablesAt, hsh, hla]
            have hsa : (Conv.seenAt ⟨(ρ i).1, 0, none⟩).run C.P w = .ok ⟨(ρ i).1, 0, none⟩ w := by simp [Conv.seenAt, viewAt, hsh]
            unfold Conv.unsafePointer
            simp only [Sem.run_bind, run_underlying hs, run_underlying hd, Result.andThen_ok, hsa]
            simp [run_sz hz, hva]
          refine OpOk.pure hr (bind_value (x := .pointer (some ⟨(ρ i).1, 0, none⟩)) ?_) (by rw [hq] at hv; exact hv)
          rw [hq]
          simp only [convert, Sem.run_bind, run_underlying hs, run_underlying hd, Result.andThen_ok]
          exact hrun
        · cases h
      · cases h
    · rename_i e n cp hs hd hy
      rw [hy] at hv
      split at h
      · rename_i hk
        cases h
        have hke := und_kind hk
        obtain ⟨b, c', h0, hb⟩ := slice_inv hv
        cases hb rfl
        refine OpOk.pure hr (bind_value (x := .string .empty) ?_) (.of1 rfl)
        simp [convert, run_underlying hs, run_underlying hd, run_underlying hke, h0, Conv.bytesToString]
      · cases h
    · rename_i e i off n cp hs hd hy
      rw [hy] at hv
      split at h
      · rename_i hk
        have hke := und_kind hk
        split at h
        · rename_i e' vs hg
          obtain ⟨l, hl, h2⟩ := Option.map_eq_some_iff.1 h
          cases h2
          obtain ⟨l0, hl0, hs0⟩ := Option.bind_eq_some_iff.1 hl
          have hcp := slice_inv hv
          obtain ⟨b, c', h0, _⟩ := hcp
          have r1 := toStr_ok hr hv hg hl0 hs0
          refine OpOk.pure hr (bind_value (x := .string ⟨l.toArray⟩) ?_) (.of1 rfl)
          rw [h0] at r1 ⊢
          simpa [convert, run_underlying hs, run_underlying hd, run_underlying hke] using r1
        · cases h
      · cases h
    · rename_i e n p f b vs hs hd hy
      rw [hy] at hv
      split at h
      · rename_i hk
        have hke := und_kind hk.1
        obtain ⟨l, hl, h2⟩ := Option.map_eq_some_iff.1 h
        cases h2
        have r1 := toStr_frz hv hk.2 hl
        obtain ⟨a1, c1, h0, _⟩ := frz_inv hv
        refine OpOk.pure hr (bind_value (x := .string ⟨l.toArray⟩) ?_) (.of1 rfl)
        rw [h0] at r1 ⊢
        simpa [convert, run_underlying hs, run_underlying hd, run_underlying hke] using r1
      · cases h
    · cases h
  | lookup t m k ok =>
    simp only [op1] at h
    obtain ⟨ke, hke, h1⟩ := Option.bind_eq_some_iff.1 h
    obtain ⟨es, hes, h2⟩ := Option.bind_eq_some_iff.1 h1
    split at h2
    · rename_i hok
      obtain ⟨r, hfr, h3⟩ := Option.bind_eq_some_iff.1 h2
      obtain ⟨z, hz, h4⟩ := Option.map_eq_some_iff.1 h3
      cases h4
      obtain ⟨v', r1, r2⟩ := lookup_ok (ok := ok) hr (he.ev (hx m (by simp [Op.operands]))) (he.ev (hx k (by simp [Op.operands]))) hke hes hok hfr hz
      exact OpOk.pure hr (bind_value r1) r2
    · cases h2
  | mapUpdate t m k x =>
    simp only [op1] at h
    obtain ⟨ke, hke, h1⟩ := Option.bind_eq_some_iff.1 h
    split at h1
    · rename_i i hy
      have hvm := he.ev (hx m (by simp [Op.operands]))
      rw [hy] at hvm
      split at h1
      · rename_i hc
        split at h1
        · rename_i es hg
          obtain ⟨r, hfr, h2⟩ := Option.bind_eq_some_iff.1 h1
          split at h2
          · rename_i hsb
            cases h2
            obtain ⟨w', r1, r2⟩ := mapUpdate_ok hr hvm (he.ev (hx k (by simp [Op.operands]))) (he.ev (hx x (by simp [Op.operands]))) hke hc.1 hc.2 hg hfr hsb
            exact ⟨ρ, w', undef, .inr ⟨bind_skip r1, rfl⟩, r2, VR.undef⟩
          · cases h2
        · cases h1
      · cases h1
    · cases h1
  | insert t m k x =>
    simp only [op1] at h
    obtain ⟨ke, hke, h1⟩ := Option.bind_eq_some_iff.1 h
    split at h1
    · rename_i i hy
      have hvm := he.ev (hx m (by simp [Op.operands]))
      rw [hy] at hvm
      split at h1
      · rename_i hc
        split at h1
        · rename_i es hg
          obtain ⟨r, hfr, h2⟩ := Option.bind_eq_some_iff.1 h1
          split at h2
          · rename_i hsb
            cases h2
            obtain ⟨w', r1, r2⟩ := mapUpdate_ok hr hvm (he.ev (hx k (by simp [Op.operands]))) (he.ev (hx x (by simp [Op.operands]))) hke hc.1 hc.2 hg hfr hsb
            exact ⟨ρ, w', undef, .inr ⟨bind_skip r1, rfl⟩, r2, VR.undef⟩
          · cases h2
        · cases h1
      · cases h1
    · cases h1
  | extract t j =>
    have h9 := Option.map_eq_some_iff.1 (show (op0 C.P σ (.extract t j)).map (fun u => (u, H)) = some (v, H') from h)
    clear h
    obtain ⟨u, h, hu0⟩ := h9
    cases hu0
    simp only [op0] at h
    have hv := he.ev (hx t (by simp [Op.operands]))
    split at h
    · rename_i vs hy
      rw [hy] at hv
      obtain ⟨vs', he2, hl⟩ := hv.tuple_list
      obtain ⟨v', r1, r2⟩ := hl.2 _ _ h
      exact OpOk.pure hr (bind_value (by
        have r3 : vs'[j]? = some v' := by simpa using r1
        simp [Instr.extract, he2, r3])) r2
    · cases h
  | _ => simp [op1, op0] at h
-- ---- the language's own functions
theorem foldInts_max {P : Program} {k : IntKind} {w : World} : ∀ {l : List Value} {x : Int} {r : Value}, foldInts (fun x y => if y > x then y else x) k x l = some r → (l.foldlM Builtin.max2 (.int k x)).run P w = .ok r w ∧ flat1 r = true
  | [], x, r, h => by cases h; exact ⟨rfl, rfl⟩
  | y :: l, x, r, h => by
    cases y <;> first | (cases h; done) | skip
    rename_i k' b
    simp only [foldInts] at h
    split at h
    · rename_i hk
      subst hk
      obtain ⟨h1, h2⟩ := foldInts_max (P := P) (w := w) h
      exact ⟨by rw [List.foldlM_cons, Sem.run_bind]; simp only [Builtin.max2, Sem.run_pure, Result.andThen_ok]; exact h1, h2⟩
    · cases h
theorem foldInts_min {P : Program} {k : IntKind} {w : World} : ∀ {l : List Value} {x : Int} {r : Value}, foldInts (fun x y => if y < x then y else x) k x l = some r → (l.foldlM Builtin.min2 (.int k x)).run P w = .ok r w ∧ flat1 r = true
  | [], x, r, h => by cases h; exact ⟨rfl, rfl⟩
  | y :: l, x, r, h => by
    cases y <;> first | (cases h; done) | skip
    rename_i k' b
    simp only [foldInts] at h
    split at h
    · rename_i hk
      subst hk
      obtain ⟨h1, h2⟩ := foldInts_min (P := P) (w := w) h
      exact ⟨by rw [List.foldlM_cons, Sem.run_bind]; simp only [Builtin.min2, Sem.run_pure, Result.andThen_ok]; exact h1, h2⟩
    · cases h
theorem foldInts_flat {f : Int → Int → Int} {k : IntKind} : ∀ {l : List Value} {x : Int} {r : Value}, foldInts f k x l = some r → l.all flat1 = true
  | [], x, r, h => rfl
  | y :: l, x, r, h => by
    cases y <;> first | (cases h; done) | skip
    simp only [foldInts] at h
    split at h
    · simpa [flat1] using foldInts_flat h
    · cases h
theorem VRL.flat {n : Nat} {l l' : List Value} (h : VRL C n ρ w l l') (hf : l.all flat1 = true) : l' = l := by
  apply List.ext_getElem?
  intro j
  by_cases hj : j < l.length
  · obtain ⟨u, hu, hv⟩ := h.2 j l[j] (List.getElem?_eq_getElem hj)
    rw [hu, hv.eq1 (List.all_eq_true.1 hf _ (List.getElem_mem hj)), List.getElem?_eq_getElem hj]
  · rw [List.getElem?_eq_none (by rw [← h.1]; omega), List.getElem?_eq_none (by omega)]
theorem liesAt_off {P : Program} {e : TypeId} (hc : P.cellsOf e = 1) (count off n : Nat) (hn : off + n ≤ count) : liesAt P P.depth e count off e n = true := by
  have hd : P.depth = (2 * (P.types.size + Made.depth) + 1) + 1 := rfl
  rw [hd]
  simp only [liesAt, Bool.or_eq_true]
  left
  rw [hd]
  simp [rowAt, hc, hn, sameLayout, Nat.mod_one]
theorem run_loadInts {P : Program} {w : World} : ∀ (l : List Int) (a : Addr) (acc : ByteArray), (∀ j x, l[j]? = some x → w.cell? (a.add j) = some (.int .u8 x)) →
    (loadBytes a acc l.length).run P w = .ok ⟨acc.data ++ (l.map fun n => UInt8.ofNat n.toNat).toArray⟩ w
  | [], a, acc, _ => by simp [loadBytes]
  | x :: l, a, acc, h => by
    have h0 : w.cell? a = some (.int .u8 x) := by
      have := h 0 x rfl
      simpa [Addr.add] using this
    have ih := run_loadInts (P := P) l (a.add 1) (acc.push (UInt8.ofNat x.toNat)) (fun j y hy => by
      have := h (j + 1) y (by simpa using hy)
      have e : (a.add 1).add j = a.add (j + 1) := by
        unfold Addr.add
        by_cases hj : j = 0
        · subst hj; simp
        · simp [hj]; omega
      rw [e]; exact this)
    have hx : x.toNat.toUInt8 = UInt8.ofNat x.toNat := rfl
    simp only [List.length_cons, loadBytes, Sem.run_bind, run_load, h0, Result.andThen, hx]
    rw [ih]
    congr 1
    apply ByteArray.ext
    simp [ByteArray.push]
theorem unsafeString_run {P : Program} {w : World} {ts : Array TypeId} {pt ty e : TypeId} {g o cells : Nat} {l : List Int} (h2 : ts.size = 2) (ht : ts[0]? = some pt) (hp : P.underlying pt = some (.pointer e)) (hc : P.cellsOf e = 1) (hsh : w.shape? g = some (e, cells)) (h0 : 0 < l.length) (hn : o + l.length ≤ cells) (h63 : l.length ≤ 9223372036854775807)
    (hcell : ∀ j x, l[j]? = some x → w.cell? ((⟨g, o, none⟩ : Addr).add j) = some (.int .u8 x)) :
    (Builtin.unsafeString_ ts ty #[.pointer (some ⟨g, o, none⟩), .int .i64 l.length]).run P w = .ok (.string ⟨(l.map fun n => UInt8.ofNat n.toNat).toArray⟩) (w.freeze ⟨g, o, none⟩ l.length) := by
  obtain ⟨it, rfl⟩ : ∃ it, ts = #[pt, it] := by
    obtain ⟨l⟩ := ts
    match l, h2, ht with
    | [a, b], _, ht => simp at ht; subst ht; exact ⟨b, rfl⟩
  have hl : l.length ≠ 0 := by omega
  have hl' : l ≠ [] := by intro e; subst e; simp at h0
  have hlb := run_loadInts (P := P) l ⟨g, o, none⟩ .empty hcell
  have hlies := liesAt_off (P := P) hc (cells / P.cellsOf e) o l.length (by rw [hc, Nat.div_one]; exact hn)
  have h63' : ¬ (9223372036854775807 : Int) < (l.length : Int) := by omega
  have hdef : Builtin.unsafeString_ #[pt, it] ty #[.pointer (some ⟨g, o, none⟩), .int .i64 l.length] =
      (do
        let n ← asInt (.int .i64 l.length)
        if n < 0 then runtimePanic (.error "unsafe.String: len out of range")
        if n > IntKind.i64.max then unsupported (.unsafePointer "String: a length above the largest int")
        if n = 0 then pure (.string .empty)
        else if ← variablesAt ⟨g, o, none⟩ (← Go.elemOf pt) n.toNat then do
          let s ← loadBytes ⟨g, o, none⟩ .empty n.toNat
          Go.freeze ⟨g, o, none⟩ n.toNat
          pure (.string s)
        else unsupported (.unsafePointer "String: not so many bytes at ptr")) := rfl
  rw [hdef]
  have hmax : IntKind.i64.max = 9223372036854775807 := rfl
  have hneg : ¬ (l.length : Int) < 0 := by omega
  simp [asInt, asIntOf, hmax, h63', hneg, hl', variablesAt, hsh, Go.elemOf, run_underlying hp, hlies, hlb]
/-- One whose block turns, and is let go. -/
theorem HR.gone (hr : HR C ρ H w) {i : Nat} {o : Ob} {w' : World} (hm : H.mark ≤ i) (hg : H.get i = some o) (hb : ∀ k, k ≠ (ρ i).1 → w'.heap[k]? = w.heap[k]?) (hz : w'.heap.size = w.heap.size)
    (hc : Calm w w') (hk : Keeps w w') (hbase : C.base ≤ (ρ i).1) : Good C ρ H w ρ (H.put i none) w' := by
  have hcalm : ∀ b, b < w.heap.size → H.still ρ b → w'.heap[b]? = w.heap[b]? := fun b _ hs => hb b (Ne.symm (hs i hm (by rw [hg]; simp)))
  have hmo : More H.next ρ w H.next ρ w' := hr.more (Nat.le_refl _) (fun _ _ => rfl) hk rfl rfl hcalm
  have hi : C.fence ≤ i := Nat.le_trans hr.fm hm
  have hlive : ∀ j, (H.put i none).get j ≠ none → j ≠ i ∧ H.get j ≠ none := fun j hj => by
    by_cases e : j = i
    · subst e; simp [Hp.put] at hj
    · simp only [Hp.put, if_neg e] at hj; exact ⟨e, hj⟩
  refine ⟨hmo, ⟨hr.below.trans ⟨hc.os, hc.tape, hc.output, by omega, fun k hk' => hb k (by omega)⟩, by rw [hz]; exact hr.hbase, hr.fm, hr.mn, fun j x hj => ?_, fun j k hjk hfj hgj hgk => hr.apart j k hjk hfj (hlive j hgj).2 (hlive k hgk).2, fun b hb' => ⟨by rw [hz]; exact (hr.ice b hb').1, fun j hj hgj => (hr.ice b hb').2 j hj (hlive j hgj).2⟩, fun b hb' => ⟨by rw [hz]; exact (hr.snow b hb').1, fun j hj hgj => (hr.snow b hb').2 j hj (hlive j hgj).2⟩⟩, rfl, fun j hj => ?_, by omega, hcalm, rfl, fun j hj hgj => .inl ⟨j, hj, (hlive j hgj).2, rfl⟩⟩
  · obtain ⟨e, hj'⟩ := hlive j (by rw [hj]; simp)
    have hx : H.get j = some x := by simp only [Hp.put, if_neg e] at hj; exact hj
    obtain ⟨h1, h2⟩ := hr.ob j x hx
    exact ⟨h1, h2.same hmo h1 (hb _ (Ne.symm (hr.apart i j (Ne.symm e) hi (by rw [hg]; simp) (by rw [hx]; simp))))⟩
  · simp only [Hp.put]; rw [if_neg (by omega)]
theorem freeze_heap {w : World} {b o n : Nat} {c : Array Value} {e : TypeId} {fz : Nat × Nat} (h : w.heap[b]? = some (.cells c e fz)) : (∀ k, k ≠ b → (w.freeze ⟨b, o, none⟩ n).heap[k]? = w.heap[k]?) ∧ (w.freeze ⟨b, o, none⟩ n).heap.size = w.heap.size ∧ Calm w (w.freeze ⟨b, o, none⟩ n) ∧ Keeps w (w.freeze ⟨b, o, none⟩ n) := by
  unfold World.freeze
  split
  · exact ⟨fun _ _ => rfl, rfl, Calm.refl w, Keeps.refl w⟩
  · have h1 : ∀ k, k ≠ b → (w.heap.modify b fun | .cells c elem (lo, hi) => .cells c elem (if lo == hi then (o, o + n) else (min lo o, max hi (o + n))) | o => o)[k]? = w.heap[k]? := fun k hk => by
      rw [Array.getElem?_modify, if_neg (Ne.symm hk)]
    refine ⟨h1, by simp, ⟨rfl, rfl, rfl⟩, ?_⟩
    obtain ⟨lo, hi⟩ := fz
    exact Keeps.block h1 h (c' := c) (fz' := if lo == hi then (o, o + n) else (min lo o, max hi (o + n))) (by rw [Array.getElem?_modify, if_pos rfl, h]; rfl) rfl
theorem sub_cells' {n o : Nat} {vs l : List Value} {c : Array Value} {off k : Nat} (hv : ∀ (j : Nat) (v : Value), vs[j]? = some v → ∃ v' : Value, c[o + j]? = some v' ∧ VR C n ρ w v v') (hl : rdCells vs off k = some l) :
    VRL C n ρ w l ((c.toList.drop (o + off)).take k) ∧ l.length = k ∧ (0 < k → o + off + k ≤ c.size) := by
  unfold rdCells at hl
  split at hl
  · rename_i hfit
    cases hl
    have hin : ∀ j, j < vs.length → o + j < c.size := fun j hj => by
      obtain ⟨v', h2, _⟩ := hv j _ (List.getElem?_eq_getElem hj)
      exact (Array.getElem?_eq_some_iff.1 h2).1
    have hk : 0 < k → o + off + k ≤ c.size := fun h0 => by have := hin (off + k - 1) (by omega); omega
    refine ⟨⟨?_, fun j v hj => ?_⟩, by simp; omega, hk⟩
    · simp only [List.length_take, List.length_drop, Array.length_toList]
      by_cases h0 : k = 0
      · omega
      · have := hk (by omega); omega
    · rw [List.getElem?_take] at hj ⊢
      split at hj
      · rename_i hjk
        rw [List.getElem?_drop] at hj
        obtain ⟨v', h2, h3⟩ := hv _ v hj
        exact ⟨v', by rw [if_pos hjk, List.getElem?_drop, Array.getElem?_toList, ← h2]; congr 1; omega, h3⟩
      · cases hj
  · cases hl
theorem builtin1_ok (hr : HR C ρ H w) {b : Builtin} {ts : Array TypeId} {ty : TypeId} {cs : Array Bool} {l : List Value} {args : Array Value} (hl : VRL C H.next ρ w l args.toList) (h : builtin1 C.P b ts l H = some (v, H')) :
    OpOk C ρ H w ((Go.builtin b ts ty cs args).run C.P w) v H' := by
  obtain ⟨args⟩ := args
  simp only at hl
  unfold builtin1 at h
  split at h
  · rename_i x
    obtain ⟨x', r, rfl, hx, hr2⟩ := hl.uncons
    have : r = [] := List.length_eq_zero_iff.1 (by rw [← hr2.1]; rfl)
    subst this
    obtain ⟨d, hd, h1⟩ := Option.bind_eq_some_iff.1 h
    obtain ⟨t, ht, hd⟩ := Option.bind_eq_some_iff.1 hd
    obtain ⟨y, hy, h2⟩ := Option.map_eq_some_iff.1 h1
    cases h2
    have e1 : (#[x'] : Array Value)[0]? = some x' := rfl
    split at hy
    · cases hy
      have := hx.string
      subst this
      exact OpOk.pure hr (bind_value (by simp [Builtin.len_, ht, run_underlying hd, goInt])) (.of1 rfl)
    · cases hy
      obtain ⟨b', c', rfl, _⟩ := slice_inv hx
      exact OpOk.pure hr (bind_value (by simp [Builtin.len_, ht, run_underlying hd, goInt])) (.of1 rfl)
    · cases hy
      obtain ⟨b', c', rfl, _⟩ := frz_inv hx
      exact OpOk.pure hr (bind_value (by simp [Builtin.len_, ht, run_underlying hd, goInt])) (.of1 rfl)
    · rename_i m
      obtain ⟨es, hes, h3⟩ := Option.map_eq_some_iff.1 hy
      cases h3
      rcases mapEs_ok hr hx hes with ⟨h0, rfl, rfl⟩ | ⟨i, en, ck, h0, rfl, hg, hb, hs, _⟩
      · exact OpOk.pure hr (bind_value (by simp [Builtin.len_, ht, run_underlying hd, goInt])) (.of1 rfl)
      · exact OpOk.pure hr (bind_value (by simp [Builtin.len_, ht, run_underlying hd, run_getObj hb, goInt, hs])) (.of1 rfl)
    · cases hy
      exact OpOk.pure hr (bind_value (by simp [Builtin.len_, ht, run_underlying hd, goInt])) (.of1 rfl)
    · cases hy
  · rename_i k x l
    obtain ⟨y, hy, h2⟩ := Option.map_eq_some_iff.1 h
    cases h2
    obtain ⟨x', r, rfl, hx, hr2⟩ := hl.uncons
    have := hx.int
    subst this
    have := hr2.flat (foldInts_flat hy)
    subst this
    obtain ⟨r1, r2⟩ := foldInts_min (P := C.P) (w := w) hy
    exact OpOk.pure hr (bind_value (by simpa [Builtin.min_] using r1)) (.of1 r2)
  · rename_i k x l
    obtain ⟨y, hy, h2⟩ := Option.map_eq_some_iff.1 h
    cases h2
    obtain ⟨x', r, rfl, hx, hr2⟩ := hl.uncons
    have := hx.int
    subst this
    have := hr2.flat (foldInts_flat hy)
    subst this
    obtain ⟨r1, r2⟩ := foldInts_max (P := C.P) (w := w) hy
    exact OpOk.pure hr (bind_value (by simpa [Builtin.max_] using r1)) (.of1 r2)
  · rename_i s x
    obtain ⟨t, ht, h1⟩ := Option.bind_eq_some_iff.1 h
    obtain ⟨s', r, rfl, hs, hr2⟩ := hl.uncons
    obtain ⟨x', r, rfl, hx, hr3⟩ := hr2.uncons
    have : r = [] := List.length_eq_zero_iff.1 (by rw [← hr3.1]; rfl)
    subst this
    exact OpV.op (append_ok hr (ty := ty) hs hx ht h1) fun x w' hxx => bind_value hxx
  · rename_i i off n c x
    obtain ⟨t, ht, h1⟩ := Option.bind_eq_some_iff.1 h
    obtain ⟨e, he, h2⟩ := Option.bind_eq_some_iff.1 h1
    obtain ⟨sz, hsz, h3⟩ := Option.bind_eq_some_iff.1 h2
    obtain ⟨m, hm, h4⟩ := Option.bind_eq_some_iff.1 h3
    obtain ⟨cs', hcs, h5⟩ := Option.bind_eq_some_iff.1 h4
    obtain ⟨s', r, rfl, hs, hr2⟩ := hl.uncons
    obtain ⟨x', r, rfl, hx, hr3⟩ := hr2.uncons
    have : r = [] := List.length_eq_zero_iff.1 (by rw [← hr3.1]; rfl)
    subst this
    split at h5
    · rename_i hmk
      split at h5
      · rename_i e' vs hg
        split at h5
        · rename_i hall
          obtain ⟨vs', hw, h6⟩ := Option.map_eq_some_iff.1 h5
          cases h6
          simp only [Bool.and_eq_true] at hall
          have hall2 : ∀ s, x = .string s → sz = 1 := fun s hs2 => by subst hs2; simpa [strOk] using hall.2
          obtain ⟨w', r1, r2⟩ := copy_ok (ty := ty) hr hs hx ht he hsz hm hcs hmk hg hall.1 hall2 hw
          exact ⟨ρ, w', _, .inl (bind_value r1), r2, .of1 rfl⟩
        · cases h5
      · cases h5
    · cases h5
  · cases h
    obtain ⟨x', r, rfl, hx, hr2⟩ := hl.uncons
    have : r = [] := List.length_eq_zero_iff.1 (by rw [← hr2.1]; rfl)
    subst this
    have := hx.eq1 rfl
    subst this
    exact OpOk.pure hr (bind_value (Lib.run_unsafeSliceData_nil w ts ty 0 0)) (.of1 rfl)
  · rename_i i off n c
    split at h
    · cases h
    · rename_i hn
      cases h
      obtain ⟨x', r, rfl, hx, hr2⟩ := hl.uncons
      have : r = [] := List.length_eq_zero_iff.1 (by rw [← hr2.1]; rfl)
      subst this
      cases hx with
      | atom hf => simp [flat1] at hf
      | slice hi hb ho hc hf =>
        rename_i b o cap
        have ho' := ho (by omega)
        subst hb ho'
        exact OpOk.pure hr (bind_value (Lib.run_unsafeSliceData_row w ts ty _ _ _ (by omega))) (.ptr hi)
  · rename_i q
    split at h
    · rename_i hq
      obtain ⟨rfl, hts⟩ := hq
      cases h
      obtain ⟨x', r, rfl, hx, hr2⟩ := hl.uncons
      obtain ⟨y', r', rfl, hy, hr3⟩ := hr2.uncons
      have : r' = [] := List.length_eq_zero_iff.1 (by rw [← hr3.1]; rfl)
      subst this
      have := hx.eq1 rfl
      subst this
      have := hy.int
      subst this
      refine OpOk.pure hr (bind_value (x := .string .empty) ?_) (.of1 rfl)
      obtain ⟨pt, it, rfl⟩ : ∃ pt it, ts = #[pt, it] := by
        obtain ⟨l⟩ := ts
        match l, hts with
        | [a, b], _ => exact ⟨a, b, rfl⟩
      exact Lib.run_unsafeString_none w pt it ty none
    · cases h
  · rename_i i off q
    obtain ⟨pt, ht, h1⟩ := Option.bind_eq_some_iff.1 h
    split at h1
    · rename_i hc
      obtain ⟨hq0, hq1, hmk, hts⟩ := hc
      split at h1
      · rename_i e e' vs hp hg
        split at h1
        · rename_i hee
          obtain ⟨rfl, hce⟩ := hee
          obtain ⟨l, hl1, h2⟩ := Option.map_eq_some_iff.1 h1
          cases h2
          obtain ⟨l0, hl0, hls⟩ := Option.bind_eq_some_iff.1 hl1
          obtain ⟨x', r, rfl, hx, hr2⟩ := hl.uncons
          obtain ⟨y', r', rfl, hy, hr3⟩ := hr2.uncons
          have : r' = [] := List.length_eq_zero_iff.1 (by rw [← hr3.1]; rfl)
          subst this
          have := hy.int
          subst this
          obtain ⟨rfl, hin⟩ := ptr_inv hx
          obtain ⟨_, c, e2, fz, hcb, hcv, hf⟩ := hr.ob i _ hg
          obtain ⟨rfl, hbase, _, _⟩ := hf (Nat.le_trans hr.fm hmk)
          obtain ⟨q1, q2, q3⟩ := sub_cells' hcv hl0
          obtain ⟨ns, rfl, rfl⟩ := strOf_ok hls
          have hlen : ns.length = q.toNat := by simpa using q2
          have hqi : q = (ns.length : Int) := by rw [hlen]; omega
          have hsh : w.shape? (ρ i).1 = some (e2, c.size) := by simp [World.shape?, hcb]
          have hbytes := q1.ints
          have hrun := unsafeString_run (P := C.P) (w := w) (ty := ty) (g := (ρ i).1) (o := (ρ i).2 + off) (l := ns) hts ht hp hce hsh (by omega) (by have := q3 (by omega); omega) (by omega) (fun j x hj => by
            have hj' : j < ns.length := (List.getElem?_eq_some_iff.1 hj).1
            have h7 : ((c.toList.drop ((ρ i).2 + off)).take q.toNat)[j]? = some (.int .u8 x) := by rw [hbytes, List.getElem?_map, hj]; rfl
            rw [List.getElem?_take, if_pos (by omega), List.getElem?_drop, Array.getElem?_toList] at h7
            rw [addr_add, cell_of hcb]; exact h7)
          rw [← hqi] at hrun
          obtain ⟨f1, f2, f3, f4⟩ := freeze_heap (o := (ρ i).2 + off) (n := ns.length) hcb
          exact ⟨ρ, _, _, .inl (bind_value hrun), hr.gone hmk hg f1 f2 f3 f4 hbase, .of1 rfl⟩
        · cases h1
      · cases h1
    · cases h1
  · rename_i i k
    obtain ⟨ke, hke, h1⟩ := Option.bind_eq_some_iff.1 h
    obtain ⟨t, ht, hke⟩ := Option.bind_eq_some_iff.1 hke
    obtain ⟨s', r, rfl, hs, hr2⟩ := hl.uncons
    obtain ⟨x', r, rfl, hx, hr3⟩ := hr2.uncons
    have : r = [] := List.length_eq_zero_iff.1 (by rw [← hr3.1]; rfl)
    subst this
    split at h1
    · rename_i hc
      split at h1
      · rename_i es hg
        obtain ⟨r, hfr, h2⟩ := Option.map_eq_some_iff.1 h1
        cases h2
        obtain ⟨w', r1, r2⟩ := delete_ok (ty := ty) hr hs hx ht hke hc.1 hc.2 hg hfr
        exact ⟨ρ, w', _, .inl (bind_value r1), r2, VR.undef⟩
      · cases h1
    · cases h1
  · cases h
end Go.L1
