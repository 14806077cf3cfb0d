/- A region that draws its order does what it does in the text's order, if its plan holds. -/
import Derived.Test.YtokbhihfooaijaaL1N
namespace Go.L1
open Go.RowKit
set_option linter.unusedVariables false
set_option linter.unusedSimpArgs false
variable {C : Cx} {ρ : Rho} {H H' : Hp} {w : World} {σ : Env} {a : Act} {v : Value}
-- ---- an operation looks at its own slots alone
theorem ev_congr {σ σ' : Env} {x : Operand} (h : ∀ t, x = .tmp t → σ t = σ' t) : ev σ x = ev σ' x := by cases x <;> first | exact h _ rfl | rfl
theorem looks_op {ops : Array Oper} {o : Oper} {t : Nat} (h : Operand.tmp t ∈ o.op.operands.toList) : t ∈ Oper.looksAt ops o := by
  unfold Oper.looksAt
  exact List.mem_append_left _ (List.mem_filterMap.2 ⟨_, h, rfl⟩)
theorem map_congr {σ σ' : Env} {l : List Operand} (h : ∀ x ∈ l, ev σ x = ev σ' x) : l.map (ev σ) = l.map (ev σ') := List.map_congr_left h
theorem amap_congr {σ σ' : Env} {l : Array Operand} (h : ∀ x ∈ l.toList, ev σ x = ev σ' x) : l.map (ev σ) = l.map (ev σ') := by
  apply Array.ext'
  rw [Array.toList_map, Array.toList_map]
  exact map_congr h
theorem parts_congr {σ σ' : Env} {l : List (Nat × Operand)} (h : ∀ p ∈ l, ev σ p.2 = ev σ' p.2) : (l.map fun p => (p.1, ev σ p.2)) = l.map fun p => (p.1, ev σ' p.2) :=
  List.map_congr_left fun p hp => by rw [h p hp]
theorem step_congr {P : Program} {call : Fns} {σ σ' : Env} {o : Oper} (h : ∀ x ∈ o.op.operands.toList, ev σ x = ev σ' x) (H : Hp) : step1 P call o σ H = step1 P call o σ' H := by
  obtain ⟨dst, op, ty, pos, after, guard⟩ := o
  simp only at h
  have one : ∀ x, x ∈ op.operands.toList → ev σ x = ev σ' x := h
  cases op with
  | call c =>
    have ha : ∀ x ∈ c.args.toList, ev σ x = ev σ' x := fun x hx => h x (by simp only [Op.operands, Call.operands, Array.toList_append]; exact List.mem_append_right _ hx)
    simp only [step1, callOf, map_congr ha]
    cases hc : c.callee with
    | builtin b => rfl
    | value f => simp only [h f (by simp [Op.operands, Call.operands, hc])]
    | invoke r m => rfl
  | panic x => simp only [step1, h x (by simp [Op.operands])]
  | build t ps =>
    have := parts_congr (σ := σ) (σ' := σ') (l := ps.toList) fun p hp => h p.2 (by simp only [Op.operands]; exact List.mem_map.2 ⟨p, hp, rfl⟩)
    simp only [step1, op1, op0, this]
  | buildSlice t n ps =>
    have := parts_congr (σ := σ) (σ' := σ') (l := ps.toList) fun p hp => h p.2 (by simp only [Op.operands]; exact List.mem_map.2 ⟨p, hp, rfl⟩)
    simp only [step1, op1, op0, this]
  | makeFunc fn first caps =>
    have h1 := amap_congr (σ := σ) (σ' := σ') (l := first) fun x hx => h x (by simp only [Op.operands, Array.toList_append]; exact List.mem_append_left _ hx)
    have h2 := amap_congr (σ := σ) (σ' := σ') (l := caps) fun x hx => h x (by simp only [Op.operands, Array.toList_append]; exact List.mem_append_right _ hx)
    cases fn <;> simp only [step1, op1, op0, h1, h2]
  | makeMap t r =>
    cases r with
    | none => rfl
    | some x => simp only [step1, op1, op0, h x (by simp [Op.operands])]
  | slice t x lo hi mx =>
    have hx := h x (by simp [Op.operands])
    have hl : lo.map (ev σ) = lo.map (ev σ') := by cases lo with | none => rfl | some y => exact congrArg some (h y (by simp [Op.operands]))
    have hh : hi.map (ev σ) = hi.map (ev σ') := by cases hi with | none => rfl | some y => exact congrArg some (h y (by simp [Op.operands]))
    have hm : mx.map (ev σ) = mx.map (ev σ') := by cases mx with | none => rfl | some y => exact congrArg some (h y (by simp [Op.operands]))
    simp only [step1, op1, op0, hx, hl, hh, hm]
  | pick c x y => simp only [step1, op1, op0, one c (by simp [Op.operands]), one x (by simp [Op.operands]), one y (by simp [Op.operands])]
  | binOp op t x y yt => simp only [step1, op1, op0, one x (by simp [Op.operands]), one y (by simp [Op.operands])]
  | store t x y => simp only [step1, op1, op0, one x (by simp [Op.operands]), one y (by simp [Op.operands])]
  | makeSlice t x y => simp only [step1, op1, op0, one x (by simp [Op.operands]), one y (by simp [Op.operands])]
  | indexAddr t x y => simp only [step1, op1, op0, one x (by simp [Op.operands]), one y (by simp [Op.operands])]
  | index t x y => simp only [step1, op1, op0, one x (by simp [Op.operands]), one y (by simp [Op.operands])]
  | lookup t x y ok => simp only [step1, op1, op0, one x (by simp [Op.operands]), one y (by simp [Op.operands])]
  | mapUpdate t m x y => simp only [step1, op1, op0, one m (by simp [Op.operands]), one x (by simp [Op.operands]), one y (by simp [Op.operands])]
  | insert t m x y => simp only [step1, op1, op0, one m (by simp [Op.operands]), one x (by simp [Op.operands]), one y (by simp [Op.operands])]
  | move x => simp only [step1, op1, op0, one x (by simp [Op.operands])]
  | assign x => simp only [step1, op1, op0, one x (by simp [Op.operands])]
  | box t x => simp only [step1, op1, op0, one x (by simp [Op.operands])]
  | load t x => simp only [step1, op1, op0, one x (by simp [Op.operands])]
  | nilCheck x => simp only [step1, op1, op0, one x (by simp [Op.operands])]
  | unOp op t x => simp only [step1, op1, op0, one x (by simp [Op.operands])]
  | convert s d x => simp only [step1, op1, op0, one x (by simp [Op.operands])]
  | makeInterface t x => simp only [step1, op1, op0, one x (by simp [Op.operands])]
  | fieldAddr t x f => simp only [step1, op1, op0, one x (by simp [Op.operands])]
  | field t x f => simp only [step1, op1, op0, one x (by simp [Op.operands])]
  | extract x j => simp only [step1, op1, op0, one x (by simp [Op.operands])]
  | _ => rfl
theorem wanted_congr {ops : Array Oper} {σ σ' : Env} {o : Oper} (h : ∀ t ∈ Oper.looksAt ops o, σ t = σ' t) : Region.wanted o (yield1 ops σ) = Region.wanted o (yield1 ops σ') := by
  unfold Region.wanted
  cases hg : o.guard with
  | none => rfl
  | some g =>
    obtain ⟨j, b⟩ := g
    simp only
    have : yield1 ops σ j = yield1 ops σ' j := by
      unfold yield1
      cases hd : (ops[j]?).bind (·.dst) with
      | none => rfl
      | some d =>
        simp only
        rw [h d (by unfold Oper.looksAt; rw [hg]; exact List.mem_append_right _ (by simp [hd]))]
    rw [this]
theorem congr_all {P : Program} {call : Fns} {ops : Array Oper} {σ σ' : Env} {o : Oper} (h : ∀ t ∈ Oper.looksAt ops o, σ t = σ' t) (H : Hp) : step1 P call o σ H = step1 P call o σ' H :=
  step_congr (fun x hx => ev_congr fun t ht => by subst ht; exact h t (looks_op hx)) H
-- ---- what hangs on no memory
theorem sort0 {P : Program} {q : FuncId → Bool} {call : Fns} {o : Oper} {σ : Env} {H H' : Hp} {e : Ending} (hs : sortOf P q o.op = 0) (h : step1 P call o σ H = some (e, H')) : H' = H ∧ (∃ v, e = .returned v) ∧ ∀ H2, step1 P call o σ H2 = some (e, H2) := by
  obtain ⟨dst, op, ty, pos, after, guard⟩ := o
  have gen : ∀ (f : Option Value), (∀ H : Hp, step1 P call ⟨dst, op, ty, pos, after, guard⟩ σ H = (f.map (·, H)).map fun r => (Ending.returned r.1, r.2)) → H' = H ∧ (∃ v, e = .returned v) ∧ ∀ H2, step1 P call ⟨dst, op, ty, pos, after, guard⟩ σ H2 = some (e, H2) := fun f hf => by
    rw [hf H] at h
    obtain ⟨r, hr, h2⟩ := Option.map_eq_some_iff.1 h
    obtain ⟨v, hv, h3⟩ := Option.map_eq_some_iff.1 hr
    subst h3
    cases h2
    exact ⟨rfl, ⟨v, rfl⟩, fun H2 => by rw [hf H2, hv]; rfl⟩
  cases op with
  | slice t x lo hi mx =>
    have hu : P.underlying t = some .string := by
      simp only [sortOf] at hs
      split at hs
      · assumption
      · cases hs
    refine gen (sliceOf P t (ev σ x) (lo.map (ev σ)) (hi.map (ev σ)) (mx.map (ev σ)) ⟨fun _ => none, 0, 0⟩) fun H => ?_
    have : ∀ H, sliceOf P t (ev σ x) (lo.map (ev σ)) (hi.map (ev σ)) (mx.map (ev σ)) H = sliceOf P t (ev σ x) (lo.map (ev σ)) (hi.map (ev σ)) (mx.map (ev σ)) ⟨fun _ => none, 0, 0⟩ := fun H => by
      unfold sliceOf
      rw [hu]
      cases ev σ x <;> rfl
    simp only [step1, op1, this H]
  | convert s d x =>
    simp only [sortOf] at hs
    split at hs
    · cases hs
    · rename_i h1
      split at hs
      · cases hs
      · rename_i h2
        simp only [step1, op1] at h ⊢
        cases hps : P.underlying s with
        | none => rw [hps] at h; simp at h
        | some ds =>
          cases hpd : P.underlying d with
          | none => rw [hps, hpd] at h; simp at h
          | some dd =>
            rw [hps, hpd] at h
            have hs' : ∀ e, ds ≠ .slice e := fun e he => h2 (by simp [elemOf, hps, he])
            have hd' : ∀ e, dd ≠ .slice e := fun e he => h1 (by simp [elemOf, hpd, he])
            have hbs : ds ≠ .unsafePointer := fun he => h2 (by simp [bareOf, hps, he])
            have hbd : dd ≠ .unsafePointer := fun he => h2 (by simp [bareOf, hpd, he])
            cases hx : ev σ x <;> rw [hx] at h <;> cases dd <;> first | (exact absurd rfl (hd' _)) | (exact absurd rfl hbd) | (simp at h; done) | (simp at h; obtain ⟨rfl, rfl⟩ := h; exact ⟨rfl, ⟨_, rfl⟩, fun H2 => by simp⟩) | skip
            all_goals (cases ds <;> first | (exact absurd rfl (hs' _)) | (exact absurd rfl hbs) | (simp at h; done))
  | call c =>
    obtain ⟨callee, args, ts⟩ := c
    cases callee with
    | builtin b =>
      cases b <;> first | (simp [sortOf] at hs; done) | skip
      case unsafeSliceData =>
        refine gen (match args.toList.map (ev σ) with | [.slice none 0 0] => some (.pointer none) | [.slice (some ⟨i, off, none⟩) n _] => if n = 0 then none else some (Go.L1.ptr i off) | _ => none) fun H => ?_
        simp only [step1, callOf, builtin1]
        generalize args.toList.map (ev σ) = l
        match l with
        | [] => rfl
        | [.slice none 0 0] => rfl
        | [.slice none 0 (_ + 1)] => rfl
        | [.slice none (_ + 1) _] => rfl
        | [.slice (some ⟨i, off, some _⟩) n c] => rfl
        | [.slice (some ⟨i, off, none⟩) n c] => by_cases hn : n = 0 <;> simp [hn]
        | [.bool _] | [.int ..] | [.float ..] | [.complex ..] | [.string _] | [.pointer _] | [.map _] | [.chan _] | [.func ..] | [.nilFunc] | [.iface ..] | [.nilIface] | [.agg _] | [.tuple _] => rfl
        | .slice none n c :: _ :: _ => cases n <;> cases c <;> rfl
        | .slice (some ⟨i, off, some _⟩) n c :: _ :: _ => rfl
        | .slice (some ⟨i, off, none⟩) n c :: _ :: _ => rfl
        | .bool _ :: _ :: _ | .int .. :: _ :: _ | .float .. :: _ :: _ | .complex .. :: _ :: _ | .string _ :: _ :: _ | .pointer _ :: _ :: _ | .map _ :: _ :: _ | .chan _ :: _ :: _ | .func .. :: _ :: _ | .nilFunc :: _ :: _ | .iface .. :: _ :: _ | .nilIface :: _ :: _ | .agg _ :: _ :: _ | .tuple _ :: _ :: _ => rfl
      all_goals
        simp only [step1, callOf, builtin1] at h ⊢
        cases hl : args.toList.map (ev σ) with
        | nil => rw [hl] at h; simp at h
        | cons y l =>
          rw [hl] at h
          cases y <;> (try (simp at h; done))
          simp only [Option.map_map, Option.map_eq_some_iff] at h
          obtain ⟨u, hu, h2⟩ := h
          cases h2
          exact ⟨rfl, ⟨u, rfl⟩, fun H2 => by simp [hu]⟩
    | value f => cases f <;> first | (simp [sortOf] at hs; done) | (simp only [sortOf] at hs; split at hs <;> cases hs)
    | invoke r m => simp [sortOf] at hs
  | move x => exact gen (op0 P σ (.move x)) fun H => rfl
  | assign x => exact gen (op0 P σ (.assign x)) fun H => rfl
  | pick x y z => exact gen (op0 P σ (.pick x y z)) fun H => rfl
  | build t ps => exact gen (op0 P σ (.build t ps)) fun H => rfl
  | nilCheck x => exact gen (op0 P σ (.nilCheck x)) fun H => rfl
  | binOp op t x y yt => exact gen (op0 P σ (.binOp op t x y yt)) fun H => rfl
  | unOp op t x => exact gen (op0 P σ (.unOp op t x)) fun H => rfl
  | makeInterface t x => exact gen (op0 P σ (.makeInterface t x)) fun H => rfl
  | makeFunc f x y => exact gen (op0 P σ (.makeFunc f x y)) fun H => rfl
  | fieldAddr t x f => exact gen (op0 P σ (.fieldAddr t x f)) fun H => rfl
  | field t x f => exact gen (op0 P σ (.field t x f)) fun H => rfl
  | indexAddr t x f => exact gen (op0 P σ (.indexAddr t x f)) fun H => rfl
  | index t x f => exact gen (op0 P σ (.index t x f)) fun H => rfl
  | extract x f => exact gen (op0 P σ (.extract x f)) fun H => rfl
  | _ => simp [sortOf] at hs
-- ---- which waits for which
theorem masks_keep : ∀ (l : List Oper) (acc : List Nat) (j : Nat), j < acc.length → (masks l acc).getD j 0 = acc.getD j 0
  | [], _, _, _ => rfl
  | o :: l, acc, j, h => by
    rw [masks, masks_keep l _ j (by simp; omega)]
    simp [List.getD_eq_getElem?_getD, List.getElem?_append_left h]
theorem masks_at : ∀ (l : List Oper) (acc : List Nat) (i : Nat) (o : Oper), l[i]? = some o → ∃ pre : List Nat, pre.length = acc.length + i ∧ (∀ j, j < pre.length → pre.getD j 0 = (masks l acc).getD j 0) ∧ (masks l acc).getD (acc.length + i) 0 = maskOf pre o
  | [], _, _, _, h => by simp at h
  | o :: l, acc, 0, o', h => by
    simp at h
    subst h
    refine ⟨acc, by simp, fun j hj => (masks_keep _ _ j hj).symm ▸ rfl, ?_⟩
    rw [masks, Nat.add_zero, masks_keep l _ _ (by simp)]
    simp [List.getD_eq_getElem?_getD]
  | o :: l, acc, i + 1, o', h => by
    obtain ⟨pre, h1, h2, h3⟩ := masks_at l (acc ++ [maskOf acc o]) i o' (by simpa using h)
    refine ⟨pre, by rw [h1]; simp; omega, h2, ?_⟩
    rw [masks, show acc.length + (i + 1) = (acc ++ [maskOf acc o]).length + i by simp; omega]
    exact h3
theorem maskOf_bit {acc : List Nat} {o : Oper} {i : Nat} (h : (maskOf acc o).testBit i = true) : ∃ e ∈ o.after.toList, Region.binds .any e = true ∧ (e.on = i ∨ (acc.getD e.on 0).testBit i = true) := by
  unfold maskOf at h
  have gen : ∀ (l : List Edge) (s : Nat), (l.foldl (fun s e => if Region.binds .any e then s ||| 2 ^ e.on ||| acc.getD e.on 0 else s) s).testBit i = true → s.testBit i = true ∨ ∃ e ∈ l, Region.binds .any e = true ∧ (e.on = i ∨ (acc.getD e.on 0).testBit i = true) := by
    intro l
    induction l with
    | nil => intro s h; exact .inl h
    | cons e l ih =>
      intro s h
      rw [List.foldl_cons] at h
      rcases ih _ h with h1 | ⟨e', h1, h2⟩
      · split at h1
        · rename_i hb
          simp only [Nat.testBit_or, Bool.or_eq_true] at h1
          rcases h1 with (h1 | h1) | h1
          · exact .inl h1
          · exact .inr ⟨e, .head _, hb, .inl (by simpa [Nat.testBit_two_pow] using h1)⟩
          · exact .inr ⟨e, .head _, hb, .inr h1⟩
        · exact .inl h1
      · exact .inr ⟨e', .tail _ h1, h2⟩
  rcases gen _ 0 h with h1 | h1
  · simp at h1
  · exact h1
/-- What comes ahead comes ahead. -/
theorem ahead_spec {l : List Oper} (hlt : ∀ i o, l[i]? = some o → ∀ e ∈ o.after.toList, Region.binds .any e = true → e.on < i) {D : Nat → Prop} : ∀ (j : Nat) (o : Oper), l[j]? = some o →
    (∀ j' o', l[j']? = some o' → D j' → ∀ e ∈ o'.after.toList, Region.binds .any e = true → D e.on) → (∀ e ∈ o.after.toList, Region.binds .any e = true → D e.on) → ∀ i, ahead (masks l []) i j = true → D i ∧ i < j := by
  intro j
  induction j using Nat.strongRecOn with
  | _ j ih =>
    intro o ho hcl hpre i hi
    obtain ⟨pre, h1, h2, h3⟩ := masks_at l [] j o ho
    simp only [List.length_nil, Nat.zero_add] at h1 h3
    unfold ahead at hi
    rw [h3] at hi
    obtain ⟨e, he, hb, h4⟩ := maskOf_bit hi
    have hej := hlt j o ho e he hb
    have hD := hpre e he hb
    rcases h4 with rfl | h4
    · exact ⟨hD, hej⟩
    · rw [h2 e.on (by omega)] at h4
      have hjl : e.on < l.length := by have := (List.getElem?_eq_some_iff.1 ho).1; omega
      obtain ⟨r1, r2⟩ := ih e.on hej l[e.on] (List.getElem?_eq_getElem hjl) hcl (fun e' he' hb' => hcl e.on _ (List.getElem?_eq_getElem hjl) hD e' he' hb') i h4
      exact ⟨r1, by omega⟩
theorem ahead_lt {l : List Oper} (hlt : ∀ i o, l[i]? = some o → ∀ e ∈ o.after.toList, Region.binds .any e = true → e.on < i) {i j : Nat} {o : Oper} (ho : l[j]? = some o) (h : ahead (masks l []) i j = true) : i < j :=
  (ahead_spec (D := fun _ => True) hlt j o ho (fun _ _ _ _ _ _ _ => trivial) (fun _ _ _ => trivial) i h).2
-- ---- what the trace says
theorem trace_len {P : Program} {call : Fns} {all : Array Oper} : ∀ {l : List Oper} {σ : Env} {H : Hp} {q : List (Env × Hp)}, traceOps P call all l σ H = some q → q.length = l.length + 1 ∧ q.getD 0 d0 = (σ, H)
  | [], σ, H, q, h => by cases h; exact ⟨rfl, rfl⟩
  | o :: l, σ, H, q, h => by
    unfold traceOps at h
    split at h
    · obtain ⟨r, hr, h2⟩ := Option.bind_eq_some_iff.1 h
      split at h2
      · obtain ⟨q', hq, h3⟩ := Option.map_eq_some_iff.1 h2
        subst h3
        exact ⟨by simp [(trace_len hq).1], rfl⟩
      · cases h2
    · obtain ⟨q', hq, h3⟩ := Option.map_eq_some_iff.1 h
      subst h3
      exact ⟨by simp [(trace_len hq).1], rfl⟩
theorem trace_at {P : Program} {call : Fns} {all : Array Oper} : ∀ {l : List Oper} {σ : Env} {H : Hp} {q : List (Env × Hp)} {i : Nat} {o : Oper}, traceOps P call all l σ H = some q → l[i]? = some o →
    (Region.wanted o (yield1 all (q.getD i d0).1) = true ∧ ∃ v, step1 P call o (q.getD i d0).1 (q.getD i d0).2 = some (.returned v, (q.getD (i + 1) d0).2) ∧ (q.getD (i + 1) d0).1 = put o.dst v (q.getD i d0).1) ∨
    (Region.wanted o (yield1 all (q.getD i d0).1) = false ∧ (q.getD (i + 1) d0).2 = (q.getD i d0).2 ∧ (q.getD (i + 1) d0).1 = put o.dst undef (q.getD i d0).1)
  | [], _, _, _, _, _, _, h => by simp at h
  | o :: l, σ, H, q, i, o', h, ho => by
    unfold traceOps at h
    by_cases hw : Region.wanted o (yield1 all σ) = true
    · rw [if_pos hw] at h
      obtain ⟨⟨e, H1⟩, hr, h2⟩ := Option.bind_eq_some_iff.1 h
      cases e with
      | returned v =>
        obtain ⟨q', hq, h3⟩ := Option.map_eq_some_iff.1 h2
        subst h3
        cases i with
        | zero =>
          simp at ho
          subst ho
          have := (trace_len hq).2
          exact .inl ⟨hw, v, by simpa [List.getD_eq_getElem?_getD] using (by rw [this]; exact hr : step1 P call o σ H = some (.returned v, (q'.getD 0 d0).2)), by simpa [List.getD_eq_getElem?_getD] using congrArg (·.1) this⟩
        | succ i =>
          have := trace_at (i := i) hq (by simpa using ho)
          simpa [List.getD_eq_getElem?_getD] using this
      | _ => cases h2
    · rw [if_neg hw] at h
      obtain ⟨q', hq, h3⟩ := Option.map_eq_some_iff.1 h
      subst h3
      cases i with
      | zero =>
        simp at ho
        subst ho
        have := (trace_len hq).2
        exact .inr ⟨by simpa using hw, by simpa [List.getD_eq_getElem?_getD] using congrArg (·.2) this, by simpa [List.getD_eq_getElem?_getD] using congrArg (·.1) this⟩
      | succ i =>
        have := trace_at (i := i) hq (by simpa using ho)
        simpa [List.getD_eq_getElem?_getD] using this
theorem once_spec : ∀ {l : List Oper}, once l = true → ∀ {i j : Nat} {o q : Oper} {d : Nat}, l[i]? = some o → l[j]? = some q → o.dst = some d → q.dst = some d → i = j
  | [], _, _, _, _, _, _, h, _, _, _ => by simp at h
  | x :: l, h, i, j, o, q, d, hi, hj, ho, hq => by
    simp only [once, Bool.and_eq_true, List.all_eq_true] at h
    have apart : ∀ y, y ∈ l → x.dst = some d → y.dst = some d → False := fun y hy h1 h2 => by
      have := h.1 y hy
      rw [h2] at this
      simp [h1] at this
    cases i with
    | zero => cases j with
      | zero => rfl
      | succ j =>
        simp at hi; subst hi
        exact (apart q (List.mem_of_getElem? (by simpa using hj)) ho hq).elim
    | succ i => cases j with
      | zero =>
        simp at hj; subst hj
        exact (apart o (List.mem_of_getElem? (by simpa using hi)) hq ho).elim
      | succ j => exact congrArg (· + 1) (once_spec h.2 (by simpa using hi) (by simpa using hj) ho hq)
/-- A slot in the trace: what its one writer wrote, if that came ahead; else what it was. -/
theorem trace_slot {P : Program} {call : Fns} {all : Array Oper} {l : List Oper} {σ : Env} {H : Hp} {q : List (Env × Hp)} (hq : traceOps P call all l σ H = some q) (ho : once l = true) (t : Nat) : ∀ i, i ≤ l.length →
    (∀ j o, l[j]? = some o → o.dst = some t → j < i → (q.getD i d0).1 t = (q.getD (j + 1) d0).1 t) ∧ ((∀ j o, l[j]? = some o → o.dst = some t → i ≤ j) → (q.getD i d0).1 t = σ t) := by
  intro i
  induction i with
  | zero => exact fun _ => ⟨fun _ _ _ _ h => absurd h (by omega), fun _ => by rw [(trace_len hq).2]⟩
  | succ i ih =>
    intro hi
    obtain ⟨o, hoi⟩ : ∃ o, l[i]? = some o := ⟨l[i], List.getElem?_eq_getElem (by omega)⟩
    obtain ⟨h1, h2⟩ := ih (by omega)
    have hput : ∃ v, (q.getD (i + 1) d0).1 = put o.dst v (q.getD i d0).1 := by
      rcases trace_at hq hoi with ⟨_, v, _, h3⟩ | ⟨_, _, h3⟩
      · exact ⟨v, h3⟩
      · exact ⟨undef, h3⟩
    obtain ⟨v, hv⟩ := hput
    have hne : o.dst ≠ some t → (q.getD (i + 1) d0).1 t = (q.getD i d0).1 t := fun hd => by
      rw [hv]
      unfold put
      cases hdd : o.dst with
      | none => rfl
      | some d => simp only; rw [if_neg]; intro e; subst e; exact hd hdd
    refine ⟨fun j o' hj hd hlt => ?_, fun hall => ?_⟩
    · by_cases e : j = i
      · subst e; rfl
      · rw [hne, h1 j o' hj hd (by omega)]
        intro hd'
        exact e (once_spec ho hj hoi hd hd')
    · rw [hne, h2 fun j o' hj hd => by have := hall j o' hj hd; omega]
      intro hd'
      have := hall i o hoi hd'
      omega
end Go.L1
