/- Calls taken apart: the rules by which the interpreter is walked, one goal 'goC items slots heap = answer' at a time. -/
import Derived.Test.YtokbhihfooaijaaL1R
namespace Go.L1
set_option linter.unusedVariables false
def isCall : Op → Bool | .call _ => true | .panic _ => true | _ => false
inductive It where
  | code (c : Code)
  | ops (strict : Bool) (all : Array Oper) (l : List Oper)
  | blk (id : Nat)
  | beg (i : Nat)
  | yend
def exitIt (id : Nat) : List It → Option (List It)
  | [] => none
  | .blk j :: k => if j = id then some k else exitIt id k
  | .yend :: _ => none
  | _ :: k => exitIt id k
section
variable (P : Program) (T : Tb) (fn : Func)
/-- What is left of a body, carried out. -/
noncomputable def goC : List It → Env → Hp → Option (Ending × Hp)
  | [], σ, H => leave P fn (.normal, σ, H)
  | .blk _ :: k, σ, H => goC k σ H
  | .beg i :: k, σ, H => match busyAt i H with
    | some H' => goC k σ H'
    | none => none
  | .yend :: _, σ, H => some (.returned (.bool true), H)
  | .code c :: k, σ, H => match execC P T (run P T) (loop P T) c σ H with
    | some (.normal, σ', H') => goC k σ' H'
    | some (.exit id, σ', H') => exitGo id k σ' H'
    | some (.ret, σ', H') => leave P fn (.ret, σ', H')
    | some (.panic ch, σ', H') => leave P fn (.panic ch, σ', H')
    | _ => none
  | .ops b all l :: k, σ, H => match execOps P (run P T) all l σ H with
    | some (.normal, σ', H') => goC k σ' H'
    | some (.panic ch, σ', H') => if b then none else leave P fn (.panic ch, σ', H')
    | _ => none
where
  exitGo (id : Nat) : List It → Env → Hp → Option (Ending × Hp)
  | [], _, _ => none
  | .blk j :: k, σ, H => if j = id then goC k σ H else exitGo id k σ H
  | .yend :: _, σ, H => some (.returned (.int .i64 id), H)
  | _ :: k, σ, H => exitGo id k σ H
end
section
variable {P : Program} {T : Tb} {fn : Func} {k : List It} {σ : Env} {H : Hp} {R : Option (Ending × Hp)}
theorem body_go (c : Code) : (execC P T (run P T) (loop P T) c σ H).bind (leave P fn) = goC P T fn [.code c] σ H := by
  rw [goC]
  cases execC P T (run P T) (loop P T) c σ H with
  | none => rfl
  | some r => obtain ⟨e, σ', H'⟩ := r; cases e <;> first | rfl | (simp only [Option.bind_some, goC, goC.exitGo, leave])
/-- A call that writes nothing that was there, and hands back no place. -/
theorem run_quiet {F : FuncId} {c : Code} {args : List Value} {H' : Hp} {v : Value} (hf : P.funcs[F]? = some fn) (hb : fn.body = some c) (h1 : T.ext F = none) (h2 : T.ok F = true) (h3 : T.clean F = true) (h0 : T.froz F = false := by rfl) (hn : decide (args.length ≤ fn.ntmps) = true)
    (hv : flat v = true) (h : goC P T fn [.code c] (fun i => args.getD i undef) ⟨H.get, H.next, H.next⟩ = some (.returned v, H')) : run P T F args H = some (.returned v, H) := by
  rw [run_eq]
  unfold runWith
  simp only [h1, hf, hb, Option.bind_some, h2, hn, h0, Bool.and_self, Bool.not_true, Bool.false_eq_true, if_false, h3, if_true]
  rw [body_go, h, Option.bind_some]
  unfold fenced
  simp [hv]
/-- The same, handing back a place that was there. -/
theorem run_place {F : FuncId} {c : Code} {args : List Value} {H' : Hp} {v : Value} (hf : P.funcs[F]? = some fn) (hb : fn.body = some c) (h1 : T.ext F = none) (h2 : T.ok F = true) (h3 : T.clean F = true) (h4 : T.quiet F = true) (h0 : T.froz F = false := by rfl) (hn : decide (args.length ≤ fn.ntmps) = true)
    (hv : place H.next v = true) (h : goC P T fn [.code c] (fun i => args.getD i undef) ⟨H.get, H.next, H.next⟩ = some (.returned v, H')) : run P T F args H = some (.returned v, H) := by
  rw [run_eq]
  unfold runWith
  simp only [h1, hf, hb, Option.bind_some, h2, hn, h0, Bool.and_self, Bool.not_true, Bool.false_eq_true, if_false, h3, if_true, h4]
  rw [body_go, h, Option.bind_some]
  unfold fenced
  simp [hv]
/-- A call that writes nothing that was there, and hands back places. -/
theorem run_clean {F : FuncId} {c : Code} {args : List Value} {H' : Hp} {v : Value} (hf : P.funcs[F]? = some fn) (hb : fn.body = some c) (h1 : T.ext F = none) (h2 : T.ok F = true) (h3 : T.clean F = true) (h4 : T.quiet F = false) (h0 : T.froz F = false := by rfl) (hn : decide (args.length ≤ fn.ntmps) = true)
    (hv : flat v = false) (h : goC P T fn [.code c] (fun i => args.getD i undef) ⟨H.get, H.next, H.next⟩ = some (.returned v, H')) : run P T F args H = some (.returned v, ⟨H'.get, H'.next, H.mark⟩) := by
  rw [run_eq]
  unfold runWith
  simp only [h1, hf, hb, Option.bind_some, h2, hn, h0, Bool.and_self, Bool.not_true, Bool.false_eq_true, if_false, h3, if_true, h4]
  rw [body_go, h, Option.bind_some]
  unfold fenced
  simp [hv]
/-- Any other call. -/
theorem run_open {F : FuncId} {c : Code} {args : List Value} (hf : P.funcs[F]? = some fn) (hb : fn.body = some c) (h1 : T.ext F = none) (h2 : T.ok F = true) (h3 : T.clean F = false) (h4 : T.quiet F = false) (h0 : T.froz F = false := by rfl) (hn : decide (args.length ≤ fn.ntmps) = true)
    (h : goC P T fn [.code c] (fun i => args.getD i undef) H = R) : run P T F args H = R := by
  rw [run_eq]
  unfold runWith
  simp only [h1, hf, hb, Option.bind_some, h2, hn, h0, Bool.and_self, Bool.not_true, Bool.false_eq_true, if_false, h3, h4]
  rw [body_go, h]
/-- A call to which rows go, and from which they come, by their cells. -/
theorem run_froz {F : FuncId} {c : Code} {args args1 : List Value} {H' : Hp} {v u : Value} (hf : P.funcs[F]? = some fn) (hb : fn.body = some c) (h1 : T.ext F = none) (h2 : T.ok F = true) (h3 : T.clean F = true) (h0 : T.froz F = true) (hn : decide (args.length ≤ fn.ntmps) = true)
    (ha : args.mapM (freeze P H.get tg 0 9) = some args1) (hv : freeze P H'.get #[] H.next 9 v = some u) (h : goC P T fn [.code c] (fun i => args1.getD i undef) ⟨H.get, H.next, H.next⟩ = some (.returned v, H')) : run P T F args H = some (.returned u, H) := by
  rw [run_eq]
  unfold runWith
  simp only [h1, hf, hb, Option.bind_some, h2, hn, Bool.and_self, Bool.not_true, Bool.false_eq_true, if_false, h3, h0, if_true, ha]
  rw [body_go, h, Option.bind_some]
  unfold iced
  simp [hv]
theorem r_seq {a b : Code} (h : goC P T fn (.code a :: .code b :: k) σ H = R) : goC P T fn (.code (.seq a b) :: k) σ H = R := by
  rw [← h, goC, goC, execC]
  cases execC P T (run P T) (loop P T) a σ H with
  | none => rfl
  | some r => obtain ⟨e, σ', H'⟩ := r; cases e <;> first | rfl | (simp only [Option.bind_some, goC, goC.exitGo])
theorem r_skip (h : goC P T fn k σ H = R) : goC P T fn (.code .skip :: k) σ H = R := h
theorem r_label {l : Nat} (h : goC P T fn k σ H = R) : goC P T fn (.code (.label l) :: k) σ H = R := h
theorem r_blk {id : Nat} (h : goC P T fn k σ H = R) : goC P T fn (.blk id :: k) σ H = R := h
theorem r_block {id : Nat} {c : Code} (h : goC P T fn (.code c :: .blk id :: k) σ H = R) : goC P T fn (.code (.block id c) :: k) σ H = R := by
  rw [← h, goC, goC, execC]
  cases execC P T (run P T) (loop P T) c σ H with
  | none => rfl
  | some r =>
    obtain ⟨e, σ', H'⟩ := r
    cases e with
    | exit j =>
      simp only [Option.map_some, goC.exitGo]
      by_cases hj : j = id
      · rw [if_pos hj, if_pos hj.symm]
      · rw [if_neg hj, if_neg (Ne.symm hj)]
    | _ => rfl
theorem exit_go {id : Nat} : ∀ {l k' : List It}, exitIt id l = some k' → goC.exitGo P T fn id l σ H = goC P T fn k' σ H
  | [], _, h => by cases h
  | .blk j :: l, k', h => by
    simp only [exitIt] at h
    simp only [goC.exitGo]
    split at h
    · rename_i hj; cases h; rw [if_pos hj]
    · rename_i hj; rw [if_neg hj]; exact exit_go h
  | .code c :: l, k', h => exit_go (l := l) h
  | .beg _ :: l, k', h => exit_go (l := l) h
  | .yend :: _, k', h => by cases h
  | .ops b a o :: l, k', h => exit_go (l := l) h
theorem r_exit {id : Nat} {k' : List It} (hk : exitIt id k = some k') (h : goC P T fn k' σ H = R) : goC P T fn (.code (.exit id) :: k) σ H = R := by
  rw [← h, goC, execC]
  exact exit_go hk
theorem r_ret (h : leave P fn (.ret, σ, H) = R) : goC P T fn (.code .ret :: k) σ H = R := h
theorem r_end (h : leave P fn (.ret, σ, H) = R) : goC P T fn [] σ H = R := h
theorem r_yes {c : Operand} {x y : Code} (hc : ev σ c = .bool true) (h : goC P T fn (.code x :: k) σ H = R) : goC P T fn (.code (.cond c x y) :: k) σ H = R := by
  rw [← h, goC, goC, execC, hc]; rfl
theorem r_no {c : Operand} {x y : Code} (hc : ev σ c = .bool false) (h : goC P T fn (.code y :: k) σ H = R) : goC P T fn (.code (.cond c x y) :: k) σ H = R := by
  rw [← h, goC, goC, execC, hc]; rfl
theorem r_if {c : Operand} {x y : Code} {b : Bool} (hc : ev σ c = .bool b) (h1 : b = true → goC P T fn (.code x :: k) σ H = R) (h2 : b = false → goC P T fn (.code y :: k) σ H = R) : goC P T fn (.code (.cond c x y) :: k) σ H = R := by
  cases b with
  | true => exact r_yes hc (h1 rfl)
  | false => exact r_no hc (h2 rfl)
theorem r_loop {c : Code} (h : goC P T fn (.code c :: .code (.loop c) :: k) σ H = R) : goC P T fn (.code (.loop c) :: k) σ H = R := by
  rw [← h, goC, goC, execC, loop_eq]
  unfold round
  cases execC P T (run P T) (loop P T) c σ H with
  | none => rfl
  | some r => obtain ⟨e, σ', H'⟩ := r; cases e <;> first | rfl | (simp only [Option.bind_some, goC, goC.exitGo, execC])
theorem r_scope {c : Code} (h : goC P T fn (.code c :: k) σ H = R) : goC P T fn (.code (.scope c) :: k) σ H = R := by
  rw [← h, goC, goC, execC]
  cases execC P T (run P T) (loop P T) c σ H with
  | none => rfl
  | some r => obtain ⟨e, σ', H'⟩ := r; cases e <;> rfl
theorem r_region {id : Nat} {ops : Array Oper} (h : goC P T fn (.ops false ops ops.toList :: k) σ H = R) : goC P T fn (.code (.region id ops false) :: k) σ H = R := by
  rw [← h, goC, goC, execC]
  simp only [Bool.false_eq_true, if_false]
  have hq : ∀ (l : List Oper) (σ : Env) (H : Hp) e s, execOps P (run P T) ops l σ H = some (e, s) → e = .normal ∨ ∃ ch, e = .panic ch := by
    intro l
    induction l with
    | nil => intro σ H e s h; cases h; exact .inl rfl
    | cons o l ih =>
      intro σ H e s h
      unfold execOps at h
      split at h
      · obtain ⟨⟨e1, H1⟩, _, h2⟩ := Option.bind_eq_some_iff.1 h
        cases e1 with
        | returned v => exact ih _ _ _ _ h2
        | panicked ch => cases h2; exact .inr ⟨_, rfl⟩
        | outgrown => cases h2
      · exact ih _ _ _ _ h
  cases hx : execOps P (run P T) ops ops.toList σ H with
  | none => rfl
  | some r =>
    obtain ⟨e, σ', H'⟩ := r
    rcases hq _ _ _ _ _ hx with rfl | ⟨ch, rfl⟩ <;> rfl
theorem trace_ops {call : Fns} {all : Array Oper} : ∀ {l : List Oper} {σ σ' : Env} {H H' : Hp}, execOps P call all l σ H = some (.normal, σ', H') → ∃ q, traceOps P call all l σ H = some q ∧ ∀ d, q.getLastD d = (σ', H')
  | [], σ, σ', H, H', h => by cases h; exact ⟨_, rfl, fun _ => rfl⟩
  | o :: l, σ, σ', H, H', h => by
    unfold execOps at h
    unfold traceOps
    split at h
    · rename_i hw
      rw [if_pos hw]
      obtain ⟨⟨e1, H1⟩, hs, h2⟩ := Option.bind_eq_some_iff.1 h
      cases e1 with
      | returned v =>
        obtain ⟨q, h3, h4⟩ := trace_ops h2
        refine ⟨(σ, H) :: q, by rw [hs]; simp [h3], fun d => ?_⟩
        rw [List.getLastD_cons]; exact h4 _
      | panicked ch => cases h2
      | outgrown => cases h2
    · rename_i hw
      rw [if_neg hw]
      obtain ⟨q, h3, h4⟩ := trace_ops h
      refine ⟨(σ, H) :: q, by simp [h3], fun d => ?_⟩
      rw [List.getLastD_cons]; exact h4 _
/-- A region that draws its order, in which all wait for one another that matter. -/
theorem r_draw {id : Nat} {ops : Array Oper} {v : Value} {H' : Hp} (hp : planOk P T.quiet ops = true) (hf : planNow P T.quiet ops = []) (h : goC P T fn (.ops true ops ops.toList :: k) σ H = some (.returned v, H')) : goC P T fn (.code (.region id ops true) :: k) σ H = some (.returned v, H') := by
  rw [goC] at h
  rw [goC, execC]
  simp only [if_true]
  cases hx : execOps P (run P T) ops ops.toList σ H with
  | none => rw [hx] at h; cases h
  | some r =>
    obtain ⟨e, σ', H2⟩ := r
    rw [hx] at h
    cases e with
    | normal =>
      obtain ⟨q, h3, h4⟩ := trace_ops hx
      have hd : execDraw P T.quiet (run P T) ops σ H = some (.normal, σ', H2) := by
        unfold execDraw
        rw [if_pos hp, h3, Option.bind_some, hf, if_pos (fun p hp => by cases hp), h4]
      rw [hd]
      exact h
    | _ => simp at h
/-- The same, where some readers don't wait for some turns: they read the same. -/
theorem r_drawc {id : Nat} {ops : Array Oper} {v : Value} {H' : Hp} {q : List (Env × Hp)} (hp : planOk P T.quiet ops = true) (ht : traceOps P (run P T) ops ops.toList σ H = some q) (hc : ∀ p ∈ planNow P T.quiet ops, chk P (run P T) ops q p)
    (h : goC P T fn k (q.getLastD (σ, H)).1 (q.getLastD (σ, H)).2 = R) : goC P T fn (.code (.region id ops true) :: k) σ H = R := by
  rw [goC, execC]
  simp only [if_true]
  have hd : execDraw P T.quiet (run P T) ops σ H = some (.normal, q.getLastD (σ, H)) := by
    unfold execDraw
    rw [if_pos hp, ht, Option.bind_some, if_pos hc]
  rw [hd]
  exact h
section
variable {b : Bool} {all : Array Oper} {l : List Oper} {d : Option Tmp} {ty : TypeId} {pos : String} {af : Array Edge}
theorem r_nil (h : goC P T fn k σ H = R) : goC P T fn (.ops b all [] :: k) σ H = R := h
theorem r_step {o : Oper} {v : Value} {H' : Hp} (hg : o.guard = none) (hs : step1 P (run P T) o σ H = some (.returned v, H')) (h : goC P T fn (.ops b all l :: k) (put o.dst v σ) H' = R) : goC P T fn (.ops b all (o :: l) :: k) σ H = R := by
  rw [← h, goC, goC, execOps]
  simp only [Region.wanted, hg, if_true, hs, Option.bind_some]
theorem r_pure {op : Op} {v : Value} (hop : ∀ H, op1 P σ op H = (op0 P σ op).map (·, H)) (hc : isCall op = false) (h0 : op0 P σ op = some v) (h : goC P T fn (.ops b all l :: k) (put d v σ) H = R) : goC P T fn (.ops b all (⟨d, op, ty, pos, af, none⟩ :: l) :: k) σ H = R := by
  refine r_step (o := ⟨d, op, ty, pos, af, none⟩) (H' := H) rfl ?_ h
  unfold step1
  cases op <;> first | (simp only [hop, h0]; rfl) | (simp [isCall] at hc; done) | (simp [op0] at h0; done)
theorem r_op {op : Op} {v : Value} {H' : Hp} (hc : isCall op = false) (h0 : op1 P σ op H = some (v, H')) (h : goC P T fn (.ops b all l :: k) (put d v σ) H' = R) : goC P T fn (.ops b all (⟨d, op, ty, pos, af, none⟩ :: l) :: k) σ H = R := by
  refine r_step (o := ⟨d, op, ty, pos, af, none⟩) (H' := H') rfl ?_ h
  unfold step1
  cases op <;> first | (simp only [h0]; rfl) | (simp [isCall] at hc; done) | (simp [op1, op0] at h0; done)
theorem r_call {c : Call} {v : Value} {H' : Hp} (h0 : callOf P (run P T) σ c H = some (.returned v, H')) (h : goC P T fn (.ops b all l :: k) (put d v σ) H' = R) : goC P T fn (.ops b all (⟨d, .call c, ty, pos, af, none⟩ :: l) :: k) σ H = R :=
  r_step (o := ⟨d, .call c, ty, pos, af, none⟩) rfl h0 h
theorem r_want {op : Op} {j : Nat} {t : Bool} (hy : yield1 all σ j = some t) (h : goC P T fn (.ops b all (⟨d, op, ty, pos, af, none⟩ :: l) :: k) σ H = R) : goC P T fn (.ops b all (⟨d, op, ty, pos, af, some (j, t)⟩ :: l) :: k) σ H = R := by
  rw [← h, goC, goC, execOps, execOps]
  simp only [Region.wanted, hy, beq_self_eq_true, if_true]
  rfl
theorem r_pass {op : Op} {j : Nat} {t : Bool} (hy : yield1 all σ j = some (!t)) (h : goC P T fn (.ops b all l :: k) (put d undef σ) H = R) : goC P T fn (.ops b all (⟨d, op, ty, pos, af, some (j, t)⟩ :: l) :: k) σ H = R := by
  rw [← h, goC, goC, execOps]
  simp only [Region.wanted, hy]
  cases t <;> rfl
theorem r_guard {op : Op} {j : Nat} {t u : Bool} (hy : yield1 all σ j = some u) (h1 : u = t → goC P T fn (.ops b all (⟨d, op, ty, pos, af, none⟩ :: l) :: k) σ H = R) (h2 : u = !t → goC P T fn (.ops b all l :: k) (put d undef σ) H = R) : goC P T fn (.ops b all (⟨d, op, ty, pos, af, some (j, t)⟩ :: l) :: k) σ H = R := by
  by_cases h : u = t
  · subst h; exact r_want hy (h1 rfl)
  · have : u = !t := by cases u <;> cases t <;> simp_all
    subst this
    exact r_pass hy (h2 rfl)
end
end
section
variable {P : Program} {T : Tb} {fn : Func} {k : List It} {σ : Env} {H : Hp} {R : Option (Ending × Hp)}
theorem ops_ends {call : Fns} {all : Array Oper} : ∀ {l : List Oper} {σ : Env} {H : Hp} {r : Exit × Env × Hp}, execOps P call all l σ H = some r → r.1 = .normal ∨ ∃ ch, r.1 = .panic ch
  | [], σ, H, r, h => by cases h; exact .inl rfl
  | o :: l, σ, H, r, h => by
    unfold execOps at h
    split at h
    · obtain ⟨⟨e, H1⟩, h1, h2⟩ := Option.bind_eq_some_iff.1 h
      cases e with
      | returned v => exact ops_ends h2
      | panicked ch => cases h2; exact .inr ⟨ch, rfl⟩
      | outgrown => cases h2
    · exact ops_ends h
theorem assign_ends {call : Fns} {lp : Lps} : ∀ {c : Code} {σ : Env} {H : Hp} {r : Exit × Env × Hp}, okAssign c = true → execC P T call lp c σ H = some r → r.1 = .normal ∨ ∃ ch, r.1 = .panic ch
  | .skip, σ, H, r, _, h => by cases h; exact .inl rfl
  | .label _, σ, H, r, _, h => by cases h; exact .inl rfl
  | .region id ops draw, σ, H, r, _, h => by
    unfold execC at h
    cases draw with
    | false => exact ops_ends h
    | true =>
      simp only [if_true] at h
      unfold execDraw at h
      split at h
      · obtain ⟨q, _, h2⟩ := Option.bind_eq_some_iff.1 h
        split at h2
        · cases h2; exact .inl rfl
        · cases h2
      · cases h
  | .seq a b, σ, H, r, hok, h => by
    simp only [okAssign, Bool.and_eq_true] at hok
    unfold execC at h
    obtain ⟨⟨e, σ1, H1⟩, h1, h2⟩ := Option.bind_eq_some_iff.1 h
    rcases assign_ends hok.1 h1 with h3 | ⟨ch, h3⟩
    · simp only at h3
      subst h3
      exact assign_ends hok.2 h2
    · simp only at h3
      subst h3
      cases h2
      exact .inr ⟨ch, rfl⟩
  | .cond .., _, _, _, hok, _ | .block .., _, _, _, hok, _ | .loop _, _, _, _, hok, _ | .scope _, _, _, _, hok, _ | .rangeFunc .., _, _, _, hok, _ | .exit _, _, _, _, hok, _ | .goto _, _, _, _, hok, _ | .ret, _, _, _, hok, _ | .refuse _, _, _, _, hok, _ => by cases hok
/-- What a round is in: nothing is handed back. -/
def yfn : Func := { (default : Func) with results := #[] }
/-- A round, walked. -/
theorem yl_go {i : Nat} {s : Env} {ps : List Tmp} {a b : Code} {pe : Option Code} {args : List Value} {H' : Hp} {v : Value} (hg : H.get i = some (.loop s ps a b .ready pe)) (hm : H.mark ≤ i) (hn : args.length = ps.length) (ha : okAssign a = true)
    (h : goC P T yfn [.code a, .beg i, .code b, .yend] (setPs ps args s) H = some (.returned v, H')) :
    ∃ x σ2, (run P T).yl i args H = endY i (x, σ2, H') ∧ ((v = .bool true ∧ x = .normal) ∨ (v = .tuple #[] ∧ x = .ret) ∨ ∃ id : Nat, v = .int .i64 id ∧ x = .exit id) := by
  rw [yl_eq]
  unfold yieldWith
  simp only [hg, hm, hn, and_self, if_true]
  rw [goC] at h
  cases h1 : execC P T (run P T) (loop P T) a (setPs ps args s) H with
  | none => rw [h1] at h; cases h
  | some r =>
    obtain ⟨e, σ1, H1⟩ := r
    rw [h1] at h
    rcases assign_ends ha h1 with h3 | ⟨ch, h3⟩
    · simp only at h3
      subst h3
      simp only [goC] at h
      cases h2 : busyAt i H1 with
      | none => rw [h2] at h; cases h
      | some H2 =>
        rw [h2] at h
        dsimp only at h
        simp only [Option.bind_some, h2]
        cases h4 : execC P T (run P T) (loop P T) b σ1 H2 with
        | none => rw [h4] at h; cases h
        | some r2 =>
          obtain ⟨e2, σ2, H3⟩ := r2
          rw [h4] at h
          simp only [Option.bind_some]
          cases e2 with
          | normal => cases h; exact ⟨.normal, σ2, rfl, .inl ⟨rfl, rfl⟩⟩
          | exit id => simp only [goC.exitGo] at h; cases h; exact ⟨.exit id, σ2, rfl, .inr (.inr ⟨id, rfl, rfl⟩)⟩
          | ret =>
            have : leave P yfn (.ret, σ2, H3) = some (.returned (.tuple #[]), H3) := rfl
            simp only [this] at h
            cases h
            exact ⟨.ret, σ2, rfl, .inr (.inl ⟨rfl, rfl⟩)⟩
          | panic ch => simp [leave] at h
          | _ => cases h
    · simp only at h3
      subst h3
      simp [leave] at h
theorem r_beg {i : Nat} {H' : Hp} (hb : busyAt i H = some H') (h : goC P T fn k σ H' = R) : goC P T fn (.beg i :: k) σ H = R := by
  rw [← h, goC, hb]
theorem r_range {f : Operand} {ps : Array Tmp} {a b : Code} {F : FuncId} {first caps : Array Value} {v : Value} {H2 : Hp} {r : Exit × Env × Hp} (hf : ev σ f = .func (.func F) first caps) (hok : (enterB P F && okAssign a && noRange b) = true)
    (hr : run P T F (first.toList ++ [.func (.yield H.next) #[] #[]] ++ caps.toList) (H.new (.loop σ ps.toList a b .ready none)) = some (.returned v, H2)) (he : endR H.next σ (.returned v, H2) = some r)
    (h : (match r.1 with | .normal => goC P T fn k σ r.2.2 | .ret => leave P fn (.ret, σ, r.2.2) | .exit id => goC.exitGo P T fn id k σ r.2.2 | .panic ch => leave P fn (.panic ch, σ, r.2.2) | _ => none) = R) (hs : r.2.1 = σ) : goC P T fn (.code (.rangeFunc f ps a b) :: k) σ H = R := by
  rw [← h, goC, execC]
  simp only [hf, hok, if_true]
  rw [show (run P T).fn F (first.toList ++ [.func (.yield H.next) #[] #[]] ++ caps.toList) (H.new (.loop σ ps.toList a b .ready none)) = some (.returned v, H2) from hr, Option.bind_some, he]
  obtain ⟨e, σ', H3⟩ := r
  simp only at hs
  subst hs
  cases e <;> rfl
end
end Go.L1
