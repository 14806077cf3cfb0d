/- What the interpreter answers, the model does. -/
import Derived.Test.YtnlgindlmlbfiaaL1Q
import Derived.Scope
import Derived.LoopN
namespace Go.L1
open Go.RowKit
set_option linter.unusedVariables false
set_option linter.unusedSimpArgs false
variable {C : Cx} {ρ : Rho} {H H' : Hp} {w : World} {σ : Env} {a : Act} {v : Value}
def okCode (N : Nat) : Code → Bool
  | .region _ ops _ => ops.toList.all (okOper N)
  | .seq x y => okCode N x && okCode N y
  | .cond c x y => okX c && okCode N x && okCode N y
  | .block _ c => okCode N c
  | .loop c => okCode N c
  | .scope c => okCode N c
  | _ => true
def okFn (P : Program) (F : FuncId) : Bool := match P.funcs[F]? with
  | some fn => match fn.body with
    | some c => okCode fn.ntmps c && !(fn.name == "runtime.NumGoroutine")
    | none => true
  | none => true
def LpsOk (C : Cx) (k : Nat) (lp : Lps) : Prop := ∀ (N : Nat) (c : Code) (σ : Env) (H : Hp) (r : Exit × Env × Hp), okCode N c = true → lp c σ H = some r →
  ∀ (ρ : Rho) (w : World) (a : Act) (Q : Exit → Act → World → Prop), HR C ρ H w → EnvR C H.next ρ w σ a → a.tmps.size = N → a.defers = [] → Ends C N ρ H w r Q → Code.rounds C.P c Q k a w
theorem execC_ok {T : Tb} {call : Fns} {lp : Lps} {k N : Nat} (hm : C.P.follows .mixedOrders = true) (hcall : FnsOk C call) (hq : QuietOk T.quiet call) (hlp : LpsOk C k lp) : ∀ (c : Code) (σ : Env) (H : Hp) (r : Exit × Env × Hp), okCode N c = true → execC C.P T call lp c σ H = some r →
    ∀ (ρ : Rho) (w : World) (a : Act) (Q : Exit → Act → World → Prop), HR C ρ H w → EnvR C H.next ρ w σ a → a.tmps.size = N → a.defers = [] → Ends C N ρ H w r Q → c.wp C.P Q a w := by
  intro c
  induction c with
  | skip => intro σ H r hok h ρ w a Q hr he hN hd hQ; cases h; exact wp_skip (hQ a w ρ (Good.refl hr) he hN hd)
  | label l => intro σ H r hok h ρ w a Q hr he hN hd hQ; cases h; exact wp_label (hQ a w ρ (Good.refl hr) he hN hd)
  | exit id => intro σ H r hok h ρ w a Q hr he hN hd hQ; cases h; exact wp_exit (hQ a w ρ (Good.refl hr) he hN hd)
  | ret => intro σ H r hok h ρ w a Q hr he hN hd hQ; cases h; exact wp_ret (hQ a w ρ (Good.refl hr) he hN hd)
  | region id ops draw =>
    intro σ H r hok h ρ w a Q hr he hN hd hQ
    unfold execC at h
    cases draw with
    | true => exact draw_ok hm hcall hq hok hr he hN hd h hQ
    | false => exact wp_region_list (execOps_ok hcall hok hr he hN hd h hQ)
  | seq x y ihx ihy =>
    intro σ H r hok h ρ w a Q hr he hN hd hQ
    simp only [okCode, Bool.and_eq_true] at hok
    unfold execC at h
    obtain ⟨⟨e, σ1, H1⟩, h1, h2⟩ := Option.bind_eq_some_iff.1 h
    refine wp_seq (ihx σ H _ hok.1 h1 ρ w a _ hr he hN hd fun a' w' ρ' g he' hN' hd' => ?_)
    cases e with
    | normal => exact ihy σ1 H1 r hok.2 h2 ρ' w' a' Q g.hr he' hN' hd' (hQ.from g)
    | _ => cases h2; exact hQ a' w' ρ' g he' hN' hd'
  | cond c x y ihx ihy =>
    intro σ H r hok h ρ w a Q hr he hN hd hQ
    simp only [okCode, Bool.and_eq_true] at hok
    unfold execC at h
    have hc := he.ev hok.1.1
    split at h
    · rename_i t ht
      rw [ht] at hc
      refine wp_cond hc.bool ?_
      cases t with
      | true => exact ihx σ H r hok.1.2 h ρ w a Q hr he hN hd hQ
      | false => exact ihy σ H r hok.2 h ρ w a Q hr he hN hd hQ
    · cases h
  | block id c ih =>
    intro σ H r hok h ρ w a Q hr he hN hd hQ
    unfold execC at h
    obtain ⟨⟨e, σ1, H1⟩, h1, h2⟩ := Option.map_eq_some_iff.1 h
    refine wp_block (ih σ H _ hok h1 ρ w a _ hr he hN hd fun a' w' ρ' g he' hN' hd' => ?_)
    cases e with
    | exit j =>
      simp only at h2
      unfold Exit.inBlock
      simp only
      by_cases hj : j = id
      · rw [if_pos hj] at h2 ⊢
        subst h2
        exact hQ a' w' ρ' g he' hN' hd'
      · rw [if_neg hj] at h2 ⊢
        subst h2
        exact hQ a' w' ρ' g he' hN' hd'
    | _ => subst h2; exact hQ a' w' ρ' g he' hN' hd'
  | loop c ih =>
    intro σ H r hok h ρ w a Q hr he hN hd hQ
    unfold execC at h
    exact wp_loop_rounds k (hlp N c σ H r hok h ρ w a Q hr he hN hd hQ)
  | scope c ih =>
    intro σ H r hok h ρ w a Q hr he hN hd hQ
    unfold execC at h
    obtain ⟨⟨e, σ1, H1⟩, h1, h2⟩ := Option.bind_eq_some_iff.1 h
    refine wp_scope_straight (ih σ H _ hok h1 ρ w a _ hr he hN hd fun a' w' ρ' g he' hN' hd' => ?_)
    cases e with
    | goto l => cases h2
    | _ => cases h2; exact hQ a' w' ρ' g he' hN' hd'
  | goto l => intro σ H r hok h; cases h
  | _ => intro σ H r hok h; cases h
-- ---- results
theorem results_ok {fn : Func} (hr : HR C ρ H w) (he : EnvR C H.next ρ w σ a) {l : List Value} (h : resList C.P σ H fn.results.toList = some l) :
    ∃ v', (results fn a.tmps).run C.P w = .ok v' w ∧ VR C H.next ρ w (packed l) v' := by
  have gen : ∀ (rs : List ResultVar) (l : List Value), resList C.P σ H rs = some l → ∃ l', (rs.mapM (fun r => match r with | .tmp t => pure (a.tmps.getD t undef) | .cell b t => do loadVar t (← asAddr (a.tmps.getD b undef)) : ResultVar → Sem Value)).run C.P w = .ok l' w ∧ VRL C H.next ρ w l l' := by
    intro rs
    induction rs with
    | nil => intro l h; cases h; exact ⟨[], rfl, .nil⟩
    | cons r rs ih =>
      intro l h
      cases r with
      | tmp t =>
        obtain ⟨l1, h1, h2⟩ := Option.map_eq_some_iff.1 h
        subst h2
        obtain ⟨l', g1, g2⟩ := ih l1 h1
        exact ⟨a.tmps.getD t undef :: l', by rw [List.mapM_cons, Sem.run_bind]; simp only [Sem.run_pure, Result.andThen_ok, Sem.run_bind]; rw [g1]; rfl, .cons (he t) g2⟩
      | cell b t =>
        obtain ⟨v, h1, h2⟩ := Option.bind_eq_some_iff.1 h
        obtain ⟨l1, h3, h4⟩ := Option.map_eq_some_iff.1 h2
        subst h4
        obtain ⟨l', g1, g2⟩ := ih l1 h3
        obtain ⟨v', q1, q2⟩ := loadAt_ok hr (he b) h1
        have hp : ∃ ad, a.tmps.getD b undef = .pointer (some ad) := by
          cases hb : a.tmps.getD b undef <;> rw [hb] at q1 <;> first | (simp [Instr.loadAt, Instr.sureAddr] at q1; done) | skip
          rename_i ad
          cases ad with
          | none => simp [Instr.loadAt, Instr.sureAddr] at q1
          | some ad => exact ⟨ad, rfl⟩
        obtain ⟨ad, had⟩ := hp
        rw [had] at q1
        have q3 : (loadVar t ad).run C.P w = .ok v' w := by simpa [Instr.loadAt, Instr.sureAddr] using q1
        have q4 : (do loadVar t (← asAddr (a.tmps.getD b undef)) : Sem Value).run C.P w = .ok v' w := by rw [had]; simpa [asAddr] using q3
        exact ⟨v' :: l', by rw [List.mapM_cons, Sem.run_bind]; rw [show _ = _ from q4]; simp only [Result.andThen_ok, Sem.run_bind]; rw [g1]; rfl, .cons q2 g2⟩
  obtain ⟨l', h1, h2⟩ := gen _ _ h
  have hrun : (fn.results.mapM (fun r => match r with | .tmp t => pure (a.tmps.getD t undef) | .cell b t => do loadVar t (← asAddr (a.tmps.getD b undef)) : ResultVar → Sem Value)).run C.P w = .ok l'.toArray w := by
    rw [Array.mapM_eq_mapM_toList, Sem.run_map, h1]
    rfl
  refine ⟨if h : l'.toArray.size = 1 then l'.toArray[0] else .tuple l'.toArray, ?_, ?_⟩
  · unfold results
    simp only [Sem.run_bind]
    refine (congrArg (fun r => Result.andThen r _) (show _ = Result.ok l'.toArray w from hrun)).trans ?_
    rfl
  · cases l with
    | nil =>
      have : l' = [] := List.length_eq_zero_iff.1 (by rw [← h2.1]; rfl)
      subst this
      exact VR.undef
    | cons x l =>
      obtain ⟨x', r, rfl, hx, hr2⟩ := h2.uncons
      cases l with
      | nil =>
        have : r = [] := List.length_eq_zero_iff.1 (by rw [← hr2.1]; rfl)
        subst this
        exact hx
      | cons y l =>
        obtain ⟨y', r', rfl, hy, hr3⟩ := hr2.uncons
        exact VR.tuple_of h2
-- ---- what a call leaves of what was there
/-- The heap as it was, in the world behind: what was there was not written. -/
theorem HR.back {ρ' : Rho} {w' : World} {H1 H2 : Hp} (hr : HR C ρ H w) (hg : H1.get = H.get) (hn : H1.next = H.next) (hm : H1.mark = H.next) (g : Good C ρ H1 w ρ' H2 w') : Good C ρ H w ρ H w' := by
  have hsame : ∀ b, b < w.heap.size → w'.heap[b]? = w.heap[b]? := fun b hb => g.calm b hb fun i hi hgi => by
    rw [hg] at hgi
    obtain ⟨o, ho⟩ := Option.ne_none_iff_exists'.1 hgi
    have := (hr.ob i o ho).1
    omega
  have hmo : More H.next ρ w H.next ρ w' := hr.more (Nat.le_refl _) (fun _ _ => rfl) g.more.keeps rfl rfl (fun b hb _ => hsame b hb)
  refine ⟨hmo, ⟨g.hr.below, g.hr.hbase, hr.fm, hr.mn, fun i o hi => ⟨(hr.ob i o hi).1, (hr.ob i o hi).2.same hmo (hr.ob i o hi).1 (hsame _ (hr.ob i o hi).2.block)⟩, hr.apart,
    fun b hb => ⟨Nat.lt_of_lt_of_le (hr.ice b hb).1 g.size, (hr.ice b hb).2⟩, fun b hb => ⟨Nat.lt_of_lt_of_le (hr.snow b hb).1 g.size, (hr.snow b hb).2⟩⟩, rfl, fun _ _ => rfl, g.size, fun b hb _ => hsame b hb, rfl, fun i hi hgi => .inl ⟨i, hi, hgi, rfl⟩⟩
-- ---- rows by their cells
theorem sub_cells {n o : Nat} {vs l : List Value} {c : Array Value} {off k : Nat} (hv : ∀ (j : Nat) (v : Value), vs[j]? = some v → ∃ v' : Value, c[o + j]? = some v' ∧ VR C n ρ w v v') (hl : rdCells vs off k = some l) :
    VRL C n ρ w l ((c.toList.drop (o + off)).take k) ∧ l.length = k ∧ (0 < k → o + off + k ≤ c.size) := by
  unfold rdCells at hl
  split at hl
  · rename_i hfit
    cases hl
    have hin : ∀ j, j < vs.length → o + j < c.size := fun j hj => by
      obtain ⟨v', h2, _⟩ := hv j _ (List.getElem?_eq_getElem hj)
      exact (Array.getElem?_eq_some_iff.1 h2).1
    have hk : 0 < k → o + off + k ≤ c.size := fun h0 => by have := hin (off + k - 1) (by omega); omega
    refine ⟨⟨?_, fun j v hj => ?_⟩, by simp; omega, hk⟩
    · simp only [List.length_take, List.length_drop, Array.length_toList]
      by_cases h0 : k = 0
      · omega
      · have := hk (by omega); omega
    · rw [List.getElem?_take] at hj ⊢
      split at hj
      · rename_i hjk
        rw [List.getElem?_drop] at hj
        obtain ⟨v', h2, h3⟩ := hv _ v hj
        exact ⟨v', by rw [if_pos hjk, List.getElem?_drop, Array.getElem?_toList, ← h2]; congr 1; omega, h3⟩
      · cases hj
  · cases hl
theorem frz_of {n o : Nat} {r : List Value} {c : Array Value} (h : VRL C n ρ w r ((c.toList.drop o).take r.length)) : ∀ j, j < r.toArray.size → VR C n ρ w (r.toArray.getD j undef) (c.getD (o + j) undef) := by
  intro j hj
  have hj' : j < r.length := by simpa using hj
  obtain ⟨u, hu, hv⟩ := h.2 j r[j] (List.getElem?_eq_getElem hj')
  rw [List.getElem?_take, if_pos hj', List.getElem?_drop, Array.getElem?_toList] at hu
  obtain ⟨hc, rfl⟩ := Array.getElem?_eq_some_iff.1 hu
  rw [getD_get hj, getD_get hc]
  simpa using hv
theorem mapM_len {f : Value → Option Value} : ∀ {l r : List Value}, l.mapM f = some r → r.length = l.length
  | [], r, h => by simp at h; subst h; rfl
  | x :: l, r, h => by
    rw [List.mapM_cons] at h
    cases hx : f x with
    | none => simp [hx] at h
    | some y => cases hl : l.mapM f with
      | none => simp [hx, hl] at h
      | some t => simp [hx, hl] at h; subst h; simp [mapM_len hl]
theorem mapM_rel {n1 n2 : Nat} {ρ1 ρ2 : Rho} {f : Value → Option Value} (hf : ∀ v v' u, VR C n1 ρ1 w v v' → f v = some u → VR C n2 ρ2 w u v') : ∀ {l l' r : List Value}, VRL C n1 ρ1 w l l' → l.mapM f = some r → VRL C n2 ρ2 w r l'
  | [], l', r, h, hm => by
    simp at hm; subst hm
    have : l' = [] := List.length_eq_zero_iff.1 (by rw [← h.1]; rfl)
    subst this; exact .nil
  | x :: l, l', r, h, hm => by
    obtain ⟨x', t', rfl, h1, h2⟩ := h.uncons
    rw [List.mapM_cons] at hm
    cases hx : f x with
    | none => simp [hx] at hm
    | some y => cases hl : l.mapM f with
      | none => simp [hx, hl] at hm
      | some t => simp [hx, hl] at hm; subst hm; exact .cons (hf _ _ _ h1 hx) (mapM_rel hf h2 hl)
theorem freeze_rel {g : Nat → Option Ob} {s : Array Value} {lo n n1 : Nat} {ρ1 : Rho}
    (hA : ∀ i e vs, lo ≤ i → g i = some (.cells e vs) → OR C n ρ w i (.cells e vs) ∧ ρ1.cool s (ρ i).1)
    (hB : ∀ a b, (a = #[] ∨ s ≠ #[]) → ρ.cool a b → ρ1.cool s b)
    (hC : s ≠ #[] → ∀ v v', VR C n ρ w v v' → VR C n1 ρ1 w v v') : ∀ (k : Nat) (v v' u : Value), VR C n ρ w v v' → freeze C.P g s lo k v = some u → VR C n1 ρ1 w u v'
  | 0, v, v', u, hv, h => by cases h
  | k + 1, v, v', u, hv, h => by
    have ih := freeze_rel hA hB hC k
    unfold freeze at h
    split at h
    · cases h; have := hv.eq1 rfl; subst this; exact .frz0
    · cases h
      cases hv with
      | atom hf => simp [flat1] at hf
      | hollow => exact .frz0
    · rename_i i off m cp
      split at h
      · rename_i hi
        split at h
        · rename_i e vs hg
          obtain ⟨sz, hsz, h1⟩ := Option.bind_eq_some_iff.1 h
          split at h1
          · cases h1
          · rename_i hz
            obtain ⟨l, hl, h2⟩ := Option.bind_eq_some_iff.1 h1
            obtain ⟨r, hr, rfl⟩ := Option.map_eq_some_iff.1 h2
            obtain ⟨hor, hcool⟩ := hA i e vs hi hg
            cases hv with
            | atom hf => simp [flat1] at hf
            | slice hin hb ho hc hf =>
              rename_i b o cap
              obtain ⟨c, e', z, hcb, hcv, _⟩ := hor
              obtain ⟨q1, q2, q3⟩ := sub_cells hcv hl
              have hlr := mapM_len hr
              by_cases h0 : m = 0
              · subst h0
                have : r = [] := List.length_eq_zero_iff.1 (by rw [hlr, q2]; simp)
                subst this
                exact .frz0
              · have hpos : 0 < m * sz := Nat.mul_pos (by omega) (by omega)
                have ho' := ho (by omega)
                subst hb ho'
                have q4 := mapM_rel ih q1 hr
                have hrl : r.length = m * sz := by rw [hlr, q2]
                rw [← hrl] at q4
                exact .frz hc hcb hcool (by have := q3 hpos; simp; omega) (frz_of q4)
        · cases h
      · cases h
    · rename_i m p f a vs
      split at h
      · rename_i ha
        obtain ⟨r, hr, rfl⟩ := Option.map_eq_some_iff.1 h
        have hlr := mapM_len hr
        obtain ⟨a', cap, rfl, hc, ⟨rfl, rfl⟩ | ⟨b, o, c, e, z, rfl, hb, hi, hl, hvv⟩⟩ := frz_inv hv
        · have : r = [] := List.length_eq_zero_iff.1 (by rw [hlr]; rfl)
          subst this
          exact .frz0
        · obtain ⟨q1, q2, q3⟩ := sub_cells (frz_cells hl hvv) (off := 0) (k := vs.size) (l := vs.toList) (by
            unfold rdCells
            have hz : vs.toList.length = vs.size := Array.length_toList
            rw [if_pos (by omega), List.drop_zero, ← hz, List.take_length])
          have q4 := mapM_rel ih q1 hr
          have hrl : r.length = vs.size := by rw [hlr]; exact Array.length_toList
          rw [← hrl, Nat.add_zero] at q4
          exact .frz hc hb (hB _ _ ha hi) (by simp; omega) (frz_of q4)
      · cases h
    · split at h
      · cases h
      · rename_i hs; cases h; exact hC hs _ _ hv
    · obtain ⟨r, hr, rfl⟩ := Option.map_eq_some_iff.1 h
      obtain ⟨cs', rfl, hl⟩ := hv.agg_list
      have := VR.agg_of (mapM_rel ih hl hr)
      simpa using this
    · obtain ⟨r, hr, rfl⟩ := Option.map_eq_some_iff.1 h
      obtain ⟨cs', rfl, hl⟩ := hv.tuple_list
      have := VR.tuple_of (mapM_rel ih hl hr)
      simpa using this
    · obtain ⟨r, hr, rfl⟩ := Option.map_eq_some_iff.1 h
      cases hv with
      | atom hf => simp [flat1] at hf
      | iface h1 => exact .iface (ih _ _ _ h1 hr)
    · split at h
      · cases h
      · rename_i hs; cases h; exact hC hs _ _ hv
    · split at h
      · cases h
      · rename_i hs; cases h; exact hC hs _ _ hv
    · split at h
      · cases h
      · rename_i hs; cases h; exact hC hs _ _ hv
    · split at h
      · rename_i hf; cases h; have := hv.eq1 hf; subst this; exact .atom hf
      · cases h
/-- All blocks stay as they are while a clean call lasts. -/
def cold1 (ρ : Rho) (w : World) : Rho := ⟨ρ.at_, ρ.ice, fun b => b < w.heap.size⟩
theorem more_cold (hr : HR C ρ H w) : More H.next ρ w H.next (cold1 ρ w) w := ⟨Nat.le_refl _, fun _ _ => rfl, Keeps.refl w, fun _ h => ⟨h, rfl⟩, fun b h => ⟨(hr.snow b h).1, rfl⟩⟩
theorem HR.cold1 (hr : HR C ρ H w) : HR C (cold1 ρ w) ⟨H.get, H.next, H.next⟩ w :=
  ⟨hr.below, hr.hbase, Nat.le_trans hr.fm hr.mn, Nat.le_refl _, fun i o hi => ⟨(hr.ob i o hi).1, OR.same (n' := H.next) (more_cold hr) (hr.ob i o hi).1 (hr.ob i o hi).2 rfl⟩, hr.apart, hr.ice,
   fun b hb => ⟨hb, fun i hi hg => by
    obtain ⟨o, ho⟩ := Option.ne_none_iff_exists'.1 hg
    have h1 := (hr.ob i o ho).1
    have h2 : H.next ≤ i := hi
    omega⟩⟩
theorem snap_ok (hr : HR C ρ H w) {args args1 args' : List Value} (ha : VRL C H.next ρ w args args') (hm : args.mapM (freeze C.P H.get tg 0 9) = some args1) : VRL C H.next (L1.cold1 ρ w) w args1 args' :=
  mapM_rel (freeze_rel (fun i e vs _ hg => ⟨(hr.ob i _ hg).2, .inr ⟨by simp, (hr.ob i _ hg).2.block⟩⟩)
    (fun a b _ hc => .inr ⟨by simp, by rcases hc with h | ⟨_, h⟩; exact (hr.ice b h).1; exact (hr.snow b h).1⟩)
    (fun _ v v' h => h.mono (more_cold hr)) 9) ha hm
theorem iced_ok {ρ' : Rho} {w' : World} {H2 : Hp} (hr : HR C ρ H w) (g : Good C (L1.cold1 ρ w) ⟨H.get, H.next, H.next⟩ w ρ' H2 w') {u v' : Value} (hv : VR C H2.next ρ' w' v v') (hf : freeze C.P H2.get #[] H.next 9 v = some u) :
    ∃ ρ3, Good C ρ H w ρ3 H w' ∧ VR C H.next ρ3 w' u v' := by
  have hnone : ∀ i, H.next ≤ i → H.get i ≠ none → False := fun i hi hg => by
    obtain ⟨o, ho⟩ := Option.ne_none_iff_exists'.1 hg
    have := (hr.ob i o ho).1
    omega
  have hsame : ∀ b, b < w.heap.size → w'.heap[b]? = w.heap[b]? := fun b hb => g.calm b hb fun i hi hgi => (hnone i hi hgi).elim
  let ρ3 : Rho := ⟨ρ.at_, fun b => ρ'.ice b ∨ (w.heap.size ≤ b ∧ b < w'.heap.size), ρ.snow⟩
  have hmo : More H.next ρ w H.next ρ3 w' := ⟨Nat.le_refl _, fun _ _ => rfl, g.more.keeps, fun b h => ⟨.inl (g.more.ice b h).1, hsame b (hr.ice b h).1⟩, fun b h => ⟨h, hsame b (hr.snow b h).1⟩⟩
  refine ⟨ρ3, ⟨hmo, ⟨g.hr.below, g.hr.hbase, hr.fm, hr.mn, fun i o hi => ⟨(hr.ob i o hi).1, (hr.ob i o hi).2.same hmo (hr.ob i o hi).1 (hsame _ (hr.ob i o hi).2.block)⟩, hr.apart, fun b hb => ?_,
    fun b hb => ⟨Nat.lt_of_lt_of_le (hr.snow b hb).1 g.size, (hr.snow b hb).2⟩⟩, rfl, fun _ _ => rfl, g.size, fun b hb _ => hsame b hb, rfl, fun i hi hgi => .inl ⟨i, hi, hgi, rfl⟩⟩,
    freeze_rel (s := #[]) (fun i e vs hi hg => ?_) (fun a b ha hc => ?_) (fun h => absurd rfl h) 9 v v' u hv hf⟩
  · rcases hb with hb | ⟨h1, h2⟩
    · refine ⟨(g.hr.ice b hb).1, fun i hi hgi => ?_⟩
      obtain ⟨o, ho⟩ := Option.ne_none_iff_exists'.1 hgi
      have hlt := (hr.ob i o ho).1
      have e1 : H2.get i = H.get i := g.old i hlt
      have e2 : ρ' i = ρ i := g.more.rho i hlt
      have := (g.hr.ice b hb).2 i hi (by rw [e1]; exact hgi)
      rw [e2] at this
      exact this
    · refine ⟨h2, fun i hi hgi => ?_⟩
      obtain ⟨o, ho⟩ := Option.ne_none_iff_exists'.1 hgi
      have := (hr.ob i o ho).2.block
      show (ρ i).1 ≠ b
      omega
  · refine ⟨(g.hr.ob i _ hg).2, .inl (.inr ⟨?_, (g.hr.ob i _ hg).2.block⟩)⟩
    rcases g.born i hi (by rw [hg]; simp) with ⟨j, h1, h2, _⟩ | h1
    · exact (hnone j h1 h2).elim
    · exact h1
  · have ha : a = #[] := by rcases ha with h | h; exact h; exact absurd rfl h
    subst ha
    rcases hc with h | ⟨h, _⟩
    · exact .inl (.inl h)
    · exact absurd rfl h
theorem env_ok {n : Nat} {args : List Value} {args' : Array Value} (N : Nat) (hargs : VRL C n ρ w args args'.toList) : EnvR C n ρ w (fun i => args.getD i undef) { tmps := args' ++ Array.replicate (N - args'.size) undef, defers := [] } := by
  have hsz : args'.size = args.length := by rw [hargs.1, Array.length_toList]
  intro t
  by_cases ht : t < args.length
  · obtain ⟨u, hu, hv⟩ := hargs.2 t args[t] (List.getElem?_eq_getElem ht)
    have e1 : args.getD t undef = args[t] := by simp [List.getD_eq_getElem?_getD, List.getElem?_eq_getElem ht]
    have e2 : (args' ++ Array.replicate (N - args'.size) undef).getD t undef = u := by
      rw [Array.getD_eq_getD_getElem?, Array.getElem?_append_left (by omega)]
      rw [Array.getElem?_toList] at hu
      rw [hu]; rfl
    show VR C n ρ w (args.getD t undef) ((args' ++ Array.replicate (N - args'.size) undef).getD t undef)
    rw [e1, e2]; exact hv
  · have e1 : args.getD t undef = undef := by simp [List.getD_eq_getElem?_getD, List.getElem?_eq_none (by omega : args.length ≤ t)]
    have e2 : (args' ++ Array.replicate (N - args'.size) undef).getD t undef = undef := by
      rw [Array.getD_eq_getD_getElem?, Array.getElem?_append_right (by omega)]
      by_cases h9 : t - args'.size < N - args'.size
      · simp [h9]
      · simp [h9]
    show VR C n ρ w (args.getD t undef) ((args' ++ Array.replicate (N - args'.size) undef).getD t undef)
    rw [e1, e2]; exact VR.undef
/-- What is known of the functions that are asked. -/
structure TbOk (C : Cx) (T : Tb) : Prop where
  draws : C.P.follows .mixedOrders = true
  fns : ∀ F, T.ok F = true → okFn C.P F = true
  ext : ∀ F g, T.ext F = some g → ∀ args H e H', g args H = some (e, H') → FnOk C F args H e H' ∧ (T.quiet F = true → H' = H)
theorem both_ok {T : Tb} (hT : TbOk C T) : ∀ k, FnsOk C (both C.P T k).1 ∧ LpsOk C k (both C.P T k).2 ∧ QuietOk T.quiet (both C.P T k).1 := by
  intro k
  induction k with
  | zero => exact ⟨fun _ _ _ _ _ h => by (cases h), fun _ _ _ _ _ _ h => by (cases h), fun _ _ _ _ _ _ h => by (cases h)⟩
  | succ k ih =>
    obtain ⟨ih1, ih2, ih3⟩ := ih
    refine ⟨?_, ?_, ?_⟩
    · intro F args H e H' h
      simp only [both] at h
      unfold runWith at h
      split at h
      · rename_i g hg
        exact (hT.ext F g hg args H e H' h).1
      · obtain ⟨fn, hfn, h1⟩ := Option.bind_eq_some_iff.1 h
        obtain ⟨c, hc, h2⟩ := Option.bind_eq_some_iff.1 h1
        by_cases hok : (T.ok F && decide (args.length ≤ fn.ntmps)) = true
        · rw [if_neg (by simp [hok])] at h2
          simp only [Bool.and_eq_true, decide_eq_true_eq] at hok
          have hfo := hT.fns F hok.1
          unfold okFn at hfo
          rw [hfn] at hfo
          simp only [hc, Bool.and_eq_true, Bool.not_eq_true'] at hfo
          refine .inl ⟨⟨fn, hfn, hfo.2, by rw [hc]; rfl⟩, fun ρ w args' hr hargs => ?_⟩
          have hsz : args'.size = args.length := by rw [hargs.1, Array.length_toList]
          have henv := env_ok fn.ntmps hargs
          have hN : ({ tmps := args' ++ Array.replicate (fn.ntmps - args'.size) undef, defers := [] } : Act).tmps.size = fn.ntmps := by
            simp only [Array.size_append, Array.size_replicate]; omega
          -- its end
          have fin : ∀ (ρ : Rho) (H1 : Hp) (r : Exit × Env × Hp) (e1 : Ending) (H2 : Hp) (R : Ending → World → Prop), leave C.P fn r = some (e1, H2) →
              (∀ ρ' w' e', Good C ρ H1 w ρ' H2 w' → EndR C H2.next ρ' w' e1 e' → R e' w') → Ends C fn.ntmps ρ H1 w r (bodyPost C.P fn R) := by
            intro ρ H1 r e1 H2 R hl hR a' w' ρ' g he' hN' hd'
            unfold leave at hl
            split at hl
            · rename_i hre
              obtain ⟨l, hl1, hl2⟩ := Option.map_eq_some_iff.1 hl
              cases hl2
              obtain ⟨v', q1, q2⟩ := results_ok g.hr he' hl1
              rw [hre]
              exact ⟨hd', v', q1, hR ρ' w' _ g q2⟩
            · rename_i hre
              obtain ⟨l, hl1, hl2⟩ := Option.map_eq_some_iff.1 hl
              cases hl2
              obtain ⟨v', q1, q2⟩ := results_ok g.hr he' hl1
              rw [hre]
              exact ⟨hd', v', q1, hR ρ' w' _ g q2⟩
            · rename_i ch hre
              cases hl
              rw [hre]
              exact ⟨hd', hR ρ' w' (.panicked ch) g rfl⟩
            · cases hl
          refine calls_of_wp hfn hc ?_
          split at h2
          · split at h2
            · obtain ⟨args1, ha1, h3⟩ := Option.bind_eq_some_iff.1 h2
              obtain ⟨⟨e1, H2⟩, h4, h5⟩ := Option.bind_eq_some_iff.1 h3
              obtain ⟨r, h6, h7⟩ := Option.bind_eq_some_iff.1 h4
              refine execC_ok hT.draws ih1 ih3 ih2 c _ _ r hfo.1 h6 (L1.cold1 ρ w) w _ _ hr.cold1 (env_ok fn.ntmps (snap_ok hr hargs ha1)) hN rfl (fin _ _ r e1 H2 _ h7 fun ρ' w' e' g hE => ?_)
              unfold iced at h5
              cases e1 with
              | returned v =>
                simp only at h5
                cases e' with
                | returned v' =>
                  obtain ⟨u, hu, h8⟩ := Option.map_eq_some_iff.1 h5
                  cases h8
                  exact iced_ok hr g hE hu
                | _ => exact hE.elim
              | panicked ch =>
                cases e' with
                | panicked ch' =>
                  cases h5
                  have hch : ch' = ch := hE
                  subst hch
                  obtain ⟨ρ3, h8, _⟩ := iced_ok (v := .bool true) (u := .bool true) (v' := .bool true) hr g (.of1 rfl) rfl
                  exact ⟨ρ3, h8, rfl⟩
                | _ => exact hE.elim
              | outgrown => cases e' <;> exact hE.elim
            · cases h2
          split at h2
          · obtain ⟨⟨e1, H2⟩, h3, h4⟩ := Option.bind_eq_some_iff.1 h2
            obtain ⟨r, h5, h6⟩ := Option.bind_eq_some_iff.1 h3
            have hr1 : HR C ρ ⟨H.get, H.next, H.next⟩ w := ⟨hr.below, hr.hbase, Nat.le_trans hr.fm hr.mn, Nat.le_refl _, hr.ob, hr.apart, hr.ice, fun b hb => ⟨(hr.snow b hb).1, fun i hi hg => by
              obtain ⟨o, ho⟩ := Option.ne_none_iff_exists'.1 hg
              have h1 := (hr.ob i o ho).1
              have h2 : H.next ≤ i := hi
              omega⟩⟩
            refine execC_ok hT.draws ih1 ih3 ih2 c _ _ r hfo.1 h5 ρ w _ _ hr1 henv hN rfl (fin _ _ r e1 H2 _ h6 fun ρ' w' e' g hE => ?_)
            unfold fenced at h4
            cases e1 with
            | returned v =>
              simp only at h4
              cases e' with
              | returned v' =>
                split at h4
                · rename_i hfl
                  cases h4
                  have hve := VR.eqF hE hfl
                  subst hve
                  exact ⟨ρ, hr.back (H1 := ⟨H.get, H.next, H.next⟩) rfl rfl rfl g, VR.ofF hfl⟩
                · split at h4
                  · split at h4
                    · rename_i hpl
                      cases h4
                      have hE : VR C H2.next ρ' w' v v' := hE
                      obtain ⟨i, off, rfl, hi⟩ := place_is hpl
                      have hrho : ρ' i = ρ i := g.more.rho i hi
                      refine ⟨ρ, hr.back (H1 := ⟨H.get, H.next, H.next⟩) rfl rfl rfl g, ?_⟩
                      show VR C H.next ρ w' _ v'
                      cases hE with
                      | atom hf => simp [flat1] at hf
                      | ptr h => rw [hrho]; exact .ptr hi
                    · cases h4
                  · cases h4
                    exact ⟨ρ', ⟨g.more, ⟨g.hr.below, g.hr.hbase, hr.fm, Nat.le_trans hr.mn g.more.le, g.hr.ob, g.hr.apart, g.hr.ice, fun b hb => ⟨(g.hr.snow b hb).1, fun i hi hgi => by
                      by_cases hin : i < H.next
                      · have e1 : H2.get i = H.get i := g.old i hin
                        have e2 : ρ' i = ρ i := g.more.rho i hin
                        rw [g.snow] at hb
                        rw [e2]; exact (hr.snow b hb).2 i hi (by rw [← e1]; exact hgi)
                      · exact (g.hr.snow b hb).2 i (by rw [g.mark]; show H.next ≤ i; omega) hgi⟩⟩, rfl, fun i hi => g.old i (Nat.lt_of_lt_of_le hi hr.mn), g.size, fun b hb hs => g.calm b hb (fun i hi hgi => hs i (Nat.le_trans hr.mn hi) hgi), g.snow, fun i hi hgi => by
                        by_cases hin : i < H.next
                        · have e1 : H2.get i = H.get i := g.old i hin
                          have e2 : ρ' i = ρ i := g.more.rho i hin
                          exact .inl ⟨i, hi, by rw [← e1]; exact hgi, by rw [e2]⟩
                        · rcases g.born i (by show H.next ≤ i; omega) hgi with ⟨j, h1, h2, h3⟩ | h1
                          · exact .inl ⟨j, Nat.le_trans hr.mn h1, h2, h3⟩
                          · exact .inr h1⟩, hE⟩
              | _ => exact hE.elim
            | panicked ch =>
              cases e' with
              | panicked ch' =>
                cases h4
                have : ch' = ch := hE
                subst this
                exact ⟨ρ, hr.back (H1 := ⟨H.get, H.next, H.next⟩) rfl rfl rfl g, rfl⟩
              | _ => exact hE.elim
            | outgrown => cases e' <;> exact hE.elim
          · split at h2
            · cases h2
            · obtain ⟨r, h5, h6⟩ := Option.bind_eq_some_iff.1 h2
              exact execC_ok hT.draws ih1 ih3 ih2 c _ _ r hfo.1 h5 ρ w _ _ hr henv hN rfl (fin _ _ r e H' _ h6 fun ρ' w' e' g hE => ⟨ρ', g, hE⟩)
        · rw [if_pos (by simp [hok])] at h2; cases h2
    · intro N c σ H r hok h ρ w a Q hr he hN hd hQ
      simp only [both] at h
      unfold round at h
      obtain ⟨⟨e, σ1, H1⟩, h1, h2⟩ := Option.bind_eq_some_iff.1 h
      rw [rounds_succ]
      refine execC_ok hT.draws ih1 ih3 ih2 c σ H _ hok h1 ρ w a _ hr he hN hd fun a' w' ρ' g he' hN' hd' => ?_
      cases e with
      | normal => exact ih2 N c σ1 H1 r hok h2 ρ' w' a' Q g.hr he' hN' hd' (hQ.from g)
      | _ => cases h2; exact hQ a' w' ρ' g he' hN' hd'
    · intro F hF args H e H' h
      simp only [both] at h
      unfold runWith at h
      split at h
      · rename_i g hg
        exact (hT.ext F g hg args H e H' h).2 hF
      · obtain ⟨fn, hfn, h1⟩ := Option.bind_eq_some_iff.1 h
        obtain ⟨c, hc, h2⟩ := Option.bind_eq_some_iff.1 h1
        split at h2
        · cases h2
        split at h2
        · split at h2
          · obtain ⟨_, _, h3⟩ := Option.bind_eq_some_iff.1 h2
            obtain ⟨⟨e1, H2⟩, h4, h5⟩ := Option.bind_eq_some_iff.1 h3
            unfold iced at h5
            cases e1 with
            | returned v => obtain ⟨u, _, h8⟩ := Option.map_eq_some_iff.1 h5; cases h8; rfl
            | panicked ch => cases h5; rfl
            | outgrown => cases h5
          · cases h2
        · split at h2
          · obtain ⟨⟨e1, H2⟩, h3, h4⟩ := Option.bind_eq_some_iff.1 h2
            unfold fenced at h4
            cases e1 with
            | returned v =>
              simp only [hF, if_true] at h4
              split at h4
              · cases h4; rfl
              · split at h4
                · cases h4; rfl
                · cases h4
            | panicked ch => cases h4; rfl
            | outgrown => cases h4
          · first | (cases h2; done) | (split at h2 <;> first | (cases h2; done) | (rename_i hnq; exact absurd hF (by simpa using hnq)))
/-- **What the interpreter answers, the model does.** -/
theorem run_ok {T : Tb} (hT : TbOk C T) {F : FuncId} {args : List Value} {e : Ending} (h : run C.P T F args H = some (e, H')) : FnOk C F args H e H' := by
  obtain ⟨k, hk⟩ := run_iff.1 h
  exact (both_ok hT k).1 F args H e H' hk
end Go.L1
