/- Each operation of the interpreter is the model's: what is built, sliced, converted, appended, looked up. -/
import Derived.Test.YtokbhihfooaijaaL1E
namespace Go.L1
open Go.RowKit
set_option linter.unusedVariables false
set_option linter.unusedSimpArgs false
variable {C : Cx} {ρ : Rho} {H H' : Hp} {w : World} {σ : Env} {a : Act} {v : Value}
/-- Behind a new block the old cells stand as they stood. -/
theorem more_push (hr : HR C ρ H w) {O : Obj} {w' : World} (hh : w'.heap = w.heap.push O) : More H.next ρ w (H.next + 1) (up ρ H.next (w.heap.size, 0)) w' :=
  hr.more (Nat.le_succ _) (fun i hi => by exact up_ne (by omega)) (fun b c e fz h => ⟨c, fz, by rw [hh, Array.getElem?_push, if_neg (by have := (Array.getElem?_eq_some_iff.1 h).1; omega)]; exact h, rfl⟩) rfl rfl (fun b hb _ => by rw [hh, Array.getElem?_push, if_neg (by omega)])
theorem row_elem {P : Program} {t e : TypeId} (h : rowOf P t = some e) : elemOf P t = some e := by
  unfold rowOf at h
  split at h
  · exact h
  · cases h
theorem lone_row {P : Program} {t e : TypeId} (h : rowOf P t = some e) : lone P e = false := by
  unfold rowOf at h
  split at h
  · rename_i ht
    cases hl : lone P e with
    | false => rfl
    | true =>
      unfold lone at hl
      simp only [Bool.and_eq_true, List.all_eq_true, List.mem_range] at hl
      have := hl.2 t ht
      simp [h] at this
  · cases h
theorem lone_num {P : Program} {e : TypeId} {k : IntKind} (h : P.underlying e = some (.int k)) : lone P e = false := by simp [lone, h]
/-- A new row. -/
theorem HR.fresh_cells (hr : HR C ρ H w) {vs : List Value} {c : Array Value} {e : TypeId} {fz : Nat × Nat} {w' : World} (hh : w'.heap = w.heap.push (.cells c e fz)) (hc : Calm w w') (hf : cold fz c.size) (hlone : lone C.P e = true → c.size = vs.length)
    (hv : ∀ (j : Nat) (v : Value), vs[j]? = some v → ∃ v' : Value, c[j]? = some v' ∧ VR C H.next ρ w v v') : Good C ρ H w (up ρ H.next (w.heap.size, 0)) (H.new (.cells e vs)) w' := by
  have hm := more_push hr hh
  refine hr.fresh hh hc ⟨c, e, fz, by rw [up_same, hh, Array.getElem?_push, if_pos rfl], fun j v hj => ?_, fun _ => ⟨rfl, by rw [up_same]; exact hr.hbase, hf, fun hx => ⟨by rw [up_same], hlone hx⟩⟩⟩
  obtain ⟨v', h1, h2⟩ := hv j v hj
  exact ⟨v', by rw [up_same, Nat.zero_add]; exact h1, h2.mono hm⟩
theorem cold0 (n : Nat) : cold (0, 0) n := fun off _ => by simp
theorem HR.fresh_list (hr : HR C ρ H w) {vs vs' : List Value} {e : TypeId} (hv : VRL C H.next ρ w vs vs') : Good C ρ H w (up ρ H.next (w.heap.size, 0)) (H.new (.cells e vs)) { w with heap := w.heap.push (.cells vs'.toArray e (0, 0)) } :=
  hr.fresh_cells rfl ⟨rfl, rfl, rfl⟩ (cold0 _) (fun _ => by simpa using hv.1.symm) fun j v hj => let ⟨u, h1, h2⟩ := hv.2 j v hj; ⟨u, by simpa using h1, h2⟩
theorem VR.new_ptr (hr : HR C ρ H w) {w' : World} (o : Ob) : VR C (H.new o).next (up ρ H.next (w.heap.size, 0)) w' (Go.L1.ptr H.next 0) (.pointer (some ⟨w.heap.size, 0, none⟩)) := by
  have := VR.ptr (C := C) (n := H.next + 1) (ρ := up ρ H.next (w.heap.size, 0)) (w := w') (i := H.next) (off := 0) (Nat.lt_succ_self _)
  rw [up_same] at this
  exact this
theorem VR.new_slice (hr : HR C ρ H w) {w' : World} {c : Array Value} {e : TypeId} {fz : Nat × Nat} {o : Ob} (hh : w'.heap = w.heap.push (.cells c e fz)) {n cap : Nat} (hn : n ≤ cap) (hc : ∀ sz, szOf C.P e = some sz → cap * sz ≤ c.size) :
    VR C (H.new o).next (up ρ H.next (w.heap.size, 0)) w' (slc H.next 0 n) (.slice (some ⟨w.heap.size, 0, none⟩) n cap) := by
  refine .slice (Nat.lt_succ_self _) (by rw [up_same]) (fun _ => by rw [up_same]) hn fun _ => ⟨c, e, fz, by rw [hh, Array.getElem?_push, if_pos rfl], fun sz hsz => by have := hc sz hsz; omega⟩
-- ---- values alone
theorem unOp_ok {op : UnOp} {x x' : Value} {n : Nat} (hx : VR C n ρ w x x') (h : un op x = some v) :
    (Op.unary op x').run C.P w = .ok v w ∧ flat1 v = true := by
  unfold un at h
  cases op <;> (try simp only at h) <;> (try (exfalso; cases h; done))
  · cases x <;> simp at h
    have := hx.int; subst this; subst h; exact ⟨by simp [Op.unary, Op.intArith], rfl⟩
  · cases x <;> simp at h
    have := hx.bool; subst this; subst h; exact ⟨by simp [Op.unary], rfl⟩
theorem isNil_ok {P : Program} {t : TypeId} {x x' : Value} {n : Nat} {b : Bool} (hx : VR C n ρ w x x') (h : isNil P t x = some b) : isNil P t x' = some b := by
  unfold isNil at h ⊢
  generalize P.underlying t = u at h ⊢
  cases hx with
  | atom => exact h
  | _ => cases u with
    | none => cases h
    | some d => cases d <;> first | (simp at h; done) | (simp at h ⊢; first | exact h | done)
theorem eqn_slice {P : Program} {t e : TypeId} (ht : P.underlying t = some (.slice e)) (x : Option Addr) (n c : Nat) (w : World) :
    (Op.equal t (.slice none 0 0) (.slice x n c)).run P w = .ok x.isNone w ∧ (Op.equal t (.slice x n c) (.slice none 0 0)).run P w = .ok x.isNone w := by
  constructor <;> (show (Op.equalIn (9999 + 1) _ _ _).run P w = _; rw [Op.equalIn]; cases x <;> simp [run_underlying ht])
theorem eqn_ptr {P : Program} {t e : TypeId} (ht : P.underlying t = some (.pointer e)) (x : Option Addr) (w : World) :
    (Op.equal t (.pointer none) (.pointer x)).run P w = .ok x.isNone w ∧ (Op.equal t (.pointer x) (.pointer none)).run P w = .ok x.isNone w := by
  constructor <;> (show (Op.equalIn (9999 + 1) _ _ _).run P w = _; rw [Op.equalIn]; cases x <;> simp [run_underlying ht])
theorem eqn_map {P : Program} {t k e : TypeId} (ht : P.underlying t = some (.map k e)) (x : Option Nat) (w : World) :
    (Op.equal t (.map none) (.map x)).run P w = .ok x.isNone w ∧ (Op.equal t (.map x) (.map none)).run P w = .ok x.isNone w := by
  constructor <;> (show (Op.equalIn (9999 + 1) _ _ _).run P w = _; rw [Op.equalIn]; cases x <;> simp [run_underlying ht])
theorem eqn_func {P : Program} {t : TypeId} {ps rs : Array TypeId} {vd : Bool} (ht : P.underlying t = some (.func ps rs vd)) (f : Fn) (a b : Array Value) (w : World) :
    (Op.equal t .nilFunc (.func f a b)).run P w = .ok false w ∧ (Op.equal t (.func f a b) .nilFunc).run P w = .ok false w ∧ (Op.equal t .nilFunc .nilFunc).run P w = .ok true w := by
  refine ⟨?_, ?_, ?_⟩ <;> (show (Op.equalIn (9999 + 1) _ _ _).run P w = _; rw [Op.equalIn]; simp [run_underlying ht])
/-- What a comparison with nil says, whichever side it stands on. -/
def NilSays (P : Program) (t : TypeId) (c x : Value) (b : Bool) (w : World) : Prop :=
  (∀ ox oy, (do eqGuard .eql t ox oy c x; binOp .eql t c x : Sem Value).run P w = .ok (.bool b) w ∧ (do eqGuard .eql t ox oy x c; binOp .eql t x c : Sem Value).run P w = .ok (.bool b) w) ∧
  (∀ ox oy, (do eqGuard .neq t ox oy c x; binOp .neq t c x : Sem Value).run P w = .ok (.bool !b) w ∧ (do eqGuard .neq t ox oy x c; binOp .neq t x c : Sem Value).run P w = .ok (.bool !b) w)
theorem equal_nil {P : Program} {t : TypeId} {c : Value} {x' : Value} {b : Bool} (hc : nilConst P t (.const c) = true) (h : isNil P t x' = some b) (w : World) : NilSays P t c x' b w := by
  unfold isNil at h
  cases c with
  | slice ca n cp =>
    cases ca with
    | some _ => simp [nilConst] at hc
    | none => cases n with
      | succ _ => simp [nilConst] at hc
      | zero => cases cp with
        | succ _ => simp [nilConst] at hc
        | zero =>
          cases hu : P.underlying t with
          | none => simp [nilConst, hu] at hc
          | some d =>
            rw [hu] at h
            cases d <;> first | (simp [nilConst, hu] at hc; done) | skip
            cases x' <;> first | (simp at h; done) | skip
            rename_i e xa xn xc
            cases h
            have hs := eqn_slice hu xa xn xc w
            exact ⟨fun _ _ => ⟨by simp [eqGuard, binOp, hs.1], by simp [eqGuard, binOp, hs.2]⟩, fun _ _ => ⟨by simp [eqGuard, binOp, hs.1], by simp [eqGuard, binOp, hs.2]⟩⟩
  | pointer ca =>
    cases ca with
    | some _ => simp [nilConst] at hc
    | none =>
      cases hu : P.underlying t with
      | none => simp [nilConst, hu] at hc
      | some d =>
        rw [hu] at h
        cases d <;> first | (simp [nilConst, hu] at hc; done) | skip
        cases x' <;> first | (simp at h; done) | skip
        rename_i e xa
        cases h
        have hs := eqn_ptr hu xa w
        exact ⟨fun _ _ => ⟨by simp [eqGuard, binOp, hs.1], by simp [eqGuard, binOp, hs.2]⟩, fun _ _ => ⟨by simp [eqGuard, binOp, hs.1], by simp [eqGuard, binOp, hs.2]⟩⟩
  | map ca =>
    cases ca with
    | some _ => simp [nilConst] at hc
    | none =>
      cases hu : P.underlying t with
      | none => simp [nilConst, hu] at hc
      | some d =>
        rw [hu] at h
        cases d <;> first | (simp [nilConst, hu] at hc; done) | skip
        cases x' <;> first | (simp at h; done) | skip
        rename_i k e xa
        cases h
        have hs := eqn_map hu xa w
        exact ⟨fun _ _ => ⟨by simp [eqGuard, binOp, hs.1], by simp [eqGuard, binOp, hs.2]⟩, fun _ _ => ⟨by simp [eqGuard, binOp, hs.1], by simp [eqGuard, binOp, hs.2]⟩⟩
  | nilFunc =>
    cases hu : P.underlying t with
    | none => simp [nilConst, hu] at hc
    | some d =>
      rw [hu] at h
      cases d <;> first | (simp [nilConst, hu] at hc; done) | skip
      cases x' <;> first | (simp at h; done) | skip
      · rename_i ps rs vd f a b
        cases f <;> first | (simp at h; done) | skip
        rename_i fi
        cases h
        have hs := eqn_func hu (.func fi) a b w
        exact ⟨fun _ _ => ⟨by simp [eqGuard, binOp, hs.1], by simp [eqGuard, binOp, hs.2.1]⟩, fun _ _ => ⟨by simp [eqGuard, binOp, hs.1], by simp [eqGuard, binOp, hs.2.1]⟩⟩
      · rename_i ps rs vd
        cases h
        have hs := eqn_func hu (.func 0) #[] #[] w
        exact ⟨fun _ _ => ⟨by simp [eqGuard, binOp, hs.2.2], by simp [eqGuard, binOp, hs.2.2]⟩, fun _ _ => ⟨by simp [eqGuard, binOp, hs.2.2], by simp [eqGuard, binOp, hs.2.2]⟩⟩
  | _ => simp [nilConst] at hc
end Go.L1
