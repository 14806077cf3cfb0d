/- Blocks beside the interpreter's: the records of loops over functions, the marks of their deferred calls. -/
import Derived.Test.YtokbhihfooaijaaL1Q
import Derived.RangeFuncLeaves
import Derived.RangeFuncRecord
namespace Go.L1
open Go.RowKit
set_option linter.unusedVariables false
set_option linter.unusedSimpArgs false
variable {C : Cx} {ρ : Rho} {H H' : Hp} {w : World} {σ : Env} {a : Act} {v : Value}
/-- A new block that the interpreter knows nothing of. -/
theorem HR.extra (hr : HR C ρ H w) {O : Obj} {w' : World} (hh : w'.heap = w.heap.push O) (hc : Calm w w') : Good C ρ H w ρ H w' := by
  have hold : ∀ k, k < w.heap.size → w'.heap[k]? = w.heap[k]? := fun k hk => by rw [hh, Array.getElem?_push, if_neg (by omega)]
  have hk : Keeps w w' := fun b c e fz h => ⟨c, fz, by rw [hold b (Array.getElem?_eq_some_iff.1 h).1]; exact h, rfl⟩
  have hz : w'.heap.size = w.heap.size + 1 := by rw [hh, Array.size_push]
  have hb := hr.hbase
  have hm : More H.next ρ w H.next ρ w' := hr.more (Nat.le_refl _) (fun _ _ => rfl) hk rfl rfl (fun b hb _ => hold b hb)
  exact ⟨hm, ⟨hr.below.trans ⟨hc.os, hc.tape, hc.output, by omega, fun k hk => hold k (by omega)⟩, by omega, hr.fm, hr.mn, fun i o hg => ⟨(hr.ob i o hg).1, (hr.ob i o hg).2.same hm (hr.ob i o hg).1 (hold _ (hr.ob i o hg).2.block)⟩, hr.apart,
    fun b hb => ⟨by have := (hr.ice b hb).1; omega, (hr.ice b hb).2⟩, fun b hb => ⟨by have := (hr.snow b hb).1; omega, (hr.snow b hb).2⟩⟩, rfl, fun _ _ => rfl, by omega, fun b hb _ => hold b hb, rfl, fun i hi hg => .inl ⟨i, hi, hg, rfl⟩⟩
/-- Values hang on blocks of cells alone. -/
theorem VR.cells_same {n : Nat} {w' : World} (hk : ∀ (b : Nat) (c : Array Value) (e : TypeId) (fz : Nat × Nat), w.heap[b]? = some (Obj.cells c e fz) → w'.heap[b]? = some (Obj.cells c e fz)) {v v' : Value} (h : VR C n ρ w v v') : VR C n ρ w' v v' := by
  induction h with
  | atom h => exact .atom h
  | ptr h => exact .ptr h
  | slice h hb ho hc hf => exact .slice h hb ho hc fun hi => let ⟨c, e, fz, h1, h2⟩ := hf hi; ⟨c, e, fz, hk _ _ _ _ h1, h2⟩
  | map h => exact .map h
  | hollow => exact .hollow
  | func ha _ hb _ iha ihb => exact .func ha iha hb ihb
  | yield h => exact .yield h
  | agg ha _ ih => exact .agg ha ih
  | tuple ha _ ih => exact .tuple ha ih
  | iface _ ih => exact .iface ih
  | frz0 => exact .frz0
  | frz hc hb hi hl _ ih => exact .frz hc (hk _ _ _ _ hb) hi hl ih
  | fpl hb hi hl _ ih => exact .fpl (hk _ _ _ _ hb) hi hl ih
/-- A block of marks is shut. -/
theorem Good.shut {ρ' : Rho} {w' : World} (g : Good C ρ H w ρ' H' w') (hr0 : HR C ρ H w) {D : Nat} {O : Obj} (h1 : w.heap.size ≤ D) (h2 : H'.still ρ' D) (h3 : w'.heap[D]? = some (.deferred (some []))) : Good C ρ H w ρ' H' (w'.putObj D O) := by
  have hD := (Array.getElem?_eq_some_iff.1 h3).1
  have hoth : ∀ k, k ≠ D → (w'.putObj D O).heap[k]? = w'.heap[k]? := fun k hk => World.putObj_heap_other hk
  have hcs : ∀ (b : Nat) (c : Array Value) (e : TypeId) (fz : Nat × Nat), w'.heap[b]? = some (Obj.cells c e fz) → (w'.putObj D O).heap[b]? = some (Obj.cells c e fz) := fun b c e fz h => by
    rw [hoth b (fun e => by subst e; rw [h3] at h; cases h)]; exact h
  have hb0 := hr0.hbase
  have hne : ∀ i o, H'.get i = some o → (ρ' i).1 ≠ D := fun i o hg e => by
    by_cases hm : H'.mark ≤ i
    · exact h2 i hm (by rw [hg]; simp) e
    · have hm' : i < H.mark := by rw [g.mark] at hm; omega
      have hg0 : H.get i = some o := by rw [← g.old i hm']; exact hg
      have q1 := hr0.ob i o hg0
      have q2 := g.more.rho i q1.1
      have q3 := q1.2.block
      rw [q2] at e
      omega
  refine ⟨⟨g.more.le, g.more.rho, fun b c e fz h => ?_, fun b h => ⟨(g.more.ice b h).1, ?_⟩, fun b h => ⟨(g.more.snow b h).1, ?_⟩⟩, ⟨?_, by rw [World.putObj_size]; exact g.hr.hbase, g.hr.fm, g.hr.mn, fun i o hg => ⟨(g.hr.ob i o hg).1, ?_⟩, g.hr.apart, fun b hb => by rw [World.putObj_size]; exact g.hr.ice b hb, fun b hb => by rw [World.putObj_size]; exact g.hr.snow b hb⟩, g.mark, g.old, by rw [World.putObj_size]; exact g.size, fun b hb hs => ?_, g.snow, g.born⟩
  · obtain ⟨c', fz', q1, q2⟩ := g.more.keeps b c e fz h
    exact ⟨c', fz', hcs _ _ _ _ q1, q2⟩
  · rw [hoth b (by have := (hr0.ice b h).1; omega)]; exact (g.more.ice b h).2
  · rw [hoth b (by have := (hr0.snow b h).1; omega)]; exact (g.more.snow b h).2
  · exact g.hr.below.trans ⟨rfl, rfl, rfl, by rw [World.putObj_size]; exact Nat.le_refl _, fun k hk => hoth k (by omega)⟩
  · have hn := hne i o hg
    have ho := (g.hr.ob i o hg).2
    cases o with
    | cells e vs =>
      obtain ⟨c, e', fz, hc, hv, hf⟩ := ho
      exact ⟨c, e', fz, hcs _ _ _ _ hc, fun j v hj => let ⟨v', q1, q2⟩ := hv j v hj; ⟨v', q1, q2.cells_same hcs⟩, hf⟩
    | map es =>
      obtain ⟨h1, h2, en, ck, hc, hs, hv⟩ := ho
      exact ⟨h1, h2, en, ck, by rw [hoth _ hn]; exact hc, hs, fun j e hj => let ⟨e', q1, q2, q3, q4⟩ := hv j e hj; ⟨e', q1, q2, q3, q4.cells_same hcs⟩⟩
    | loop s ps a b st pe =>
      obtain ⟨h1, h2, fn, tmps, D', hc, hv, h3⟩ := ho
      exact ⟨h1, h2, fn, tmps, D', by rw [hoth _ hn]; exact hc, fun t => (hv t).cells_same hcs, h3⟩
  · rw [hoth b (by omega)]; exact g.calm b hb hs
theorem EnvR.shut {n : Nat} {D : Nat} {O : Obj} (h3 : w.heap[D]? = some (.deferred (some []))) (h : EnvR C n ρ w σ a) : EnvR C n ρ (w.putObj D O) σ a := fun t => (h t).cells_same fun b c e fz hb => by
  rw [World.putObj_heap_other (fun e => by subst e; rw [h3] at hb; cases hb)]; exact hb
/-- A function's way out, past its marks. -/
theorem leaves_marks {ro : Option Nat} {fn : Func} {tmps : Array Value} {R : Ending → World → Prop} {u : FrameMode} (hu : u ≠ .run) (hr0 : HR C ρ H w) {n : Nat} {ρ' : Rho} (hl : ∀ w'', Good C ρ H w ρ' H' w'' → EnvR C H'.next ρ' w'' σ a → LeavesIn (FR ro) n C.P fn tmps R [] u w'') :
    ∀ (ds : List Deferred) (w' : World), Good C ρ H w ρ' H' w' → EnvR C H'.next ρ' w' σ a → Mk w.heap.size ρ' H' w' ds → LeavesInM (FR ro) n C.P fn tmps R ds u w'
  | [], w', g, he, _ => hl w' g he
  | d :: ds, w', g, he, hm => by
    obtain ⟨D, e, h1, h2, h3⟩ := hm.2.2 d (.head _)
    refine ⟨hu, .inl ⟨D, w'.putObj D (.deferred none), by rw [e], run_takeDeferred h3, leaves_marks hu hr0 hl ds _ (g.shut hr0 h1 h2 h3) (he.shut h3) ⟨by rw [World.putObj_size]; exact hm.1, (List.pairwise_cons.1 hm.2.1).2, fun d' hd' => ?_⟩⟩⟩
    obtain ⟨D', e', k1, k2, k3⟩ := hm.2.2 d' (.tail _ hd')
    refine ⟨D', e', k1, k2, ?_⟩
    have hne := (List.pairwise_cons.1 hm.2.1).1 d' hd'
    rw [World.putObj_heap_other (fun h => hne (by rw [e, e', h]))]
    exact k3
theorem okAssign_range : ∀ {c : Code}, okAssign c = true → noRange c = true
  | .seq a b, h => by
    simp only [okAssign, Bool.and_eq_true] at h
    simp only [noRange, Bool.and_eq_true]
    exact ⟨okAssign_range h.1, okAssign_range h.2⟩
  | .skip, _ | .label _, _ | .region .., _ => rfl
  | .cond .., h | .block .., h | .loop _, h | .scope _, h | .rangeFunc .., h | .exit _, h | .goto _, h | .ret, h | .refuse _, h => by cases h
end Go.L1
