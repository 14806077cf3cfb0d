/- The one statement that is left of RelocReads: what is read off any view is what the reference reads. -/
import Derived.Test.YtkjmecbbdccfoaaSRelocReads
import Derived.Test.YtkjmecbbdccfoaaQRelocRead
import Derived.Test.YtkjmecbbdccfoaaQRFill
namespace Go.Proofs.Ytkjmecbbdccfoaa.X
open Go.RowKit Go.Proofs.YtkjmecbbdccfoaaW.PrintWords Go.Proofs.YtkjmecbbdccfoaaW.PrintLast Go.Proofs.YtkjmecbbdccfoaaW.PrintMore
namespace RelocReads
theorem end_ev (s v : ByteArray) (q0 q1 : Int) (hs : s.size ≤ 1000) (hv : v.size ≤ 200) : Ev (fun k => if s.size + v.size ≤ 9223372036854775807 then ((reloc_Read.f k (s ++ v) ([] : List Int) 0 0 0 0 q0 q1 0 0).bind fun bt229 => ((flyleafref11_Read.f k (s ++ v) ([] : List Int) 0 0 0 0 q0 q1 0 0).bind fun bt233 => ((flyleafref11_Same.f k bt229.1 bt233.1).bind fun t237 => (if t237 = true then (some (bt229.2 == bt233.2)) else (some false))))) else (none)) true := by
  have z : (s ++ v).size = s.size + v.size := ByteArray.size_append
  refine Ev.congr (fun k => if_pos (by omega)) ?_
  refine Ev.bind (Reloc.read_ev (s ++ v) [] 0 0 0 0 q0 q1 0 0 (by omega)) ?_
  refine Ev.bind (Reloc.rread_ev (s ++ v) [] 0 0 0 0 q0 q1 0 0 (by omega)) ?_
  refine Ev.bind (Reloc.same_ev _ (Reloc.readV_length (s ++ v) q0 q1 (by omega))) ?_
  refine PB.ev_const fun k => ?_
  rw [if_pos rfl, beq_self_eq_true]
theorem loop_ev (l : List S23) (hl : ∀ x ∈ l, wf23 x) (v : ByteArray) (q0 q1 : Int) (hv : v.size ≤ 200) : ∀ (d i : Nat) (s : ByteArray), i + d = 6 → s.size = 16 + 24 * i →
    Ev (fun k => flyleaflaw11_RelocReads.l0 k l v true s (i : Int) q0 q1) true := by
  intro d
  induction d with
  | zero =>
    intro i s hi hs
    refine PB.ev_succ (f := fun k => flyleaflaw11_RelocReads.l0 (k + 1) l v true s (i : Int) q0 q1) (fun k => rfl) ?_
    simp only [flyleaflaw11_RelocReads.l0, if_true]
    by_cases c : (i : Int) < (l.length : Int)
    · exact Ev.congr (fun k => by rw [if_pos c, if_neg (by omega)]) (end_ev s v q0 q1 (by omega) hv)
    · exact Ev.congr (fun k => by rw [if_neg c]) (end_ev s v q0 q1 (by omega) hv)
  | succ d ih =>
    intro i s hi hs
    refine PB.ev_succ (f := fun k => flyleaflaw11_RelocReads.l0 (k + 1) l v true s (i : Int) q0 q1) (fun k => rfl) ?_
    simp only [flyleaflaw11_RelocReads.l0, if_true]
    by_cases c : (i : Int) < (l.length : Int)
    · have hi2 : i < l.length := by omega
      have hr : rd_T23 l (i : Int) = l[i] := by unfold rd_T23; rw [Int.toNat_natCast, List.getD_eq_getElem?_getD, List.getElem?_eq_getElem hi2]; rfl
      obtain ⟨h0, h1, h2, h3⟩ := hl l[i] (List.getElem_mem hi2)
      have z : (Reloc.bytesV l[i].f0 l[i].f1 l[i].f2 l[i].f3).size = 24 := Reloc.bytesV_size _ _ _ _
      refine Ev.congr (fun k => by rw [if_pos c, if_pos (by omega), if_pos (by omega)]) ?_
      rw [hr]
      refine Ev.bind (Reloc.rbytes_ev l[i].f0 l[i].f1 l[i].f2 l[i].f3 (PB.wfI_i64 h0) (PB.wfI_i64 h1) (PB.wfI_i64 h2) (PB.wfI_i64 h3)) ?_
      refine Ev.congr (fun k => if_pos (by omega)) ?_
      rw [show wrap64 ((i : Int) + 1) = ((i + 1 : Nat) : Int) by rw [PB.wrap_ok _ (by omega) (by omega)]; omega]
      exact ih (i + 1) _ (by omega) (by rw [ByteArray.size_append, z]; omega)
    · exact Ev.congr (fun k => by rw [if_neg c]) (end_ev s v q0 q1 (by omega) hv)
theorem proved : flyleaflaw11_RelocReads.Pure := by
  intro l v q hl hv _
  refine Ev.rounds ?_
  unfold flyleaflaw11_RelocReads.f
  refine Ev.bind Reloc.awake_ev ?_
  have z0 : (⟨#[]⟩ : ByteArray).size = 0 := rfl
  have go : ∀ u : ByteArray, u.size ≤ 200 → Ev (fun k => flyleaflaw11_RelocReads.j0 k l u true q.f0 q.f1) true := by
    intro u hu
    refine PB.ev_succ (f := fun k => flyleaflaw11_RelocReads.j0 (k + 1) l u true q.f0 q.f1) (fun k => rfl) ?_
    simp only [flyleaflaw11_RelocReads.j0]
    refine Ev.bind (PB.ev_const fun k => Oct.rfill_f ⟨#[]⟩ 16 (by omega) (by decide)) ?_
    refine loop_ev l hl.2 u q.f0 q.f1 hu 6 0 _ (by omega) ?_
    unfold Oct.fillV
    rw [if_neg (by rw [z0]; decide), ByteArray.size_append, Oct.zeroB_size, z0]
    rfl
  by_cases c : (v.size : Int) > 200
  · exact Ev.congr (fun k => by rw [if_pos c, if_pos (by decide), if_pos (by omega)]) (go (v.extract 0 200) (by rw [ByteArray.size_extract]; omega))
  · exact Ev.congr (fun k => by rw [if_neg c]) (go v (by omega))
end RelocReads
end Go.Proofs.Ytkjmecbbdccfoaa.X
