/- The one statement that is left of RelocOrder: of many relocations each is read at its place. -/
import Derived.Test.YtkjmecbbdccfoaaSRelocOrder
import Derived.Test.YtkjmecbbdccfoaaQRelocAt
import Derived.Test.YtkjmecbbdccfoaaQRFill
namespace Go.Proofs.Ytkjmecbbdccfoaa.X
open Go.RowKit Go.Proofs.YtkjmecbbdccfoaaW.PrintWords Go.Proofs.YtkjmecbbdccfoaaW.PrintLast Go.Proofs.YtkjmecbbdccfoaaW.PrintMore
namespace RelocOrder
def nth (i : Nat) : S23 := ⟨(i : Int), 1, 1 + (i : Int), -(i : Int)⟩
theorem rows (p : ByteArray) (size : Int) (m : Nat) (hp : ∀ j, j < m → Reloc.at_ p (24 * j) (j : Int) 1 (1 + (j : Int)) (-(j : Int))) (hm : m ≤ 15) (hs : (m : Int) + 8 ≤ size) : ∀ (d i : Nat), i + d = m →
    Reloc.rowsV p size d ((24 * i : Nat) : Int) = some ((List.range' i d).map nth)
  | 0, _, _ => rfl
  | d + 1, i, hi => by
    have h := hp i (by omega)
    have hmay := Reloc.may_at p (24 * i) size (i : Int) 1 (1 + (i : Int)) (-(i : Int)) (by omega) (by omega) (by decide) (by decide) (by omega) (by omega) (by omega) h
    have hraw := (Reloc.raw_at p (24 * i) (i : Int) 1 (1 + (i : Int)) (-(i : Int)) (by omega) (by omega) (by decide) (by decide) (by omega) (by omega) (by omega) h).1
    rw [decide_eq_true (by omega), show Reloc.asksV 1 = true from rfl, decide_eq_true (by omega)] at hmay
    simp only [Reloc.rowsV]
    rw [if_pos (by rw [hmay]; rfl), show ((24 * i : Nat) : Int) + 24 = ((24 * (i + 1) : Nat) : Int) by omega, rows p size m hp hm hs d (i + 1) (by omega), hraw, List.range'_succ]
    rfl
theorem look (L : List S23) (kk : Nat) (hL : L = (List.range' 0 kk).map nth) (e : Int) : ∀ (d i : Nat), i + d = kk → kk ≤ 15 → e = 0 → Ev (fun k => flyleaflaw11_RelocOrder.l1 k true (kk : Int) L e (i : Int)) true := by
  have hl : L.length = kk := by rw [hL, List.length_map, List.length_range']
  intro d
  induction d with
  | zero =>
    intro i hi hk he
    refine PB.ev_one fun k => ?_
    simp only [flyleaflaw11_RelocOrder.l1]
    rw [if_neg (by omega), if_pos trivial, if_pos he, hl, beq_self_eq_true]
  | succ d ih =>
    intro i hi hk he
    have hr : rd_T23 L (i : Int) = nth i := by
      unfold rd_T23
      rw [Int.toNat_natCast, hL, List.getD_eq_getElem?_getD, List.getElem?_map, List.getElem?_range' (by omega)]
      simp
    refine PB.ev_succ (f := fun k => flyleaflaw11_RelocOrder.l1 k true (kk : Int) L e ((i + 1 : Nat) : Int)) (fun k => ?_) (ih (i + 1) (by omega) hk he)
    simp only [flyleaflaw11_RelocOrder.l1]
    rw [hr, if_pos (by omega), if_pos (by omega)]
    simp only [nth, if_true]
    rw [PB.wrap_ok (1 + (i : Int)) (by omega) (by omega), PB.wrap_ok (-(i : Int)) (by omega) (by omega), if_pos rfl, if_pos rfl, show wrap64 ((i : Int) + 1) = ((i + 1 : Nat) : Int) by rw [PB.wrap_ok _ (by omega) (by omega)]; omega]
theorem end_ev (x1 : Int) (many : Nat) (hm : many ≤ 15) (s : ByteArray) (hs : s.size = 24 * many) (ha : ∀ j, j < many → Reloc.at_ s (24 * j) (j : Int) 1 (1 + (j : Int)) (-(j : Int))) :
    Ev (fun k => flyleaflaw11_RelocOrder.l0 k x1 true (many : Int) s (many : Int)) true := by
  refine PB.ev_succ (f := fun k => flyleaflaw11_RelocOrder.l0 (k + 1) x1 true (many : Int) s (many : Int)) (fun k => rfl) ?_
  simp only [flyleaflaw11_RelocOrder.l0]
  have e := PB.and_i64 x1 4 (by decide) 15 (by decide)
  have e4 : (2 : Int) ^ 4 = 16 := by decide
  rw [e4] at e
  rw [e]
  have m0 := Int.emod_nonneg x1 (show (16 : Int) ≠ 0 by decide)
  have m1 := Int.emod_lt_of_pos x1 (show (0 : Int) < 16 by decide)
  obtain ⟨kk, hk⟩ := Int.eq_ofNat_of_zero_le m0
  rw [hk] at m1 ⊢
  have hk15 : kk ≤ 15 := by omega
  refine Ev.congr (fun k => if_neg (by omega)) ?_
  rw [PB.wrap_ok (24 * (many : Int)) (by omega) (by omega), PB.wrap_ok (24 * (kk : Int)) (by omega) (by omega), PB.wrap_ok (8 + (kk : Int)) (by omega) (by omega), PB.wrap_ok (8 + (kk : Int) - 1) (by omega) (by omega)]
  refine Ev.bind (PB.ev_const fun k => Oct.rfill_f s (24 * (many : Int)) (by omega) (by omega)) ?_
  have hf : Oct.fillV s (24 * (many : Int)) = s := by
    unfold Oct.fillV
    rw [if_pos (by omega), show (24 * (many : Int)).toNat = s.size by omega, ByteArray.extract_zero_size]
  rw [hf]
  refine Ev.bind (Reloc.read_ev s [] 0 0 0 0 0 (24 * (kk : Int)) 0 0 (by omega)) ?_
  by_cases c : kk > many
  · have hr : Reloc.readV s 0 (24 * (kk : Int)) = ([], 17) := by
      unfold Reloc.readV
      have : (Oct.partV s 0 (24 * (kk : Int))).2 = false := by unfold Oct.partV; rw [if_neg (by omega)]
      rw [if_neg (by omega), if_neg (fun h => by rw [this] at h; exact absurd h.1 (by decide))]
    rw [hr]
    refine Ev.congr (fun k => if_pos (by omega)) ?_
    refine PB.ev_one fun k => ?_
    simp only [flyleaflaw11_RelocOrder.j1, if_true]
    rfl
  · have hr : Reloc.readV s 0 (24 * (kk : Int)) = ((List.range' 0 kk).map nth, 0) := by
      unfold Reloc.readV
      by_cases cz : kk = 0
      · subst cz
        rw [if_pos (by decide)]
        rfl
      · have pv : Oct.partV s 0 (24 * (kk : Int)) = (s.extract 0 (24 * kk), true) := by
          unfold Oct.partV
          rw [if_pos (by omega), show ((0 : Int) + 24 * (kk : Int)).toNat = 24 * kk by omega]
          rfl
        have hrows := rows (s.extract 0 (24 * kk)) (s.size : Int) kk (fun j hj => Reloc.at_part (24 * kk) (ha j (by omega)) (by omega) (by omega)) hk15 (by omega) kk 0 (by omega)
        have hrows' : Reloc.rowsV (s.extract 0 (24 * kk)) (s.size : Int) kk 0 = some ((List.range' 0 kk).map nth) := hrows
        rw [if_neg (by omega), pv, if_pos ⟨rfl, by omega⟩, show (24 * (kk : Int) / 24).toNat = kk by omega, hrows']
        rfl
    rw [hr]
    refine Ev.congr (fun k => if_neg (by omega)) ?_
    have go : Ev (fun k => flyleaflaw11_RelocOrder.j1 k true (kk : Int) ((List.range' 0 kk).map nth) 0 false) true := by
      refine PB.ev_succ (f := fun k => flyleaflaw11_RelocOrder.l1 k true (kk : Int) ((List.range' 0 kk).map nth) 0 0) (fun k => ?_) (look _ kk rfl 0 kk 0 (by omega) hk15 rfl)
      simp only [flyleaflaw11_RelocOrder.j1, Bool.false_eq_true, if_false]
    by_cases c2 : (kk : Int) > 0
    · refine Ev.congr (fun k => ?_) go
      rw [if_pos c2, decide_eq_false (by omega)]
    · exact Ev.congr (fun k => if_neg c2) go
theorem loop_ev (x1 : Int) (many : Nat) (hm : many ≤ 15) : ∀ (d i : Nat) (s : ByteArray), i + d = many → s.size = 24 * i → (∀ j, j < i → Reloc.at_ s (24 * j) (j : Int) 1 (1 + (j : Int)) (-(j : Int))) →
    Ev (fun k => flyleaflaw11_RelocOrder.l0 k x1 true (many : Int) s (i : Int)) true := by
  intro d
  induction d with
  | zero =>
    intro i s hi hs ha
    obtain rfl : i = many := by omega
    exact end_ev x1 i hm s hs ha
  | succ d ih =>
    intro i s hi hs ha
    refine PB.ev_succ (f := fun k => flyleaflaw11_RelocOrder.l0 (k + 1) x1 true (many : Int) s (i : Int)) (fun k => rfl) ?_
    simp only [flyleaflaw11_RelocOrder.l0]
    refine Ev.congr (fun k => if_pos (by omega)) ?_
    rw [PB.wrap_ok (1 + (i : Int)) (by omega) (by omega), PB.wrap_ok (-(i : Int)) (by omega) (by omega)]
    refine Ev.bind (Reloc.bytes_ev (i : Int) 1 (1 + (i : Int)) (-(i : Int)) (by omega) (by decide) (by omega) (by omega)) ?_
    have z : (Reloc.bytesV (i : Int) 1 (1 + (i : Int)) (-(i : Int))).size = 24 := Reloc.bytesV_size _ _ _ _
    refine Ev.congr (fun k => if_pos (by omega)) ?_
    rw [show wrap64 ((i : Int) + 1) = ((i + 1 : Nat) : Int) by rw [PB.wrap_ok _ (by omega) (by omega)]; omega]
    refine ih (i + 1) _ (by omega) (by rw [ByteArray.size_append, z]; omega) fun j hj => ?_
    by_cases cj : j < i
    · exact Reloc.at_l (ha j cj) _
    · obtain rfl : j = i := by omega
      have h := Reloc.at_r (Reloc.at_bytes (j : Int) 1 (1 + (j : Int)) (-(j : Int)) (by omega) (by omega) (by decide) (by decide) (by omega) (by omega)) s
      rw [hs] at h
      exact h
theorem proved : flyleaflaw11_RelocOrder.Pure := by
  intro n m _ _
  refine Ev.rounds ?_
  unfold flyleaflaw11_RelocOrder.f
  refine Ev.bind Reloc.awake_ev ?_
  have e := PB.and_i64 n 4 (by decide) 15 (by decide)
  have e4 : (2 : Int) ^ 4 = 16 := by decide
  rw [e4] at e
  rw [e]
  have m0 := Int.emod_nonneg n (show (16 : Int) ≠ 0 by decide)
  have m1 := Int.emod_lt_of_pos n (show (0 : Int) < 16 by decide)
  obtain ⟨many, hk⟩ := Int.eq_ofNat_of_zero_le m0
  rw [hk] at m1 ⊢
  exact loop_ev m many (by omega) many 0 ⟨#[]⟩ (by omega) rfl (fun j hj => absurd hj (Nat.not_lt_zero _))
end RelocOrder
end Go.Proofs.Ytkjmecbbdccfoaa.X
