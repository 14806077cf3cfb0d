/- Relocations off a view: what Read comes to, of the program and of the reference: the same. -/
import Derived.Test.YtkjmecbbdccfoaaQReloc
import Derived.Test.YtkjmecbbdccfoaaQRPart
import Derived.Test.YtkjmecbbdccfoaaX0
import Derived.Test.YtkjmecbbdccfoaaX1
import Derived.Test.YtkjmecbbdccfoaaX2
import Derived.Test.YtkjmecbbdccfoaaX3
import Derived.Test.YtkjmecbbdccfoaaX4
import Derived.Test.YtkjmecbbdccfoaaX5
import Derived.Test.YtkjmecbbdccfoaaX6
namespace Go.Proofs.Ytkjmecbbdccfoaa.X
open Go.RowKit Go.Proofs.YtkjmecbbdccfoaaW.PrintWords Go.Proofs.YtkjmecbbdccfoaaW.PrintLast Go.Proofs.YtkjmecbbdccfoaaW.PrintMore
namespace Reloc
/-- One relocation at a place of a part, of a view of that size. -/
def rawV (s : ByteArray) (a : Int) : S23 := ⟨wrap64 (Oct.getV s a 8).1, wrap64 (Oct.getV s (a + 8) 4).1, wrap64 (Oct.getV s (a + 12) 4).1, wrap64 (Oct.getV s (a + 16) 8).1⟩
def mayV (s : ByteArray) (a size : Int) : Bool := decide (¬ (Oct.getV s a 8).1 > size ∧ 8 ≤ size - (Oct.getV s a 8).1) && ((asksV (rawV s a).f1 || (rawV s a).f1 == 8) && (asksV (rawV s a).f1 == decide ((rawV s a).f2 > 0)))
theorem getV_range (s : ByteArray) (a w : Int) : 0 ≤ (Oct.getV s a w).1 ∧ (Oct.getV s a w).1 < 18446744073709551616 := by
  unfold Oct.getV
  by_cases h : Oct.may s a w = true
  · rw [if_pos h]
    have h1 := of_decide_eq_true h
    obtain ⟨g0, g1⟩ := Oct.gv_range s a w.toNat
    have := Oct.pow256_le (show w.toNat ≤ 8 by omega)
    have e8 : (256 : Int) ^ 8 = 18446744073709551616 := by decide
    exact ⟨g0, by omega⟩
  · rw [if_neg h]
    exact ⟨Int.le_refl 0, by decide⟩
theorem lit_ev (s : ByteArray) (a w : Int) (hz : (s.size : Int) ≤ 9223372036854775807) : Ev (fun k => reloc_read_1.f k a w s) ((Oct.getV s a w).1, s) := by
  unfold reloc_read_1.f
  exact Ev.bind (Oct.get_ev s a w hz) (Ev.now _)
theorem one_ev (s : ByteArray) (a size : Int) (hz : (s.size : Int) ≤ 1099511627776) (ha : 0 ≤ a) (ha2 : a ≤ 1099511627776) (h0 : 0 ≤ size) (h1 : size ≤ 9223372036854775807) :
    ∃ r1 r2 r3 r4, Ev (fun k => reloc_read.f k s a size) (r1, r2, r3, r4, mayV s a size) ∧ (mayV s a size = true → (⟨r1, r2, r3, r4⟩ : S23) = rawV s a) := by
  have e1 : wrap64 (a + 8) = a + 8 := PB.wrap_ok _ (by omega) (by omega)
  have e2 : wrap64 (a + 8 + 4) = a + 12 := by rw [PB.wrap_ok _ (by omega) (by omega)]; omega
  have e3 : wrap64 (a + 16) = a + 16 := PB.wrap_ok _ (by omega) (by omega)
  have eu : IntKind.u64.wrap size = size := PB.u64_in _ h0 (by omega)
  have pr := getV_range s a 8
  unfold reloc_read.f
  rw [e1, e2, e3, eu]
  have start : ∀ (r : Int × Int × Int × Int × Bool), Ev (fun k => if (Oct.getV s a 8).1 > size then reloc_read.j0 k (Oct.getV s a 8).1 true 0 (rawV s a).f1 (rawV s a).f2 (rawV s a).f3 else (octet_Within.f (wrap64 (Oct.getV s a 8).1) 8 size).bind fun t174 => reloc_read.j0 k (Oct.getV s a 8).1 (!t174) 0 (rawV s a).f1 (rawV s a).f2 (rawV s a).f3) r →
      Ev (fun k => (reloc_read_1.f k a 8 s).bind fun bt165 => (reloc_read_1.f k (a + 8) 4 bt165.2).bind fun bt167 => (reloc_read_1.f k (a + 12) 4 bt167.2).bind fun bt169 => (reloc_read_1.f k (a + 16) 8 bt169.2).bind fun bt171 => if bt165.1 > size then reloc_read.j0 k bt165.1 true 0 (wrap64 bt167.1) (wrap64 bt169.1) (wrap64 bt171.1) else (octet_Within.f (wrap64 bt165.1) 8 size).bind fun t174 => reloc_read.j0 k bt165.1 (!t174) 0 (wrap64 bt167.1) (wrap64 bt169.1) (wrap64 bt171.1)) r := fun r hr =>
    Ev.bind (lit_ev s a 8 (by omega)) (Ev.bind (lit_ev s (a + 8) 4 (by omega)) (Ev.bind (lit_ev s (a + 12) 4 (by omega)) (Ev.bind (lit_ev s (a + 16) 8 (by omega)) hr)))
  by_cases c : ¬ (Oct.getV s a 8).1 > size ∧ 8 ≤ size - (Oct.getV s a 8).1
  · have wp : wrap64 (Oct.getV s a 8).1 = (Oct.getV s a 8).1 := PB.wrap_ok _ (by omega) (by omega)
    refine ⟨(rawV s a).f0, (rawV s a).f1, (rawV s a).f2, (rawV s a).f3, start _ ?_, fun _ => rfl⟩
    refine PB.ev_one fun k => ?_
    rw [if_neg c.1, wp, Oct.within_f _ _ _ h0 h1]
    simp only [Option.bind_some]
    rw [decide_eq_true (by omega)]
    simp only [reloc_read.j0, Bool.not_true, Bool.false_eq_true, if_false, asks_f, Option.bind_some]
    unfold mayV
    rw [decide_eq_true c, Bool.true_and]
    have ef : (rawV s a).f0 = wrap64 (Oct.getV s a 8).1 := rfl
    rw [ef]
    cases hb : asksV (rawV s a).f1
    · simp only [Bool.false_eq_true, if_false, Bool.false_or]
      by_cases c8 : (rawV s a).f1 = 8
      · rw [if_pos c8, beq_iff_eq.2 c8, Bool.true_and]
      · rw [if_neg c8, beq_eq_false_iff_ne.2 c8, Bool.false_and]
    · simp only [if_true, Bool.true_or, Bool.true_and]
  · have mf : mayV s a size = false := by unfold mayV; rw [decide_eq_false c, Bool.false_and]
    refine ⟨0, 0, 0, 0, start _ ?_, fun h => by rw [mf] at h; cases h⟩
    rw [mf]
    refine PB.ev_one fun k => ?_
    by_cases c2 : (Oct.getV s a 8).1 > size
    · rw [if_pos c2]
      simp only [reloc_read.j0, if_true]
    · have wp : wrap64 (Oct.getV s a 8).1 = (Oct.getV s a 8).1 := PB.wrap_ok _ (by omega) (by omega)
      rw [if_neg c2, wp, Oct.within_f _ _ _ h0 h1]
      simp only [Option.bind_some]
      rw [decide_eq_false (by omega)]
      simp only [reloc_read.j0, Bool.not_false, if_true]
/-- So many relocations, one behind the other. -/
def rowsV (s : ByteArray) (size : Int) : Nat → Int → Option (List S23)
  | 0, _ => some []
  | d + 1, a => if mayV s a size = true then (rowsV s size d (a + 24)).map (rawV s a :: ·) else none
def endV (acc : List S23) (r : Option (List S23)) : List S23 × Int := match r with
  | some l => (acc ++ l, 0)
  | none => ([], 17)
theorem endV_cons (acc : List S23) (x : S23) (r : Option (List S23)) : endV (acc ++ [x]) r = endV acc (r.map (x :: ·)) := by
  cases r with
  | none => rfl
  | some l => simp [endV]
theorem loop_ev (v s : ByteArray) (m : Nat) (hv : (v.size : Int) ≤ 1099511627776) (hs : s.size = 24 * m) (hs2 : (s.size : Int) ≤ 1099511627776) : ∀ (d i : Nat) (acc : List S23), i + d = m → acc.length = i →
    Ev (fun k => reloc_Read.l0 k v s acc true ((24 * i : Nat) : Int)) (endV acc (rowsV s v.size d ((24 * i : Nat) : Int))) := by
  intro d
  induction d with
  | zero =>
    intro i acc hi ha
    refine PB.ev_one fun k => ?_
    simp only [reloc_Read.l0]
    rw [if_neg (by omega), if_pos trivial]
    simp [rowsV, endV]
  | succ d ih =>
    intro i acc hi ha
    obtain ⟨r1, r2, r3, r4, he, hr⟩ := one_ev s ((24 * i : Nat) : Int) v.size hs2 (by omega) (by omega) (by omega) (by omega)
    refine PB.ev_succ (f := fun k => reloc_Read.l0 (k + 1) v s acc true ((24 * i : Nat) : Int)) (fun k => rfl) ?_
    simp only [reloc_Read.l0]
    refine Ev.congr (fun k => if_pos (by omega)) ?_
    refine Ev.bind he ?_
    cases hm : mayV s ((24 * i : Nat) : Int) v.size
    · refine PB.ev_const fun k => ?_
      simp only [Bool.false_eq_true, if_false, rowsV, hm]
      rfl
    · have e := hr hm
      simp only [rowsV, hm, if_true]
      rw [e]
      refine Ev.congr (fun k => if_pos (by omega)) ?_
      have h2 := ih (i + 1) (acc ++ [rawV s ((24 * i : Nat) : Int)]) (by omega) (by rw [List.length_append, ha]; rfl)
      rw [endV_cons] at h2
      have e24 : wrap64 (((24 * i : Nat) : Int) + 24) = ((24 * (i + 1) : Nat) : Int) := by rw [PB.wrap_ok _ (by omega) (by omega)]; omega
      rw [e24, show ((24 * i : Nat) : Int) + 24 = ((24 * (i + 1) : Nat) : Int) by omega]
      exact h2
def readV (v : ByteArray) (a n : Int) : List S23 × Int :=
  if n = 0 then ([], 0) else if (Oct.partV v a n).2 = true ∧ n % 24 = 0 then endV [] (rowsV (Oct.partV v a n).1 v.size (n / 24).toNat 0) else ([], 17)
theorem part_size (v : ByteArray) (a n : Int) (h : (Oct.partV v a n).2 = true) : ((Oct.partV v a n).1.size : Int) = n ∧ 0 ≤ n ∧ n ≤ v.size := by
  unfold Oct.partV at h ⊢
  by_cases c : 0 ≤ a ∧ 0 ≤ n ∧ a ≤ (v.size : Int) ∧ n ≤ (v.size : Int) - a
  · rw [if_pos c]
    refine ⟨?_, by omega, by omega⟩
    show ((v.extract a.toNat (a + n).toNat).size : Int) = n
    rw [ByteArray.size_extract]
    omega
  · rw [if_neg c] at h
    cases h
theorem read_ev (v : ByteArray) (l : List Int) (x1 x2 x3 x4 a n x7 x8 : Int) (hv : (v.size : Int) ≤ 1099511627776) : Ev (fun k => reloc_Read.f k v l x1 x2 x3 x4 a n x7 x8) (readV v a n) := by
  unfold reloc_Read.f readV
  by_cases c : n = 0
  · rw [if_pos c]
    exact Ev.congr (fun k => if_pos c) (Ev.now _)
  · rw [if_neg c]
    refine Ev.congr (fun k => if_neg c) ?_
    refine Ev.bind (PB.ev_const fun k => Oct.part_f v a n (by omega)) ?_
    have no : ∀ s, Ev (fun k => reloc_Read.j0 k v s true) ([], 17) := fun s => PB.ev_one fun k => by simp only [reloc_Read.j0, if_true]
    by_cases c2 : (Oct.partV v a n).2 = true
    · obtain ⟨z, z0, z1⟩ := part_size v a n c2
      refine Ev.congr (fun k => if_pos c2) ?_
      rw [z]
      by_cases c3 : n % 24 = 0
      · rw [if_pos ⟨c2, c3⟩, show (n % 24 != 0) = false by rw [c3]; rfl]
        refine PB.ev_succ (f := fun k => reloc_Read.l0 k v (Oct.partV v a n).1 [] true 0) (fun k => by simp only [reloc_Read.j0, Bool.false_eq_true, if_false]) ?_
        exact loop_ev v (Oct.partV v a n).1 (n / 24).toNat hv (by omega) (by omega) (n / 24).toNat 0 [] (by omega) rfl
      · rw [if_neg (fun h => c3 h.2), show (n % 24 != 0) = true from bne_iff_ne.2 c3]
        exact no _
    · rw [if_neg (fun h => c2 h.1)]
      exact Ev.congr (fun k => if_neg c2) (no _)
theorem same_loop (l : List S23) (hl : l.length ≤ 4398046511104) : ∀ (d i : Nat), i + d = l.length → Ev (fun k => flyleafref11_Same.l0 k l l (i : Int)) true := by
  intro d
  induction d with
  | zero =>
    intro i hi
    refine PB.ev_one fun k => ?_
    simp only [flyleafref11_Same.l0]
    rw [if_neg (by omega)]
  | succ d ih =>
    intro i hi
    refine PB.ev_succ (f := fun k => flyleafref11_Same.l0 k l l ((i + 1 : Nat) : Int)) (fun k => ?_) (ih (i + 1) (by omega))
    simp only [flyleafref11_Same.l0]
    rw [if_pos (by omega), if_pos (by omega), if_pos (by omega), show wrap64 ((i : Int) + 1) = ((i + 1 : Nat) : Int) by rw [PB.wrap_ok _ (by omega) (by omega)]; omega]
    simp only [beq_self_eq_true, Bool.not_true, Bool.or_self, Bool.false_eq_true, if_false]
theorem same_ev (l : List S23) (hl : l.length ≤ 4398046511104) : Ev (fun k => flyleafref11_Same.f k l l) true := by
  unfold flyleafref11_Same.f
  refine Ev.congr (fun k => if_pos rfl) ?_
  exact same_loop l hl l.length 0 (by omega)
theorem rowsV_length (s : ByteArray) (size : Int) : ∀ (d : Nat) (a : Int) (l : List S23), rowsV s size d a = some l → l.length = d
  | 0, _, l, h => by obtain rfl := Option.some.inj h; rfl
  | d + 1, a, l, h => by
    simp only [rowsV] at h
    split at h
    · obtain ⟨m, hm, rfl⟩ := Option.map_eq_some_iff.1 h
      rw [List.length_cons, rowsV_length s size d _ m hm]
    · cases h
theorem readV_length (v : ByteArray) (a n : Int) (hv : (v.size : Int) ≤ 1099511627776) : (readV v a n).1.length ≤ 4398046511104 := by
  unfold readV
  split
  · exact Nat.zero_le _
  · split
    · rename_i h
      obtain ⟨z, z0, z1⟩ := part_size v a n h.1
      cases hr : rowsV (Oct.partV v a n).1 v.size (n / 24).toNat 0 with
      | none => exact Nat.zero_le _
      | some l =>
        have := rowsV_length _ _ _ _ l hr
        show ([] ++ l).length ≤ _
        rw [List.nil_append]
        omega
    · exact Nat.zero_le _
end Reloc
end Go.Proofs.Ytkjmecbbdccfoaa.X
