/- A relocation's bytes at a place, and what is read there. -/
import Derived.Test.YtkjmecbbdccfoaaQRelocRead
import Derived.Test.YtkjmecbbdccfoaaQBytes
import Derived.Test.YtkjmecbbdccfoaaX0
import Derived.Test.YtkjmecbbdccfoaaX1
import Derived.Test.YtkjmecbbdccfoaaX2
import Derived.Test.YtkjmecbbdccfoaaX3
import Derived.Test.YtkjmecbbdccfoaaX4
import Derived.Test.YtkjmecbbdccfoaaX5
import Derived.Test.YtkjmecbbdccfoaaX6
namespace Go.Proofs.Ytkjmecbbdccfoaa.X
open Go.RowKit Go.Proofs.YtkjmecbbdccfoaaW.PrintWords Go.Proofs.YtkjmecbbdccfoaaW.PrintLast Go.Proofs.YtkjmecbbdccfoaaW.PrintMore
namespace Reloc
def at_ (s : ByteArray) (a : Nat) (p kind sym add : Int) : Prop := Oct.stands s a p 8 ∧ Oct.stands s (a + 8) kind 4 ∧ Oct.stands s (a + 12) sym 4 ∧ Oct.stands s (a + 16) (IntKind.u64.wrap add) 8
theorem at_l {s : ByteArray} {a : Nat} {p kind sym add : Int} (h : at_ s a p kind sym add) (t : ByteArray) : at_ (s ++ t) a p kind sym add := ⟨Oct.stands_l h.1 t, Oct.stands_l h.2.1 t, Oct.stands_l h.2.2.1 t, Oct.stands_l h.2.2.2 t⟩
theorem at_r {s : ByteArray} {a : Nat} {p kind sym add : Int} (h : at_ s a p kind sym add) (t : ByteArray) : at_ (t ++ s) (t.size + a) p kind sym add := ⟨Oct.stands_r h.1 t, Oct.stands_r h.2.1 t, Oct.stands_r h.2.2.1 t, Oct.stands_r h.2.2.2 t⟩
theorem at_part {s : ByteArray} {a : Nat} {p kind sym add : Int} (c : Nat) (h : at_ s a p kind sym add) (hc : a + 24 ≤ c) (hs : c ≤ s.size) : at_ (s.extract 0 c) a p kind sym add := by
  have f : ∀ {b : Nat} {n : Int} {w : Nat}, Oct.stands s b n w → b + w ≤ c → Oct.stands (s.extract 0 c) b n w := fun {b n w} h hb => by
    have := Oct.stands_part (s := s) (a := b) (n := n) (w := w) 0 c (by rw [Nat.zero_add]; exact h) hb (by omega)
    rwa [Nat.zero_add] at this
  exact ⟨f h.1 (by omega), f h.2.1 (by omega), f h.2.2.1 (by omega), f h.2.2.2 (by omega)⟩
theorem numB_put (n : Int) (w : Nat) (h0 : 0 ≤ n) (h1 : n < 18446744073709551616) : numB n w = Oct.putB n w := by
  have m : mx n 0 = n := by unfold mx; split <;> omega
  rw [numB, m, PB.u64_in n h0 h1]
theorem at_bytes (p kind sym add : Int) (p0 : 0 ≤ p) (p1 : p < 18446744073709551616) (k0 : 0 ≤ kind) (k1 : kind < 18446744073709551616) (s0 : 0 ≤ sym) (s1 : sym < 18446744073709551616) : at_ (bytesV p kind sym add) 0 p kind sym add := by
  unfold bytesV
  rw [numB_put p 8 p0 p1, numB_put kind 4 k0 k1, numB_put sym 4 s0 s1]
  have z8 : (Oct.putB p 8).size = 8 := Oct.putB_size _ _
  have z12 : (Oct.putB p 8 ++ Oct.putB kind 4).size = 12 := by rw [ByteArray.size_append, z8, Oct.putB_size]
  have z16 : (Oct.putB p 8 ++ Oct.putB kind 4 ++ Oct.putB sym 4).size = 16 := by rw [ByteArray.size_append, z12, Oct.putB_size]
  refine ⟨Oct.stands_l (Oct.stands_l (Oct.stands_l (Oct.stands_put p 8) _) _) _, ?_, ?_, ?_⟩
  · have := Oct.stands_r (Oct.stands_put kind 4) (Oct.putB p 8)
    rw [z8] at this
    exact Oct.stands_l (Oct.stands_l this _) _
  · have := Oct.stands_r (Oct.stands_put sym 4) (Oct.putB p 8 ++ Oct.putB kind 4)
    rw [z12] at this
    exact Oct.stands_l this _
  · have := Oct.stands_r (Oct.stands_put (IntKind.u64.wrap add) 8) (Oct.putB p 8 ++ Oct.putB kind 4 ++ Oct.putB sym 4)
    rw [z16] at this
    exact this
/-- What is read at such a place. -/
theorem raw_at (s : ByteArray) (a : Nat) (p kind sym add : Int) (p0 : 0 ≤ p) (p1 : p < 9223372036854775808) (k0 : 0 ≤ kind) (k1 : kind < 4294967296) (s0 : 0 ≤ sym) (s1 : sym < 4294967296) (d : -9223372036854775808 ≤ add ∧ add < 9223372036854775808)
    (h : at_ s a p kind sym add) : rawV s (a : Int) = ⟨p, kind, sym, add⟩ ∧ (Oct.getV s (a : Int) 8).1 = p := by
  have e8 : (256 : Int) ^ 8 = 18446744073709551616 := by decide
  have e4 : (256 : Int) ^ 4 = 4294967296 := by decide
  have u := u64_range add
  have g0 := Oct.getV_stands s a 8 p p0 (by decide) (by decide) h.1
  have g1 := Oct.getV_stands s (a + 8) 4 kind k0 (by decide) (by decide) h.2.1
  have g2 := Oct.getV_stands s (a + 12) 4 sym s0 (by decide) (by decide) h.2.2.1
  have g3 := Oct.getV_stands s (a + 16) 8 (IntKind.u64.wrap add) u.1 (by decide) (by decide) h.2.2.2
  rw [e8, Int.emod_eq_of_lt p0 (by omega)] at g0
  rw [e4, Int.emod_eq_of_lt k0 (by omega), show (((a + 8 : Nat)) : Int) = (a : Int) + 8 by omega] at g1
  rw [e4, Int.emod_eq_of_lt s0 (by omega), show (((a + 12 : Nat)) : Int) = (a : Int) + 12 by omega] at g2
  rw [e8, Int.emod_eq_of_lt u.1 (by omega), show (((a + 16 : Nat)) : Int) = (a : Int) + 16 by omega] at g3
  have g0' : Oct.getV s (a : Int) 8 = (p, true) := g0
  have g1' : Oct.getV s ((a : Int) + 8) 4 = (kind, true) := g1
  have g2' : Oct.getV s ((a : Int) + 12) 4 = (sym, true) := g2
  have g3' : Oct.getV s ((a : Int) + 16) 8 = (IntKind.u64.wrap add, true) := g3
  refine ⟨?_, by rw [g0']⟩
  unfold rawV
  rw [g0', g1', g2', g3', PB.wrap_ok p (by omega) (by omega), PB.wrap_ok kind (by omega) (by omega), PB.wrap_ok sym (by omega) (by omega), show wrap64 (IntKind.u64.wrap add) = add by rw [IntKind.wrap_u64]; unfold wrap64; omega]
theorem may_at (s : ByteArray) (a : Nat) (size p kind sym add : Int) (p0 : 0 ≤ p) (p1 : p < 9223372036854775808) (k0 : 0 ≤ kind) (k1 : kind < 4294967296) (s0 : 0 ≤ sym) (s1 : sym < 4294967296) (d : -9223372036854775808 ≤ add ∧ add < 9223372036854775808)
    (h : at_ s a p kind sym add) : mayV s (a : Int) size = (decide (p ≤ size ∧ 8 ≤ size - p) && ((asksV kind || kind == 8) && (asksV kind == decide (sym > 0)))) := by
  obtain ⟨r, g⟩ := raw_at s a p kind sym add p0 p1 k0 k1 s0 s1 d h
  unfold mayV
  rw [r, g]
  simp only [gt_iff_lt, Int.not_lt]
end Reloc
end Go.Proofs.Ytkjmecbbdccfoaa.X
