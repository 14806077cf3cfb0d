/- Symbols: their bytes, and what is read of them. -/
import Derived.Test.YtoknnbjkjhigbaaQBytes
import Derived.Test.YtoknnbjkjhigbaaQPart
import Derived.Test.YtoknnbjkjhigbaaQFill
import Derived.Test.YtoknnbjkjhigbaaX0
import Derived.Test.YtoknnbjkjhigbaaX1
import Derived.Test.YtoknnbjkjhigbaaX2
import Derived.Test.YtoknnbjkjhigbaaX3
import Derived.Test.YtoknnbjkjhigbaaX4
import Derived.Test.YtoknnbjkjhigbaaX5
import Derived.Test.YtoknnbjkjhigbaaX6
import Derived.Test.YtoknnbjkjhigbaaX7
import Derived.Test.YtoknnbjkjhigbaaX8

namespace Go.Proofs.Ytoknnbjkjhigbaa.X
open Go.RowKit Go.Proofs.YtoknnbjkjhigbaaW.PrintWords Go.Proofs.YtoknnbjkjhigbaaW.PrintLast Go.Proofs.YtoknnbjkjhigbaaW.PrintMore
namespace Sym
def numB (n : Int) (w : Nat) : ByteArray := Oct.putB (IntKind.u64.wrap (mx n 0)) w
theorem numB_size (n : Int) (w : Nat) : (numB n w).size = w := Oct.putB_size _ _
theorem numB_put (n : Int) (w : Nat) (h0 : 0 ≤ n) (h1 : n < 18446744073709551616) : numB n w = Oct.putB n w := by
  have m : mx n 0 = n := by unfold mx; split <;> omega
  rw [numB, m, PB.u64_in n h0 h1]
theorem put_ev (n : Int) (w : Nat) (h8 : w ≤ 8) : Ev (fun k => symbol_put.f k n (w : Int)) (numB n w) := by
  unfold symbol_put.f
  have := Oct.put_ev (IntKind.u64.wrap (mx n 0)) (w : Int)
  rw [(Oct.mn_mx (w : Int)).2.1 (by omega) (by omega), Int.toNat_natCast] at this
  exact Ev.bind this (Ev.now _)
def bitV (d : Bool) : Int := if d = true then 1 else 0
def headV (name : Int) (d : Bool) (value : Int) : ByteArray := ((numB name 4 ++ (⟨#[18, 0]⟩ : ByteArray)) ++ numB (bitV d) 2) ++ numB value 8
theorem headV_size (name : Int) (d : Bool) (value : Int) : (headV name d value).size = 16 := by
  unfold headV
  have : (⟨#[18, 0]⟩ : ByteArray).size = 2 := rfl
  simp only [ByteArray.size_append, numB_size, this]
def bytesV (name : Int) (d : Bool) (value : Int) : ByteArray := headV name d value ++ Oct.zeroB 8
theorem bytesV_size (name : Int) (d : Bool) (value : Int) : (bytesV name d value).size = 24 := by rw [bytesV, ByteArray.size_append, headV_size, Oct.zeroB_size]
theorem bytes_ev (name : Int) (d : Bool) (value : Int) : Ev (fun k => symbol_Bytes.f k name d value) (bytesV name d value) := by
  have l2 : (⟨#[18, 0]⟩ : ByteArray).size = 2 := rfl
  have hh := headV_size name d value
  have go : Ev (fun k => symbol_Bytes.j0 k (bitV d) name d value) (bytesV name d value) := by
    refine PB.ev_succ (f := fun k => symbol_Bytes.j0 (k + 1) (bitV d) name d value) (fun k => rfl) ?_
    simp only [symbol_Bytes.j0]
    refine Ev.bind (put_ev name 4 (by decide)) ?_
    rw [numB_size]
    refine Ev.congr (fun k => if_pos (by decide)) ?_
    refine Ev.bind (put_ev (bitV d) 2 (by decide)) ?_
    rw [numB_size]
    refine Ev.congr (fun k => if_pos (by decide)) ?_
    refine Ev.bind (put_ev value 8 (by decide)) ?_
    rw [numB_size]
    refine Ev.congr (fun k => if_pos (by decide)) ?_
    refine PB.ev_const fun k => ?_
    have hf := Oct.fill_f (headV name d value) 24 (by omega) (by decide)
    have hv : Oct.fillV (headV name d value) 24 = bytesV name d value := by
      unfold Oct.fillV
      rw [if_neg (by omega), hh]
      rfl
    rw [hv] at hf
    unfold headV at hf
    rw [hf]
    rfl
  unfold symbol_Bytes.f
  cases d
  · exact Ev.congr (fun k => if_neg (by decide)) go
  · exact Ev.congr (fun k => if_pos rfl) go
/-- A symbol's bytes stand at a place. -/
def at_ (s : ByteArray) (a : Nat) (name : Int) (d : Bool) (value : Int) : Prop := Oct.stands s a name 4 ∧ Oct.stands s (a + 6) (bitV d) 2 ∧ Oct.stands s (a + 8) value 8
theorem at_l {s : ByteArray} {a : Nat} {name : Int} {d : Bool} {value : Int} (h : at_ s a name d value) (t : ByteArray) : at_ (s ++ t) a name d value := ⟨Oct.stands_l h.1 t, Oct.stands_l h.2.1 t, Oct.stands_l h.2.2 t⟩
theorem at_r {s : ByteArray} {a : Nat} {name : Int} {d : Bool} {value : Int} (h : at_ s a name d value) (t : ByteArray) : at_ (t ++ s) (t.size + a) name d value := ⟨Oct.stands_r h.1 t, Oct.stands_r h.2.1 t, Oct.stands_r h.2.2 t⟩
theorem at_bytes (name : Int) (d : Bool) (value : Int) (n0 : 0 ≤ name) (n1 : name < 18446744073709551616) (v0 : 0 ≤ value) (v1 : value < 18446744073709551616) : at_ (bytesV name d value) 0 name d value := by
  have b0 : 0 ≤ bitV d ∧ bitV d ≤ 1 := by unfold bitV; split <;> omega
  have l2 : (⟨#[18, 0]⟩ : ByteArray).size = 2 := rfl
  unfold bytesV headV
  rw [numB_put name 4 n0 n1, numB_put (bitV d) 2 b0.1 (by omega), numB_put value 8 v0 v1]
  have z6 : (Oct.putB name 4 ++ (⟨#[18, 0]⟩ : ByteArray)).size = 6 := by rw [ByteArray.size_append, Oct.putB_size, l2]
  have z8 : (Oct.putB name 4 ++ (⟨#[18, 0]⟩ : ByteArray) ++ Oct.putB (bitV d) 2).size = 8 := by rw [ByteArray.size_append, z6, Oct.putB_size]
  refine ⟨Oct.stands_l (Oct.stands_l (Oct.stands_l (Oct.stands_l (Oct.stands_put name 4) _) _) _) _, ?_, ?_⟩
  · have := Oct.stands_r (Oct.stands_put (bitV d) 2) (Oct.putB name 4 ++ (⟨#[18, 0]⟩ : ByteArray))
    rw [z6] at this
    exact Oct.stands_l (Oct.stands_l this _) _
  · have := Oct.stands_r (Oct.stands_put value 8) (Oct.putB name 4 ++ (⟨#[18, 0]⟩ : ByteArray) ++ Oct.putB (bitV d) 2)
    rw [z8] at this
    exact Oct.stands_l this _
/-- What is read of a symbol that may be there. -/
def ofPart (p : ByteArray) : Int × Bool × Int × Bool := if (Oct.getV p 8 8).1 > 1099511627776 then (0, false, 0, false) else (wrap64 (Oct.getV p 0 4).1, ((Oct.getV p 6 2).1 != 0), wrap64 (Oct.getV p 8 8).1, true)
def readV (v : ByteArray) (sy i : Int) : Int × Bool × Int × Bool :=
  if i < 0 ∨ i > 1073741824 ∨ sy ≤ 0 ∨ sy > (v.size : Int) then (0, false, 0, false) else if (Oct.partV v (sy + 24 * i) 24).2 = true then ofPart (Oct.partV v (sy + 24 * i) 24).1 else (0, false, 0, false)
theorem read_ev (v : ByteArray) (l : List Int) (x1 x2 sy x4 x5 x6 x7 x8 i : Int) (hv : (v.size : Int) ≤ 1099511627776) : Ev (fun k => symbol_Read.f k v l x1 x2 sy x4 x5 x6 x7 x8 i) (readV v sy i) := by
  unfold symbol_Read.f readV
  have no : Ev (fun k => symbol_Read.j0 k v i true l x1 x2 sy x4 x5 x6 x7 x8) (0, false, 0, false) := PB.ev_one fun k => by simp only [symbol_Read.j0, if_true]
  by_cases c1 : i < 0
  · rw [if_pos (.inl c1)]; exact Ev.congr (fun k => if_pos c1) no
  · by_cases c2 : i > 1073741824
    · rw [if_pos (.inr (.inl c2))]; exact Ev.congr (fun k => by rw [if_neg c1, if_pos c2]) no
    · by_cases c3 : sy ≤ 0
      · rw [if_pos (.inr (.inr (.inl c3)))]; exact Ev.congr (fun k => by rw [if_neg c1, if_neg c2, if_pos c3]) no
      · by_cases c4 : sy > (v.size : Int)
        · rw [if_pos (.inr (.inr (.inr c4)))]; exact Ev.congr (fun k => by rw [if_neg c1, if_neg c2, if_neg c3, decide_eq_true c4]) no
        · rw [if_neg (by omega)]
          refine Ev.congr (f := fun k => symbol_Read.j0 k v i false l x1 x2 sy x4 x5 x6 x7 x8) (fun k => by rw [if_neg c1, if_neg c2, if_neg c3, decide_eq_false c4]) ?_
          refine PB.ev_succ (f := fun k => symbol_Read.j0 (k + 1) v i false l x1 x2 sy x4 x5 x6 x7 x8) (fun k => rfl) ?_
          simp only [symbol_Read.j0, Bool.false_eq_true, if_false]
          rw [PB.wrap_ok (24 * i) (by omega) (by omega), PB.wrap_ok (sy + 24 * i) (by omega) (by omega)]
          refine Ev.bind (PB.ev_const fun k => Oct.part_f v (sy + 24 * i) 24 (by omega)) ?_
          by_cases cp : (Oct.partV v (sy + 24 * i) 24).2 = true
          · have zp : ((Oct.partV v (sy + 24 * i) 24).1.size : Int) ≤ 9223372036854775807 := by
              unfold Oct.partV
              split
              · show ((v.extract _ _).size : Int) ≤ _
                rw [ByteArray.size_extract]; omega
              · decide
            rw [if_pos cp]
            refine Ev.congr (fun k => if_pos cp) ?_
            refine Ev.bind (Oct.get_ev _ 0 4 zp) ?_
            refine Ev.bind (Oct.get_ev _ 6 2 zp) ?_
            refine Ev.bind (Oct.get_ev _ 8 8 zp) ?_
            unfold ofPart
            refine PB.ev_const fun k => ?_
            split <;> rfl
          · rw [if_neg cp]
            exact PB.ev_const fun k => if_neg cp
theorem ofPart_at (p : ByteArray) (name : Int) (d : Bool) (value : Int) (n0 : 0 ≤ name) (n1 : name < 4294967296) (v0 : 0 ≤ value) (v1 : value ≤ 1099511627776) (h : at_ p 0 name d value) : ofPart p = (name, d, value, true) := by
  have b0 : 0 ≤ bitV d ∧ bitV d ≤ 1 := by unfold bitV; split <;> omega
  have g0 := Oct.getV_stands p 0 4 name n0 (by decide) (by decide) h.1
  have g1 := Oct.getV_stands p (0 + 6) 2 (bitV d) b0.1 (by decide) (by decide) h.2.1
  have g2 := Oct.getV_stands p (0 + 8) 8 value v0 (by decide) (by decide) h.2.2
  have e4 : (256 : Int) ^ 4 = 4294967296 := by decide
  have e2 : (256 : Int) ^ 2 = 65536 := by decide
  have e8 : (256 : Int) ^ 8 = 18446744073709551616 := by decide
  rw [e4, Int.emod_eq_of_lt n0 n1] at g0
  rw [e2, Int.emod_eq_of_lt b0.1 (by omega)] at g1
  rw [e8, Int.emod_eq_of_lt v0 (by omega)] at g2
  have g0' : Oct.getV p 0 4 = (name, true) := g0
  have g1' : Oct.getV p 6 2 = (bitV d, true) := g1
  have g2' : Oct.getV p 8 8 = (value, true) := g2
  unfold ofPart
  rw [g0', g1', g2', if_neg (by show ¬ value > 1099511627776; omega), PB.wrap_ok name (by omega) (by omega), PB.wrap_ok value (by omega) (by omega)]
  cases d <;> rfl
end Sym
end Go.Proofs.Ytoknnbjkjhigbaa.X
