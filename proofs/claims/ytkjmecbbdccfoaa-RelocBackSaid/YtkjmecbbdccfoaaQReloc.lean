/- Relocations: what the functions of package reloc and of the reference come to, as plain values. -/
import Derived.Test.YtkjmecbbdccfoaaQRPut
import Derived.Test.YtkjmecbbdccfoaaX0
import Derived.Test.YtkjmecbbdccfoaaX1
import Derived.Test.YtkjmecbbdccfoaaX2
import Derived.Test.YtkjmecbbdccfoaaX3
import Derived.Test.YtkjmecbbdccfoaaX4
import Derived.Test.YtkjmecbbdccfoaaX5
import Derived.Test.YtkjmecbbdccfoaaX6
namespace Go.Proofs.Ytkjmecbbdccfoaa.X
open Go.RowKit Go.Proofs.YtkjmecbbdccfoaaW.PrintWords Go.Proofs.YtkjmecbbdccfoaaW.PrintLast Go.Proofs.YtkjmecbbdccfoaaW.PrintMore
namespace Reloc
def known (kind : Int) : Bool := decide (kind = 1 ∨ kind = 6 ∨ kind = 7 ∨ kind = 8)
def valueV (kind add base sym : Int) : Int × Bool :=
  if kind = 1 then (IntKind.u64.wrap (IntKind.u64.wrap sym + IntKind.u64.wrap add), true)
  else if kind = 6 ∨ kind = 7 then (IntKind.u64.wrap sym, true)
  else if kind = 8 then (IntKind.u64.wrap (IntKind.u64.wrap base + IntKind.u64.wrap add), true)
  else (0, false)
theorem value_is (kind add base sym : Int) : (valueV kind add base sym).2 = known kind := by
  unfold valueV known
  by_cases c1 : kind = 1
  · rw [if_pos c1, decide_eq_true (by omega)]
  · rw [if_neg c1]
    by_cases c2 : kind = 6 ∨ kind = 7
    · rw [if_pos c2, decide_eq_true (by omega)]
    · rw [if_neg c2]
      by_cases c3 : kind = 8
      · rw [if_pos c3, decide_eq_true (by omega)]
      · rw [if_neg c3, decide_eq_false (by omega)]
theorem value_ev (at' kind sym' add base sym : Int) : Ev (fun k => reloc_Value.f k at' kind sym' add base sym) (valueV kind add base sym) := by
  refine PB.ev_one fun k => ?_
  unfold reloc_Value.f valueV
  simp only [reloc_Value.j0]
  by_cases c1 : kind = 1
  · rw [if_pos c1, if_pos c1]
  · rw [if_neg c1, if_neg c1]
    by_cases c6 : kind = 6
    · rw [if_pos c6, if_pos (by rw [c6]; rfl), if_pos (Or.inl c6)]
    · rw [if_neg c6]
      by_cases c7 : kind = 7
      · rw [if_pos (by rw [c7]; rfl), if_pos (Or.inr c7)]
      · have h67 : ¬ (kind = 6 ∨ kind = 7) := by omega
        rw [if_neg (by simpa using c7), if_neg h67]
        split <;> rfl
theorem awake_ev : Ev (fun k => flyleaflaw11_awake.f k) true := by
  unfold flyleaflaw11_awake.f
  refine Ev.bind (value_ev 0 8 0 16 4096 0) ?_
  refine Ev.bind (value_ev 0 1 0 (-1) 0 70) ?_
  exact PB.ev_const fun k => by kernel_rfl
def asksV (kind : Int) : Bool := decide (kind = 1 ∨ kind = 6 ∨ kind = 7)
theorem asks_f (at' kind sym' add : Int) : reloc_Asks.f at' kind sym' add = some (asksV kind) := by
  unfold reloc_Asks.f asksV
  by_cases c1 : kind = 1
  · rw [if_pos c1, decide_eq_true (by omega)]
  · rw [if_neg c1]
    by_cases c6 : kind = 6
    · rw [if_pos c6, decide_eq_true (by omega)]
    · rw [if_neg c6]
      by_cases c7 : kind = 7
      · rw [if_pos c7, decide_eq_true (by omega)]
      · rw [if_neg c7, decide_eq_false (by omega)]
theorem mx_range (n : Int) (h : -9223372036854775808 ≤ n ∧ n < 9223372036854775808) : 0 ≤ IntKind.u64.wrap (mx n 0) ∧ IntKind.u64.wrap (mx n 0) < 18446744073709551616 := by
  have : 0 ≤ mx n 0 ∧ mx n 0 < 9223372036854775808 := by unfold mx; split <;> omega
  rw [PB.u64_in _ this.1 (by omega)]
  omega
theorem u64_range (n : Int) : 0 ≤ IntKind.u64.wrap n ∧ IntKind.u64.wrap n < 18446744073709551616 := by rw [IntKind.wrap_u64]; omega
/-- A number's bytes. -/
def numB (n : Int) (w : Nat) : ByteArray := Oct.putB (IntKind.u64.wrap (mx n 0)) w
theorem numB_size (n : Int) (w : Nat) : (numB n w).size = w := Oct.putB_size _ _
theorem put_ev (n w : Int) (h0 : 0 ≤ w) (h8 : w ≤ 8) : Ev (fun k => reloc_put.f k n w) (numB n w.toNat) := by
  unfold reloc_put.f
  have := Oct.put_ev (IntKind.u64.wrap (mx n 0)) w
  rw [(Oct.mn_mx w).2.1 h0 h8] at this
  exact Ev.bind this (Ev.now _)
def bytesV (at' kind sym add : Int) : ByteArray := ((numB at' 8 ++ numB kind 4) ++ numB sym 4) ++ Oct.putB (IntKind.u64.wrap add) 8
theorem bytesV_size (at' kind sym add : Int) : (bytesV at' kind sym add).size = 24 := by
  unfold bytesV
  simp only [ByteArray.size_append, numB_size, Oct.putB_size]
theorem bytes_ev (at' kind sym add : Int) (_h0 : -9223372036854775808 ≤ at' ∧ at' < 9223372036854775808) (_h1 : -9223372036854775808 ≤ kind ∧ kind < 9223372036854775808) (_h2 : -9223372036854775808 ≤ sym ∧ sym < 9223372036854775808) (_h3 : -9223372036854775808 ≤ add ∧ add < 9223372036854775808) :
    Ev (fun k => reloc_Bytes.f k at' kind sym add) (bytesV at' kind sym add) := by
  unfold reloc_Bytes.f
  refine Ev.bind (put_ev at' 8 (by decide) (by decide)) ?_
  refine Ev.bind (put_ev kind 4 (by decide) (by decide)) ?_
  have z8 : ∀ n, (numB n (8 : Int).toNat).size = 8 := fun n => numB_size n 8
  have z4 : ∀ n, (numB n (4 : Int).toNat).size = 4 := fun n => numB_size n 4
  rw [z8, z4]
  refine Ev.congr (fun k => if_pos (by decide)) ?_
  refine Ev.bind (put_ev sym 4 (by decide) (by decide)) ?_
  rw [z4]
  refine Ev.congr (fun k => if_pos (by decide)) ?_
  have e := Oct.put_ev (IntKind.u64.wrap add) 8
  refine Ev.bind e ?_
  rw [Oct.putB_size]
  refine Ev.congr (fun k => if_pos (by decide)) ?_
  exact Ev.now _
end Reloc
end Go.Proofs.Ytkjmecbbdccfoaa.X
