/- The one statement that is left of OctetPut: a wider number begins with a narrower one's bytes; so many bytes are put as there are. -/
import Derived.Test.YtopbkfgeidnleaaSOctetPut
import Derived.Test.YtopbkfgeidnleaaQOct
namespace Go.Proofs.Ytopbkfgeidnleaa.X
open Go.RowKit Go.Proofs.YtopbkfgeidnleaaW.PrintWords Go.Proofs.YtopbkfgeidnleaaW.PrintLast Go.Proofs.YtopbkfgeidnleaaW.PrintMore
namespace OctetPut
theorem awake_ev : Ev (fun k => flyleaflaw01_awake.f k) true := Ev.of (fun k => flyleaflaw01_awake.mono k) (k := 9) (by kernel_rfl)
theorem wid (m : Nat) (h : m ≤ 8) : (mn (mx (m : Int) 0) 8).toNat = m := by unfold mn mx; split <;> split <;> omega
theorem cut_put (n : Int) (w v : Nat) (h : w ≤ v) : ((Oct.putB n v).extract 0 w).toList = (Oct.putB n w).toList := by
  rw [ByteArray.toList_eq, ByteArray.toList_eq, Lib.extract_data]
  show ((strOfNums (Oct.putL n v)).data.toList.drop 0).take (w - 0) = (strOfNums (Oct.putL n w)).data.toList
  rw [strOfNums_data, strOfNums_data, List.drop_zero, Nat.sub_zero, ← List.map_take, Oct.putL_take n w v h]
theorem rest_ev (n : Int) (w v : Nat) (hwv : w ≤ v) (hv : v ≤ 8) : Ev (fun k => flyleaflaw01_OctetPut.j0 k n true (w : Int) (v : Int)) true := by
  refine PB.ev_succ (f := fun k => (octet_Put.f k n (w : Int)).bind fun t114 => ((octet_Put.f k n (v : Int)).bind fun t115 => (if (t114.size : Int) = (w : Int) then (if (t115.size : Int) = (v : Int) then (if 0 ≤ (w : Int) then (if (w : Int) ≤ (t115.size : Int) then (if (t115.extract 0 ((w : Int) : Int).toNat).toList = t114.toList then ((octet_Put.f k n (-1)).bind fun t116 => (if t116.toList = ([] : List UInt8) then ((octet_Put.f k n 9).bind fun t117 => (some ((t117.size : Int) == 8))) else (some false))) else (some false)) else (none)) else (none)) else (some false)) else (some false)))) (fun k => by simp only [flyleaflaw01_OctetPut.j0, if_true]) ?_
  refine Ev.bind (Oct.put_ev n w) ?_
  refine Ev.bind (Oct.put_ev n v) ?_
  rw [wid w (by omega), wid v hv]
  refine Ev.congr (f := fun k => (octet_Put.f k n (-1)).bind fun t116 => (if t116.toList = ([] : List UInt8) then ((octet_Put.f k n 9).bind fun t117 => (some ((t117.size : Int) == 8))) else (some false))) (fun k => ?_) ?_
  · rw [Oct.putB_size, Oct.putB_size, if_pos rfl, if_pos rfl, if_pos (by omega), if_pos (by omega), Int.toNat_natCast, if_pos (cut_put n w v hwv)]
  refine Ev.bind (Oct.put_ev n (-1)) ?_
  refine Ev.congr (f := fun k => (octet_Put.f k n 9).bind fun t117 => (some ((t117.size : Int) == 8))) (fun k => if_pos (by rw [ByteArray.toList_eq]; rfl)) ?_
  refine Ev.bind (Oct.put_ev n 9) ?_
  exact PB.ev_const fun k => by rw [Oct.putB_size]; rfl
theorem proved : flyleaflaw01_OctetPut.Pure := by
  intro n a b _ ha hb
  refine Ev.rounds ?_
  have h9 : ∀ x : Int, ∃ m : Nat, Int.tmod (wrap64 (Int.tmod x 9 + 9)) 9 = m ∧ m ≤ 8 := by
    intro x
    have h1 := Int.tmod_lt_of_pos x (show (0 : Int) < 9 by decide)
    have h2 : -9 < Int.tmod x 9 := by have := Int.lt_tmod_of_pos x (show (0 : Int) < 9 by decide); omega
    rw [PB.wrap_ok _ (by omega) (by omega), Int.tmod_eq_emod_of_nonneg (by omega)]
    have h3 := Int.emod_nonneg (Int.tmod x 9 + 9) (show (9 : Int) ≠ 0 by decide)
    have h4 := Int.emod_lt_of_pos (Int.tmod x 9 + 9) (show (0 : Int) < 9 by decide)
    exact ⟨((Int.tmod x 9 + 9) % 9).toNat, by omega, by omega⟩
  obtain ⟨w, hw, hw8⟩ := h9 a
  obtain ⟨v, hv, hv8⟩ := h9 b
  unfold flyleaflaw01_OctetPut.f
  refine Ev.bind awake_ev ?_
  rw [hw, hv]
  by_cases h : (w : Int) > (v : Int)
  · exact Ev.congr (fun k => if_pos h) (rest_ev n v w (by omega) hw8)
  · exact Ev.congr (fun k => if_neg h) (rest_ev n w v (by omega) hv8)
end OctetPut
end Go.Proofs.Ytopbkfgeidnleaa.X
