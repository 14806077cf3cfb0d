/- The one statement that is left of OctetNumbers: numbers are put, got and set as the reference says. -/
import Derived.Test.YtopbkfgeidnleaaSOctetNumbers
import Derived.Test.YtopbkfgeidnleaaQSet
namespace Go.Proofs.Ytopbkfgeidnleaa.X
open Go.RowKit Go.Proofs.YtopbkfgeidnleaaW.PrintWords Go.Proofs.YtopbkfgeidnleaaW.PrintLast Go.Proofs.YtopbkfgeidnleaaW.PrintMore
namespace OctetNumbers
theorem awake_ev : Ev (fun k => flyleaflaw01_awake.f k) true := Ev.of (fun k => flyleaflaw01_awake.mono k) (k := 9) (by kernel_rfl)
theorem short_f (s : ByteArray) (n : Int) (hn : 0 ≤ n) : ∃ t, flyleaflaw01_short.f s n = some t ∧ t.size ≤ s.size ∧ (t.size : Int) ≤ n := by
  unfold flyleaflaw01_short.f
  by_cases h : (s.size : Int) > n
  · rw [if_pos h]
    refine ⟨s.extract 0 n.toNat, ?_, ?_, ?_⟩
    · rw [if_pos (by omega), if_pos (by omega)]
    · rw [ByteArray.size_extract]; omega
    · rw [ByteArray.size_extract]; omega
  · rw [if_neg h]
    exact ⟨s, rfl, Nat.le_refl _, by omega⟩
theorem proved : flyleaflaw01_OctetNumbers.Pure := by
  intro s q n hs _ hn
  have hn' := PB.wfI_u64 hn
  refine Ev.rounds ?_
  unfold flyleaflaw01_OctetNumbers.f
  refine Ev.bind awake_ev ?_
  obtain ⟨t, ht, ht1, ht2⟩ := short_f s 40 (by decide)
  refine Ev.bind (PB.ev_const fun k => ht) ?_
  refine Ev.bind (Oct.get_ev t q.f0 q.f1 (by omega)) ?_
  refine Ev.bind (Oct.rget_ev t q.f0 q.f1 (by omega)) ?_
  refine Ev.bind (Oct.set_ev t q.f0 q.f1 n (by omega)) ?_
  refine Ev.bind (Oct.rset_ev t q.f0 q.f1 n (by omega) hn'.1 hn'.2) ?_
  refine Ev.congr (f := fun k => (octet_Put.f k n q.f1).bind fun t143 => ((flyleafref01_Put.f k n q.f1).bind fun t144 => (some (t143.toList == t144.toList)))) (fun k => by simp) ?_
  refine Ev.bind (Oct.put_ev n q.f1) ?_
  refine Ev.bind (Oct.rput_ev n q.f1 hn'.1 hn'.2) ?_
  exact PB.ev_const fun k => by simp
end OctetNumbers
end Go.Proofs.Ytopbkfgeidnleaa.X
