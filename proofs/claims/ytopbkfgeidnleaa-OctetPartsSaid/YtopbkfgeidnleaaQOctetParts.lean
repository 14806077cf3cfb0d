/- The one statement that is left of OctetParts: parts, texts, rounding and ranges are as the reference says. -/
import Derived.Test.YtopbkfgeidnleaaSOctetParts
import Derived.Test.YtopbkfgeidnleaaQParts
namespace Go.Proofs.Ytopbkfgeidnleaa.X
open Go.RowKit Go.Proofs.YtopbkfgeidnleaaW.PrintWords Go.Proofs.YtopbkfgeidnleaaW.PrintLast Go.Proofs.YtopbkfgeidnleaaW.PrintMore
namespace OctetParts
theorem awake_ev : Ev (fun k => flyleaflaw01_awake.f k) true := Ev.of (fun k => flyleaflaw01_awake.mono k) (k := 9) (by kernel_rfl)
theorem short_f (s : ByteArray) (n : Int) (hn : 0 ≤ n) : ∃ t, flyleaflaw01_short.f s n = some t ∧ t.size ≤ s.size ∧ (t.size : Int) ≤ n := by
  unfold flyleaflaw01_short.f
  by_cases h : (s.size : Int) > n
  · rw [if_pos h]
    refine ⟨s.extract 0 n.toNat, ?_, ?_, ?_⟩
    · rw [if_pos (by omega), if_pos (by omega)]
    · rw [ByteArray.size_extract]; omega
    · rw [ByteArray.size_extract]; omega
  · rw [if_neg h]
    exact ⟨s, rfl, Nat.le_refl _, by omega⟩
theorem within_same (a b c : Int) : ∃ v, octet_Within.f a b c = some v ∧ flyleafref01_Within.f a b c = some v := by
  have e : flyleafref01_Within.f a b c = octet_Within.f a b c := rfl
  rw [e]
  unfold octet_Within.f
  split
  · split
    · split
      · exact ⟨_, rfl, rfl⟩
      · exact ⟨_, rfl, rfl⟩
    · exact ⟨_, rfl, rfl⟩
  · exact ⟨_, rfl, rfl⟩
theorem proved : flyleaflaw01_OctetParts.Pure := by
  intro s q n hs hq hn
  obtain ⟨h0, h1, h2⟩ := hq
  have b0 := PB.wfI_i64 h0
  have b1 := PB.wfI_i64 h1
  have bn := PB.wfI_i64 hn
  refine Ev.rounds ?_
  unfold flyleaflaw01_OctetParts.f
  refine Ev.bind awake_ev ?_
  obtain ⟨t, ht, ht1, ht2⟩ := short_f s 40 (by decide)
  refine Ev.bind (PB.ev_const fun k => ht) ?_
  refine Ev.bind (PB.ev_const fun k => Oct.part_f t q.f0 q.f1 (by omega)) ?_
  refine Ev.bind (PB.ev_const fun k => Oct.rpart_f t q.f0 q.f1 (by omega)) ?_
  refine Ev.bind (Oct.text_ev t q.f0 q.f1 (by omega)) ?_
  refine Ev.bind (Oct.rtext_ev t q.f0 q.f1 (by omega) (by omega)) ?_
  refine Ev.bind (Oct.round_ev q.f0 q.f1 b0 b1) ?_
  refine Ev.bind (Oct.rround_ev q.f0 q.f1 b0 b1) ?_
  obtain ⟨v, hv, hw⟩ := within_same q.f0 q.f1 q.f2
  have go : ∀ m : Int, m ≤ 99 → Ev (fun k => flyleaflaw01_OctetParts.j0 k t m true (Oct.partV t q.f0 q.f1).1 (Oct.partV t q.f0 q.f1).2 (Oct.partV t q.f0 q.f1).1 (Oct.partV t q.f0 q.f1).2 (Oct.textV t q.f0 q.f1).1 (Oct.textV t q.f0 q.f1).2 (Oct.textV t q.f0 q.f1).1 (Oct.textV t q.f0 q.f1).2 (Oct.roundV q.f0 q.f1).1 (Oct.roundV q.f0 q.f1).2 (Oct.roundV q.f0 q.f1).1 (Oct.roundV q.f0 q.f1).2 q.f0 q.f1 q.f2) true := by
    intro m hm
    refine PB.ev_one fun k => ?_
    simp only [flyleaflaw01_OctetParts.j0]
    rw [if_pos trivial, if_pos trivial, if_pos (by simp), if_pos trivial, if_pos (by simp), if_pos trivial, if_pos (by simp), Oct.fill_f t m (by omega) (by omega)]
    simp only [Option.bind_some]
    rw [Oct.rfill_f t m (by omega) (by omega)]
    simp only [Option.bind_some]
    rw [if_pos trivial, hv]
    simp only [Option.bind_some]
    rw [hw]
    simp
  by_cases c : n > 99
  · exact Ev.congr (fun k => if_pos c) (go 99 (by decide))
  · exact Ev.congr (fun k => if_neg c) (go n (by omega))
end OctetParts
end Go.Proofs.Ytopbkfgeidnleaa.X
