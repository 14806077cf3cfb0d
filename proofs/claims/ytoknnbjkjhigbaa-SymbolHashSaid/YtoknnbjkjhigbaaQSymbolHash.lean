/- The one statement that is left of SymbolHash: a hash has 28 bits; of a short name it is its bytes. -/
import Derived.Test.YtoknnbjkjhigbaaSSymbolHash
import Derived.Test.YtoknnbjkjhigbaaQHash
namespace Go.Proofs.Ytoknnbjkjhigbaa.X
open Go.RowKit Go.Proofs.YtoknnbjkjhigbaaW.PrintWords Go.Proofs.YtoknnbjkjhigbaaW.PrintLast Go.Proofs.YtoknnbjkjhigbaaW.PrintMore
namespace SymbolHash
theorem awake_ev : Ev (fun k => flyleaflaw10_awake.f k) true := Ev.of (fun k => flyleaflaw10_awake.mono k) (k := 9) (by kernel_rfl)
theorem short_f (s : ByteArray) (n : Int) (hn : 0 ≤ n) : ∃ t, flyleaflaw10_short.f s n = some t ∧ t.size ≤ s.size ∧ (t.size : Int) ≤ n := by
  unfold flyleaflaw10_short.f
  by_cases h : (s.size : Int) > n
  · rw [if_pos h]
    refine ⟨s.extract 0 n.toNat, ?_, ?_, ?_⟩
    · rw [if_pos (by omega), if_pos (by omega)]
    · rw [ByteArray.size_extract]; omega
    · rw [ByteArray.size_extract]; omega
  · rw [if_neg h]
    exact ⟨s, rfl, Nat.le_refl _, by omega⟩
def nV (s : ByteArray) : Nat → Int
  | 0 => 0
  | i + 1 => nV s i * 16 + bt s i
theorem nV_range (s : ByteArray) : ∀ i, 0 ≤ nV s i ∧ nV s i + 17 ≤ 17 * 16 ^ i
  | 0 => ⟨Int.le_refl _, show (0 : Int) + 17 ≤ 17 * 16 ^ 0 by decide⟩
  | i + 1 => by
    obtain ⟨h0, h1⟩ := nV_range s i
    obtain ⟨b0, b1⟩ := bt_range s (i : Int)
    have e : (16 : Int) ^ (i + 1) = 16 ^ i * 16 := Int.pow_succ _ _
    simp only [nV]
    omega
theorem same (s : ByteArray) : ∀ i, nV s i < 268435456 → Hash.hashV s i = nV s i
  | 0, _ => rfl
  | i + 1, h => by
    obtain ⟨h0, _⟩ := nV_range s i
    obtain ⟨b0, b1⟩ := bt_range s (i : Int)
    simp only [nV] at h
    have hs := same s i (by omega)
    simp only [Hash.hashV, nV, hs]
    exact Hash.stepV_small _ _ h0 b0 h
theorem loop (s : ByteArray) (hz : s.size ≤ 6) : ∀ (d i : Nat), i + d = s.size → Ev (fun k => flyleaflaw10_SymbolHash.l0 k s true (Hash.hashV s s.size) (nV s i) (i : Int)) true := by
  intro d
  induction d with
  | zero =>
    intro i hi
    refine PB.ev_one fun k => ?_
    obtain rfl : i = s.size := by omega
    simp only [flyleaflaw10_SymbolHash.l0]
    rw [if_neg (by omega), if_pos trivial]
    by_cases c : nV s s.size ≥ 268435456
    · rw [if_pos c]
    · obtain ⟨h0, h1⟩ := Hash.hashV_range s s.size
      rw [if_neg c, PB.wrap_ok _ (by omega) (by omega), same s s.size (by omega), beq_self_eq_true]
  | succ d ih =>
    intro i hi
    obtain ⟨h0, h1⟩ := nV_range s i
    obtain ⟨b0, b1⟩ := bt_range s (i : Int)
    have hp : (16 : Int) ^ i ≤ 16 ^ 6 := by
      have : (16 ^ i : Nat) ≤ 16 ^ 6 := Nat.pow_le_pow_right (by decide) (by omega)
      have e1 : ((16 ^ i : Nat) : Int) = 16 ^ i := Int.natCast_pow 16 i
      have e2 : ((16 ^ 6 : Nat) : Int) = 16 ^ 6 := rfl
      omega
    have e6 : (16 : Int) ^ 6 = 16777216 := by decide
    refine PB.ev_succ (f := fun k => flyleaflaw10_SymbolHash.l0 k s true (Hash.hashV s s.size) (nV s (i + 1)) ((i + 1 : Nat) : Int)) (fun k => ?_) (ih (i + 1) (by omega))
    simp only [flyleaflaw10_SymbolHash.l0]
    rw [if_pos (by omega), if_pos (by omega), PB.wrap_ok (nV s i * 16) (by omega) (by omega), PB.wrap_ok (bt s i) (by omega) (by omega), PB.wrap_ok (nV s i * 16 + bt s i) (by omega) (by omega), show wrap64 ((i : Int) + 1) = ((i + 1 : Nat) : Int) by rw [PB.wrap_ok _ (by omega) (by omega)]; omega]
    rfl
theorem proved : flyleaflaw10_SymbolHash.Pure := by
  intro a ha
  refine Ev.rounds ?_
  unfold flyleaflaw10_SymbolHash.f
  refine Ev.bind awake_ev ?_
  obtain ⟨t, ht, ht1, ht2⟩ := short_f a 60 (by decide)
  refine Ev.bind (PB.ev_const fun k => ht) ?_
  refine Ev.bind (Hash.hash_ev t (by omega)) ?_
  obtain ⟨h0, h1⟩ := Hash.hashV_range t t.size
  refine Ev.congr (fun k => if_neg (by omega)) ?_
  by_cases c : (t.size : Int) > 6
  · exact PB.ev_const fun k => if_pos c
  · refine Ev.congr (fun k => if_neg c) ?_
    exact loop t (by omega) t.size 0 (by omega)
end SymbolHash
end Go.Proofs.Ytoknnbjkjhigbaa.X
