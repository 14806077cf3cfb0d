/- The one statement that is left of SymbolBack: a symbol is read as it was written, at its number. -/
import Derived.Test.YtoknnbjkjhigbaaSSymbolBack
import Derived.Test.YtoknnbjkjhigbaaQSymbol
namespace Go.Proofs.Ytoknnbjkjhigbaa.X
open Go.RowKit Go.Proofs.YtoknnbjkjhigbaaW.PrintWords Go.Proofs.YtoknnbjkjhigbaaW.PrintLast Go.Proofs.YtoknnbjkjhigbaaW.PrintMore
namespace SymbolBack
theorem awake_ev : Ev (fun k => flyleaflaw10_awake.f k) true := Ev.of (fun k => flyleaflaw10_awake.mono k) (k := 9) (by kernel_rfl)
theorem fill_zero (n : Nat) (h0 : 0 < n) (h1 : n ≤ 1000) : flyleafref01_Fill.f (⟨#[]⟩ : ByteArray) (n : Int) = some (Oct.zeroB n) := by
  have z0 : (⟨#[]⟩ : ByteArray).size = 0 := rfl
  rw [Oct.rfill_f ⟨#[]⟩ (n : Int) (by omega) (by omega)]
  unfold Oct.fillV
  rw [if_neg (by omega), Int.toNat_natCast, z0, Nat.sub_zero]
  exact congrArg some (Oct.ba_ext (by rw [Oct.data_app]; rfl))
theorem proved : flyleaflaw10_SymbolBack.Pure := by
  intro y i hy _
  refine Ev.rounds ?_
  unfold flyleaflaw10_SymbolBack.f
  refine Ev.bind awake_ev ?_
  have en := PB.and_i64 y.f0 32 (by decide) 4294967295 (by decide)
  have e32 : (2 : Int) ^ 32 = 4294967296 := by decide
  rw [e32] at en
  have ev := PB.and_i64 y.f2 40 (by decide) 1099511627775 (by decide)
  have e40 : (2 : Int) ^ 40 = 1099511627776 := by decide
  rw [e40] at ev
  rw [en, ev]
  have n0 := Int.emod_nonneg y.f0 (show (4294967296 : Int) ≠ 0 by decide)
  have n1 := Int.emod_lt_of_pos y.f0 (show (0 : Int) < 4294967296 by decide)
  have v0 := Int.emod_nonneg y.f2 (show (1099511627776 : Int) ≠ 0 by decide)
  have v1 := Int.emod_lt_of_pos y.f2 (show (0 : Int) < 1099511627776 by decide)
  generalize y.f0 % 4294967296 = name at *
  generalize y.f2 % 1099511627776 = value at *
  generalize y.f1 = d at *
  have t1 := Int.tmod_lt_of_pos i (show (0 : Int) < 9 by decide)
  have t0 := Int.lt_tmod_of_pos i (show (0 : Int) < 9 by decide)
  have ek : Int.tmod (wrap64 (Int.tmod i 9 + 9)) 9 = (Int.tmod i 9 + 9) % 9 := by rw [PB.wrap_ok _ (by omega) (by omega), Int.tmod_eq_emod_of_nonneg (by omega)]
  rw [ek]
  have k0 := Int.emod_nonneg (Int.tmod i 9 + 9) (show (9 : Int) ≠ 0 by decide)
  have k1 := Int.emod_lt_of_pos (Int.tmod i 9 + 9) (show (0 : Int) < 9 by decide)
  obtain ⟨m, hm⟩ := Int.eq_ofNat_of_zero_le k0
  rw [hm] at k1 ⊢
  refine Ev.bind (Sym.bytes_ev name d value) ?_
  have zb := Sym.bytesV_size name d value
  rw [PB.wrap_ok (24 * (m : Int)) (by omega) (by omega), PB.wrap_ok (8 + 24 * (m : Int)) (by omega) (by omega), PB.wrap_ok ((m : Int) + 3) (by omega) (by omega), show 8 + 24 * (m : Int) = ((8 + 24 * m : Nat) : Int) by omega]
  refine Ev.bind (PB.ev_const fun k => fill_zero (8 + 24 * m) (by omega) (by omega)) ?_
  have z1 := Oct.zeroB_size (8 + 24 * m)
  have z2 := Oct.zeroB_size 40
  refine Ev.congr (fun k => if_pos (by omega)) ?_
  refine Ev.bind (PB.ev_const fun k => fill_zero 40 (by decide) (by decide)) ?_
  refine Ev.congr (fun k => if_pos (by omega)) ?_
  have ha : Sym.at_ ((Oct.zeroB (8 + 24 * m) ++ Sym.bytesV name d value) ++ Oct.zeroB 40) (8 + 24 * m) name d value := by
    have h := Sym.at_r (Sym.at_bytes name d value n0 (by omega) v0 (by omega)) (Oct.zeroB (8 + 24 * m))
    rw [z1] at h
    exact Sym.at_l h _
  have hz : ((Oct.zeroB (8 + 24 * m) ++ Sym.bytesV name d value) ++ Oct.zeroB 40).size = 72 + 24 * m := by rw [ByteArray.size_append, ByteArray.size_append, z1, z2, zb]; omega
  generalize (Oct.zeroB (8 + 24 * m) ++ Sym.bytesV name d value) ++ Oct.zeroB 40 = v at *
  refine Ev.bind (Sym.read_ev v [] 0 0 8 0 0 0 0 0 (m : Int) (by omega)) ?_
  refine Ev.bind (Sym.read_ev v [] 0 0 8 0 0 0 0 0 ((m : Int) + 3) (by omega)) ?_
  refine Ev.bind (Sym.read_ev v [] 0 0 0 0 0 0 0 0 0 (by omega)) ?_
  have r1 : Sym.readV v 8 (m : Int) = (name, d, value, true) := by
    have pv : Oct.partV v (8 + 24 * (m : Int)) 24 = (v.extract (8 + 24 * m) (8 + 24 * m + 24), true) := by
      unfold Oct.partV
      rw [if_pos (by omega), show (8 + 24 * (m : Int)).toNat = 8 + 24 * m by omega, show (8 + 24 * (m : Int) + 24).toNat = 8 + 24 * m + 24 by omega]
    have hp : Sym.at_ (v.extract (8 + 24 * m) (8 + 24 * m + 24)) 0 name d value :=
      ⟨Oct.stands_part (8 + 24 * m) 24 ha.1 (by decide) (by omega), Oct.stands_part (8 + 24 * m) 24 ha.2.1 (by decide) (by omega), Oct.stands_part (8 + 24 * m) 24 ha.2.2 (by decide) (by omega)⟩
    unfold Sym.readV
    rw [if_neg (by omega), pv, if_pos rfl, Sym.ofPart_at _ name d value n0 n1 v0 (by omega) hp]
  have r2 : Sym.readV v 8 ((m : Int) + 3) = (0, false, 0, false) := by
    have pv : (Oct.partV v (8 + 24 * ((m : Int) + 3)) 24).2 = false := by
      unfold Oct.partV
      rw [if_neg (by omega)]
    unfold Sym.readV
    rw [if_neg (by omega), pv, if_neg (by decide)]
  have r3 : Sym.readV v 0 0 = (0, false, 0, false) := by
    unfold Sym.readV
    rw [if_pos (.inr (.inr (.inl (by decide))))]
  rw [r1, r2, r3]
  refine PB.ev_const fun k => ?_
  rw [if_pos rfl, if_pos (by rw [zb]; rfl), if_pos rfl, if_pos (by simp), if_neg (by decide), if_neg (by decide)]
  rfl
end SymbolBack
end Go.Proofs.Ytoknnbjkjhigbaa.X
