/- The one statement that is left of OctetBack: a number that is set is got back, and nothing else changes. -/
import Derived.Test.YtopbkfgeidnleaaSOctetBack
import Derived.Test.YtopbkfgeidnleaaQParts
namespace Go.Proofs.Ytopbkfgeidnleaa.X
open Go.RowKit Go.Proofs.YtopbkfgeidnleaaW.PrintWords Go.Proofs.YtopbkfgeidnleaaW.PrintLast Go.Proofs.YtopbkfgeidnleaaW.PrintMore
namespace OctetBack
theorem awake_ev : Ev (fun k => flyleaflaw01_awake.f k) true := Ev.of (fun k => flyleaflaw01_awake.mono k) (k := 9) (by kernel_rfl)
theorem short_f (s : ByteArray) (n : Int) (hn : 0 ≤ n) : ∃ t, flyleaflaw01_short.f s n = some t ∧ t.size ≤ s.size ∧ (t.size : Int) ≤ n := by
  unfold flyleaflaw01_short.f
  by_cases h : (s.size : Int) > n
  · rw [if_pos h]
    refine ⟨s.extract 0 n.toNat, ?_, ?_, ?_⟩
    · rw [if_pos (by omega), if_pos (by omega)]
    · rw [ByteArray.size_extract]; omega
    · rw [ByteArray.size_extract]; omega
  · rw [if_neg h]
    exact ⟨s, rfl, Nat.le_refl _, by omega⟩
theorem bt_list (s : ByteArray) (i : Nat) : bt s (i : Int) = ((s.data.toList.getD i 0).toNat : Int) := by
  rw [← rd_bytesOf]
  unfold rd bytesOf
  rw [Int.toNat_natCast, List.getD_eq_getElem?_getD, List.getD_eq_getElem?_getD, List.getElem?_map]
  cases s.data.toList[i]? <;> rfl
theorem size_list (s : ByteArray) : s.data.toList.length = s.size := by rw [Array.length_toList]; rfl
theorem splice_data (s : ByteArray) (i : Nat) (p : ByteArray) : (spliceB s i p).data.toList = (s.data.toList.take i ++ p.data.toList) ++ s.data.toList.drop (i + p.size) := rfl
theorem splice_size (s : ByteArray) (i : Nat) (p : ByteArray) (h : i + p.size ≤ s.size) : (spliceB s i p).size = s.size := by
  have l1 := size_list s
  have l2 := size_list p
  rw [← size_list, splice_data, List.length_append, List.length_append, List.length_take, List.length_drop]
  omega
theorem splice_head (s : ByteArray) (i : Nat) (p : ByteArray) (h : i + p.size ≤ s.size) : (spliceB s i p).extract 0 i = s.extract 0 i := by
  have l1 := size_list s
  apply Oct.ba_ext
  rw [Lib.extract_data, Lib.extract_data, splice_data, List.drop_zero, List.drop_zero, List.append_assoc, Nat.sub_zero, List.take_append_of_le_length (by rw [List.length_take]; omega), List.take_take, Nat.min_self]
theorem splice_mid (s : ByteArray) (i : Nat) (p : ByteArray) (h : i + p.size ≤ s.size) : (spliceB s i p).extract i (i + p.size) = p := by
  have l1 := size_list s
  have l2 := size_list p
  apply Oct.ba_ext
  rw [Lib.extract_data, splice_data, List.append_assoc, List.drop_append_of_le_length (by rw [List.length_take]; omega), List.drop_of_length_le (by rw [List.length_take]; omega), List.nil_append, show i + p.size - i = p.data.toList.length by omega, List.take_left']
  rfl
theorem splice_tail (s : ByteArray) (i : Nat) (p : ByteArray) (h : i + p.size ≤ s.size) : (spliceB s i p).extract (i + p.size) s.size = s.extract (i + p.size) s.size := by
  have l1 := size_list s
  have l2 := size_list p
  apply Oct.ba_ext
  rw [Lib.extract_data, Lib.extract_data, splice_data, List.drop_append, List.drop_of_length_le (by rw [List.length_append, List.length_take]; omega), List.nil_append, List.length_append, List.length_take, l2, show i + p.size - (min i s.data.toList.length + p.size) = 0 by omega, List.drop_zero]
theorem splice_bt (s : ByteArray) (i : Nat) (p : ByteArray) (h : i + p.size ≤ s.size) (j : Nat) (hj : j < p.size) : bt (spliceB s i p) ((i + j : Nat) : Int) = bt p (j : Int) := by
  have l1 := size_list s
  have l2 := size_list p
  rw [bt_list, bt_list, splice_data, List.append_assoc, List.getD_eq_getElem?_getD, List.getD_eq_getElem?_getD, List.getElem?_append_right (by rw [List.length_take]; omega), List.getElem?_append_left (by rw [List.length_take]; omega), List.length_take, show i + j - min i s.data.toList.length = j by omega]
theorem put_bt (n : Int) (w j : Nat) (hj : j < w) : bt (Oct.putB n w) (j : Int) = Oct.byteN n j := by
  have r0 : 0 ≤ Oct.byteN n j := Int.emod_nonneg _ (by decide)
  have r1 : Oct.byteN n j < 256 := Int.emod_lt_of_pos _ (by decide)
  rw [bt_list, Oct.putB, strOfNums_data, Oct.putL, List.getD_eq_getElem?_getD, List.getElem?_map, List.getElem?_map, List.getElem?_range hj]
  simp only [Option.map_some, Option.getD_some]
  rw [UInt8.toNat_ofNat', Nat.mod_eq_of_lt (by omega)]
  omega
theorem mod_step (n : Int) (hn : 0 ≤ n) (v : Nat) : n % 256 ^ (v + 1) = n % 256 ^ v + Oct.byteN n v * 256 ^ v := by
  obtain ⟨m, rfl⟩ := Int.eq_ofNat_of_zero_le hn
  rw [Oct.byteN_256, Oct.pow256, Oct.pow256]
  have e : m % 256 ^ (v + 1) = m % 256 ^ v + (m / 256 ^ v % 256) * 256 ^ v := by rw [Nat.pow_succ, Nat.mod_mul, Nat.mul_comm (256 ^ v)]
  generalize 256 ^ (v + 1) = A at e ⊢
  generalize 256 ^ v = B at e ⊢
  have : ((m % A : Nat) : Int) = ((m % B + m / B % 256 * B : Nat) : Int) := by rw [e]
  rw [Int.natCast_add, Int.natCast_mul, Int.natCast_emod, Int.natCast_emod, Int.natCast_emod, Int.natCast_ediv] at this
  exact this
theorem gv_splice (s : ByteArray) (i w : Nat) (n : Int) (hn : 0 ≤ n) (h : i + w ≤ s.size) : ∀ v, v ≤ w → Oct.gv (spliceB s i (Oct.putB n w)) (i : Int) v = n % 256 ^ v
  | 0, _ => by simp [Oct.gv]
  | v + 1, hv => by
    have e : ((i : Int) + (v : Int)) = ((i + v : Nat) : Int) := by omega
    rw [Oct.gv, gv_splice s i w n hn h v (by omega), e, splice_bt s i _ (by rw [Oct.putB_size]; omega) v (by rw [Oct.putB_size]; omega), put_bt n w v (by omega), mod_step n hn]
theorem want_eq (n : Int) (w : Nat) (_hw : 1 ≤ w) (hw2 : w ≤ 7) : Go.bits .and .u64 n (IntKind.u64.wrap ((shl .u64 1 (IntKind.u64.wrap (wrap64 (8 * (w : Int))))) - 1)) = n % 256 ^ w := by
  have e2 : (2 : Int) ^ (8 * w) = 256 ^ w := by rw [Int.pow_mul]; rfl
  have hp := Oct.pow256_pos w
  have hp7 : (256 : Int) ^ w ≤ 256 ^ 7 := Oct.pow256_le hw2
  have e7 : (256 : Int) ^ 7 = 72057594037927936 := by decide
  have hs : shl .u64 1 (IntKind.u64.wrap (wrap64 (8 * (w : Int)))) = 256 ^ w := by
    rw [PB.wrap_ok _ (by omega) (by omega), PB.u64_in _ (by omega) (by omega)]
    unfold shl
    rw [show (8 * (w : Int)).toNat = 8 * w by omega, show min (8 * w) IntKind.u64.bits = 8 * w from Nat.min_eq_left (by show 8 * w ≤ 64; omega), e2, Int.one_mul, PB.u64_in _ (by omega) (by omega)]
  rw [hs, PB.u64_in _ (by omega) (by omega), PB.and_u64 n (8 * w) (by omega) _ (by rw [e2]), e2]
theorem place (q : Int) (S w : Int) (hS : S ≤ 48) (h1 : 1 ≤ w) (h2 : w ≤ 8) (hw : w ≤ S) :
    ∃ a : Nat, Int.tmod (wrap64 ((wrap64 ((wrap64 ((Int.tmod q (wrap64 ((wrap64 (S - w)) + 1))) + S)) - w)) + 1)) (wrap64 ((wrap64 (S - w)) + 1)) = (a : Int) ∧ (a : Int) + w ≤ S := by
  rw [PB.wrap_ok (S - w) (by omega) (by omega), PB.wrap_ok (S - w + 1) (by omega) (by omega)]
  have t1 : Int.tmod q (S - w + 1) < S - w + 1 := Int.tmod_lt_of_pos q (by omega)
  have t0 : -(S - w + 1) < Int.tmod q (S - w + 1) := by
    have := Int.lt_tmod_of_pos q (show 0 < S - w + 1 by omega)
    omega
  rw [PB.wrap_ok (Int.tmod q (S - w + 1) + S) (by omega) (by omega), PB.wrap_ok (Int.tmod q (S - w + 1) + S - w) (by omega) (by omega), PB.wrap_ok (Int.tmod q (S - w + 1) + S - w + 1) (by omega) (by omega)]
  have u0 : 0 ≤ Int.tmod q (S - w + 1) + S - w + 1 := by omega
  rw [Int.tmod_eq_emod_of_nonneg u0]
  have m0 := Int.emod_nonneg (Int.tmod q (S - w + 1) + S - w + 1) (show S - w + 1 ≠ 0 by omega)
  have m1 := Int.emod_lt_of_pos (Int.tmod q (S - w + 1) + S - w + 1) (show 0 < S - w + 1 by omega)
  obtain ⟨a, ha⟩ := Int.eq_ofNat_of_zero_le m0
  exact ⟨a, ha, by omega⟩
theorem behind (s : ByteArray) (n : Int) (hn : 0 ≤ n) (hn2 : n < 18446744073709551616) (a w : Nat) (h1 : 1 ≤ w) (h2 : w ≤ 8) (h : a + w ≤ s.size) (hs : s.size ≤ 48) :
    Ev (fun k => flyleaflaw01_OctetBack.j0 k s n true (w : Int) (a : Int) (spliceB s a (Oct.putB n w)) false) true := by
  have zp : (Oct.putB n w).size = w := Oct.putB_size n w
  have zs : (spliceB s a (Oct.putB n w)).size = s.size := splice_size s a _ (by omega)
  have g : Ev (fun k => octet_Get.f k (spliceB s a (Oct.putB n w)) (a : Int) (w : Int)) (n % 256 ^ w, true) := by
    have := Oct.get_ev (spliceB s a (Oct.putB n w)) (a : Int) (w : Int) (by omega)
    have mm : Oct.may (spliceB s a (Oct.putB n w)) (a : Int) (w : Int) = true := decide_eq_true (by omega)
    unfold Oct.getV at this
    rwa [if_pos mm, Int.toNat_natCast, gv_splice s a w n hn h w (Nat.le_refl _)] at this
  have p : octet_Part.f (spliceB s a (Oct.putB n w)) (a : Int) (w : Int) = some (Oct.putB n w, true) := by
    rw [Oct.part_f _ _ _ (by omega)]
    unfold Oct.partV
    rw [if_pos (by omega), Int.toNat_natCast, show ((a : Int) + (w : Int)).toNat = a + (Oct.putB n w).size by omega, splice_mid s a _ (by omega)]
  have q : Ev (fun k => octet_Put.f k n (w : Int)) (Oct.putB n w) := by
    have := Oct.put_ev n (w : Int)
    rwa [(Oct.mn_mx (w : Int)).2.1 (by omega) (by omega), Int.toNat_natCast] at this
  have ew : wrap64 ((a : Int) + (w : Int)) = ((a + w : Nat) : Int) := by rw [PB.wrap_ok _ (by omega) (by omega)]; omega
  have hh := splice_head s a (Oct.putB n w) (by omega)
  have ht := splice_tail s a (Oct.putB n w) (by omega)
  rw [zp] at ht
  have fin : ∀ (r : Int), r = n % 256 ^ w → Ev (fun k => if (n % 256 ^ w, true).2 = true then (if (n % 256 ^ w, true).1 = r then (if (Oct.putB n w, true).2 = true then ((octet_Put.f k n (w : Int)).bind fun t155 => (if (Oct.putB n w, true).1.toList = t155.toList then (if 0 ≤ (a : Int) then (if (a : Int) ≤ ((spliceB s a (Oct.putB n w)).size : Int) then (if (a : Int) ≤ (s.size : Int) then (if ((spliceB s a (Oct.putB n w)).extract 0 (a : Int).toNat).toList = (s.extract 0 (a : Int).toNat).toList then (if 0 ≤ (wrap64 ((a : Int) + (w : Int))) then (if (wrap64 ((a : Int) + (w : Int))) ≤ ((spliceB s a (Oct.putB n w)).size : Int) then (if (wrap64 ((a : Int) + (w : Int))) ≤ (s.size : Int) then (some (((spliceB s a (Oct.putB n w)).extract ((wrap64 ((a : Int) + (w : Int))) : Int).toNat (spliceB s a (Oct.putB n w)).size).toList == (s.extract ((wrap64 ((a : Int) + (w : Int))) : Int).toNat s.size).toList)) else (none)) else (none)) else (none)) else (some false)) else (none)) else (none)) else (none)) else (some false))) else (some false)) else (some false)) else (some false)) true := by
    intro r hr
    refine Ev.congr (f := fun k => (octet_Put.f k n (w : Int)).bind _) (fun k => by rw [if_pos rfl, if_pos hr.symm, if_pos rfl]) ?_
    refine Ev.bind q ?_
    refine PB.ev_const fun k => ?_
    rw [if_pos rfl, if_pos (by omega), if_pos (by omega), if_pos (by omega), Int.toNat_natCast, hh, if_pos rfl, ew, if_pos (by omega), if_pos (by omega), if_pos (by omega), Int.toNat_natCast, zs, ht]
    simp
  by_cases c : w < 8
  · refine PB.ev_succ (f := fun k => flyleaflaw01_OctetBack.j0 (k + 1) s n true (w : Int) (a : Int) (spliceB s a (Oct.putB n w)) false) (fun k => rfl) ?_
    simp only [flyleaflaw01_OctetBack.j0, Bool.false_eq_true, if_false]
    · refine Ev.bind g ?_
      refine Ev.congr (fun k => ?_) (fin _ rfl)
      have h0 : 0 ≤ IntKind.u64.wrap (wrap64 (8 * (w : Int))) := by rw [PB.wrap_ok _ (by omega) (by omega), PB.u64_in _ (by omega) (by omega)]; omega
      have hc : (w : Int) < 8 := by omega
      rw [if_pos hc, if_pos h0, p]
      simp only [Option.bind_some, if_true, want_eq n w h1 (show w ≤ 7 by omega)]
  · have e8 : w = 8 := by omega
    have nm : n % 256 ^ w = n := by
      subst e8
      exact Int.emod_eq_of_lt hn (by have : (256 : Int) ^ 8 = 18446744073709551616 := by decide
                                     rw [this]; exact hn2)
    refine PB.ev_succ (f := fun k => flyleaflaw01_OctetBack.j0 (k + 1) s n true (w : Int) (a : Int) (spliceB s a (Oct.putB n w)) false) (fun k => rfl) ?_
    simp only [flyleaflaw01_OctetBack.j0, Bool.false_eq_true, if_false]
    · refine Ev.bind g ?_
      refine Ev.congr (fun k => ?_) (fin n nm.symm)
      have hc : ¬ (w : Int) < 8 := by omega
      rw [if_neg hc, p]
      simp only [Option.bind_some, if_true]
theorem proved : flyleaflaw01_OctetBack.Pure := by
  intro s q n hs hq hn
  obtain ⟨h0, h1⟩ := hq
  have b0 := PB.wfI_i64 h0
  have b1 := PB.wfI_i64 h1
  have bn := PB.wfI_u64 hn
  refine Ev.rounds ?_
  unfold flyleaflaw01_OctetBack.f
  refine Ev.bind awake_ev ?_
  obtain ⟨t, ht, ht1, ht2⟩ := short_f s 40 (by decide)
  refine Ev.bind (PB.ev_const fun k => ht) ?_
  have lz : (⟨#[49, 50, 51, 52, 53, 54, 55, 56]⟩ : ByteArray).size = 8 := rfl
  have hS : (t ++ (⟨#[49, 50, 51, 52, 53, 54, 55, 56]⟩ : ByteArray)).size = t.size + 8 := by rw [ByteArray.size_append, lz]
  have e := PB.and_i64 q.f1 3 (by decide) 7 (by decide)
  have e3 : (2 : Int) ^ 3 = 8 := by decide
  rw [e3] at e
  rw [e]
  have m0 := Int.emod_nonneg q.f1 (show (8 : Int) ≠ 0 by decide)
  have m1 := Int.emod_lt_of_pos q.f1 (show (0 : Int) < 8 by decide)
  rw [PB.wrap_ok (1 + q.f1 % 8) (by omega) (by omega)]
  obtain ⟨w, hw⟩ := Int.eq_ofNat_of_zero_le (show 0 ≤ 1 + q.f1 % 8 by omega)
  rw [hw]
  obtain ⟨a, ha, haw⟩ := place q.f0 ((t.size : Int) + 8) (w : Int) (by omega) (by omega) (by omega) (by omega)
  rw [ha]
  have hne : ¬ wrap64 ((wrap64 (((t.size : Int) + 8) - (w : Int))) + 1) = 0 := by rw [PB.wrap_ok ((t.size : Int) + 8 - w) (by omega) (by omega), PB.wrap_ok _ (by omega) (by omega)]; omega
  refine Ev.congr (f := fun k => (octet_Set.f k (t ++ (⟨#[49, 50, 51, 52, 53, 54, 55, 56]⟩ : ByteArray)) (a : Int) (w : Int) n).bind _) (fun k => by rw [if_pos (by omega), if_neg hne]) ?_
  generalize hs' : t ++ (⟨#[49, 50, 51, 52, 53, 54, 55, 56]⟩ : ByteArray) = s' at hS ⊢
  refine Ev.bind (Oct.set_ev s' (a : Int) (w : Int) n (by omega)) ?_
  have sv : Oct.setV s' (a : Int) (w : Int) n = (spliceB s' a (Oct.putB n w), true) := by
    have mm : Oct.may s' (a : Int) (w : Int) = true := decide_eq_true (by omega)
    unfold Oct.setV
    rw [if_pos mm, Int.toNat_natCast, Int.toNat_natCast]
  rw [sv]
  have zs := splice_size s' a (Oct.putB n w) (by rw [Oct.putB_size]; omega)
  refine Ev.congr (fun k => ?_) (behind s' n bn.1 bn.2 a w (by omega) (by omega) (by omega) (by omega))
  rw [if_pos rfl, zs, show (((s'.size : Nat) : Int) != (t.size : Int) + 8) = false by rw [bne_eq_false_iff_eq]; omega]
end OctetBack
end Go.Proofs.Ytopbkfgeidnleaa.X
