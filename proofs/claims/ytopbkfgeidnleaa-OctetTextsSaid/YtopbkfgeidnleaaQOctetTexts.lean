/- The one statement that is left of OctetTexts: a text with a byte 0 behind is told at its place, whatever stands around it. -/
import Derived.Test.YtopbkfgeidnleaaSOctetTexts
import Derived.Test.YtopbkfgeidnleaaQParts
namespace Go.Proofs.Ytopbkfgeidnleaa.X
open Go.RowKit Go.Proofs.YtopbkfgeidnleaaW.PrintWords Go.Proofs.YtopbkfgeidnleaaW.PrintLast Go.Proofs.YtopbkfgeidnleaaW.PrintMore
namespace OctetTexts
theorem awake_ev : Ev (fun k => flyleaflaw01_awake.f k) true := Ev.of (fun k => flyleaflaw01_awake.mono k) (k := 9) (by kernel_rfl)
theorem short_f (s : ByteArray) (n : Int) (hn : 0 ≤ n) : ∃ t, flyleaflaw01_short.f s n = some t ∧ t.size ≤ s.size ∧ (t.size : Int) ≤ n := by
  unfold flyleaflaw01_short.f
  by_cases h : (s.size : Int) > n
  · rw [if_pos h]
    refine ⟨s.extract 0 n.toNat, ?_, ?_, ?_⟩
    · rw [if_pos (by omega), if_pos (by omega)]
    · rw [ByteArray.size_extract]; omega
    · rw [ByteArray.size_extract]; omega
  · rw [if_neg h]
    exact ⟨s, rfl, Nat.le_refl _, by omega⟩
theorem bt_list (s : ByteArray) (i : Nat) : bt s (i : Int) = ((s.data.toList.getD i 0).toNat : Int) := by
  rw [← rd_bytesOf]
  unfold rd bytesOf
  rw [Int.toNat_natCast, List.getD_eq_getElem?_getD, List.getD_eq_getElem?_getD, List.getElem?_map]
  cases s.data.toList[i]? <;> rfl
theorem size_list (s : ByteArray) : s.data.toList.length = s.size := by rw [Array.length_toList]; rfl
theorem find0_at (s : ByteArray) : ∀ (m d i : Nat), (∀ j, j < m → bt s ((i + j : Nat) : Int) ≠ 0) → bt s ((i + m : Nat) : Int) = 0 → Oct.find0 s d i = if m < d then some (i + m) else none
  | m, 0, i, _, _ => by rw [if_neg (by omega)]; rfl
  | 0, d + 1, i, _, h => by
    unfold Oct.find0
    rw [if_pos (by simpa using h), if_pos (by omega)]
    rfl
  | m + 1, d + 1, i, h1, h => by
    unfold Oct.find0
    rw [if_neg (by simpa using h1 0 (by omega)), find0_at s m d (i + 1) (fun j hj => by have := h1 (j + 1) (by omega); rwa [show i + 1 + j = i + (j + 1) by omega]) (by rwa [show i + 1 + m = i + (m + 1) by omega])]
    by_cases c : m < d
    · rw [if_pos c, if_pos (by omega), show i + 1 + m = i + (m + 1) by omega]
    · rw [if_neg c, if_neg (by omega)]
/-- Behind the loop. -/
theorem end_ev (a b t : ByteArray) (ha : a.size ≤ 20) (_hb : b.size ≤ 140737488351232) (ht : t.size ≤ 4) (hz : ∀ j, j < t.size → bt t (j : Int) ≠ 0) : Ev (fun k => flyleaflaw01_OctetTexts.l0 k b true a t 0) true := by
  obtain ⟨c, hc, hc1, hc2⟩ := short_f b 20 (by decide)
  have l0s : (⟨#[0]⟩ : ByteArray).size = 1 := rfl
  have la := size_list a
  have lt := size_list t
  have lc := size_list c
  generalize hs : ((a ++ t) ++ (⟨#[0]⟩ : ByteArray)) ++ c = s
  have hd : s.data.toList = a.data.toList ++ (t.data.toList ++ (0 :: c.data.toList)) := by
    rw [← hs, Oct.data_app, Oct.data_app, Oct.data_app, List.append_assoc, List.append_assoc]
    rfl
  have hsz : s.size = a.size + t.size + 1 + c.size := by rw [← size_list, hd]; simp only [List.length_append, List.length_cons]; omega
  have z1 : ∀ j, j < t.size → bt s ((a.size + j : Nat) : Int) ≠ 0 := by
    intro j hj
    have := hz j hj
    rw [bt_list] at this ⊢
    rw [hd, List.getD_eq_getElem?_getD, List.getElem?_append_right (by omega), List.getElem?_append_left (by omega), show a.size + j - a.data.toList.length = j by omega]
    rw [List.getD_eq_getElem?_getD] at this
    exact this
  have z2 : bt s ((a.size + t.size : Nat) : Int) = 0 := by
    rw [bt_list, hd, List.getD_eq_getElem?_getD, List.getElem?_append_right (by omega), List.getElem?_append_right (by omega), show a.size + t.size - a.data.toList.length - t.data.toList.length = 0 by omega]
    rfl
  have hx : s.extract a.size (a.size + t.size) = t := by
    apply Oct.ba_ext
    rw [Lib.extract_data, hd, List.drop_append_of_le_length (by omega), List.drop_of_length_le (by omega), List.nil_append, show a.size + t.size - a.size = t.data.toList.length by omega, List.take_left']
    rfl
  have tx : ∀ most : Int, (t.size : Int) ≤ most → Oct.textV s (a.size : Int) most = (t, true) := by
    intro most hm
    unfold Oct.textV
    rw [if_neg (by omega), Int.toNat_natCast, find0_at s t.size _ a.size z1 z2, if_pos (by unfold Oct.looks; omega)]
    show (s.extract a.size (a.size + t.size), true) = _
    rw [hx]
  have tl : Oct.textV s (a.size : Int) ((t.size : Int) - 1) = (Oct.noneB, false) := by
    unfold Oct.textV
    rw [if_neg (by omega), Int.toNat_natCast, find0_at s t.size _ a.size z1 z2, if_neg (by unfold Oct.looks; omega)]
    rfl
  have to' : Oct.textV s (s.size : Int) 20 = (Oct.noneB, false) := by
    unfold Oct.textV
    rw [if_neg (by omega), show Oct.looks s (s.size : Int) 20 = 0 by unfold Oct.looks; omega]
    rfl
  have hfill : octet_Fill.f t (wrap64 ((t.size : Int) + 1)) = some (t ++ (⟨#[0]⟩ : ByteArray)) := by
    rw [PB.wrap_ok _ (by omega) (by omega), Oct.fill_f t _ (by omega) (by omega)]
    unfold Oct.fillV
    rw [if_neg (by omega), show ((t.size : Int) + 1).toNat - t.size = 1 by omega]
    rfl
  refine PB.ev_succ (f := fun k => (octet_Text.f k s (a.size : Int) 20).bind fun bt166 => ((octet_Text.f k s (a.size : Int) (t.size : Int)).bind fun bt168 => ((octet_Text.f k s (a.size : Int) ((t.size : Int) - 1)).bind fun bt170 => ((octet_Text.f k s (s.size : Int) 20).bind fun bt172 => (if bt166.1.toList = t.toList then (if bt166.2 = true then (if bt168.1.toList = t.toList then (if bt168.2 = true then (if bt170.2 = true then (some false) else (if bt172.2 = true then (some false) else ((octet_Fill.f t (wrap64 ((t.size : Int) + 1))).bind fun t174 => (if t.size + 1 ≤ 9223372036854775807 then (some (t174.toList == (t ++ (⟨#[0]⟩ : ByteArray)).toList)) else (none))))) else (some false)) else (some false)) else (some false)) else (some false)))))) (fun k => ?_) ?_
  · simp only [flyleaflaw01_OctetTexts.l0]
    rw [if_neg (by decide), if_pos (by omega), if_pos (by first | omega | (rw [ByteArray.size_append]; omega)), hc]
    simp only [Option.bind_some]
    rw [if_pos (by first | omega | (rw [ByteArray.size_append, ByteArray.size_append]; omega))]
    rw [hs, PB.wrap_ok ((t.size : Int) - 1) (by omega) (by omega)]
    have hss : (s.size : Int) = (a.size : Int) + (t.size : Int) + 1 + (c.size : Int) := by omega
    simp only [hss, if_true]
  · refine Ev.bind (Oct.text_ev s _ 20 (by omega)) ?_
    refine Ev.bind (Oct.text_ev s _ _ (by omega)) ?_
    refine Ev.bind (Oct.text_ev s _ _ (by omega)) ?_
    refine Ev.bind (Oct.text_ev s _ _ (by omega)) ?_
    rw [tx 20 (by omega), tx _ (Int.le_refl _), tl, to']
    refine PB.ev_const fun k => ?_
    rw [if_pos rfl, if_pos rfl, if_pos rfl, if_pos rfl, if_neg (by simp), if_neg (by simp), hfill]
    simp only [Option.bind_some]
    rw [if_pos (by omega)]
    simp
theorem loop_ev (a b : ByteArray) (ha : a.size ≤ 20) (hb : b.size ≤ 140737488351232) : ∀ (d : Nat) (n : Int) (t : ByteArray), 0 ≤ n → n < 8 ^ d → t.size + d ≤ 4 → (∀ j, j < t.size → bt t (j : Int) ≠ 0) →
    Ev (fun k => flyleaflaw01_OctetTexts.l0 k b true a t n) true := by
  intro d
  induction d with
  | zero =>
    intro n t h0 h1 ht hz
    obtain rfl : n = 0 := by omega
    exact end_ev a b t ha hb (by omega) hz
  | succ d ih =>
    intro n t h0 h1 ht hz
    by_cases c : n > 0
    · have e8 : (8 : Int) ^ (d + 1) = 8 ^ d * 8 := Int.pow_succ _ _
      have m0 := Int.emod_nonneg n (show (8 : Int) ≠ 0 by decide)
      have m1 := Int.emod_lt_of_pos n (show (0 : Int) < 8 by decide)
      have d1 : n / 8 < 8 ^ d := by omega
      have d0 : 0 ≤ n / 8 := by omega
      have d2 : n / 8 ≤ n := by omega
      have hd4 : (8 : Int) ^ (d + 1) ≤ 8 ^ 4 := by
        have : (8 ^ (d + 1) : Nat) ≤ 8 ^ 4 := Nat.pow_le_pow_right (by decide) (by omega)
        have e1 : ((8 ^ (d + 1) : Nat) : Int) = 8 ^ (d + 1) := Int.natCast_pow 8 (d + 1)
        have e2 : ((8 ^ 4 : Nat) : Int) = 8 ^ 4 := rfl
        omega
      have e84 : (8 : Int) ^ 4 = 4096 := by decide
      have hb1 : (wrap64 (97 + Int.tmod n 8)) % 256 = 97 + n % 8 := by rw [Int.tmod_eq_emod_of_nonneg h0, PB.wrap_ok _ (by omega) (by omega)]; omega
      have hn1 : wrap64 (Int.tdiv n 8) = n / 8 := by rw [Int.tdiv_eq_ediv_of_nonneg h0, PB.wrap_ok _ (by omega) (by omega)]
      have hsz : (t ++ strOfNums [97 + n % 8]).size = t.size + 1 := by rw [ByteArray.size_append, strOfNums_size]; rfl
      refine PB.ev_succ (f := fun k => flyleaflaw01_OctetTexts.l0 k b true a (t ++ strOfNums [97 + n % 8]) (n / 8)) (fun k => ?_) (ih (n / 8) _ d0 d1 (by rw [hsz]; omega) ?_)
      · simp only [flyleaflaw01_OctetTexts.l0]
        rw [if_pos c, hb1, hn1]
        simp only [Option.bind_some]
        rw [if_pos (by rw [strOfNums_size]; simp; omega)]
      · intro j hj
        rw [hsz] at hj
        rw [bt_list, Oct.data_app, List.getD_eq_getElem?_getD]
        have lt := size_list t
        by_cases cj : j < t.size
        · have := hz j cj
          rw [bt_list, List.getD_eq_getElem?_getD] at this
          rwa [List.getElem?_append_left (by omega)]
        · rw [List.getElem?_append_right (by omega), strOfNums_data, show j - t.data.toList.length = 0 by omega]
          simp only [List.map_cons, List.getElem?_cons_zero, Option.getD_some]
          have : (UInt8.ofNat (97 + n % 8).toNat).toNat = (97 + n % 8).toNat := by rw [UInt8.toNat_ofNat']; exact Nat.mod_eq_of_lt (by omega)
          rw [this]
          omega
    · obtain rfl : n = 0 := by omega
      exact end_ev a b t ha hb (by omega) hz
theorem proved : flyleaflaw01_OctetTexts.Pure := by
  intro a n b ha hn hb
  refine Ev.rounds ?_
  unfold flyleaflaw01_OctetTexts.f
  refine Ev.bind awake_ev ?_
  obtain ⟨t, ht, ht1, ht2⟩ := short_f a 20 (by decide)
  refine Ev.bind (PB.ev_const fun k => ht) ?_
  have e := PB.and_i64 n 12 (by decide) 4095 (by decide)
  have e12 : (2 : Int) ^ 12 = 4096 := by decide
  rw [e12] at e
  rw [e]
  have m0 := Int.emod_nonneg n (show (4096 : Int) ≠ 0 by decide)
  have m1 := Int.emod_lt_of_pos n (show (0 : Int) < 4096 by decide)
  have e84 : (8 : Int) ^ 4 = 4096 := by decide
  exact loop_ev t b (by omega) hb 4 (n % 4096) ⟨#[]⟩ m0 (by omega) (by decide) (fun j hj => absurd hj (Nat.not_lt_zero _))
end OctetTexts
end Go.Proofs.Ytopbkfgeidnleaa.X
