/- Numbers' bytes, and texts: plain. -/
import Derived.Test.YtkpofbkedolhnaaL1U
import Derived.Laws.BitsAllLaws
import Derived.Lib.Strings
namespace Go.Proofs.Ytkpofbkedolhnaa.L
open Go.L1 Go.IntWalk
set_option linter.unusedVariables false
namespace Oct
theorem ba_ext {a b : ByteArray} (h : a.data.toList = b.data.toList) : a = b := by
  cases a; cases b
  simp only [ByteArray.mk.injEq]
  exact Array.toList_inj.1 h
theorem data_app (a b : ByteArray) : (a ++ b).data.toList = a.data.toList ++ b.data.toList := by rw [ByteArray.data_append, Array.toList_append]
theorem size_list (s : ByteArray) : s.data.toList.length = s.size := by rw [Array.length_toList]; rfl
theorem nums_data (ns : List Int) : (nums ns).data.toList = ns.map fun n => UInt8.ofNat n.toNat := by simp [nums]
theorem nums_size (ns : List Int) : (nums ns).size = ns.length := by rw [← size_list, nums_data, List.length_map]
theorem nums_app (xs ys : List Int) : nums (xs ++ ys) = nums xs ++ nums ys := ba_ext (by rw [data_app, nums_data, nums_data, nums_data, List.map_append])
/-- A number's byte at place j, the least first. -/
def byteN (n : Int) (j : Nat) : Int := n / 2 ^ (8 * j) % 256
def putL (n : Int) (w : Nat) : List Int := (List.range w).map (byteN n)
def putB (n : Int) (w : Nat) : ByteArray := nums (putL n w)
def wid (w : Int) : Nat := (min (max w 0) 8).toNat
theorem wid_le (w : Int) : wid w ≤ 8 := by unfold wid; omega
theorem pow256 (w : Nat) : (256 : Int) ^ w = ((256 ^ w : Nat) : Int) := (Int.natCast_pow 256 w).symm
theorem pow256_pos (w : Nat) : (0 : Int) < 256 ^ w := by rw [pow256]; exact_mod_cast Nat.pow_pos (by decide)
theorem pow256_le {a b : Nat} (h : a ≤ b) : (256 : Int) ^ a ≤ 256 ^ b := by rw [pow256, pow256]; exact_mod_cast Nat.pow_le_pow_right (by decide) h
theorem putL_length (n : Int) (w : Nat) : (putL n w).length = w := by simp [putL]
theorem putB_size (n : Int) (w : Nat) : (putB n w).size = w := by rw [putB, nums_size, putL_length]
theorem putL_succ (n : Int) (i : Nat) : putL n (i + 1) = putL n i ++ [byteN n i] := by unfold putL; rw [List.range_succ, List.map_append]; rfl
theorem putB_succ (n : Int) (i : Nat) : putB n (i + 1) = putB n i ++ nums [byteN n i] := by rw [putB, putL_succ, nums_app]; rfl
theorem pow2_256 (i : Nat) : (2 : Int) ^ (8 * i) = 256 ^ i := by rw [Int.pow_mul]; rfl
theorem byteN_256 (n : Int) (i : Nat) : byteN n i = n / 256 ^ i % 256 := by rw [byteN, pow2_256]
theorem byteN_range (n : Int) (i : Nat) : 0 ≤ byteN n i ∧ byteN n i ≤ 255 := ⟨Int.emod_nonneg _ (by decide), by have := Int.emod_lt_of_pos (n / 2 ^ (8 * i)) (show (0 : Int) < 256 by decide); unfold byteN; omega⟩
theorem putL_take (n : Int) (w v : Nat) (h : w ≤ v) : (putL n v).take w = putL n w := by
  unfold putL
  rw [← List.map_take, List.take_range, Nat.min_eq_left h]
-- ---- a text's bytes
theorem bt_range (s : ByteArray) (i : Nat) : 0 ≤ bt s i ∧ bt s i ≤ 255 := by
  unfold bt
  have := (s.data.toList.getD i 0).toNat_lt
  omega
theorem bt_app_l (a b : ByteArray) (i : Nat) (h : i < a.size) : bt (a ++ b) i = bt a i := by
  unfold bt
  rw [data_app, List.getD_eq_getElem?_getD, List.getD_eq_getElem?_getD, List.getElem?_append_left (by rw [size_list]; exact h)]
theorem bt_app_r (a b : ByteArray) (i : Nat) : bt (a ++ b) (a.size + i) = bt b i := by
  unfold bt
  rw [data_app, List.getD_eq_getElem?_getD, List.getD_eq_getElem?_getD, List.getElem?_append_right (by rw [size_list]; omega), size_list, show a.size + i - a.size = i by omega]
theorem bt_part (s : ByteArray) (a n i : Nat) (h : i < n) : bt (s.extract a (a + n)) i = bt s (a + i) := by
  unfold bt
  rw [Lib.extract_data, List.getD_eq_getElem?_getD, List.getD_eq_getElem?_getD, List.getElem?_take_of_lt (by omega), List.getElem?_drop]
theorem nums_bt (ns : List Int) (j : Nat) (hj : j < ns.length) (h : 0 ≤ ns.getD j 0 ∧ ns.getD j 0 ≤ 255) : bt (nums ns) j = ns.getD j 0 := by
  unfold bt
  rw [nums_data, List.getD_eq_getElem?_getD, List.getElem?_map]
  rw [List.getD_eq_getElem?_getD] at h ⊢
  rw [List.getElem?_eq_getElem hj] at h ⊢
  simp only [Option.map_some, Option.getD_some] at h ⊢
  rw [UInt8.toNat_ofNat', Nat.mod_eq_of_lt (by omega)]
  omega
theorem put_bt (n : Int) (w j : Nat) (hj : j < w) : bt (putB n w) j = byteN n j := by
  have e : (putL n w).getD j 0 = byteN n j := by
    unfold putL
    rw [List.getD_eq_getElem?_getD, List.getElem?_map, List.getElem?_range hj]; rfl
  rw [putB, nums_bt _ _ (by rw [putL_length]; exact hj) (by rw [e]; exact byteN_range n j), e]
/-- Texts that have the same bytes. -/
theorem ext_bt {a b : ByteArray} (h : a.size = b.size) (h' : ∀ i, i < a.size → bt a i = bt b i) : a = b := by
  apply ba_ext
  apply List.ext_getElem (by rw [size_list, size_list, h])
  intro i h1 h2
  have := h' i (by rw [← size_list]; exact h1)
  unfold bt at this
  rw [List.getD_eq_getElem?_getD, List.getD_eq_getElem?_getD, List.getElem?_eq_getElem h1, List.getElem?_eq_getElem h2] at this
  simp only [Option.getD_some] at this
  exact UInt8.toNat_inj.1 (by omega)
-- ---- a number that is there
/-- The number in the bytes from place a on, the least first. -/
def gv (s : ByteArray) (a : Nat) : Nat → Int
  | 0 => 0
  | w + 1 => gv s a w + bt s (a + w) * 256 ^ w
theorem gv_range (s : ByteArray) (a : Nat) : ∀ w, 0 ≤ gv s a w ∧ gv s a w < 256 ^ w
  | 0 => ⟨Int.le_refl _, show (0 : Int) < 256 ^ 0 by decide⟩
  | w + 1 => by
    obtain ⟨h0, h1⟩ := gv_range s a w
    obtain ⟨b0, b1⟩ := bt_range s (a + w)
    have hp := pow256_pos w
    have e : (256 : Int) ^ (w + 1) = 256 ^ w * 256 := Int.pow_succ _ _
    have m0 : 0 ≤ bt s (a + w) * 256 ^ w := Int.mul_nonneg b0 (by omega)
    have m1 : bt s (a + w) * 256 ^ w ≤ 255 * 256 ^ w := Int.mul_le_mul_of_nonneg_right b1 (by omega)
    simp only [gv]
    omega
theorem or_u64 (x y : Int) (i : Nat) (h0 : 0 ≤ x) (h1 : x < 2 ^ i) (hy : 0 ≤ y) (hy2 : y < 18446744073709551616) (hx2 : x < 18446744073709551616) (hm : y.toNat % 2 ^ i = 0) :
    IntKind.u64.wrap ((BitVec.ofInt IntKind.u64.bits x ||| BitVec.ofInt IntKind.u64.bits y).toNat : Nat) = x + y := by
  have e64 : ((2 ^ 64 : Nat) : Int) = 18446744073709551616 := by decide
  have hb : IntKind.u64.bits = 64 := rfl
  rw [hb]
  simp only [BitVec.toNat_or, BitVec.toNat_ofInt, e64]
  rw [Int.emod_eq_of_lt h0 hx2, Int.emod_eq_of_lt hy hy2]
  have hx3 : x.toNat < 2 ^ i := by
    have e2 : ((2 ^ i : Nat) : Int) = 2 ^ i := by push_cast; rfl
    omega
  have key : x.toNat ||| y.toNat = y.toNat + x.toNat := by
    obtain ⟨q, hq⟩ : ∃ q, y.toNat = 2 ^ i * q := ⟨y.toNat / 2 ^ i, by have := Nat.div_add_mod y.toNat (2 ^ i); omega⟩
    rw [Nat.or_comm, hq, Nat.two_pow_add_eq_or_of_lt hx3]
  rw [key]
  have e : ((y.toNat + x.toNat : Nat) : Int) = x + y := by omega
  rw [e]
  have hsum : x + y < 18446744073709551616 := by
    have h3 : y.toNat + x.toNat < 2 ^ 64 := by
      rw [← key]
      exact Nat.or_lt_two_pow (by omega) (by omega)
    omega
  exact u64_in _ (by omega)
/-- One byte more, by 'or'. -/
theorem or_byte (x b : Int) (i : Nat) (hi : i < 8) (h0 : 0 ≤ x) (h1 : x < 256 ^ i) (b0 : 0 ≤ b) (b1 : b ≤ 255) :
    IntKind.u64.wrap ((BitVec.ofInt IntKind.u64.bits x ||| BitVec.ofInt IntKind.u64.bits (IntKind.u64.wrap (b * 2 ^ min (8 * i) 64))).toNat : Nat) = x + b * 256 ^ i := by
  have hp := pow256_pos i
  have hp8 : (256 : Int) ^ (i + 1) ≤ 256 ^ 8 := pow256_le (by omega)
  have e8 : (256 : Int) ^ 8 = 18446744073709551616 := by decide
  have e : (256 : Int) ^ (i + 1) = 256 ^ i * 256 := Int.pow_succ _ _
  have m0 : 0 ≤ b * 256 ^ i := Int.mul_nonneg b0 (by omega)
  have m1 : b * 256 ^ i ≤ 255 * 256 ^ i := Int.mul_le_mul_of_nonneg_right b1 (by omega)
  have e2 : (2 : Int) ^ (8 * i) = 256 ^ i := pow2_256 i
  have hs : IntKind.u64.wrap (b * 256 ^ i) = b * 256 ^ i := u64_in _ (by omega)
  rw [show min (8 * i) 64 = 8 * i from Nat.min_eq_left (by omega), e2, hs]
  refine or_u64 x (b * 256 ^ i) (8 * i) h0 (by rw [e2]; exact h1) m0 (by omega) (by omega) ?_
  have : (b * 256 ^ i).toNat = b.toNat * 2 ^ (8 * i) := by
    obtain ⟨c, rfl⟩ := Int.eq_ofNat_of_zero_le b0
    rw [← e2]
    have : ((c : Int) * 2 ^ (8 * i)) = ((c * 2 ^ (8 * i) : Nat) : Int) := by push_cast; rfl
    rw [this, Int.toNat_natCast, Int.toNat_natCast]
  rw [this]
  exact Nat.mul_mod_left _ _
/-- May a number of so many bytes be there? -/
def may (s : ByteArray) (a w : Int) : Bool := decide (1 ≤ w ∧ w ≤ 8 ∧ 0 ≤ a ∧ a ≤ s.size ∧ w ≤ s.size - a)
def getV (s : ByteArray) (a w : Int) : Int × Bool := if may s a w = true then (gv s a.toNat w.toNat, true) else (0, false)
theorem getV_range (s : ByteArray) (a w : Int) : 0 ≤ (getV s a w).1 ∧ (getV s a w).1 < 18446744073709551616 := by
  unfold getV
  split
  · rename_i h
    have h := of_decide_eq_true h
    obtain ⟨h0, h1⟩ := gv_range s a.toNat w.toNat
    have h2 : (256 : Int) ^ w.toNat ≤ 256 ^ 8 := pow256_le (by omega)
    have e8 : (256 : Int) ^ 8 = 18446744073709551616 := by decide
    show 0 ≤ gv s a.toNat w.toNat ∧ gv s a.toNat w.toNat < _
    omega
  · exact ⟨Int.le_refl _, by decide⟩
theorem mod_step (n : Int) (hn : 0 ≤ n) (v : Nat) : n % 256 ^ (v + 1) = n % 256 ^ v + byteN n v * 256 ^ v := by
  obtain ⟨m, rfl⟩ := Int.eq_ofNat_of_zero_le hn
  rw [byteN_256, pow256, pow256]
  have e : m % 256 ^ (v + 1) = m % 256 ^ v + (m / 256 ^ v % 256) * 256 ^ v := by rw [Nat.pow_succ, Nat.mod_mul, Nat.mul_comm (256 ^ v)]
  generalize 256 ^ (v + 1) = A at e ⊢
  generalize 256 ^ v = B at e ⊢
  have : ((m % A : Nat) : Int) = ((m % B + m / B % 256 * B : Nat) : Int) := by rw [e]
  rw [Int.natCast_add, Int.natCast_mul, Int.natCast_emod, Int.natCast_emod, Int.natCast_emod, Int.natCast_ediv] at this
  exact this
/-- A number's bytes stand at a place. -/
def stands (s : ByteArray) (a : Nat) (n : Int) (w : Nat) : Prop := a + w ≤ s.size ∧ ∀ j, j < w → bt s (a + j) = byteN n j
theorem gv_stands (s : ByteArray) (a w : Nat) (n : Int) (hn : 0 ≤ n) (h : stands s a n w) : ∀ v, v ≤ w → gv s a v = n % 256 ^ v
  | 0, _ => by simp [gv]
  | v + 1, hv => by rw [gv, gv_stands s a w n hn h v (by omega), h.2 v (by omega), mod_step n hn]
theorem getV_stands (s : ByteArray) (a w : Nat) (n : Int) (hn : 0 ≤ n) (hw1 : 1 ≤ w) (hw8 : w ≤ 8) (h : stands s a n w) : getV s (a : Int) (w : Int) = (n % 256 ^ w, true) := by
  have m : may s (a : Int) (w : Int) = true := decide_eq_true (by have := h.1; omega)
  unfold getV
  rw [if_pos m, Int.toNat_natCast, Int.toNat_natCast, gv_stands s a w n hn h w (Nat.le_refl _)]
theorem stands_put (n : Int) (w : Nat) : stands (putB n w) 0 n w := ⟨by rw [putB_size]; omega, fun j hj => by rw [Nat.zero_add]; exact put_bt n w j hj⟩
theorem stands_l {s : ByteArray} {a : Nat} {n : Int} {w : Nat} (h : stands s a n w) (t : ByteArray) : stands (s ++ t) a n w :=
  ⟨by rw [ByteArray.size_append]; have := h.1; omega, fun j hj => by rw [bt_app_l s t _ (by have := h.1; omega)]; exact h.2 j hj⟩
theorem stands_r {s : ByteArray} {a : Nat} {n : Int} {w : Nat} (h : stands s a n w) (t : ByteArray) : stands (t ++ s) (t.size + a) n w :=
  ⟨by rw [ByteArray.size_append]; have := h.1; omega, fun j hj => by rw [Nat.add_assoc, bt_app_r t s]; exact h.2 j hj⟩
theorem stands_part {s : ByteArray} {a : Nat} {n : Int} {w : Nat} (b c : Nat) (h : stands s (b + a) n w) (hc : a + w ≤ c) (hs : b + c ≤ s.size) : stands (s.extract b (b + c)) a n w :=
  ⟨by rw [ByteArray.size_extract]; omega, fun j hj => by rw [bt_part s b c _ (by omega), ← Nat.add_assoc]; exact h.2 j hj⟩
-- ---- texts that end with a byte 0
/-- The first byte 0 among so many places from i on. -/
def find0 (s : ByteArray) : Nat → Nat → Option Nat
  | 0, _ => none
  | d + 1, i => if bt s i = 0 then some i else find0 s d (i + 1)
theorem find0_lt (s : ByteArray) : ∀ (d i j : Nat), find0 s d i = some j → i ≤ j ∧ j < i + d
  | 0, _, _, h => by cases h
  | d + 1, i, j, h => by
    unfold find0 at h
    split at h
    · obtain rfl := Option.some.inj h; omega
    · have := find0_lt s d (i + 1) j h; omega
def noneB : ByteArray := ⟨#[]⟩
def textOf (s : ByteArray) (a : Nat) (r : Option Nat) : ByteArray × Bool := match r with
  | some j => (s.extract a j, true)
  | none => (noneB, false)
/-- How many places are looked at. -/
def looks (s : ByteArray) (a most : Int) : Nat := (min ((s.size : Int) - a) (most + 1)).toNat
def textV (s : ByteArray) (a most : Int) : ByteArray × Bool := if a < 0 then (noneB, false) else textOf s a.toNat (find0 s (looks s a most) a.toNat)
def partV (s : ByteArray) (a n : Int) : ByteArray × Bool := if 0 ≤ a ∧ 0 ≤ n ∧ a ≤ (s.size : Int) ∧ n ≤ (s.size : Int) - a then (s.extract a.toNat (a + n).toNat, true) else (noneB, false)
def zeroB (n : Nat) : ByteArray := nums (List.replicate n 0)
theorem zeroB_size (n : Nat) : (zeroB n).size = n := by rw [zeroB, nums_size, List.length_replicate]
def fillV (s : ByteArray) (n : Int) : ByteArray := if (s.size : Int) ≥ max n 0 then s.extract 0 (max n 0).toNat else s ++ zeroB ((max n 0).toNat - s.size)
end Oct
end Go.Proofs.Ytkpofbkedolhnaa.L

