/- Chapter 10, plain: a name's hash; a hash table's numbers. -/
import Derived.Test.YtoknnbjkjhigbaaoctP
namespace Go.Proofs.Ytoknnbjkjhigbaa.L
open Go.L1 Go.IntWalk
set_option linter.unusedVariables false
set_option linter.unusedSimpArgs false
set_option maxHeartbeats 4000000
namespace Sym
theorem nat_hi (q r : Nat) (hq : q < 16) (hr : r < 2 ^ 28) : (2 ^ 28 * q + r) &&& 4026531840 = 2 ^ 28 * q := by
  have e : (4026531840 : Nat) = 2 ^ 28 * 15 + 0 := by decide
  have eq15 : q &&& 15 = q := by rw [show (15 : Nat) = 2 ^ 4 - 1 from rfl, Nat.and_two_pow_sub_one_eq_mod]; exact Nat.mod_eq_of_lt hq
  rw [e]
  apply Nat.eq_of_testBit_eq
  intro j
  have e2 : (2 ^ 28 * q).testBit j = if j < 28 then (0 : Nat).testBit j else q.testBit (j - 28) := Nat.testBit_two_pow_mul_add q (by decide : 0 < 2 ^ 28) j
  rw [e2, Nat.testBit_and, Nat.testBit_two_pow_mul_add _ hr, Nat.testBit_two_pow_mul_add _ (by decide : 0 < 2 ^ 28)]
  by_cases c : j < 28
  · simp [c]
  · rw [if_neg c, if_neg c, if_neg c, ← Nat.testBit_and, eq15]
theorem not_meets : ∀ q : Fin 16, q.val &&& (15 - q.val) = 0 := by decide
theorem nat_lo (q r : Nat) (hq : q < 16) (hr : r < 2 ^ 28) : (2 ^ 28 * q + r) &&& (4294967295 - 2 ^ 28 * q) = r := by
  have e : 4294967295 - 2 ^ 28 * q = 2 ^ 28 * (15 - q) + (2 ^ 28 - 1) := by omega
  have e0 : q &&& (15 - q) = 0 := not_meets ⟨q, hq⟩
  rw [e]
  apply Nat.eq_of_testBit_eq
  intro j
  rw [Nat.testBit_and, Nat.testBit_two_pow_mul_add _ hr, Nat.testBit_two_pow_mul_add _ (by decide : 2 ^ 28 - 1 < 2 ^ 28), Nat.testBit_two_pow_sub_one]
  by_cases c : j < 28
  · simp [c]
  · rw [if_neg c, if_neg c, ← Nat.testBit_and, e0, Nat.zero_testBit, Nat.testBit_lt_two_pow (Nat.lt_of_lt_of_le hr (Nat.pow_le_pow_right (by decide) (by omega)))]
/-- One byte more. -/
def stepV (h c : Nat) : Nat := let H := (h * 16 + c) % 4294967296; (H % 268435456) ^^^ (H / 268435456 * 16)
theorem stepV_lt (h c : Nat) : stepV h c < 268435456 := by
  unfold stepV
  exact Nat.xor_lt_two_pow (n := 28) (Nat.mod_lt _ (by decide)) (by have := Nat.mod_lt (h * 16 + c) (show 0 < 4294967296 by decide); omega)
theorem ofInt_nat (w a : Nat) (h : a < 2 ^ w) : (BitVec.ofInt w (a : Int)).toNat = a := by
  rw [BitVec.toNat_ofInt]
  have : ((a : Int) % ((2 ^ w : Nat) : Int)) = (a : Int) := Int.emod_eq_of_lt (by omega) (by exact_mod_cast h)
  rw [this]; rfl
theorem w32 (x : Nat) (h : x < 4294967296) : IntKind.u32.wrap ((x : Nat) : Int) = (x : Int) := by rw [IntKind.wrap_u32]; omega
theorem w64 (x : Nat) (h : x < 18446744073709551616) : IntKind.u64.wrap ((x : Nat) : Int) = (x : Int) := by rw [IntKind.wrap_u64]; omega
theorem and32 (a b : Nat) (ha : a < 2 ^ 32) (hb : b < 2 ^ 32) : IntKind.u32.wrap ((BitVec.ofInt IntKind.u32.bits (a : Int) &&& BitVec.ofInt IntKind.u32.bits (b : Int)).toNat : Nat) = ((a &&& b : Nat) : Int) := by
  show IntKind.u32.wrap ((BitVec.ofInt 32 (a : Int) &&& BitVec.ofInt 32 (b : Int)).toNat : Nat) = _
  rw [BitVec.toNat_and, ofInt_nat _ _ ha, ofInt_nat _ _ hb]
  exact w32 _ (Nat.and_lt_two_pow _ hb)
theorem xor32 (a b : Nat) (ha : a < 2 ^ 32) (hb : b < 2 ^ 32) : IntKind.u32.wrap ((BitVec.ofInt IntKind.u32.bits (a : Int) ^^^ BitVec.ofInt IntKind.u32.bits (b : Int)).toNat : Nat) = ((a ^^^ b : Nat) : Int) := by
  show IntKind.u32.wrap ((BitVec.ofInt 32 (a : Int) ^^^ BitVec.ofInt 32 (b : Int)).toNat : Nat) = _
  rw [BitVec.toNat_xor, ofInt_nat _ _ ha, ofInt_nat _ _ hb]
  exact w32 _ (Nat.xor_lt_two_pow ha hb)
theorem andNot32 (a b : Nat) (ha : a < 2 ^ 32) (hb : b < 2 ^ 32) : IntKind.u32.wrap ((BitVec.ofInt IntKind.u32.bits (a : Int) &&& ~~~ BitVec.ofInt IntKind.u32.bits (b : Int)).toNat : Nat) = ((a &&& (4294967295 - b) : Nat) : Int) := by
  show IntKind.u32.wrap ((BitVec.ofInt 32 (a : Int) &&& ~~~ BitVec.ofInt 32 (b : Int)).toNat : Nat) = _
  rw [BitVec.toNat_and, BitVec.toNat_not, ofInt_nat _ _ ha, ofInt_nat _ _ hb]
  exact w32 _ (Nat.and_lt_two_pow _ (show 4294967295 - b < 2 ^ 32 by omega))
theorem xor64 (a b : Nat) (ha : a < 2 ^ 64) (hb : b < 2 ^ 64) : IntKind.u64.wrap ((BitVec.ofInt IntKind.u64.bits (a : Int) ^^^ BitVec.ofInt IntKind.u64.bits (b : Int)).toNat : Nat) = ((a ^^^ b : Nat) : Int) := by
  show IntKind.u64.wrap ((BitVec.ofInt 64 (a : Int) ^^^ BitVec.ofInt 64 (b : Int)).toNat : Nat) = _
  rw [BitVec.toNat_xor, ofInt_nat _ _ ha, ofInt_nat _ _ hb]
  exact w64 _ (Nat.xor_lt_two_pow ha hb)
/-- The last turn of a round: of x = 16 h + c, cut to 32 bits. -/
theorem turn32 (x : Nat) (hx : x < 4294967296) : x &&& 4026531840 = 268435456 * (x / 268435456) ∧ x &&& (4294967295 - 268435456 * (x / 268435456)) = x % 268435456 := by
  have hq : x / 268435456 < 16 := by omega
  have hr : x % 268435456 < 2 ^ 28 := Nat.mod_lt _ (by decide)
  have hs : x = 2 ^ 28 * (x / 268435456) + x % 268435456 := by omega
  have a1 := nat_hi (x / 268435456) (x % 268435456) hq hr
  have a2 := nat_lo (x / 268435456) (x % 268435456) hq hr
  rw [← hs] at a1 a2
  exact ⟨a1, a2⟩
def byN (s : ByteArray) (i : Nat) : Nat := (s.data.toList.getD i 0).toNat
theorem byN_bt (s : ByteArray) (i : Nat) : bt s i = (byN s i : Int) := rfl
theorem byN_lt (s : ByteArray) (i : Nat) : byN s i < 256 := (s.data.toList.getD i 0).toNat_lt
def hashV (s : ByteArray) : Nat → Nat
  | 0 => 0
  | i + 1 => stepV (hashV s i) (byN s i)
theorem hashV_lt (s : ByteArray) : ∀ i, hashV s i < 268435456
  | 0 => by unfold hashV; decide
  | i + 1 => stepV_lt _ _
def hashN (s : ByteArray) : Nat := hashV s s.size
theorem hashN_lt (s : ByteArray) : hashN s < 268435456 := hashV_lt s _
/-- The last number ahead of c, from 1 on, of which it is so; none: 0. -/
def pv (ok : Nat → Bool) : Nat → Nat
  | 0 => 0
  | c + 1 => if c ≠ 0 ∧ ok c = true then c else pv ok c
theorem pv_lt (ok : Nat → Bool) : ∀ c, pv ok c = 0 ∨ (pv ok c < c ∧ ok (pv ok c) = true)
  | 0 => .inl rfl
  | c + 1 => by
    unfold pv
    split
    · rename_i h; exact .inr ⟨by omega, h.2⟩
    · rcases pv_lt ok c with h | h
      · exact .inl h
      · exact .inr ⟨by omega, h.2⟩
theorem pv_le (ok : Nat → Bool) (c : Nat) : pv ok c ≤ c := by
  rcases pv_lt ok c with h | h <;> omega
theorem pv_skip (ok : Nat → Bool) : ∀ c j, pv ok c < j → j < c → ok j = false
  | 0, j, h1, h2 => by omega
  | c + 1, j, h1, h2 => by
    unfold pv at h1
    split at h1
    · omega
    · rename_i h
      by_cases e : j = c
      · subst e
        cases hj : ok j with
        | false => rfl
        | true => exact absurd ⟨by omega, hj⟩ h
      · exact pv_skip ok c j h1 (by omega)
/-- Where one that asks for more comes to less. -/
theorem pv_same (ok : Nat → Bool) : ∀ c d, d ≤ c → (∀ j, d ≤ j → j < c → j ≠ 0 → ok j = false) → pv ok c = pv ok d
  | 0, d, h, _ => by rw [show d = 0 by omega]
  | c + 1, d, h, hj => by
    by_cases e : d = c + 1
    · rw [e]
    · rw [pv, if_neg (fun hc => by have := hj c (by omega) (by omega) hc.1; rw [this] at hc; exact absurd hc.2 (by decide))]
      exact pv_same ok c d (by omega) (fun j h1 h2 h3 => hj j h1 (by omega) h3)
theorem pv_succ (ok : Nat → Bool) (c : Nat) (h0 : c ≠ 0) (h : ok c = true) : pv ok (c + 1) = c := by rw [pv, if_pos ⟨h0, h⟩]
theorem pv_not (ok : Nat → Bool) (c : Nat) (h : c = 0 ∨ ok c = false) : pv ok (c + 1) = pv ok c := by
  rw [pv, if_neg]
  rintro ⟨h1, h2⟩
  rcases h with h | h
  · exact h1 h
  · rw [h] at h2; exact absurd h2 (by decide)
def nm (l : List ByteArray) (j : Nat) : ByteArray := l.getD j ⟨#[]⟩
def bks (l : List ByteArray) : Nat := max l.length 1
/-- Which bucket a name is in; is a symbol of one. -/
def bk (l : List ByteArray) (j : Nat) : Nat := hashN (nm l j) % bks l
def inB (l : List ByteArray) (k j : Nat) : Bool := decide (nm l j ≠ ⟨#[]⟩ ∧ bk l j = k)
def firstL (l : List ByteArray) (i : Nat) : List Int := (List.range (bks l)).map fun k => (pv (inB l k) i : Int)
def nextL (l : List ByteArray) (i : Nat) : List Int := (List.range l.length).map fun j => if j < i ∧ j ≠ 0 ∧ nm l j ≠ ⟨#[]⟩ then (pv (inB l (bk l j)) j : Int) else 0
theorem first_len (l : List ByteArray) (i : Nat) : (firstL l i).length = bks l := by simp [firstL]
theorem next_len (l : List ByteArray) (i : Nat) : (nextL l i).length = l.length := by simp [nextL]
theorem first_at (l : List ByteArray) (i k : Nat) (h : k < bks l) : (firstL l i)[k]? = some (pv (inB l k) i : Int) := by
  unfold firstL
  rw [List.getElem?_map, List.getElem?_range h]; rfl
theorem next_at (l : List ByteArray) (i j : Nat) (h : j < l.length) : (nextL l i)[j]? = some (if j < i ∧ j ≠ 0 ∧ nm l j ≠ ⟨#[]⟩ then (pv (inB l (bk l j)) j : Int) else 0) := by
  unfold nextL
  rw [List.getElem?_map, List.getElem?_range h]; rfl
theorem bk_lt (l : List ByteArray) (j : Nat) : bk l j < bks l := Nat.mod_lt _ (by unfold bks; omega)
theorem first_new (l : List ByteArray) : firstL l 0 = List.replicate (bks l) 0 := by
  refine List.ext_getElem? fun k => ?_
  by_cases h : k < bks l
  · rw [first_at l 0 k h, List.getElem?_replicate, if_pos h]; rfl
  · rw [List.getElem?_eq_none (by rw [first_len]; omega), List.getElem?_eq_none (by simp; omega)]
theorem next_new (l : List ByteArray) : nextL l 0 = List.replicate l.length 0 := by
  refine List.ext_getElem? fun k => ?_
  by_cases h : k < l.length
  · rw [next_at l 0 k h, List.getElem?_replicate, if_pos h, if_neg (by omega)]
  · rw [List.getElem?_eq_none (by rw [next_len]; omega), List.getElem?_eq_none (by simp; omega)]
/-- One that is left out. -/
theorem skip_step (l : List ByteArray) (i : Nat) (h : i = 0 ∨ nm l i = ⟨#[]⟩) : firstL l (i + 1) = firstL l i ∧ nextL l (i + 1) = nextL l i := by
  constructor
  · refine List.map_congr_left fun k _ => ?_
    rw [pv_not]
    rcases h with h | h
    · exact .inl h
    · exact .inr (by unfold inB; exact decide_eq_false fun hc => hc.1 h)
  · refine List.map_congr_left fun j _ => ?_
    by_cases c : j < i ∧ j ≠ 0 ∧ nm l j ≠ ⟨#[]⟩
    · rw [if_pos c, if_pos ⟨by omega, c.2⟩]
    · rw [if_neg c, if_neg]
      rintro ⟨h1, h2, h3⟩
      by_cases e : j = i
      · subst e; rcases h with h | h
        · exact h2 h
        · exact h3 h
      · exact c ⟨by omega, h2, h3⟩
theorem put_step (l : List ByteArray) (i : Nat) (hi : i < l.length) (h0 : i ≠ 0) (h : nm l i ≠ ⟨#[]⟩) : firstL l (i + 1) = (firstL l i).set (bk l i) (i : Int) ∧ nextL l (i + 1) = (nextL l i).set i (pv (inB l (bk l i)) i : Int) := by
  constructor
  · refine List.ext_getElem? fun k => ?_
    by_cases hk : k < bks l
    · rw [first_at l _ k hk, List.getElem?_set, first_len]
      by_cases e : bk l i = k
      · rw [if_pos e, if_pos (by omega), pv_succ _ _ h0 (by unfold inB; exact decide_eq_true ⟨h, e⟩)]
      · rw [if_neg e, first_at l _ k hk, pv_not _ _ (.inr (by unfold inB; exact decide_eq_false fun hc => e hc.2))]
    · rw [List.getElem?_eq_none (by rw [first_len]; omega), List.getElem?_eq_none (by rw [List.length_set, first_len]; omega)]
  · refine List.ext_getElem? fun j => ?_
    by_cases hj : j < l.length
    · rw [next_at l _ j hj, List.getElem?_set, next_len]
      by_cases e : i = j
      · subst e
        rw [if_pos ⟨by omega, h0, h⟩, if_pos rfl, if_pos hi]
      · rw [if_neg e, next_at l _ j hj]
        by_cases c : j < i ∧ j ≠ 0 ∧ nm l j ≠ ⟨#[]⟩
        · rw [if_pos c, if_pos ⟨by omega, c.2⟩]
        · rw [if_neg c, if_neg (fun hc => c ⟨by omega, hc.2⟩)]
    · rw [List.getElem?_eq_none (by rw [next_len]; omega), List.getElem?_eq_none (by rw [List.length_set, next_len]; omega)]
/-- Numbers of four bytes, one behind the other. -/
def quads (l : List Int) : ByteArray := l.foldl (fun b n => b ++ Oct.putB n 4) ⟨#[]⟩
theorem quads_snoc (l : List Int) (n : Int) : quads (l ++ [n]) = quads l ++ Oct.putB n 4 := by unfold quads; rw [List.foldl_append]; rfl
theorem quads_size (l : List Int) : (quads l).size = 4 * l.length := by
  suffices H : ∀ (l : List Int) (b : ByteArray), (l.foldl (fun b n => b ++ Oct.putB n 4) b).size = b.size + 4 * l.length from by have := H l ⟨#[]⟩; unfold quads; rw [this]; exact Nat.zero_add _
  intro l
  induction l with
  | nil => intro b; simp
  | cons e l ih => intro b; rw [List.foldl_cons, ih, ByteArray.size_append, Oct.putB_size, List.length_cons]; omega
def tableN (l : List ByteArray) : List Int := (bks l : Int) :: (l.length : Int) :: (firstL l l.length ++ nextL l l.length)
def tableV (l : List ByteArray) : ByteArray := quads (tableN l)
end Sym
end Go.Proofs.Ytoknnbjkjhigbaa.L

