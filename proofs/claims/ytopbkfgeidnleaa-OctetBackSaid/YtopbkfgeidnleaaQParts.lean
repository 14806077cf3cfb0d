/- Parts, texts, filling and rounding: what these functions come to, of the program and of the reference. -/
import Derived.Test.YtopbkfgeidnleaaQSet
import Derived.Test.YtopbkfgeidnleaaX0
import Derived.Test.YtopbkfgeidnleaaX1
import Derived.Test.YtopbkfgeidnleaaX2
import Derived.Test.YtopbkfgeidnleaaX3
import Derived.Test.YtopbkfgeidnleaaX4
import Derived.Test.YtopbkfgeidnleaaX5
import Derived.Test.YtopbkfgeidnleaaX6
import Derived.Test.YtopbkfgeidnleaaX7

namespace Go.Proofs.Ytopbkfgeidnleaa.X
open Go.RowKit Go.Proofs.YtopbkfgeidnleaaW.PrintWords Go.Proofs.YtopbkfgeidnleaaW.PrintLast Go.Proofs.YtopbkfgeidnleaaW.PrintMore
namespace Oct
def noneB : ByteArray := ⟨#[]⟩
def partV (s : ByteArray) (a n : Int) : ByteArray × Bool := if 0 ≤ a ∧ 0 ≤ n ∧ a ≤ (s.size : Int) ∧ n ≤ (s.size : Int) - a then (s.extract a.toNat (a + n).toNat, true) else (noneB, false)
theorem part_f (s : ByteArray) (a n : Int) (hz : (s.size : Int) ≤ 9223372036854775807) : octet_Part.f s a n = some (partV s a n) := by
  unfold octet_Part.f partV
  rw [within_f a n s.size (by omega) hz]
  simp only [Option.bind_some]
  by_cases h : 0 ≤ a ∧ 0 ≤ n ∧ a ≤ (s.size : Int) ∧ n ≤ (s.size : Int) - a
  · rw [if_pos (decide_eq_true h), if_pos h, if_pos (by omega), PB.wrap_ok (a + n) (by omega) (by omega), if_pos (by omega), if_pos (by omega)]
  · rw [if_neg (by simpa using h), if_neg h]
    rfl
theorem rpart_f (s : ByteArray) (a n : Int) (hz : (s.size : Int) ≤ 9223372036854775807) : flyleafref01_Part.f s a n = some (partV s a n) := by
  unfold flyleafref01_Part.f partV
  rw [rwithin_f a n s.size (by omega) hz]
  simp only [Option.bind_some]
  by_cases h : 0 ≤ a ∧ 0 ≤ n ∧ a ≤ (s.size : Int) ∧ n ≤ (s.size : Int) - a
  · rw [if_pos (decide_eq_true h), if_pos h, if_pos (by omega), PB.wrap_ok (a + n) (by omega) (by omega), if_pos (by omega), if_pos (by omega)]
  · rw [if_neg (by simpa using h), if_neg h]
    rfl
/-- The first byte 0 among so many places from i on. -/
def find0 (s : ByteArray) : Nat → Nat → Option Nat
  | 0, _ => none
  | d + 1, i => if bt s (i : Int) = 0 then some i else find0 s d (i + 1)
theorem find0_lt (s : ByteArray) : ∀ (d i j : Nat), find0 s d i = some j → i ≤ j ∧ j < i + d
  | 0, _, _, h => by cases h
  | d + 1, i, j, h => by
    unfold find0 at h
    split at h
    · obtain rfl := Option.some.inj h; omega
    · have := find0_lt s d (i + 1) j h; omega
def textOf (s : ByteArray) (a : Nat) (r : Option Nat) : ByteArray × Bool := match r with
  | some j => (s.extract a j, true)
  | none => (noneB, false)
/-- How many places are looked at. -/
def looks (s : ByteArray) (a most : Int) : Nat := (min ((s.size : Int) - a) (most + 1)).toNat
def textV (s : ByteArray) (a most : Int) : ByteArray × Bool := if a < 0 then (noneB, false) else textOf s a.toNat (find0 s (looks s a most) a.toNat)
theorem text_loop (s : ByteArray) (a : Nat) (most : Int) (hz : (s.size : Int) ≤ 9223372036854775806) : ∀ (d n : Nat), ((a + n : Nat) : Int) ≤ s.size → (min ((s.size : Int) - a) (most + 1) - n).toNat = d →
    Ev (fun k => octet_Text.l0 k s (a : Int) most (n : Int) false) (textOf s a (find0 s d (a + n))) := by
  intro d
  induction d with
  | zero =>
    intro n hn hd
    refine PB.ev_succ (f := fun k => octet_Text.j2 k s (a : Int) most (n : Int) false false) (fun k => ?_) (PB.ev_one fun k => ?_)
    · simp only [octet_Text.l0]
      rw [PB.wrap_ok _ (by omega) (by omega)]
      by_cases c : (a : Int) + n < s.size
      · rw [if_pos c, decide_eq_false (by omega)]
      · rw [if_neg c]
    · simp only [octet_Text.j2]
      rw [if_neg (by simp), if_neg (by simp)]
      rfl
  | succ d ih =>
    intro n hn hd
    have ew : wrap64 ((a : Int) + n) = ((a + n : Nat) : Int) := by rw [PB.wrap_ok _ (by omega) (by omega)]; omega
    refine PB.ev_succ (f := fun k => octet_Text.j2 k s (a : Int) most (n : Int) false true) (fun k => ?_) ?_
    · simp only [octet_Text.l0]
      rw [ew, if_pos (by omega), decide_eq_true (by omega)]
    · by_cases c : bt s ((a + n : Nat) : Int) = 0
      · refine PB.ev_one fun k => ?_
        simp only [octet_Text.j2]
        rw [if_pos trivial, ew, if_pos (by omega), if_pos (by omega), if_pos c, if_pos (by omega), if_pos (by omega), if_pos (by omega)]
        simp only [find0, if_pos c, textOf, Int.toNat_natCast]
      · refine PB.ev_succ (f := fun k => octet_Text.l0 k s (a : Int) most ((n + 1 : Nat) : Int) false) (fun k => ?_) ?_
        · simp only [octet_Text.j2]
          rw [if_pos trivial, ew, if_pos (by omega), if_pos (by omega), if_neg c, show wrap64 ((n : Int) + 1) = ((n + 1 : Nat) : Int) by rw [PB.wrap_ok _ (by omega) (by omega)]; omega, beq_eq_false_iff_ne.2 c]
        · have h2 := ih (n + 1) (by omega) (by omega)
          simp only [find0, if_neg c]
          exact h2
theorem text_ev (s : ByteArray) (a most : Int) (hz : (s.size : Int) ≤ 9223372036854775806) : Ev (fun k => octet_Text.f k s a most) (textV s a most) := by
  unfold octet_Text.f textV
  have no : Ev (fun k => octet_Text.j0 k s a most true) (noneB, false) := PB.ev_one fun k => by simp only [octet_Text.j0]; rw [if_pos trivial]; rfl
  by_cases c : a < 0
  · rw [if_pos c]
    exact Ev.congr (fun k => if_pos c) no
  · rw [if_neg c]
    obtain ⟨m, rfl⟩ := Int.eq_ofNat_of_zero_le (show 0 ≤ a by omega)
    by_cases c2 : (m : Int) ≥ s.size
    · have h0 : looks s m most = 0 := by unfold looks; omega
      rw [h0]
      exact Ev.congr (fun k => by rw [if_neg c, if_pos c2]) no
    · by_cases c3 : most < 0
      · have h0 : looks s m most = 0 := by unfold looks; omega
        rw [h0]
        exact Ev.congr (fun k => by rw [if_neg c, if_neg c2, decide_eq_true c3]) no
      · refine Ev.congr (f := fun k => octet_Text.j0 k s (m : Int) most false) (fun k => by rw [if_neg c, if_neg c2, decide_eq_false c3]) ?_
        refine PB.ev_succ (f := fun k => octet_Text.l0 k s (m : Int) most 0 false) (fun k => by simp only [octet_Text.j0]; rw [if_neg (by simp)]) ?_
        have h := text_loop s m most hz _ 0 (by omega) rfl
        simpa [looks] using h
theorem rtext_loop (s : ByteArray) (a : Nat) (most : Int) (hz : (s.size : Int) ≤ 9223372036854775806) : ∀ (d n : Nat), (((a + n : Nat) : Int) ≤ s.size ∨ n = 0) → (a : Int) ≤ 9223372036854775807 → (min ((s.size : Int) - a) (most + 1) - n).toNat = d →
    Ev (fun k => flyleafref01_Text.l0 k s (a : Int) most ((a + n : Nat) : Int)) (textOf s a (find0 s d (a + n))) := by
  intro d
  induction d with
  | zero =>
    intro n hn ha hd
    refine PB.ev_succ (f := fun k => flyleafref01_Text.j1 k s (a : Int) most ((a + n : Nat) : Int) false) (fun k => ?_) (PB.ev_one fun k => ?_)
    · simp only [flyleafref01_Text.l0]
      by_cases c : ((a + n : Nat) : Int) < s.size
      · rw [if_pos c, PB.wrap_ok _ (by omega) (by omega), decide_eq_false (by omega)]
      · rw [if_neg c]
    · simp only [flyleafref01_Text.j1]
      rw [if_neg (by simp)]
      rfl
  | succ d ih =>
    intro n hn ha hd
    refine PB.ev_succ (f := fun k => flyleafref01_Text.j1 k s (a : Int) most ((a + n : Nat) : Int) true) (fun k => ?_) ?_
    · simp only [flyleafref01_Text.l0]
      rw [if_pos (by omega), PB.wrap_ok _ (by omega) (by omega), decide_eq_true (by omega)]
    · by_cases c : bt s ((a + n : Nat) : Int) = 0
      · refine PB.ev_one fun k => ?_
        simp only [flyleafref01_Text.j1]
        rw [if_pos trivial, if_pos (by omega), if_pos (by omega), if_pos c, if_pos (by omega), if_pos (by omega), if_pos (by omega)]
        simp only [find0, if_pos c, textOf, Int.toNat_natCast]
      · refine PB.ev_succ (f := fun k => flyleafref01_Text.l0 k s (a : Int) most ((a + (n + 1) : Nat) : Int)) (fun k => ?_) ?_
        · simp only [flyleafref01_Text.j1]
          rw [if_pos trivial, if_pos (by omega), if_pos (by omega), if_neg c, show wrap64 (((a + n : Nat) : Int) + 1) = ((a + (n + 1) : Nat) : Int) by rw [PB.wrap_ok _ (by omega) (by omega)]; omega]
        · have h2 := ih (n + 1) (by omega) ha (by omega)
          simp only [find0, if_neg c]
          exact h2
theorem rtext_ev (s : ByteArray) (a most : Int) (hz : (s.size : Int) ≤ 9223372036854775806) (ha : a ≤ 9223372036854775807) : Ev (fun k => flyleafref01_Text.f k s a most) (textV s a most) := by
  unfold flyleafref01_Text.f textV
  by_cases c : a < 0
  · rw [if_pos c]
    exact Ev.congr (fun k => if_pos c) (Ev.now _)
  · rw [if_neg c]
    obtain ⟨m, rfl⟩ := Int.eq_ofNat_of_zero_le (show 0 ≤ a by omega)
    refine Ev.congr (fun k => if_neg c) ?_
    have h := rtext_loop s m most hz _ 0 (.inr rfl) ha rfl
    simpa [looks] using h
def zeroB (c : Nat) : ByteArray := strOfNums (List.replicate c 0)
def fillV (s : ByteArray) (n : Int) : ByteArray := if n ≤ (s.size : Int) then s.extract 0 n.toNat else s ++ zeroB (n.toNat - s.size)
theorem zeroB_size (c : Nat) : (zeroB c).size = c := by rw [zeroB, strOfNums_size, List.length_replicate]
theorem repeat_zero (c : Nat) : repeatB ⟨#[0]⟩ c = zeroB c := by
  apply ba_ext
  rw [zeroB, strOfNums_data, List.map_replicate]
  show Lib.repeatL [0] c = _
  induction c with
  | zero => rfl
  | succ c ih => rw [List.replicate_succ, ← ih]; rfl
theorem fill_f (s : ByteArray) (n : Int) (hz : (s.size : Int) ≤ 140737488355328) (hn : n ≤ 140737488355328) : octet_Fill.f s n = some (fillV s n) := by
  unfold octet_Fill.f fillV
  have hm : mx n 0 = max n 0 := by unfold mx; omega
  rw [hm]
  by_cases h : n ≤ (s.size : Int)
  · rw [if_pos (by omega), if_pos (by omega), if_pos (by omega), if_pos h, show (max n 0).toNat = n.toNat by omega]
  · rw [if_neg (by omega), if_neg h, PB.wrap_ok _ (by omega) (by omega)]
    unfold strings_Repeat.f
    rw [if_pos (by omega), if_pos (by omega), if_pos (by show 1 * _ ≤ _; omega)]
    simp only [Option.bind_some]
    rw [repeat_zero, zeroB_size, if_pos (by omega), show (max n 0 - (s.size : Int)).toNat = n.toNat - s.size by omega]
theorem rfill_f (s : ByteArray) (n : Int) (hz : (s.size : Int) ≤ 140737488355328) (hn : n ≤ 140737488355328) : flyleafref01_Fill.f s n = some (fillV s n) := by
  unfold flyleafref01_Fill.f fillV
  by_cases h0 : n < 0
  · rw [if_pos h0, if_pos (by omega), show n.toNat = 0 by omega]
    exact congrArg some (ba_ext (by rw [Lib.extract_data]; rfl))
  · rw [if_neg h0]
    by_cases h : n ≤ (s.size : Int)
    · rw [if_pos h, if_pos (by omega), if_pos h, if_pos h]
    · rw [if_neg (by omega), if_neg h, PB.wrap_ok _ (by omega) (by omega), if_pos (by omega), if_pos (by omega)]
      simp only [Option.bind_some]
      rw [if_pos (by rw [strOfNums_size, List.length_replicate]; omega), show (n - (s.size : Int)).toNat = n.toNat - s.size by omega]
      rfl
def roundV (n b : Int) : Int × Bool := if n < 0 ∨ b < 1 ∨ n > 4611686018427387904 then (0, false) else if n % b = 0 then (n, true) else if b - n % b > 4611686018427387904 - n then (0, false) else (n + b - n % b, true)
theorem round_ev (n b : Int) (hn : -9223372036854775808 ≤ n ∧ n < 9223372036854775808) (hb : -9223372036854775808 ≤ b ∧ b < 9223372036854775808) : Ev (fun k => octet_Round.f k n b) (roundV n b) := by
  unfold octet_Round.f roundV
  have no : Ev (fun k => octet_Round.j0 k n b true) (0, false) := PB.ev_one fun k => by simp only [octet_Round.j0]; rw [if_pos trivial]
  by_cases c1 : n < 0
  · rw [if_pos (.inl c1)]
    exact Ev.congr (fun k => if_pos c1) no
  · by_cases c2 : b < 1
    · rw [if_pos (.inr (.inl c2))]
      exact Ev.congr (fun k => by rw [if_neg c1, if_pos c2]) no
    · by_cases c3 : n > 4611686018427387904
      · rw [if_pos (.inr (.inr c3))]
        exact Ev.congr (fun k => by rw [if_neg c1, if_neg c2, decide_eq_true c3]) no
      · rw [if_neg (by omega)]
        have hm : Int.tmod n b = n % b := Int.tmod_eq_emod_of_nonneg (by omega)
        have r0 := Int.emod_nonneg n (show b ≠ 0 by omega)
        have r1 := Int.emod_lt_of_pos n (show 0 < b by omega)
        refine PB.ev_one fun k => ?_
        rw [if_neg c1, if_neg c2, decide_eq_false c3]
        simp only [octet_Round.j0]
        rw [if_neg (by simp), if_neg (by omega), hm]
        by_cases hz : n % b = 0
        · rw [if_pos hz, if_pos hz]
        · rw [if_neg hz, if_neg hz, PB.wrap_ok (b - n % b) (by omega) (by omega), PB.wrap_ok (4611686018427387904 - n) (by omega) (by omega)]
          by_cases hg : b - n % b > 4611686018427387904 - n
          · rw [if_pos hg, if_pos hg]
          · rw [if_neg hg, if_neg hg, show wrap64 (wrap64 (n + b) - n % b) = n + b - n % b by unfold wrap64; omega]
theorem rround_ev (n b : Int) (hn : -9223372036854775808 ≤ n ∧ n < 9223372036854775808) (hb : -9223372036854775808 ≤ b ∧ b < 9223372036854775808) : Ev (fun k => flyleafref01_Round.f k n b) (roundV n b) := by
  unfold flyleafref01_Round.f roundV
  have no : Ev (fun k => flyleafref01_Round.j0 k n b true) (0, false) := PB.ev_one fun k => by simp only [flyleafref01_Round.j0]; rw [if_pos trivial]
  by_cases c1 : n < 0
  · rw [if_pos (.inl c1)]
    exact Ev.congr (fun k => if_pos c1) no
  · by_cases c2 : b < 1
    · rw [if_pos (.inr (.inl c2))]
      exact Ev.congr (fun k => by rw [if_neg c1, if_pos c2]) no
    · by_cases c3 : n > 4611686018427387904
      · rw [if_pos (.inr (.inr c3))]
        exact Ev.congr (fun k => by rw [if_neg c1, if_neg c2, decide_eq_true c3]) no
      · rw [if_neg (by omega)]
        have hm : Int.tmod n b = n % b := Int.tmod_eq_emod_of_nonneg (by omega)
        have hd : Int.tdiv n b = n / b := Int.tdiv_eq_ediv_of_nonneg (by omega)
        have r0 := Int.emod_nonneg n (show b ≠ 0 by omega)
        have r1 := Int.emod_lt_of_pos n (show 0 < b by omega)
        have d0 : 0 ≤ n / b := Int.ediv_nonneg (by omega) (by omega)
        have d1 : n / b ≤ n := Int.ediv_le_self _ (by omega)
        have hde := Int.emod_add_mul_ediv n b
        -- a number goes so often into the bound
        have fits : ∀ q : Int, 0 < q → (b > 4611686018427387904 / q ↔ q * b > 4611686018427387904) := fun q hq => by
          constructor
          · intro h
            have := Int.lt_mul_of_ediv_lt hq h
            rw [Int.mul_comm] at this
            exact this
          · intro h
            exact Int.ediv_lt_of_lt_mul hq (by rw [Int.mul_comm]; exact h)
        refine PB.ev_one fun k => ?_
        rw [if_neg c1, if_neg c2, decide_eq_false c3]
        simp only [flyleafref01_Round.j0]
        rw [if_neg (by simp), if_neg (by omega), hm, hd, PB.wrap_ok (n / b) (by omega) (by omega)]
        by_cases hz : n % b = 0
        · rw [if_pos hz, if_pos hz]
          have hk : n / b * b = n := by rw [Int.mul_comm]; omega
          by_cases hp : n / b > 0
          · have e1 : Int.tdiv 4611686018427387904 (n / b) = 4611686018427387904 / (n / b) := Int.tdiv_eq_ediv_of_nonneg (by decide)
            have e2 : 4611686018427387904 / (n / b) ≤ 4611686018427387904 := Int.ediv_le_self _ (by decide)
            have e3 : 0 ≤ 4611686018427387904 / (n / b) := Int.ediv_nonneg (by decide) (by omega)
            have f := fits (n / b) hp
            rw [hk] at f
            rw [if_pos hp, if_neg (by omega), e1, PB.wrap_ok _ (by omega) (by omega), if_neg (by omega), hk, PB.wrap_ok n (by omega) (by omega)]
          · rw [if_neg hp, hk, PB.wrap_ok n (by omega) (by omega)]
        · rw [if_neg hz, if_neg hz, PB.wrap_ok (n / b + 1) (by omega) (by omega), if_pos (by omega), if_neg (by omega)]
          have e1 : Int.tdiv 4611686018427387904 (n / b + 1) = 4611686018427387904 / (n / b + 1) := Int.tdiv_eq_ediv_of_nonneg (by decide)
          have e2 : 4611686018427387904 / (n / b + 1) ≤ 4611686018427387904 := Int.ediv_le_self _ (by decide)
          have e3 : 0 ≤ 4611686018427387904 / (n / b + 1) := Int.ediv_nonneg (by decide) (by omega)
          have f := fits (n / b + 1) (by omega)
          have hk : (n / b + 1) * b = n + b - n % b := by rw [Int.add_mul, Int.one_mul, Int.mul_comm]; omega
          rw [hk] at f
          rw [e1, PB.wrap_ok _ (by omega) (by omega), hk]
          by_cases hg : b - n % b > 4611686018427387904 - n
          · rw [if_pos hg, if_pos (f.2 (by omega))]
          · rw [if_neg hg, if_neg (fun q => hg (by have := f.1 q; omega)), PB.wrap_ok _ (by omega) (by omega)]
end Oct
end Go.Proofs.Ytopbkfgeidnleaa.X
