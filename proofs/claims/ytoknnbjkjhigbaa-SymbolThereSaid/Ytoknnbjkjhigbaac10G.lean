/- A program's view, plain: what is read of it. -/
import Derived.Test.Ytoknnbjkjhigbaac10F
namespace Go.Proofs.Ytoknnbjkjhigbaa.L
open Go.L1 Go.IntWalk
set_option linter.unusedVariables false
set_option linter.unusedSimpArgs false
set_option maxHeartbeats 4000000
namespace Sym
open Oct
theorem bt_at {s X : ByteArray} {A B : List UInt8} (h : s.data.toList = A ++ (X.data.toList ++ B)) {j : Nat} (hj : j < X.size) : bt s (A.length + j) = bt X j := by
  unfold bt
  rw [h, List.getD_eq_getElem?_getD, List.getElem?_append_right (by omega), show A.length + j - A.length = j by omega, List.getElem?_append_left (by rw [size_list]; exact hj), ← List.getD_eq_getElem?_getD]
theorem bt_in {s : ByteArray} {A B : List UInt8} {x : UInt8} (h : s.data.toList = A ++ (x :: B)) : bt s A.length = (x.toNat : Int) := by
  unfold bt
  rw [h, List.getD_eq_getElem?_getD, List.getElem?_append_right (Nat.le_refl _), Nat.sub_self]; rfl
theorem ext_at {s X : ByteArray} {A B : List UInt8} (h : s.data.toList = A ++ (X.data.toList ++ B)) : s.extract A.length (A.length + X.size) = X := by
  refine ba_ext ?_
  rw [Lib.extract_data, h, List.drop_left, show A.length + X.size - A.length = X.size by omega, List.take_append, List.take_of_length_le (by rw [size_list]; omega), size_list, Nat.sub_self, List.take_zero, List.append_nil]
theorem size_of {s : ByteArray} {L : List UInt8} (h : s.data.toList = L) : s.size = L.length := by rw [← h, size_list]
theorem split_at {α : Type} {l : List α} {i : Nat} {x : α} (h : l[i]? = some x) : l = l.take i ++ x :: l.drop (i + 1) := by
  have hi : i < l.length := (List.getElem?_eq_some_iff.1 h).1
  have hx : l[i] = x := (List.getElem?_eq_some_iff.1 h).2
  rw [← hx, ← List.drop_eq_getElem_cons hi, List.take_append_drop]
theorem find_some (s : ByteArray) (k : Nat) (h0 : bt s k = 0) : ∀ (d i : Nat), i ≤ k → k < i + d → (∀ j, i ≤ j → j < k → bt s j ≠ 0) → Oct.find0 s d i = some k
  | 0, i, h1, h2, h3 => by omega
  | d + 1, i, h1, h2, h3 => by
    unfold Oct.find0
    by_cases e : i = k
    · subst e; rw [if_pos h0]
    · rw [if_neg (h3 i (Nat.le_refl _) (by omega))]
      exact find_some s k h0 d (i + 1) (by omega) (by omega) (fun j hj hk => h3 j (by omega) hk)
def tl (ss : List ByteArray) : List UInt8 := ss.flatMap fun s => s.data.toList ++ [0]
def rl (l : List Sy) : List UInt8 := l.flatMap fun x => (symB x.1 x.2.1 x.2.2).data.toList
def ql (l : List Int) : List UInt8 := l.flatMap fun n => (putB n 4).data.toList
theorem rl_len (l : List Sy) : (rl l).length = 24 * l.length := by
  unfold rl
  induction l with
  | nil => rfl
  | cons x l ih => rw [List.flatMap_cons, List.length_append, ih, size_list, symB_size, List.length_cons]; omega
theorem ql_len (l : List Int) : (ql l).length = 4 * l.length := by
  unfold ql
  induction l with
  | nil => rfl
  | cons x l ih => rw [List.flatMap_cons, List.length_append, ih, size_list, putB_size, List.length_cons]; omega
theorem quads_data (l : List Int) : (quads l).data.toList = ql l := by
  suffices H : ∀ (l : List Int) (b : ByteArray), (l.foldl (fun b n => b ++ Oct.putB n 4) b).data.toList = b.data.toList ++ ql l from by have := H l ⟨#[]⟩; unfold quads; rw [this]; rfl
  intro l
  induction l with
  | nil => intro b; simp [ql]
  | cons e l ih => intro b; rw [List.foldl_cons, ih, data_app, List.append_assoc]; unfold ql; rw [List.flatMap_cons]
/-- Texts without a byte 0, of 8 bytes at most; numbers. -/
structure Gd (ss : List ByteArray) (vs : List Int) : Prop where
  len : ss.length = vs.length
  few : ss.length ≤ 12
  txt : ∀ s ∈ ss, s.size ≤ 8 ∧ ∀ j, j < s.size → bt s j ≠ 0
  num : ∀ v ∈ vs, 0 ≤ v ∧ v ≤ 4095
theorem tl_le : ∀ (ss : List ByteArray), (∀ s ∈ ss, s.size ≤ 8) → (tl ss).length ≤ 9 * ss.length
  | [], _ => by simp [tl]
  | s :: ss, h => by
    have h1 := tl_le ss (fun x hx => h x (List.mem_cons_of_mem _ hx))
    have h2 := h s (List.mem_cons_self ..)
    unfold tl at h1 ⊢
    rw [List.flatMap_cons, List.length_append, List.length_append, size_list, List.length_cons, List.length_cons]
    simp only [List.length_nil]
    omega
def offs (ss : List ByteArray) (i : Nat) : Nat := (tl (ss.take i)).length
def symAt (ss : List ByteArray) (vs : List Int) (i : Nat) : Sy := ((offs ss i : Int), decide (vs.getD i 0 % 4 ≠ 0), vs.getD i 0)
def symsL (ss : List ByteArray) (vs : List Int) : List Sy := (List.range ss.length).map (symAt ss vs)
theorem syms_len (ss : List ByteArray) (vs : List Int) : (symsL ss vs).length = ss.length := by simp [symsL]
theorem syms_at (ss : List ByteArray) (vs : List Int) (i : Nat) (h : i < ss.length) : (symsL ss vs)[i]? = some (symAt ss vs i) := by
  unfold symsL
  rw [List.getElem?_map, List.getElem?_range h]; rfl
theorem syms_snoc (ss : List ByteArray) (vs : List Int) (s : ByteArray) (v : Int) (h : ss.length = vs.length) : symsL (ss ++ [s]) (vs ++ [v]) = symsL ss vs ++ [(((tl ss).length : Int), decide (v % 4 ≠ 0), v)] := by
  unfold symsL
  rw [List.length_append, List.length_singleton, List.range_succ, List.map_append, List.map_singleton]
  congr 1
  · refine List.map_congr_left fun i hi => ?_
    rw [List.mem_range] at hi
    unfold symAt offs
    rw [List.take_append_of_le_length (by omega), List.getD_eq_getElem?_getD, List.getElem?_append_left (by omega), ← List.getD_eq_getElem?_getD]
  · unfold symAt offs
    rw [List.take_left, h, List.getD_eq_getElem?_getD, List.getElem?_append_right (Nat.le_refl _), Nat.sub_self]
    rfl
theorem tl_snoc (ss : List ByteArray) (s : ByteArray) : tl (ss ++ [s]) = tl ss ++ (s.data.toList ++ [0]) := by unfold tl; rw [List.flatMap_append, List.flatMap_singleton]
theorem rl_snoc (l : List Sy) (x : Sy) : rl (l ++ [x]) = rl l ++ (symB x.1 x.2.1 x.2.2).data.toList := by unfold rl; rw [List.flatMap_append, List.flatMap_singleton]
def dyOf (a : Nat) (ss : List ByteArray) : Dy := ⟨a, (tl ss).length, (a + (tl ss).length : Nat), (a + (tl ss).length + 24 * ss.length : Nat), 0, 0, 0, 0⟩
/-- A view, with what stands ahead of the names. -/
structure Vw (view : ByteArray) (base : List UInt8) (ss : List ByteArray) (vs : List Int) : Prop where
  gd : Gd ss vs
  lo : 8 ≤ base.length
  hi : base.length ≤ 100
  dat : view.data.toList = base ++ (tl ss ++ (rl (symsL ss vs) ++ ql (tableN ss)))
section
variable {view : ByteArray} {base : List UInt8} {ss : List ByteArray} {vs : List Int}
theorem tableN_len (ss : List ByteArray) : (tableN ss).length = 2 + bks ss + ss.length := by
  unfold tableN
  simp only [List.length_cons, List.length_append, first_len, next_len]
  omega
theorem Vw.size (h : Vw view base ss vs) : view.size = base.length + (tl ss).length + 24 * ss.length + 4 * (2 + bks ss + ss.length) := by
  rw [size_of h.dat]
  simp only [List.length_append, rl_len, ql_len, syms_len, tableN_len]
  omega
theorem Vw.tle (h : Vw view base ss vs) : (tl ss).length ≤ 108 := by
  have := tl_le ss (fun s hs => (h.gd.txt s hs).1)
  have := h.gd.few
  omega
theorem Vw.small (h : Vw view base ss vs) : view.size ≤ 1000 := by
  have h1 := h.size
  have h2 := h.tle
  have h3 := h.gd.few
  have h4 := h.hi
  have h5 : bks ss ≤ 12 := by unfold bks; omega
  omega
theorem offs_le (ss : List ByteArray) (i : Nat) : offs ss i ≤ (tl ss).length := by
  unfold offs tl
  conv => rhs; rw [← List.take_append_drop i ss, List.flatMap_append, List.length_append]
  omega
theorem tl_split {i : Nat} {s : ByteArray} (h : ss[i]? = some s) : tl ss = tl (ss.take i) ++ (s.data.toList ++ (0 :: tl (ss.drop (i + 1)))) := by
  conv => lhs; rw [split_at h]
  unfold tl
  rw [List.flatMap_append, List.flatMap_cons, List.append_assoc]
  rfl
theorem Vw.num (h : Vw view base ss vs) (k : Nat) (x : Int) (hx : (tableN ss)[k]? = some x) (h0 : 0 ≤ x ∧ x < 4294967296) : numS view (dyOf base.length ss) k = (x, true) := by
  have hsz := h.size
  have hlo := h.lo
  have hk : k < (tableN ss).length := (List.getElem?_eq_some_iff.1 hx).1
  rw [tableN_len] at hk
  unfold numS dyOf
  rw [if_neg (by dsimp only; omega)]
  have hd : view.data.toList = (base ++ tl ss ++ rl (symsL ss vs) ++ ql ((tableN ss).take k)) ++ ((putB x 4).data.toList ++ ql ((tableN ss).drop (k + 1))) := by
    rw [h.dat]
    conv => lhs; rw [split_at hx]
    unfold ql
    rw [List.flatMap_append, List.flatMap_cons]
    simp only [List.append_assoc]
  have hA : (base ++ tl ss ++ rl (symsL ss vs) ++ ql ((tableN ss).take k)).length = base.length + (tl ss).length + 24 * ss.length + 4 * k := by
    simp only [List.length_append, rl_len, ql_len, syms_len, List.length_take, tableN_len]
    omega
  have hst : stands view (base.length + (tl ss).length + 24 * ss.length + 4 * k) x 4 := by
    refine ⟨by omega, fun j hj => ?_⟩
    rw [← hA, bt_at hd (by rw [putB_size]; exact hj)]
    exact put_bt x 4 j hj
  have := getV_stands view _ 4 x h0.1 (by decide) (by decide) hst
  dsimp only
  rw [show (((base.length + (tl ss).length + 24 * ss.length : Nat) : Int) + 4 * (k : Int)) = ((base.length + (tl ss).length + 24 * ss.length + 4 * k : Nat) : Int) by omega]
  rw [show ((4 : Nat) : Int) = 4 from rfl] at this
  rw [this, Int.emod_eq_of_lt h0.1 (by rw [show (256 : Int) ^ 4 = 4294967296 by decide]; exact h0.2)]
theorem Vw.count (h : Vw view base ss vs) : countS view (dyOf base.length ss) = ss.length := by
  have hf := h.gd.few
  have := h.num 1 (ss.length : Int) rfl (by omega)
  unfold countS
  rw [show ((1 : Nat) : Int) = 1 from rfl] at this
  rw [this, if_neg (by simp; omega)]
theorem Vw.name (h : Vw view base ss vs) (i : Nat) (s : ByteArray) (hs : ss[i]? = some s) : nameS view (dyOf base.length ss) (offs ss i) = (s, true) := by
  have hsz := h.size
  obtain ⟨h8, hnz⟩ := h.gd.txt s (List.mem_of_getElem? hs)
  unfold nameS dyOf
  rw [if_neg (by dsimp only; omega)]
  dsimp only
  rw [Int.toNat_natCast]
  have hz1 : (view.extract base.length view.size).size = view.size - base.length := by rw [ByteArray.size_extract]; omega
  have hmin : (min ((view.extract base.length view.size).size : Int) (max ((tl ss).length : Int) 0)).toNat = (tl ss).length := by omega
  rw [hmin]
  obtain ⟨S, hS⟩ : ∃ S, (view.extract base.length view.size).extract 0 (tl ss).length = S := ⟨_, rfl⟩
  rw [hS]
  have hSd : S.data.toList = tl ss := by
    rw [← hS, Lib.extract_data, Lib.extract_data, h.dat, List.drop_left, List.drop_zero, Nat.sub_zero, List.take_take, List.take_append_of_le_length (by omega), List.take_of_length_le (by omega)]
  have hSz := size_of hSd
  have hsp := hSd.trans (tl_split hs)
  have hol : (tl ss).length = offs ss i + (s.size + (1 + (tl (ss.drop (i + 1))).length)) := by
    conv => lhs; rw [tl_split hs]
    simp only [List.length_append, List.length_cons, size_list]
    unfold offs
    omega
  unfold textV
  rw [if_neg (by omega), Int.toNat_natCast]
  have hb : ∀ j, j < s.size → bt S (offs ss i + j) = bt s j := fun j hj => bt_at hsp hj
  have h0 : bt S (offs ss i + s.size) = 0 := by
    have hsp2 : S.data.toList = (tl (ss.take i) ++ s.data.toList) ++ (0 :: tl (ss.drop (i + 1))) := by rw [hsp, List.append_assoc]
    have := bt_in hsp2
    rw [List.length_append, size_list] at this
    exact this
  have hlk : s.size < looks S (offs ss i : Int) 24 := by unfold looks; omega
  rw [find_some S (offs ss i + s.size) h0 _ _ (by omega) (by omega) (fun j h1 h2 => by
    have := hb (j - offs ss i) (by omega)
    rw [show offs ss i + (j - offs ss i) = j by omega] at this
    rw [this]
    exact hnz _ (by omega))]
  show (S.extract (offs ss i) (offs ss i + s.size), true) = (s, true)
  rw [show offs ss i = (tl (ss.take i)).length from rfl, ext_at hsp]
theorem mem_num (h : Gd ss vs) (i : Nat) : 0 ≤ vs.getD i 0 ∧ vs.getD i 0 ≤ 4095 := by
  rw [List.getD_eq_getElem?_getD]
  cases hv : vs[i]? with
  | none => exact ⟨by decide, by decide⟩
  | some v => exact h.num v (List.mem_of_getElem? hv)
theorem symB_reads (a : Int) (d : Bool) (v : Int) (ha : 0 ≤ a ∧ a < 4294967296) (hv : 0 ≤ v ∧ v ≤ 1099511627776) : getV (symB a d v) 0 4 = (a, true) ∧ (getV (symB a d v) 6 2).1 = (if d then 1 else 0) ∧ getV (symB a d v) 8 8 = (v, true) := by
  have e4 : putV a 4 = putB a 4 := by unfold putV; rw [show max a 0 = a by omega]; rfl
  have e2 : putV (if d then 1 else 0) 2 = putB (if d then 1 else 0) 2 := by cases d <;> rfl
  have e8 : putV v 8 = putB v 8 := by unfold putV; rw [show max v 0 = v by omega]; rfl
  have z6 : (putB a 4 ++ glob).size = 6 := by rw [ByteArray.size_append, putB_size]; rfl
  have z8 : (putB a 4 ++ glob ++ putB (if d then 1 else 0) 2).size = 8 := by rw [ByteArray.size_append, z6, putB_size]
  unfold symB
  rw [e4, e2, e8]
  have s1 := stands_l (stands_l (stands_l (stands_l (stands_put a 4) glob) (putB (if d then 1 else 0) 2)) (putB v 8)) (putV 0 8)
  have s2 := stands_l (stands_l (stands_r (stands_put (if d then 1 else 0) 2) (putB a 4 ++ glob)) (putB v 8)) (putV 0 8)
  have s3 := stands_l (stands_r (stands_put v 8) (putB a 4 ++ glob ++ putB (if d then 1 else 0) 2)) (putV 0 8)
  rw [z6] at s2
  rw [z8] at s3
  have g1 := getV_stands _ 0 4 a ha.1 (by decide) (by decide) s1
  have g2 := getV_stands _ (6 + 0) 2 (if d then 1 else 0) (by cases d <;> decide) (by decide) (by decide) s2
  have g3 := getV_stands _ (8 + 0) 8 v hv.1 (by decide) (by decide) s3
  refine ⟨?_, ?_, ?_⟩
  · refine g1.trans ?_
    rw [Int.emod_eq_of_lt ha.1 (by rw [show (256 : Int) ^ 4 = 4294967296 by decide]; exact ha.2)]
  · refine (congrArg Prod.fst g2).trans ?_
    cases d <;> decide
  · refine g3.trans ?_
    rw [Int.emod_eq_of_lt hv.1 (by rw [show (256 : Int) ^ 8 = 18446744073709551616 by decide]; omega)]
theorem Vw.read (h : Vw view base ss vs) (i : Nat) (hi : i < ss.length) : readS view (dyOf base.length ss) i = (symAt ss vs i, true) := by
  have hsz := h.size
  have hlo := h.lo
  have hf := h.gd.few
  have hn := mem_num h.gd i
  have ho := offs_le ss i
  have ht := h.tle
  have hd : view.data.toList = (base ++ tl ss ++ rl ((symsL ss vs).take i)) ++ ((symB (symAt ss vs i).1 (symAt ss vs i).2.1 (symAt ss vs i).2.2).data.toList ++ (rl ((symsL ss vs).drop (i + 1)) ++ ql (tableN ss))) := by
    rw [h.dat]
    conv => lhs; rw [split_at (syms_at ss vs i hi)]
    unfold rl
    rw [List.flatMap_append, List.flatMap_cons]
    simp only [List.append_assoc]
  have hA : (base ++ tl ss ++ rl ((symsL ss vs).take i)).length = base.length + (tl ss).length + 24 * i := by
    simp only [List.length_append, rl_len, syms_len, List.length_take]
    omega
  have hp : partV view ((dyOf base.length ss).f3 + 24 * (i : Int)) 24 = (symB (symAt ss vs i).1 (symAt ss vs i).2.1 (symAt ss vs i).2.2, true) := by
    have he := ext_at hd
    rw [hA, symB_size] at he
    unfold partV dyOf
    dsimp only
    rw [if_pos (by omega), show (((base.length + (tl ss).length : Nat) : Int) + 24 * (i : Int)).toNat = base.length + (tl ss).length + 24 * i by omega, show (((base.length + (tl ss).length : Nat) : Int) + 24 * (i : Int) + 24).toNat = base.length + (tl ss).length + 24 * i + 24 by omega, he]
  obtain ⟨r1, r2, r3⟩ := symB_reads (symAt ss vs i).1 (symAt ss vs i).2.1 (symAt ss vs i).2.2 (by unfold symAt; dsimp only; omega) (by unfold symAt; dsimp only; omega)
  unfold readS
  rw [hp]
  dsimp only
  rw [r1, r2, r3]
  rw [if_neg]
  · cases hb : (symAt ss vs i).2.1
    · exact congrArg (fun x => (x, true)) (show ((symAt ss vs i).1, false, (symAt ss vs i).2.2) = symAt ss vs i by rw [← hb])
    · exact congrArg (fun x => (x, true)) (show ((symAt ss vs i).1, true, (symAt ss vs i).2.2) = symAt ss vs i by rw [← hb])
  · unfold dyOf symAt
    dsimp only
    rintro (q | q | q | q | q | q)
    · omega
    · omega
    · omega
    · omega
    · cases q
    · omega
/-- Is it the one that is looked for? -/
def isIt (ss : List ByteArray) (vs : List Int) (nm : ByteArray) (j : Nat) : Bool := decide (Sym.nm ss j = nm ∧ Sym.nm ss j ≠ ⟨#[]⟩ ∧ vs.getD j 0 % 4 ≠ 0)
theorem Vw.hit (h : Vw view base ss vs) (nm : ByteArray) (i : Nat) (hi : i < ss.length) (hne : Sym.nm ss i ≠ ⟨#[]⟩) : hit view (dyOf base.length ss) nm i = isIt ss vs nm i := by
  obtain ⟨s, hs⟩ : ∃ s, ss[i]? = some s := ⟨_, List.getElem?_eq_getElem hi⟩
  have hnm := nm_at hs
  unfold Sym.hit
  rw [h.read i hi]
  show (true && (nameS view (dyOf base.length ss) ((offs ss i : Nat) : Int)).2 && decide (vs.getD i 0 % 4 ≠ 0) && decide ((nameS view (dyOf base.length ss) ((offs ss i : Nat) : Int)).1 = nm)) = _
  rw [h.name i s hs]
  unfold isIt
  rw [hnm] at hne ⊢
  rw [Bool.eq_iff_iff]
  simp only [Bool.true_and, Bool.and_eq_true, decide_eq_true_eq]
  exact ⟨fun ⟨q1, q2⟩ => ⟨q2, hne, q1⟩, fun ⟨q1, _, q2⟩ => ⟨q2, q1⟩⟩
theorem tableN_first (ss : List ByteArray) (k : Nat) (hk : k < bks ss) : (tableN ss)[2 + k]? = some (pv (inB ss k) ss.length : Int) := by
  unfold tableN
  rw [show 2 + k = k + 1 + 1 by omega, List.getElem?_cons_succ, List.getElem?_cons_succ, List.getElem?_append_left (by rw [first_len]; exact hk)]
  exact first_at ss _ k hk
theorem tableN_next (ss : List ByteArray) (i : Nat) (hi : i < ss.length) (h0 : i ≠ 0) (hne : Sym.nm ss i ≠ ⟨#[]⟩) : (tableN ss)[2 + bks ss + i]? = some (pv (inB ss (bk ss i)) i : Int) := by
  unfold tableN
  rw [show 2 + bks ss + i = bks ss + i + 1 + 1 by omega, List.getElem?_cons_succ, List.getElem?_cons_succ, List.getElem?_append_right (by rw [first_len]; omega), first_len, show bks ss + i - bks ss = i by omega, next_at ss _ i hi, if_pos ⟨hi, h0, hne⟩]
theorem Vw.go (h : Vw view base ss vs) (nm : ByteArray) (k : Nat) (hk : k = hashN nm % bks ss) : ∀ (f c : Nat), c ≤ f → c ≤ ss.length →
    fndGo view (dyOf base.length ss) (bks ss) ss.length nm f (pv (inB ss k) c) true = if pv (isIt ss vs nm) c = 0 then (Sy.zero, false) else (symAt ss vs (pv (isIt ss vs nm) c), true)
  | 0, c, hf, hc => by
    have : c = 0 := by omega
    subst this
    rfl
  | f + 1, c, hf, hc => by
    have hI : ∀ j, inB ss k j = false → isIt ss vs nm j = false := by
      intro j hj
      unfold inB at hj
      unfold isIt
      refine decide_eq_false fun ⟨q1, q2, _⟩ => of_decide_eq_false hj ⟨q2, ?_⟩
      unfold bk
      rw [q1, hk]
    have hsm := h.small
    rcases pv_lt (inB ss k) c with h0 | ⟨h1, h2⟩
    · have hz : pv (isIt ss vs nm) c = 0 := by
        rw [pv_same (isIt ss vs nm) c 0 (by omega) (fun j _ hj hj0 => hI j (pv_skip (inB ss k) c j (by omega) hj))]
        rfl
      rw [h0, hz, fndGo, if_pos (.inr (.inl rfl)), if_pos rfl]
    · by_cases h0 : pv (inB ss k) c = 0
      · have hz : pv (isIt ss vs nm) c = 0 := by
          rw [pv_same (isIt ss vs nm) c 0 (by omega) (fun j _ hj hj0 => hI j (pv_skip (inB ss k) c j (by omega) hj))]
          rfl
        rw [h0, hz, fndGo, if_pos (.inr (.inl rfl)), if_pos rfl]
      obtain ⟨i, hi⟩ : ∃ i, pv (inB ss k) c = i := ⟨_, rfl⟩
      rw [hi] at h1 h2 h0 ⊢
      have h2' := of_decide_eq_true h2
      have hsame : pv (isIt ss vs nm) c = pv (isIt ss vs nm) (i + 1) := pv_same _ c (i + 1) (by omega) (fun j hj hj2 _ => hI j (pv_skip (inB ss k) c j (by omega) hj2))
      have hhit := h.hit nm i (by omega) h2'.1
      rw [fndGo, if_neg (by simp; omega), hhit, hsame]
      by_cases hm : isIt ss vs nm i = true
      · rw [if_pos hm, h.read i (by omega), pv_succ _ _ h0 hm, if_neg h0]
      · have hm' : isIt ss vs nm i = false := by cases hx : isIt ss vs nm i with | false => rfl | true => exact absurd hx hm
        rw [if_neg hm, pv_not _ _ (.inr hm')]
        have hnx := h.num (2 + bks ss + i) _ (tableN_next ss i (by omega) h0 h2'.1) (by have := pv_le (inB ss (bk ss i)) i; have := h.gd.few; omega)
        rw [show (2 + (bks ss : Int) + (i : Int)) = ((2 + bks ss + i : Nat) : Int) by omega, hnx, h2'.2]
        exact h.go nm k hk f i (by omega) (by omega)
/-- What is looked for is the last one that is it. -/
theorem Vw.find (h : Vw view base ss vs) (nm : ByteArray) : findS view (dyOf base.length ss) nm = if pv (isIt ss vs nm) ss.length = 0 then (Sy.zero, false) else (symAt ss vs (pv (isIt ss vs nm) ss.length), true) := by
  have hf := h.gd.few
  have hb : 1 ≤ bks ss ∧ bks ss ≤ 12 := by unfold bks; omega
  unfold findS
  rw [h.count]
  have h0 := h.num 0 (bks ss : Int) rfl (by omega)
  rw [show ((0 : Nat) : Int) = 0 from rfl] at h0
  rw [h0]
  by_cases hl : ss.length = 0
  · rw [if_pos (.inl (by omega)), hl]
    rfl
  rw [if_neg (by
    rintro (q | q | q)
    · omega
    · cases q
    · dsimp only at q
      omega)]
  have hk : hashN nm % bks ss < bks ss := Nat.mod_lt _ (by omega)
  have h1 := h.num (2 + hashN nm % bks ss) _ (tableN_first ss _ hk) (by have := pv_le (inB ss (hashN nm % bks ss)) ss.length; omega)
  dsimp only
  rw [show (2 + (hashN nm : Int) % (bks ss : Int)) = ((2 + hashN nm % bks ss : Nat) : Int) by rw [Int.natCast_add, Int.natCast_emod]; rfl, h1, show ((ss.length : Nat) : Int).toNat = ss.length by omega]
  exact h.go nm _ rfl ss.length ss.length (Nat.le_refl _) (Nat.le_refl _)
end
end Sym
end Go.Proofs.Ytoknnbjkjhigbaa.L

