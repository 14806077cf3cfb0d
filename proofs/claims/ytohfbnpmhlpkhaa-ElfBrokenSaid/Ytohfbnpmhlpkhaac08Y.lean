/- What was written is read: the image of a file that begins with its headers, but for what may be any. -/
import Derived.Test.Ytohfbnpmhlpkhaac08P
namespace Go.Proofs.Ytohfbnpmhlpkhaa.L
open Go.L1 Go.IntWalk Oct
set_option linter.unusedVariables false
set_option linter.unusedSimpArgs false
set_option maxHeartbeats 4000000
theorem stands_put' (v w : Int) (k : Nat) (h : wid w = k) : stands (putV v w) 0 (max v 0) k := by unfold putV; rw [h]; exact stands_put _ _
theorem stands_off {s : ByteArray} {a b : Nat} {n : Int} {w : Nat} (h : stands s a n w) (e : a = b) : stands s b n w := e ▸ h
theorem st_r {p : ByteArray} {v w : Int} {k a : Nat} (h : wid w = k) (hp : p.size = a) : stands (p ++ putV v w) a (max v 0) k := stands_off (stands_r (stands_put' v w k h) p) (by omega)
theorem seg_st (s : Sg) : stands (segB s) 0 (max s.ty 0) 4 ∧ stands (segB s) 4 (max s.fl 0) 4 ∧ stands (segB s) 8 (max s.off 0) 8 ∧ stands (segB s) 16 (max s.ad 0) 8 ∧ stands (segB s) 32 (max s.sz 0) 8 ∧ stands (segB s) 40 (max s.me 0) 8 ∧ stands (segB s) 48 (max s.al 0) 8 := by
  unfold segB
  have z1 := putV_n s.ty 4 4 rfl
  have z2 := cat_n (putV s.ty 4) s.fl 4 4 rfl
  have z3 := cat_n (putV s.ty 4 ++ putV s.fl 4) s.off 8 8 rfl
  have z4 := cat_n (putV s.ty 4 ++ putV s.fl 4 ++ putV s.off 8) s.ad 8 8 rfl
  have z5 := cat_n (putV s.ty 4 ++ putV s.fl 4 ++ putV s.off 8 ++ putV s.ad 8) s.ad 8 8 rfl
  have z6 := cat_n (putV s.ty 4 ++ putV s.fl 4 ++ putV s.off 8 ++ putV s.ad 8 ++ putV s.ad 8) s.sz 8 8 rfl
  have z7 := cat_n (putV s.ty 4 ++ putV s.fl 4 ++ putV s.off 8 ++ putV s.ad 8 ++ putV s.ad 8 ++ putV s.sz 8) s.me 8 8 rfl
  refine ⟨?_, ?_, ?_, ?_, ?_, ?_, ?_⟩
  · exact stands_l (stands_l (stands_l (stands_l (stands_l (stands_l (stands_l (stands_put' s.ty 4 4 rfl) _) _) _) _) _) _) _
  · exact stands_l (stands_l (stands_l (stands_l (stands_l (stands_l (st_r rfl z1) _) _) _) _) _) _
  · exact stands_l (stands_l (stands_l (stands_l (stands_l (st_r rfl (by omega)) _) _) _) _) _
  · exact stands_l (stands_l (stands_l (stands_l (st_r rfl (by omega)) _) _) _) _
  · exact stands_l (stands_l (st_r rfl (by omega)) _) _
  · exact stands_l (st_r rfl (by omega)) _
  · exact st_r rfl (by omega)
theorem head_st (k e n : Int) : stands (headB k e n) 16 (max k 0) 2 ∧ stands (headB k e n) 24 (max e 0) 8 ∧ stands (headB k e n) 56 (max n 0) 2 := by
  have f1 := fillV_size 12 (by decide)
  rw [show Int.toNat 12 = 12 from rfl] at f1
  have fm : magicB.size = 16 := rfl
  unfold headB
  have z3 : (magicB ++ putV k 2 ++ putV 62 2 ++ putV 1 4).size = 24 := by simp only [ByteArray.size_append, putV_n _ 4 4 rfl, putV_n _ 2 2 rfl, fm]
  have z9 : (magicB ++ putV k 2 ++ putV 62 2 ++ putV 1 4 ++ putV e 8 ++ putV 64 8 ++ fillV ⟨#[]⟩ 12 ++ putV 64 2 ++ putV 56 2).size = 56 := by simp only [ByteArray.size_append, putV_n _ 4 4 rfl, putV_n _ 2 2 rfl, putV_n _ 8 8 rfl, fm, f1]
  refine ⟨?_, ?_, ?_⟩
  · exact stands_l (stands_l (stands_l (stands_l (stands_l (stands_l (stands_l (stands_l (stands_l (st_r rfl fm) _) _) _) _) _) _) _) _) _
  · exact stands_l (stands_l (stands_l (stands_l (stands_l (stands_l (st_r rfl z3) _) _) _) _) _) _
  · exact stands_l (st_r rfl z9) _
theorem addB_st (l : List Sg) : ∀ (b : ByteArray) {a : Nat} {v : Int} {w : Nat}, stands b a v w → stands (addB b l) a v w := by
  induction l with
  | nil => intro b a v w h; exact h
  | cons s r ih => intro b a v w h; exact ih (b ++ segB s) (stands_l h _)
theorem addB_seg (l : List Sg) : ∀ (b : ByteArray) (j : Nat) (x : Sg) {c : Nat} {v : Int} {w : Nat}, l[j]? = some x → stands (segB x) c v w → stands (addB b l) (b.size + 56 * j + c) v w := by
  induction l with
  | nil => intro b j x c v w hx; simp at hx
  | cons s r ih =>
    intro b j x c v w hx h
    rw [show addB b (s :: r) = addB (b ++ segB s) r from rfl]
    cases j with
    | zero =>
      simp at hx
      subst hx
      exact addB_st r _ (stands_off (stands_r h b) (by omega))
    | succ j =>
      rw [List.getElem?_cons_succ] at hx
      exact stands_off (ih (b ++ segB s) j x hx h) (by rw [ByteArray.size_append, segB_size]; omega)
theorem like_st {s h : ByteArray} (hl : likeS s h = true) {a : Nat} {v : Int} {w : Nat} (hs : stands h a v w) (ha : ∀ j, j < w → anyB (a + j) = false) : stands s a v w := by
  have hl := of_decide_eq_true hl
  refine ⟨by have := hs.1; omega, fun j hj => ?_⟩
  rcases hl.2 (a + j) (by have := hs.1; omega) with h1 | h1
  · rw [h1]; exact hs.2 j hj
  · rw [ha j hj] at h1; cases h1
theorem getN_st {s : ByteArray} {a w : Nat} {v : Int} (h : stands s a (max v 0) w) (hw : 1 ≤ w ∧ w ≤ 8) (hv : 0 ≤ v ∧ v ≤ 1099511627776) (hp : v < 256 ^ w) : getN s (a : Int) (w : Int) = v := by
  have h1 := getV_stands s a w (max v 0) (by omega) hw.1 hw.2 h
  have h2 : max v 0 = v := by omega
  rw [h2, Int.emod_eq_of_lt hv.1 hp] at h1
  unfold getN
  rw [h1]
  rw [if_pos ⟨rfl, hv.2⟩]
theorem getN_st' {A W : Int} {s : ByteArray} {a w : Nat} {v : Int} (h : stands s a (max v 0) w) (hA : A = (a : Int)) (hW : W = (w : Int)) (hw : 1 ≤ w ∧ w ≤ 8) (hv : 0 ≤ v ∧ v ≤ 1099511627776) (hp : v < 256 ^ w) : getN s A W = v := by subst hA hW; exact getN_st h hw hv hp
def Sg.fine (s : Sg) : Prop := (0 ≤ s.ty ∧ s.ty ≤ 4294967295) ∧ (0 ≤ s.fl ∧ s.fl ≤ 4294967295) ∧ (0 ≤ s.off ∧ s.off ≤ 1099511627776) ∧ (0 ≤ s.ad ∧ s.ad ≤ 1099511627776) ∧ (0 ≤ s.sz ∧ s.sz ≤ 1099511627776) ∧ (0 ≤ s.me ∧ s.me ≤ 1099511627776) ∧ (0 ≤ s.al ∧ s.al ≤ 1099511627776)
def Im.fine (x : Im) : Prop := (0 ≤ x.k ∧ x.k ≤ 65535) ∧ (0 ≤ x.e ∧ x.e ≤ 1099511627776) ∧ (1 ≤ x.l.length ∧ x.l.length ≤ 16) ∧ ∀ s ∈ x.l, s.fine
theorem any_no (i : Nat) (h : (i < 64 ∧ ¬ ((40 ≤ i ∧ i < 52) ∨ 58 ≤ i)) ∨ (64 ≤ i ∧ ¬ (24 ≤ (i - 64) % 56 ∧ (i - 64) % 56 < 32))) : anyB i = false := by
  unfold anyB
  rcases h with h | h
  · rw [if_pos h.1]; exact decide_eq_false h.2
  · rw [if_neg (by omega)]; exact decide_eq_false h.2
theorem read_back {s : ByteArray} {x : Im} (hf : x.fine) (hl : likeS s (headS x) = true) : readI s = x := by
  obtain ⟨k, e, l⟩ := x
  obtain ⟨hk, he, hn, hs⟩ := hf
  dsimp only at hk he hn hs
  obtain ⟨q1, q2, q3⟩ := head_st k e l.length
  have s1 := like_st hl (addB_st l _ q1) (fun j hj => any_no _ (.inl (by omega)))
  have s2 := like_st hl (addB_st l _ q2) (fun j hj => any_no _ (.inl (by omega)))
  have s3 := like_st hl (addB_st l _ q3) (fun j hj => any_no _ (.inl (by omega)))
  have g1 := getN_st s1 (by omega) (by omega) (by omega)
  have g2 := getN_st s2 (by omega) (by omega) (by omega)
  have g3 := getN_st s3 (by omega) (by omega) (by omega)
  have g1 : getN s 16 2 = k := g1
  have g2 : getN s 24 8 = e := g2
  have g3 : manyN s = (l.length : Int) := g3
  have hL : readL s l.length = l := by
    apply List.ext_getElem?
    intro j
    by_cases hj : j < l.length
    · rw [readL_at s l.length j hj]
      obtain ⟨y, hy⟩ : ∃ y, l[j]? = some y := ⟨_, List.getElem?_eq_getElem hj⟩
      rw [hy]
      obtain ⟨t0, t1, t2, t3, t4, t5, t6⟩ := seg_st y
      obtain ⟨h0, h1, h2, h3, h4, h5, h6⟩ := hs y (List.mem_of_getElem? hy)
      have z := headB_size k e l.length
      have c0 : getN s (64 + 56 * (j : Int)) 4 = y.ty := getN_st' (like_st hl (addB_seg l _ j y hy t0) (fun i hi => any_no _ (.inr (by rw [z]; omega)))) (by rw [z]; omega) rfl (by omega) (by omega) (by omega)
      have c1 : getN s (64 + 56 * (j : Int) + 4) 4 = y.fl := getN_st' (like_st hl (addB_seg l _ j y hy t1) (fun i hi => any_no _ (.inr (by rw [z]; omega)))) (by rw [z]; omega) rfl (by omega) (by omega) (by omega)
      have c2 : getN s (64 + 56 * (j : Int) + 8) 8 = y.off := getN_st' (like_st hl (addB_seg l _ j y hy t2) (fun i hi => any_no _ (.inr (by rw [z]; omega)))) (by rw [z]; omega) rfl (by omega) (by omega) (by omega)
      have c3 : getN s (64 + 56 * (j : Int) + 16) 8 = y.ad := getN_st' (like_st hl (addB_seg l _ j y hy t3) (fun i hi => any_no _ (.inr (by rw [z]; omega)))) (by rw [z]; omega) rfl (by omega) (by omega) (by omega)
      have c4 : getN s (64 + 56 * (j : Int) + 32) 8 = y.sz := getN_st' (like_st hl (addB_seg l _ j y hy t4) (fun i hi => any_no _ (.inr (by rw [z]; omega)))) (by rw [z]; omega) rfl (by omega) (by omega) (by omega)
      have c5 : getN s (64 + 56 * (j : Int) + 40) 8 = y.me := getN_st' (like_st hl (addB_seg l _ j y hy t5) (fun i hi => any_no _ (.inr (by rw [z]; omega)))) (by rw [z]; omega) rfl (by omega) (by omega) (by omega)
      have c6 : getN s (64 + 56 * (j : Int) + 48) 8 = y.al := getN_st' (like_st hl (addB_seg l _ j y hy t6) (fun i hi => any_no _ (.inr (by rw [z]; omega)))) (by rw [z]; omega) rfl (by omega) (by omega) (by omega)
      unfold segAt
      rw [c0, c1, c2, c3, c4, c5, c6]
    · rw [List.getElem?_eq_none (by rw [readL_len]; omega), List.getElem?_eq_none (by omega)]
  unfold readI
  rw [g1, g2, g3, Int.toNat_natCast, hL]
theorem parse_back {s : ByteArray} {x : Im} (hf : x.fine) (hl : likeS s (headS x) = true) : parseS s = if okS x s.size = true then (x, 0) else (.zero, 16) := by
  have hr := read_back hf hl
  have hm : 1 ≤ manyN s ∧ manyN s ≤ 16 := by
    have h1 : (readI s).l.length = x.l.length := by rw [hr]
    unfold readI at h1
    dsimp only at h1
    rw [readL_len] at h1
    have := hf.2.2.1
    omega
  unfold parseS
  rw [if_pos hm, hr]
  by_cases hok : okS x s.size = true
  · rw [if_pos ⟨hok, hl⟩, if_pos hok]
  · rw [if_neg (fun h => hok h.1), if_neg hok]
theorem like_app (h t : ByteArray) : likeS (h ++ t) h = true := decide_eq_true ⟨by rw [ByteArray.size_append]; omega, fun i hi => .inl (bt_app_l h t i hi)⟩
end Go.Proofs.Ytohfbnpmhlpkhaa.L

