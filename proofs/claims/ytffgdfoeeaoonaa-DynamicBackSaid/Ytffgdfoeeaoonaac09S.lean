/- What was written is read: plain. -/
import Derived.Test.Ytffgdfoeeaoonaac09R
namespace Go.Proofs.Ytffgdfoeeaoonaa.L
open Go.L1 Go.IntWalk
set_option linter.unusedVariables false
set_option linter.unusedSimpArgs false
theorem seen_put (es : List (Int × Bool)) (k t : Int) (h : t ≠ k) : seen (mput es k true) t = seen es t := by
  unfold seen
  rw [mget_put, if_neg h]
theorem goE_nd (r : List (Int × Int)) : ∀ (l : List Int) (a : Dyn) (es : List (Int × Bool)), a.nd.length + l.length ≤ 64 → (∀ x ∈ l, 0 ≤ x ∧ x ≤ 1099511627776) → ∃ es', goE (l.map (fun n => (1, n)) ++ r) a es = goE r { a with nd := a.nd ++ l } es' ∧ ∀ t, t ≠ 1 → seen es' t = seen es t
  | [], a, es, h1, h2 => ⟨es, by simp, fun _ _ => rfl⟩
  | x :: l, a, es, h1, h2 => by
    have hx := h2 x (List.mem_cons_self ..)
    simp only [List.length_cons] at h1
    obtain ⟨es', q1, q2⟩ := goE_nd r l { a with nd := a.nd ++ [x] } (mput es 1 true) (by simp; omega) (fun y hy => h2 y (List.mem_cons_of_mem _ hy))
    refine ⟨es', ?_, fun t ht => (q2 t ht).trans (seen_put es 1 t ht)⟩
    rw [List.map_cons, List.cons_append, goE]
    show (if (1 : Int) = 0 then _ else if (1 : Int) = 1 then (if max x 0 ≤ 1099511627776 ∧ a.nd.length < 64 then goE _ { a with nd := a.nd ++ [max x 0] } (mput es 1 true) else none) else _) = _
    rw [if_neg (by decide), if_pos rfl, Int.max_eq_left hx.1, if_pos ⟨hx.2, by omega⟩, q1]
    simp
theorem goE_tag (r : List (Int × Int)) (t x : Int) (a : Dyn) (es : List (Int × Bool)) (ht : t ∈ tags) (hx : 0 ≤ x ∧ x ≤ 1099511627776) (hs : seen es t = false) : goE ((t, x) :: r) a es = goE r (a.put t x) (mput es t true) := by
  rw [goE]
  simp only [Int.max_eq_left hx.1]
  simp only [tags, List.mem_cons, List.not_mem_nil, or_false] at ht
  rcases ht with rfl | rfl | rfl | rfl | rfl | rfl | rfl | rfl <;> (
    rw [if_neg (by decide), if_neg (by decide), if_neg (by decide)]
    show (if x ≤ 1099511627776 ∧ seen es _ = false then _ else _) = _
    rw [if_pos ⟨hx.2, hs⟩])
def fld (d : Dyn) (a : Dyn) (t : Int) : Dyn := if d.get t > 0 then a.put t (d.get t) else a
theorem goE_big (d : Dyn) (r : List (Int × Int)) (hd : ∀ t, 0 ≤ d.get t ∧ d.get t ≤ 1099511627776) : ∀ (ts : List Int) (a : Dyn) (es : List (Int × Bool)), (∀ t ∈ ts, t ∈ tags ∧ seen es t = false) → ts.Nodup → ∃ es', goE (bigE d ts ++ r) a es = goE r (ts.foldl (fld d) a) es' ∧ ∀ t, t ∉ ts → seen es' t = seen es t
  | [], a, es, h1, h2 => ⟨es, by simp [bigE], fun _ _ => rfl⟩
  | t :: ts, a, es, h1, h2 => by
    obtain ⟨ht, hs⟩ := h1 t (List.mem_cons_self ..)
    obtain ⟨hn1, hn2⟩ := List.nodup_cons.1 h2
    by_cases hg : d.get t > 0
    · obtain ⟨es', q1, q2⟩ := goE_big d r hd ts (a.put t (d.get t)) (mput es t true) (fun u hu => ⟨(h1 u (List.mem_cons_of_mem _ hu)).1, by rw [seen_put es t u (by rintro rfl; exact hn1 hu)]; exact (h1 u (List.mem_cons_of_mem _ hu)).2⟩) hn2
      refine ⟨es', ?_, fun u hu => ?_⟩
      · have hb : bigE d (t :: ts) = (t, d.get t) :: bigE d ts := by unfold bigE; rw [List.filterMap_cons]; simp [hg]
        rw [hb, List.cons_append, goE_tag _ t _ a es ht (hd t) hs, q1, List.foldl_cons, fld, if_pos hg]
      · simp only [List.mem_cons, not_or] at hu
        rw [q2 u hu.2, seen_put _ _ _ hu.1]
    · obtain ⟨es', q1, q2⟩ := goE_big d r hd ts a es (fun u hu => h1 u (List.mem_cons_of_mem _ hu)) hn2
      refine ⟨es', ?_, fun u hu => ?_⟩
      · have hb : bigE d (t :: ts) = bigE d ts := by unfold bigE; rw [List.filterMap_cons]; simp [hg]
        rw [hb, q1, List.foldl_cons, fld, if_neg hg]
      · simp only [List.mem_cons, not_or] at hu
        exact q2 u hu.2
theorem fld_all (d : Dyn) (hd : ∀ t, 0 ≤ d.get t ∧ d.get t ≤ 1099511627776) : tags.foldl (fld d) ⟨d.nd, 0, 0, 0, 0, 0, 0, 0, 0⟩ = d := by
  have h4 := (hd 4).1
  have h5 := (hd 5).1
  have h6 := (hd 6).1
  have h7 := (hd 7).1
  have h8 := (hd 8).1
  have h10 := (hd 10).1
  have h14 := (hd 14).1
  have hs := (hd 1879047669).1
  obtain ⟨nd, f1, f2, f3, f4, f5, f6, f7, f8⟩ := d
  change 0 ≤ f4 at h4
  change 0 ≤ f1 at h5
  change 0 ≤ f3 at h6
  change 0 ≤ f5 at h7
  change 0 ≤ f6 at h8
  change 0 ≤ f2 at h10
  change 0 ≤ f7 at h14
  change 0 ≤ f8 at hs
  have step : ∀ (x : Int) (A B : Dyn), 0 ≤ x → (x = 0 → A = B) → (if x > 0 then A else B) = A := fun x A B h0 h => by
    split
    · rfl
    · exact (h (by omega)).symm
  show fld _ (fld _ (fld _ (fld _ (fld _ (fld _ (fld _ (fld _ _ 4) 5) 6) 7) 8) 10) 14) 1879047669 = _
  have e4 : fld ⟨nd, f1, f2, f3, f4, f5, f6, f7, f8⟩ ⟨nd, 0, 0, 0, 0, 0, 0, 0, 0⟩ 4 = ⟨nd, 0, 0, 0, f4, 0, 0, 0, 0⟩ := step f4 _ _ h4 (fun e => by subst e; rfl)
  have e5 : fld ⟨nd, f1, f2, f3, f4, f5, f6, f7, f8⟩ ⟨nd, 0, 0, 0, f4, 0, 0, 0, 0⟩ 5 = ⟨nd, f1, 0, 0, f4, 0, 0, 0, 0⟩ := step f1 _ _ h5 (fun e => by subst e; rfl)
  have e6 : fld ⟨nd, f1, f2, f3, f4, f5, f6, f7, f8⟩ ⟨nd, f1, 0, 0, f4, 0, 0, 0, 0⟩ 6 = ⟨nd, f1, 0, f3, f4, 0, 0, 0, 0⟩ := step f3 _ _ h6 (fun e => by subst e; rfl)
  have e7 : fld ⟨nd, f1, f2, f3, f4, f5, f6, f7, f8⟩ ⟨nd, f1, 0, f3, f4, 0, 0, 0, 0⟩ 7 = ⟨nd, f1, 0, f3, f4, f5, 0, 0, 0⟩ := step f5 _ _ h7 (fun e => by subst e; rfl)
  have e8 : fld ⟨nd, f1, f2, f3, f4, f5, f6, f7, f8⟩ ⟨nd, f1, 0, f3, f4, f5, 0, 0, 0⟩ 8 = ⟨nd, f1, 0, f3, f4, f5, f6, 0, 0⟩ := step f6 _ _ h8 (fun e => by subst e; rfl)
  have e10 : fld ⟨nd, f1, f2, f3, f4, f5, f6, f7, f8⟩ ⟨nd, f1, 0, f3, f4, f5, f6, 0, 0⟩ 10 = ⟨nd, f1, f2, f3, f4, f5, f6, 0, 0⟩ := step f2 _ _ h10 (fun e => by subst e; rfl)
  have e14 : fld ⟨nd, f1, f2, f3, f4, f5, f6, f7, f8⟩ ⟨nd, f1, f2, f3, f4, f5, f6, 0, 0⟩ 14 = ⟨nd, f1, f2, f3, f4, f5, f6, f7, 0⟩ := step f7 _ _ h14 (fun e => by subst e; rfl)
  have es : fld ⟨nd, f1, f2, f3, f4, f5, f6, f7, f8⟩ ⟨nd, f1, f2, f3, f4, f5, f6, f7, 0⟩ 1879047669 = ⟨nd, f1, f2, f3, f4, f5, f6, f7, f8⟩ := step f8 _ _ hs (fun e => by subst e; rfl)
  rw [e4, e5, e6, e7, e8, e10, e14, es]
structure Dyn.ok (d : Dyn) : Prop where
  len : d.nd.length ≤ 64
  nd : ∀ x ∈ d.nd, 0 ≤ x ∧ x ≤ 1099511627776
  num : ∀ t, 0 ≤ d.get t ∧ d.get t ≤ 1099511627776
  even : d.f6.tmod 24 = 0
theorem goE_all (d : Dyn) (h : d.ok) : goE (entsD d) .zero [] = some d := by
  unfold entsD
  rw [List.append_assoc, List.append_assoc, List.append_assoc]
  obtain ⟨es1, q1, q2⟩ := goE_nd (bigE d tags ++ ((if d.f6 > 0 then [((9 : Int), (24 : Int))] else []) ++ ((if d.f3 > 0 then [((11 : Int), (24 : Int))] else []) ++ [((0 : Int), (0 : Int))]))) d.nd .zero [] (by simpa [Dyn.zero] using h.len) h.nd
  rw [q1]
  obtain ⟨es2, q3, q4⟩ := goE_big d ((if d.f6 > 0 then [((9 : Int), (24 : Int))] else []) ++ ((if d.f3 > 0 then [((11 : Int), (24 : Int))] else []) ++ [((0 : Int), (0 : Int))])) h.num tags { Dyn.zero with nd := Dyn.zero.nd ++ d.nd } es1 (fun t ht => ⟨ht, by rw [q2 t (by rintro rfl; revert ht; decide)]; rfl⟩) (by decide)
  rw [q3]
  have hz : ({ Dyn.zero with nd := Dyn.zero.nd ++ d.nd } : Dyn) = ⟨d.nd, 0, 0, 0, 0, 0, 0, 0, 0⟩ := by simp [Dyn.zero]
  rw [hz, fld_all d h.num]
  have s9 : seen es2 9 = false := by rw [q4 9 (by decide), q2 9 (by decide)]; rfl
  have s11 : seen es2 11 = false := by rw [q4 11 (by decide), q2 11 (by decide)]; rfl
  have e9 : ∀ r, goE ((9, 24) :: r) d es2 = goE r d (mput es2 9 true) := fun r => by
    rw [goE]
    show (if (9 : Int) = 0 then _ else if (9 : Int) = 1 then _ else if (9 : Int) = 9 ∨ (9 : Int) = 11 then (if max (24 : Int) 0 = 24 ∧ seen es2 9 = false then goE r d (mput es2 9 true) else none) else _) = _
    rw [if_neg (by decide), if_neg (by decide), if_pos (.inl rfl), if_pos ⟨by decide, s9⟩]
  have e11 : ∀ r es, seen es 11 = false → goE ((11, 24) :: r) d es = goE r d (mput es 11 true) := fun r es hs => by
    rw [goE]
    show (if (11 : Int) = 0 then _ else if (11 : Int) = 1 then _ else if (11 : Int) = 9 ∨ (11 : Int) = 11 then (if max (24 : Int) 0 = 24 ∧ seen es 11 = false then goE r d (mput es 11 true) else none) else _) = _
    rw [if_neg (by decide), if_neg (by decide), if_pos (.inr rfl), if_pos ⟨by decide, hs⟩]
  have e0 : ∀ es, goE [(0, 0)] d es = some d := fun es => by rw [goE]; simp
  have s11' : seen (mput es2 9 true) 11 = false := by rw [seen_put _ _ _ (by decide)]; exact s11
  by_cases h6 : d.f6 > 0 <;> by_cases h3 : d.f3 > 0
  · rw [if_pos h6, if_pos h3, List.singleton_append, e9, List.singleton_append, e11 _ _ s11', e0]
  · rw [if_pos h6, if_neg h3, List.singleton_append, e9, List.nil_append, e0]
  · rw [if_neg h6, if_pos h3, List.nil_append, List.singleton_append, e11 _ _ s11, e0]
  · rw [if_neg h6, if_neg h3, List.nil_append, List.nil_append, e0]
theorem ents_ok (d : Dyn) (h : d.ok) : ∀ e ∈ entsD d, 0 ≤ e.1 ∧ e.1 < 18446744073709551616 ∧ e.2 < 18446744073709551616 := by
  intro e he
  unfold entsD at he
  simp only [List.mem_append] at he
  rcases he with (((he | he) | he) | he) | he
  · obtain ⟨x, hx, rfl⟩ := List.mem_map.1 he
    have := h.nd x hx
    dsimp only; omega
  · unfold bigE at he
    obtain ⟨t, ht, h2⟩ := List.mem_filterMap.1 he
    split at h2
    · cases h2
      have := h.num t
      simp only [tags, List.mem_cons, List.not_mem_nil, or_false] at ht
      dsimp only; omega
    · cases h2
  · split at he
    · simp at he; subst he; decide
    · cases he
  · split at he
    · simp at he; subst he; decide
    · cases he
  · simp at he; subst he; decide
theorem back (d : Dyn) (h : d.ok) (u : ByteArray) : readS (bytesE (entsD d) ++ u) = (d, 0) := by
  rw [bytesE_eq, read_ents _ u (ents_ok d h) ⟨(0, 0), by unfold entsD; simp, rfl⟩, goE_all d h]
  show (if d.f6.tmod 24 = 0 then (d, (0 : Int)) else _) = _
  rw [if_pos h.even]
/-- One byte short of its end. -/
theorem read_cut (s : ByteArray) : ∀ (r : List (Int × Int)) (k f : Nat) (d : Dyn) (es : List (Int × Bool)), Ent s k r → (∀ e ∈ r, 0 < e.1 ∧ e.1 < 18446744073709551616 ∧ e.2 < 18446744073709551616) → (Oct.getV s (16 * ((k + r.length : Nat) : Int) + 8) 8).2 = false → readGo s f k d es = none
  | r, k, 0, d, es, h1, h2, h3 => rfl
  | [], k, f + 1, d, es, h1, h2, h3 => by
    rw [readGo]
    simp only [List.length_nil, Nat.add_zero] at h3
    rw [if_pos (by rw [h3]; simp)]
  | e :: r, k, f + 1, d, es, h1, h2, h3 => by
    obtain ⟨q1, q2, q3⟩ := h1
    obtain ⟨r0, r1, r2⟩ := h2 e (List.mem_cons_self ..)
    have ih : ∀ d es, readGo s f (k + 1) d es = none := fun d es => read_cut s r (k + 1) f d es q3 (fun e he => h2 e (List.mem_cons_of_mem _ he)) (by
      rw [← h3]; congr 3; simp only [List.length_cons]; omega)
    have g1 : Oct.getV s (16 * (k : Int)) 8 = (e.1, true) := by
      have := Oct.getV_stands s (16 * k) 8 e.1 (by omega) (by decide) (by decide) q1
      rw [show ((16 * k : Nat) : Int) = 16 * (k : Int) by push_cast; rfl] at this
      refine this.trans ?_
      congr 1
      exact Int.emod_eq_of_lt (by omega) (by rw [show (256 : Int) ^ 8 = 18446744073709551616 by decide]; exact r1)
    have hne : e.1 ≠ 0 := by omega
    unfold readGo
    simp only [g1, ih]
    rw [if_neg hne]
    repeat' split
    all_goals rfl
theorem ents_end (d : Dyn) (h : d.ok) : ∃ l, entsD d = l ++ [(0, 0)] ∧ ∀ e ∈ l, 0 < e.1 ∧ e.1 < 18446744073709551616 ∧ e.2 < 18446744073709551616 := by
  refine ⟨_, rfl, ?_⟩
  intro e he
  have hm : e ∈ entsD d := by unfold entsD; exact List.mem_append.2 (.inl he)
  have h1 := ents_ok d h e hm
  refine ⟨?_, h1.2⟩
  simp only [List.mem_append] at he
  rcases he with ((he | he) | he) | he
  · obtain ⟨x, hx, rfl⟩ := List.mem_map.1 he; exact (by decide : (0 : Int) < 1)
  · unfold bigE at he
    obtain ⟨t, ht, h2⟩ := List.mem_filterMap.1 he
    split at h2
    · cases h2
      simp only [tags, List.mem_cons, List.not_mem_nil, or_false] at ht
      dsimp only; omega
    · cases h2
  · split at he
    · simp at he; subst he; decide
    · cases he
  · split at he
    · simp at he; subst he; decide
    · cases he
theorem ent_cut (s : ByteArray) (c : Nat) (hc : c ≤ s.size) : ∀ (r : List (Int × Int)) (k : Nat), 16 * (k + r.length) ≤ c → Ent s k r → Ent (s.extract 0 c) k r
  | [], k, h, h1 => trivial
  | e :: r, k, h, ⟨q1, q2, q3⟩ => by
    simp only [List.length_cons] at h
    have := fun (a : Nat) (n : Int) (ha : a + 8 ≤ c) (hs : Oct.stands s a n 8) => Oct.stands_part (s := s) (a := a) (n := n) (w := 8) 0 c (by rw [Nat.zero_add]; exact hs) ha (by omega)
    rw [Nat.zero_add] at this
    exact ⟨this _ _ (by omega) q1, this _ _ (by omega) q2, ent_cut s c hc r (k + 1) (by omega) q3⟩
theorem cut (d : Dyn) (h : d.ok) : readS ((bytesE (entsD d)).extract 0 (16 * (entsD d).length - 1)) = (.zero, 17) := by
  obtain ⟨l, hl, hl2⟩ := ents_end d h
  have hz : (bytesE (entsD d)).size = 16 * (l.length + 1) := by rw [bytesE_size, hl]; simp
  have hlen : (entsD d).length = l.length + 1 := by rw [hl]; simp
  have he : Ent (bytesE (entsD d)) 0 l := by
    have := ent_at (bytesR [(0, 0)]) l ⟨#[]⟩ 0 rfl
    rw [nil_app, ← bytesR_app, ← hl, ← bytesE_eq] at this
    exact this
  have hc := ent_cut _ (16 * (entsD d).length - 1) (by rw [hz, hlen]; omega) l 0 (by rw [hlen]; omega) he
  unfold readS
  rw [read_cut _ l 0 _ _ _ hc hl2]
  · rfl
  · unfold Oct.getV
    rw [if_neg]
    unfold Oct.may
    rw [decide_eq_true_eq, ByteArray.size_extract, hz, hlen]
    omega
end Go.Proofs.Ytffgdfoeeaoonaa.L

