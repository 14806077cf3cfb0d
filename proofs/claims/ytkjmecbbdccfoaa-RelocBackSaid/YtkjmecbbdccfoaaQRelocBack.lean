/- The one statement that is left of RelocBack: relocations that may be are read as they were written. -/
import Derived.Test.YtkjmecbbdccfoaaSRelocBack
import Derived.Test.YtkjmecbbdccfoaaQRelocAt
import Derived.Test.YtkjmecbbdccfoaaQRFill
namespace Go.Proofs.Ytkjmecbbdccfoaa.X
open Go.RowKit Go.Proofs.YtkjmecbbdccfoaaW.PrintWords Go.Proofs.YtkjmecbbdccfoaaW.PrintLast Go.Proofs.YtkjmecbbdccfoaaW.PrintMore
namespace RelocBack
/-- One that may be, in a view of n bytes. -/
def good (n : Int) (r : S23) : Prop := (0 ≤ r.f0 ∧ r.f0 + 8 ≤ n) ∧ (((r.f1 = 1 ∨ r.f1 = 6 ∨ r.f1 = 7) ∧ 1 ≤ r.f2 ∧ r.f2 ≤ 1024) ∨ (r.f1 = 8 ∧ r.f2 = 0)) ∧ (-9223372036854775808 ≤ r.f3 ∧ r.f3 < 9223372036854775808)
def bytesOf' (r : S23) : ByteArray := Reloc.bytesV r.f0 r.f1 r.f2 r.f3
def at' (s : ByteArray) (a : Nat) (r : S23) : Prop := Reloc.at_ s a r.f0 r.f1 r.f2 r.f3
theorem rd_at (l : List S23) (i : Nat) (h : i < l.length) : rd_T23 l (i : Int) = l[i] := by unfold rd_T23; rw [Int.toNat_natCast, List.getD_eq_getElem?_getD, List.getElem?_eq_getElem h]; rfl
theorem rows (p : ByteArray) (n : Int) (hn : n ≤ 1000) (m : List S23) (hg : ∀ x ∈ m, good n x) (hp : ∀ j (h : j < m.length), at' p (24 * j) m[j]) : ∀ (d i : Nat), i + d = m.length →
    Reloc.rowsV p n d ((24 * i : Nat) : Int) = some (m.drop i)
  | 0, i, hi => by rw [List.drop_of_length_le (by omega)]; rfl
  | d + 1, i, hi => by
    have hlt : i < m.length := by omega
    have h := hp i hlt
    obtain ⟨⟨a0, a1⟩, hk, hd⟩ := hg m[i] (List.getElem_mem hlt)
    have k0 : 0 ≤ m[i].f1 ∧ m[i].f1 ≤ 8 := by omega
    have s0 : 0 ≤ m[i].f2 ∧ m[i].f2 ≤ 1024 := by omega
    have hmay := Reloc.may_at p (24 * i) n m[i].f0 m[i].f1 m[i].f2 m[i].f3 a0 (by omega) k0.1 (by omega) s0.1 (by omega) hd h
    have hraw := (Reloc.raw_at p (24 * i) m[i].f0 m[i].f1 m[i].f2 m[i].f3 a0 (by omega) k0.1 (by omega) s0.1 (by omega) hd h).1
    have ht : Reloc.mayV p ((24 * i : Nat) : Int) n = true := by
      rw [hmay, decide_eq_true (by omega), Bool.true_and]
      rcases hk with ⟨hk1, hs1, _⟩ | ⟨hk8, hs8⟩
      · rw [show Reloc.asksV m[i].f1 = true from decide_eq_true hk1, decide_eq_true (by omega)]; rfl
      · rw [show Reloc.asksV m[i].f1 = false from decide_eq_false (by omega), beq_iff_eq.2 hk8, decide_eq_false (by omega)]; rfl
    simp only [Reloc.rowsV]
    rw [if_pos ht, show ((24 * i : Nat) : Int) + 24 = ((24 * (i + 1) : Nat) : Int) by omega, rows p n hn m hg hp d (i + 1) (by omega), hraw, List.drop_eq_getElem_cons hlt]
    rfl
theorem fill_long (s : ByteArray) (n : Nat) (h : s.size < n) (hn : n ≤ 1000) : flyleafref01_Fill.f s (n : Int) = some (s ++ Oct.zeroB (n - s.size)) := by
  rw [Oct.rfill_f s (n : Int) (by omega) (by omega)]
  unfold Oct.fillV
  rw [if_neg (by omega), Int.toNat_natCast]
theorem end_ev (n : Nat) (h300 : 300 ≤ n) (hn : n ≤ 1000) (m : List S23) (hm : m.length ≤ 8) (s : ByteArray) (hs : s.size = 24 * m.length) (hg : ∀ x ∈ m, good n x) (hp : ∀ j (h : j < m.length), at' s (24 * j) m[j]) :
    Ev (fun k => ((flyleafref01_Fill.f s (n : Int)).bind fun t250 => ((reloc_Read.f k t250 ([] : List Int) 0 0 0 0 0 (s.size : Int) 0 0).bind fun bt251 => ((flyleafref11_Same.f k bt251.1 m).bind fun t255 => (if (m.length : Int) = 0 then (if t255 = true then (some (bt251.2 == 0)) else (some false)) else ((flyleafref01_Fill.f s (n : Int)).bind fun t256 => ((reloc_Read.f k t256 ([] : List Int) 0 0 0 0 0 (wrap64 ((s.size : Int) - 1)) 0 0).bind fun bt257 => (if 0 < (m.length : Int) then ((some (m.set (0 : Int).toNat (⟨wrap64 ((n : Int) - 7), (rd_T23 m 0).f1, (rd_T23 m 0).f2, (rd_T23 m 0).f3⟩ : S23) : List (S23))).bind fun y261 => ((reloc_Bytes.f k ((rd_T23 y261 0).f0) ((rd_T23 y261 0).f1) ((rd_T23 y261 0).f2) ((rd_T23 y261 0).f3)).bind fun t263 => ((flyleafref01_Fill.f t263 (n : Int)).bind fun t264 => ((reloc_Read.f k t264 ([] : List Int) 0 0 0 0 0 24 0 0).bind fun bt265 => (if t255 = true then (if bt251.2 = 0 then (if bt257.2 = 17 then (some (bt265.2 == 17)) else (some false)) else (some false)) else (some false)))))) else (none))))))))) true := by
  have hf := fill_long s n (by omega) hn
  have zv : (s ++ Oct.zeroB (n - s.size)).size = n := by rw [ByteArray.size_append, Oct.zeroB_size]; omega
  refine Ev.bind (PB.ev_const fun k => hf) ?_
  have hav : ∀ j (h : j < m.length), at' (s ++ Oct.zeroB (n - s.size)) (24 * j) m[j] := fun j h => Reloc.at_l (hp j h) _
  generalize hv : s ++ Oct.zeroB (n - s.size) = v at *
  refine Ev.bind (Reloc.read_ev v [] 0 0 0 0 0 (s.size : Int) 0 0 (by omega)) ?_
  have hr : Reloc.readV v 0 (s.size : Int) = (m, 0) := by
    unfold Reloc.readV
    by_cases c0 : m.length = 0
    · rw [if_pos (by omega), List.length_eq_zero_iff.1 c0]
    · have pv : Oct.partV v 0 (s.size : Int) = (v.extract 0 (24 * m.length), true) := by
        unfold Oct.partV
        rw [if_pos (by omega), show ((0 : Int) + (s.size : Int)).toNat = 24 * m.length by omega]
        rfl
      have h := rows (v.extract 0 (24 * m.length)) n (by omega) m hg (fun j h => Reloc.at_part (24 * m.length) (hav j h) (by omega) (by omega)) m.length 0 (by omega)
      have h' : Reloc.rowsV (v.extract 0 (24 * m.length)) (n : Int) m.length 0 = some m := h
      rw [if_neg (by omega), pv, if_pos ⟨rfl, by omega⟩, show ((s.size : Int) / 24).toNat = m.length by omega, zv, h']
      rfl
  rw [hr]
  refine Ev.bind (Reloc.same_ev m (by omega)) ?_
  by_cases c0 : (m.length : Int) = 0
  · refine Ev.congr (fun k => if_pos c0) ?_
    exact PB.ev_const fun k => by rw [if_pos rfl]; rfl
  · refine Ev.congr (fun k => if_neg c0) ?_
    refine Ev.bind (PB.ev_const fun k => hf) ?_
    rw [PB.wrap_ok ((s.size : Int) - 1) (by omega) (by omega), PB.wrap_ok ((n : Int) - 7) (by omega) (by omega)]
    refine Ev.bind (Reloc.read_ev v [] 0 0 0 0 0 ((s.size : Int) - 1) 0 0 (by omega)) ?_
    have hr2 : (Reloc.readV v 0 ((s.size : Int) - 1)).2 = 17 := by
      unfold Reloc.readV
      rw [if_neg (by omega), if_neg (by omega)]
    refine Ev.congr (fun k => if_pos (by omega)) ?_
    simp only [Option.bind_some]
    have hlt : 0 < m.length := by omega
    have hrd : rd_T23 m 0 = m[0] := rd_at m 0 hlt
    have hset : rd_T23 (m.set (0 : Int).toNat ⟨(n : Int) - 7, (rd_T23 m 0).f1, (rd_T23 m 0).f2, (rd_T23 m 0).f3⟩) 0 = ⟨(n : Int) - 7, m[0].f1, m[0].f2, m[0].f3⟩ := by
      rw [hrd]
      have := rd_at (m.set 0 ⟨(n : Int) - 7, m[0].f1, m[0].f2, m[0].f3⟩) 0 (by rw [List.length_set]; exact hlt)
      rw [List.getElem_set_self] at this
      exact this
    obtain ⟨⟨a0, a1⟩, hk, hd⟩ := hg m[0] (List.getElem_mem hlt)
    have k0 : 0 ≤ m[0].f1 ∧ m[0].f1 ≤ 8 := by omega
    have s0 : 0 ≤ m[0].f2 ∧ m[0].f2 ≤ 1024 := by omega
    simp only [hset]
    refine Ev.bind (Reloc.bytes_ev ((n : Int) - 7) m[0].f1 m[0].f2 m[0].f3 (by omega) (by omega) (by omega) hd) ?_
    have zb := Reloc.bytesV_size ((n : Int) - 7) m[0].f1 m[0].f2 m[0].f3
    refine Ev.bind (PB.ev_const fun k => fill_long _ n (by omega) hn) ?_
    have ha := Reloc.at_l (Reloc.at_bytes ((n : Int) - 7) m[0].f1 m[0].f2 m[0].f3 (by omega) (by omega) k0.1 (by omega) s0.1 (by omega)) (Oct.zeroB (n - (Reloc.bytesV ((n : Int) - 7) m[0].f1 m[0].f2 m[0].f3).size))
    have zu : (Reloc.bytesV ((n : Int) - 7) m[0].f1 m[0].f2 m[0].f3 ++ Oct.zeroB (n - (Reloc.bytesV ((n : Int) - 7) m[0].f1 m[0].f2 m[0].f3).size)).size = n := by rw [ByteArray.size_append, Oct.zeroB_size]; omega
    generalize Reloc.bytesV ((n : Int) - 7) m[0].f1 m[0].f2 m[0].f3 ++ Oct.zeroB (n - (Reloc.bytesV ((n : Int) - 7) m[0].f1 m[0].f2 m[0].f3).size) = u at *
    refine Ev.bind (Reloc.read_ev u [] 0 0 0 0 0 24 0 0 (by omega)) ?_
    have hr3 : (Reloc.readV u 0 24).2 = 17 := by
      have pv : Oct.partV u 0 24 = (u.extract 0 24, true) := by
        unfold Oct.partV
        rw [if_pos (by omega)]
        rfl
      have hm := Reloc.may_at (u.extract 0 24) 0 (n : Int) ((n : Int) - 7) m[0].f1 m[0].f2 m[0].f3 (by omega) (by omega) k0.1 (by omega) s0.1 (by omega) hd (Reloc.at_part 24 ha (by decide) (by omega))
      rw [decide_eq_false (by omega), Bool.false_and] at hm
      unfold Reloc.readV
      rw [if_neg (by decide), pv, if_pos ⟨rfl, by decide⟩, zu]
      show (Reloc.endV [] (Reloc.rowsV (u.extract 0 24) (n : Int) 1 0)).2 = 17
      simp only [Reloc.rowsV]
      have hm' : Reloc.mayV (u.extract 0 24) 0 (n : Int) = false := hm
      rw [hm']
      rfl
    refine PB.ev_const fun k => ?_
    simp only [if_true, hr2, hr3]
    rfl
theorem sel_kind (j : Int) (h0 : 0 ≤ j) (h1 : j < 4) : XW.sel [1, 6, 7, 8] j = 1 ∨ XW.sel [1, 6, 7, 8] j = 6 ∨ XW.sel [1, 6, 7, 8] j = 7 ∨ XW.sel [1, 6, 7, 8] j = 8 := by
  have : j = 0 ∨ j = 1 ∨ j = 2 ∨ j = 3 := by omega
  rcases this with rfl | rfl | rfl | rfl
  · exact .inl rfl
  · exact .inr (.inl rfl)
  · exact .inr (.inr (.inl rfl))
  · exact .inr (.inr (.inr rfl))
theorem place (q n : Int) (h : 300 ≤ n) (h2 : n ≤ 1000) : 0 ≤ Int.tmod (wrap64 ((wrap64 ((Int.tmod q (wrap64 (n - 7))) + n)) - 7)) (wrap64 (n - 7)) ∧ Int.tmod (wrap64 ((wrap64 ((Int.tmod q (wrap64 (n - 7))) + n)) - 7)) (wrap64 (n - 7)) + 8 ≤ n := by
  rw [PB.wrap_ok (n - 7) (by omega) (by omega)]
  have t1 := Int.tmod_lt_of_pos q (show 0 < n - 7 by omega)
  have t0 := Int.lt_tmod_of_pos q (show 0 < n - 7 by omega)
  rw [PB.wrap_ok (Int.tmod q (n - 7) + n) (by omega) (by omega), PB.wrap_ok (Int.tmod q (n - 7) + n - 7) (by omega) (by omega), Int.tmod_eq_emod_of_nonneg (by omega)]
  have m0 := Int.emod_nonneg (Int.tmod q (n - 7) + n - 7) (show n - 7 ≠ 0 by omega)
  have m1 := Int.emod_lt_of_pos (Int.tmod q (n - 7) + n - 7) (show 0 < n - 7 by omega)
  exact ⟨m0, by omega⟩
theorem loop_ev (l : List S23) (hl : ∀ x ∈ l, wf23 x) (n : Nat) (h300 : 300 ≤ n) (hn : n ≤ 1000) : ∀ (d i : Nat) (m : List S23) (s : ByteArray), i + d = 8 → m.length = i → s.size = 24 * i → (∀ x ∈ m, good n x) → (∀ j (h : j < m.length), at' s (24 * j) m[j]) →
    Ev (fun k => flyleaflaw11_RelocBack.l0 k l true (n : Int) m s (i : Int) 1 6 7 8) true := by
  have fin : ∀ (i : Nat) (m : List S23) (s : ByteArray), i ≤ 8 → m.length = i → s.size = 24 * i → (∀ x ∈ m, good n x) → (∀ j (h : j < m.length), at' s (24 * j) m[j]) → Ev (fun k => flyleaflaw11_RelocBack.j1 k l true (n : Int) m s (i : Int) false 1 6 7 8) true := by
    intro i m s hi hm hs hg hp
    refine PB.ev_succ (f := fun k => flyleaflaw11_RelocBack.j1 (k + 1) l true (n : Int) m s (i : Int) false 1 6 7 8) (fun k => rfl) ?_
    simp only [flyleaflaw11_RelocBack.j1, Bool.false_eq_true, if_false, if_true]
    exact end_ev n h300 hn m (by omega) s (by omega) hg hp
  intro d
  induction d with
  | zero =>
    intro i m s hi hm hs hg hp
    refine PB.ev_succ (f := fun k => flyleaflaw11_RelocBack.l0 (k + 1) l true (n : Int) m s (i : Int) 1 6 7 8) (fun k => rfl) ?_
    simp only [flyleaflaw11_RelocBack.l0]
    by_cases c : (i : Int) < (l.length : Int)
    · refine Ev.congr (fun k => if_pos c) ?_
      rw [decide_eq_false (by omega)]
      exact fin i m s (by omega) hm hs hg hp
    · exact Ev.congr (fun k => if_neg c) (fin i m s (by omega) hm hs hg hp)
  | succ d ih =>
    intro i m s hi hm hs hg hp
    refine PB.ev_succ (f := fun k => flyleaflaw11_RelocBack.l0 (k + 1) l true (n : Int) m s (i : Int) 1 6 7 8) (fun k => rfl) ?_
    simp only [flyleaflaw11_RelocBack.l0]
    by_cases c : (i : Int) < (l.length : Int)
    · refine Ev.congr (fun k => if_pos c) ?_
      rw [decide_eq_true (by omega)]
      refine PB.ev_succ (f := fun k => flyleaflaw11_RelocBack.j1 (k + 1) l true (n : Int) m s (i : Int) true 1 6 7 8) (fun k => rfl) ?_
      simp only [flyleaflaw11_RelocBack.j1, if_true]
      have hlt : i < l.length := by omega
      obtain ⟨w0, w1, w2, w3⟩ := hl l[i] (List.getElem_mem hlt)
      have b3 := PB.wfI_i64 w3
      have pl := place l[i].f0 n (by omega) (by omega)
      have e := PB.and_i64 l[i].f1 2 (by decide) 3 (by decide)
      have e2 : (2 : Int) ^ 2 = 4 := by decide
      rw [e2] at e
      have m0 := Int.emod_nonneg l[i].f1 (show (4 : Int) ≠ 0 by decide)
      have m1 := Int.emod_lt_of_pos l[i].f1 (show (0 : Int) < 4 by decide)
      have e' := PB.and_i64 l[i].f2 10 (by decide) 1023 (by decide)
      have e10 : (2 : Int) ^ 10 = 1024 := by decide
      rw [e10] at e'
      have q0 := Int.emod_nonneg l[i].f2 (show (1024 : Int) ≠ 0 by decide)
      have q1 := Int.emod_lt_of_pos l[i].f2 (show (0 : Int) < 1024 by decide)
      have hsel := sel_kind (l[i].f1 % 4) m0 m1
      rw [rd_at l i hlt, e, e', PB.wrap_ok (1 + l[i].f2 % 1024) (by omega) (by omega)]
      have hw : ¬ wrap64 ((n : Int) - 7) = 0 := by rw [PB.wrap_ok _ (by omega) (by omega)]; omega
      refine Ev.congr (fun k => by rw [if_pos (show (0 : Int) ≤ (i : Int) by omega), if_pos c, if_neg hw, if_pos m0, if_pos m1]) ?_
      have step : ∀ (p kind sym : Int), good n ⟨p, kind, sym, l[i].f3⟩ → Ev (fun k => flyleaflaw11_RelocBack.j2 k l true (n : Int) m s (i : Int) 1 6 7 8 p kind sym l[i].f3) true := by
        intro p kind sym hgood
        obtain ⟨⟨a0, a1⟩, hk, hd⟩ := hgood
        simp only at a0 a1 hk hd
        have k0 : 0 ≤ kind ∧ kind ≤ 8 := by omega
        have s0 : 0 ≤ sym ∧ sym ≤ 1024 := by omega
        refine PB.ev_succ (f := fun k => flyleaflaw11_RelocBack.j2 (k + 1) l true (n : Int) m s (i : Int) 1 6 7 8 p kind sym l[i].f3) (fun k => rfl) ?_
        simp only [flyleaflaw11_RelocBack.j2]
        refine Ev.congr (fun k => if_pos (by omega)) ?_
        refine Ev.bind (Reloc.bytes_ev p kind sym l[i].f3 (by omega) (by omega) (by omega) hd) ?_
        have zb := Reloc.bytesV_size p kind sym l[i].f3
        refine Ev.congr (fun k => if_pos (by omega)) ?_
        rw [show wrap64 ((i : Int) + 1) = ((i + 1 : Nat) : Int) by rw [PB.wrap_ok _ (by omega) (by omega)]; omega]
        refine ih (i + 1) _ _ (by omega) (by rw [List.length_append, hm]; rfl) (by rw [ByteArray.size_append, zb]; omega) ?_ ?_
        · intro x hx
          rcases List.mem_append.1 hx with hx | hx
          · exact hg x hx
          · obtain rfl := List.mem_singleton.1 hx
            exact ⟨⟨a0, a1⟩, hk, hd⟩
        · intro j hj
          rw [List.length_append, List.length_singleton] at hj
          by_cases cj : j < m.length
          · rw [List.getElem_append_left cj]
            exact Reloc.at_l (hp j cj) _
          · obtain rfl : j = m.length := by omega
            rw [List.getElem_concat_length rfl]
            have h := Reloc.at_r (Reloc.at_bytes p kind sym l[i].f3 a0 (by omega) k0.1 (by omega) s0.1 (by omega)) s
            have e24 : s.size + 0 = 24 * m.length := by rw [hs, hm, Nat.add_zero]
            rw [e24] at h
            exact h
      by_cases c8 : XW.sel [1, 6, 7, 8] (l[i].f1 % 4) = 8
      · refine Ev.congr (fun k => if_pos c8) (step _ _ _ ⟨pl, .inr ⟨c8, rfl⟩, b3⟩)
      · refine Ev.congr (fun k => if_neg c8) (step _ _ _ ⟨pl, .inl ⟨(by rcases hsel with h | h | h | h; exact .inl h; exact .inr (.inl h); exact .inr (.inr h); exact absurd h c8), by simp only; omega, by simp only; omega⟩, b3⟩)
    · exact Ev.congr (fun k => if_neg c) (fin i m s (by omega) hm hs hg hp)
theorem proved : flyleaflaw11_RelocBack.Pure := by
  intro l q hl _
  refine Ev.rounds ?_
  unfold flyleaflaw11_RelocBack.f
  refine Ev.bind Reloc.awake_ev ?_
  have e := PB.and_i64 q 8 (by decide) 255 (by decide)
  have e8 : (2 : Int) ^ 8 = 256 := by decide
  rw [e8] at e
  rw [e]
  have m0 := Int.emod_nonneg q (show (256 : Int) ≠ 0 by decide)
  have m1 := Int.emod_lt_of_pos q (show (0 : Int) < 256 by decide)
  rw [PB.wrap_ok (300 + q % 256) (by omega) (by omega)]
  obtain ⟨n, hn⟩ := Int.eq_ofNat_of_zero_le (show 0 ≤ 300 + q % 256 by omega)
  rw [hn]
  exact loop_ev l hl.2 n (by omega) (by omega) 8 0 [] ⟨#[]⟩ (by omega) rfl rfl (fun x hx => absurd hx List.not_mem_nil) (fun j h => absurd h (Nat.not_lt_zero _))
end RelocBack
end Go.Proofs.Ytkjmecbbdccfoaa.X
