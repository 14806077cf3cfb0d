/- symbol.chain, Find: a range over a function. -/
import Derived.Test.Ytoknnbjkjhigbaac10E
import Derived.Test.YtoknnbjkjhigbaaL1W
namespace Go.L1
section
variable {P : Program} {T : Tb} {fn : Func} {k : List It} {σ : Env} {g g1 : Nat → Option Ob} {n n1 m : Nat} {Q : Value → (Nat → Option Ob) → Nat → Prop}
/-- Two readers, a store, one more: the second reader reads the same behind the store. -/
theorem w_l4 {id : Nat} {o0 o1 o2 o3 : Oper} {v0 v1 v2 v3 : Value} (hp : planOk P T.quiet [o0, o1, o2, o3].toArray = true) (hf : planNow P T.quiet [o0, o1, o2, o3].toArray = [(1, 2)])
    (hg : [o0, o1, o2, o3].all (fun o => o.guard == none) = true)
    (h0 : step1 P (run P T) o0 σ ⟨g, n, m⟩ = some (.returned v0, ⟨g, n, m⟩)) (h1 : step1 P (run P T) o1 (put o0.dst v0 σ) ⟨g, n, m⟩ = some (.returned v1, ⟨g, n, m⟩))
    (h2 : step1 P (run P T) o2 (put o1.dst v1 (put o0.dst v0 σ)) ⟨g, n, m⟩ = some (.returned v2, ⟨g1, n1, m⟩)) (h3 : step1 P (run P T) o3 (put o2.dst v2 (put o1.dst v1 (put o0.dst v0 σ))) ⟨g1, n1, m⟩ = some (.returned v3, ⟨g1, n1, m⟩))
    (hx : step1 P (run P T) o1 (put o0.dst v0 σ) ⟨g1, n1, m⟩ = some (.returned v1, ⟨g1, n1, m⟩))
    (h : Go P T fn k (put o3.dst v3 (put o2.dst v2 (put o1.dst v1 (put o0.dst v0 σ)))) g1 n1 m Q) : Go P T fn (.code (.region id [o0, o1, o2, o3].toArray true) :: k) σ g n m Q := by
  obtain ⟨v, H', e1, e2⟩ := h
  simp only [List.all_cons, List.all_nil, Bool.and_true, Bool.and_eq_true, beq_iff_eq] at hg
  obtain ⟨g0, g1', g2', g3⟩ := hg
  have ht : traceOps P (run P T) [o0, o1, o2, o3].toArray [o0, o1, o2, o3].toArray.toList σ ⟨g, n, m⟩ = some [(σ, ⟨g, n, m⟩), (put o0.dst v0 σ, ⟨g, n, m⟩), (put o1.dst v1 (put o0.dst v0 σ), ⟨g, n, m⟩), (put o2.dst v2 (put o1.dst v1 (put o0.dst v0 σ)), ⟨g1, n1, m⟩), (put o3.dst v3 (put o2.dst v2 (put o1.dst v1 (put o0.dst v0 σ))), ⟨g1, n1, m⟩)] := by
    simp only [traceOps, Region.wanted, g0, g1', g2', g3, if_true, h0, h1, h2, h3, Option.bind_some, Option.map_some]
  refine ⟨v, H', r_drawc (v := v) (H' := H') hp ht (fun p hp' => ?_) e1, e2⟩
  rw [hf, List.mem_singleton] at hp'
  subst hp'
  exact fun _ => ⟨_, _, h1, hx⟩
theorem st_store {call : Fns} {d : Option Tmp} {ty : TypeId} {pos : String} {af : Array Edge} {t : TypeId} {a x : Operand} {i off : Nat} {e : TypeId} {vs us ws : List Value} (ha : ev σ a = ptr i off) (hx : (ev σ x).cells.toList = us) (hg : g i = some (.cells e vs)) (hm : m ≤ i) (hz : szOf P t = some us.length) (ho : us.all one = true) (hw : wrCells vs off us = some ws) : step1 P call ⟨d, .store t a x, ty, pos, af, none⟩ σ ⟨g, n, m⟩ = some (.returned undef, ⟨upd g i (some (.cells e ws)), n, m⟩) := by
  refine st_op rfl ?_
  subst hx
  simp only [op1, storeAt, ha]
  rw [if_pos hm]
  simp only [hg, hz, ho, hw, Bool.and_true, decide_true, if_true, Option.map_some, Hp.put]
  rfl
end
end Go.L1
namespace Go.Proofs.Ytoknnbjkjhigbaa.L
open Go.L1 Go.IntWalk
set_option linter.unusedVariables false
set_option linter.unusedSimpArgs false
set_option maxHeartbeats 4000000
set_option maxRecDepth 20000
namespace Sym
open Oct
abbrev Sy.zero : Sy := (0, false, 0)
def hit (s : ByteArray) (d : Dy) (nm : ByteArray) (i : Int) : Bool := (readS s d i).2 && (nameS s d (readS s d i).1.1).2 && (readS s d i).1.2.1 && decide ((nameS s d (readS s d i).1.1).1 = nm)
def fndGo (s : ByteArray) (d : Dy) (B c : Int) (nm : ByteArray) : Nat → Int → Bool → Sy × Bool
  | 0, _, _ => (Sy.zero, false)
  | f + 1, i, is => if is = false ∨ i = 0 ∨ i ≥ c then (Sy.zero, false) else if hit s d nm i = true then ((readS s d i).1, true) else fndGo s d B c nm f (numS s d (2 + B + i)).1 (numS s d (2 + B + i)).2
def findS (s : ByteArray) (d : Dy) (nm : ByteArray) : Sy × Bool :=
  if countS s d = 0 ∨ (numS s d 0).2 = false ∨ (numS s d 0).1 = 0 then (Sy.zero, false)
  else fndGo s d (numS s d 0).1 (countS s d) nm (countS s d).toNat (numS s d (2 + (hashN nm : Int) % (numS s d 0).1)).1 (numS s d (2 + (hashN nm : Int) % (numS s d 0).1)).2
theorem readS_small (s : ByteArray) (d : Dy) (i : Int) : (readS s d i).1.1 ≤ 9223372036854775807 := by
  unfold readS
  split
  · decide
  · show (getV (partV s (d.f3 + 24 * i) 24).1 0 4).1 ≤ _
    generalize (partV s (d.f3 + 24 * i) 24).1 = P
    unfold getV
    split
    · have := (gv_range P (0 : Int).toNat 4).2
      have e : (256 : Int) ^ 4 = 4294967296 := by decide
      show gv P (0 : Int).toNat 4 ≤ _
      omega
    · decide
theorem chain_run (s : ByteArray) (d : Dy) (h : Int) (g : Nat → Option Ob) (n m : Nat) : Rn Try.prog T 23 [.string s, d.v tg, .int .u32 h] g n m (fun v g' n' => v = .func (.func 33) #[] #[ptr n 0, ptr (n + 1) 0, ptr (n + 2) 0] ∧ g' = upd (upd (upd g n (some (.cells 9 [.string s]))) (n + 1) (some (.cells 32 (d.cs (fz tg 0 []))))) (n + 2) (some (.cells 24 [.int .u32 h])) ∧ n' = n + 3) := by
  refine c_open Try.func23 rfl rfl rfl rfl rfl rfl ?_
  repeat' (first
    | ((with_reducible apply g_op); first
      | ((with_reducible apply g_assign); first
        | ((with_reducible apply w_pure (v := .func _ _ _)); exact rfl; exact rfl)
        | ((with_reducible apply w_pure (v := .nilFunc)); exact rfl; exact rfl))
      | ((with_reducible apply g_box); first
        | ((with_reducible apply w_box (vs := [.int _ _])); exact rfl; exact rfl)
        | ((with_reducible apply w_box (vs := [.string _])); exact rfl; exact rfl)
        | ((with_reducible apply w_box (vs := [_, _, _, _, _, _, _, _, _])); exact rfl; exact rfl))
      | ((with_reducible apply w_mkf (cs := [.pointer _, .pointer _, .pointer _])); exact rfl))
    | with_reducible refine w_seq ?_
    | with_reducible refine w_nil ?_
    | with_reducible refine w_region ?_
    | ((with_reducible apply w_ret (v := .func _ _ _)); exact rfl))
  exact ⟨rfl, rfl, rfl⟩
/-- What lies in memory while a chain is gone through. -/
structure Fi (s : ByteArray) (d : Dy) (nm : ByteArray) (n : Nat) (x : Sy) (b : Bool) (G : Nat → Option Ob) : Prop where
  h0 : G n = some (.cells 9 [.string s])
  h1 : G (n + 1) = some (.cells 32 (d.cs (fz tg 0 [])))
  h2 : G (n + 2) = some (.cells 9 [.string nm])
  h3 : G (n + 3) = some (.cells 37 (sy Sy.zero))
  h4 : G (n + 4) = some (.cells 37 (sy x))
  h5 : G (n + 5) = some (.cells 4 [.bool b])
  h6 : G (n + 6) = some (.cells 9 [.string s])
  h7 : G (n + 7) = some (.cells 32 (d.cs (fz tg 0 [])))
  h8 : G (n + 8) = some (.cells 24 [.int .u32 (hashN nm : Nat)])
theorem Fi.later {s : ByteArray} {d : Dy} {nm : ByteArray} {n : Nat} {x : Sy} {b : Bool} {G G' : Nat → Option Ob} (h : Fi s d nm n x b G) (hg : ∀ j, j < n + 9 → G' j = G j) : Fi s d nm n x b G' :=
  ⟨by rw [hg _ (by omega)]; exact h.h0, by rw [hg _ (by omega)]; exact h.h1, by rw [hg _ (by omega)]; exact h.h2, by rw [hg _ (by omega)]; exact h.h3, by rw [hg _ (by omega)]; exact h.h4, by rw [hg _ (by omega)]; exact h.h5, by rw [hg _ (by omega)]; exact h.h6, by rw [hg _ (by omega)]; exact h.h7, by rw [hg _ (by omega)]; exact h.h8⟩
theorem Fi.is {s : ByteArray} {d : Dy} {nm : ByteArray} {n : Nat} {x : Sy} {b b' : Bool} {G : Nat → Option Ob} (h : Fi s d nm n x b G) : Fi s d nm n x b' (upd G (n + 5) (some (.cells 4 [.bool b']))) := by
  refine ⟨?_, ?_, ?_, ?_, ?_, ?_, ?_, ?_, ?_⟩
  all_goals first
    | exact upd_same
    | (rw [upd_ne (by omega)]; first | exact h.h0 | exact h.h1 | exact h.h2 | exact h.h3 | exact h.h4 | exact h.h6 | exact h.h7 | exact h.h8)
theorem Fi.found {s : ByteArray} {d : Dy} {nm : ByteArray} {n : Nat} {x x' : Sy} {b : Bool} {G : Nat → Option Ob} (h : Fi s d nm n x b G) : Fi s d nm n x' b (upd G (n + 4) (some (.cells 37 (sy x')))) := by
  refine ⟨?_, ?_, ?_, ?_, ?_, ?_, ?_, ?_, ?_⟩
  all_goals first
    | exact upd_same
    | (rw [upd_ne (by omega)]; first | exact h.h0 | exact h.h1 | exact h.h2 | exact h.h3 | exact h.h5 | exact h.h6 | exact h.h7 | exact h.h8)
theorem Fi.brk {s : ByteArray} {d : Dy} {nm : ByteArray} {n N : Nat} {x x' : Sy} {b b' : Bool} {G : Nat → Option Ob} {a c o : Option Ob} (h : Fi s d nm n x b G) (hN : n + 10 ≤ N) : Fi s d nm n x' b' (upd (upd (upd (upd (upd G N a) N c) (n + 5) (some (.cells 4 [.bool b']))) (n + 4) (some (.cells 37 (sy x')))) (n + 9) o) := by
  have h1 : Fi s d nm n x b (upd (upd G N a) N c) := h.later fun j hj => by rw [upd_ne (by omega), upd_ne (by omega)]
  exact h1.is.found.later fun j hj => upd_ne (by omega)
theorem find_run (s : ByteArray) (d : Dy) (nm : ByteArray) (hs : s.size ≤ 1000000) (hn : nm.size ≤ 1000000) : Rf Try.prog T 12 [.string s, d.v tg, .string nm] (fun v => v = .tuple #[syV (findS s d nm).1, .bool (findS s d nm).2]) := by
  refine c_froz Try.func12 rfl rfl rfl rfl rfl rfl ?_
  intro g n
  repeat' (first
    | ((with_reducible apply g_op); first
      | ((with_reducible apply g_load); first
        | ((with_reducible apply w_load (v := .string _)); exact rfl; (first | assumption | (simp (disch := omega) only [upd_same, upd_ne]; first | done | assumption | exact rfl) | exact rfl); exact rfl)
        | ((with_reducible apply w_load (v := .agg #[_, _, _, _, _, _, _, _, _])); exact rfl; (first | assumption | (simp (disch := omega) only [upd_same, upd_ne]; first | done | assumption | exact rfl) | exact rfl); exact rfl))
      | ((with_reducible apply g_assign); first
        | ((with_reducible apply w_pure (v := .bool _)); exact rfl; exact rfl))
      | ((with_reducible apply g_box); first
        | ((with_reducible apply w_box (vs := [.string _])); exact rfl; exact rfl)
        | ((with_reducible apply w_box (vs := [_, _, _, _, _, _, _, _, _])); exact rfl; exact rfl))
      | ((with_reducible apply g_store); first
        | ((with_reducible apply w_store (us := [.bool _]) (ws := [_])); exact rfl; exact rfl; (first | assumption | (simp (disch := omega) only [upd_same, upd_ne]; first | done | assumption | exact rfl) | exact rfl); omega; exact rfl; exact rfl; exact rfl))
      | ((with_reducible apply w_alloc (ls := [.bool _])); exact rfl; exact rfl)
      | ((with_reducible apply w_alloc (ls := [_, _, _])); exact rfl; exact rfl))
    | with_reducible refine w_seq ?_
    | with_reducible refine w_nil ?_
    | with_reducible refine w_region ?_
    | with_reducible refine w_label ?_
    | with_reducible refine w_scope ?_
    | ((with_reducible apply w_draw); kernel_rfl; kernel_rfl))
  refine w_rq (hash_run nm (by omega) _ _ _) (fun _ => rfl) ?_
  rintro _ rfl
  refine w_rn (chain_run s d _ _ _ _) (fun _ => rfl) ?_
  rintro _ _ _ ⟨rfl, rfl, rfl⟩
  repeat' (first
    | with_reducible refine w_nil ?_
    | with_reducible refine w_block ?_)
  refine w_gen (fun G N => Fi s d nm n Sy.zero false G ∧ N = n + 9) ⟨⟨?_, ?_, ?_, ?_, ?_, ?_, ?_, ?_, ?_⟩, rfl⟩ ?_
  iterate 9 (focus (repeat (first | exact upd_at (by omega) | refine (upd_ne (by omega)).trans ?_)))
  rintro G _ ⟨hG, rfl⟩
  refine w_env fun τ hτ => ?_
  have k3 : τ 3 = ptr n 0 := hτ 3
  have k4 : τ 4 = ptr (n + 1) 0 := hτ 4
  have k5 : τ 5 = ptr (n + 2) 0 := hτ 5
  have k6 : τ 6 = ptr (n + 3) 0 := hτ 6
  have k8 : τ 8 = ptr (n + 4) 0 := hτ 8
  have k9 : τ 9 = ptr (n + 5) 0 := hτ 9
  refine w_rangeE (vs := [.func (.yield (n + 9)) #[] #[], ptr (n + 6) 0, ptr (n + 7) 0, ptr (n + 8) 0]) (hτ 19) rfl (by kernel_rfl) ?_
  intro ca cb G1 hca hcb hL hG1
  have round : ∀ (i : Int) (b : Bool) (g : Nat → Option Ob) (N : Nat) (K : Bool → (Nat → Option Ob) → Nat → Prop), n + 10 ≤ N → Fi s d nm n Sy.zero b g → g (n + 9) = some (.loop τ [20] ca cb .ready none) →
      (hit s d nm i = false → ∀ g' N', N ≤ N' → Fi s d nm n Sy.zero false g' → g' (n + 9) = some (.loop τ [20] ca cb .ready none) → K true g' N') →
      (hit s d nm i = true → ∀ g' N', N ≤ N' → Fi s d nm n (readS s d i).1 true g' → g' (n + 9) = some (.loop τ [20] ca cb .done (some (.exit 0))) → K false g' N') →
      Go Try.prog T yfn [.code ca, .beg (n + 9), .code cb, .yend] (put (some 20) (.int .i64 i) τ) g N n (Yq (n + 9) K) := by
    intro i b g N K hN hF hL hK1 hK2
    have hsm := readS_small s d i
    rw [hca, hcb]
    refine w_keep (i := 3) k3 (w_keep (i := 4) k4 (w_keep (i := 5) k5 (w_keep (i := 6) k6 (w_keep (i := 8) k8 (w_keep (i := 9) k9 ?_)))))
    repeat' (first
      | ((with_reducible apply g_op); first
        | ((with_reducible apply g_assign); first
          | ((with_reducible apply w_pure (v := .int _ _)); exact rfl; exact rfl)))
      | with_reducible refine w_nil ?_
      | with_reducible refine w_region ?_)
    refine w_beg hL ?_
    have hF1 : Fi s d nm n Sy.zero b (upd g (n + 9) (some (.loop τ [20] ca cb .busy none))) := hF.later fun j hj => upd_ne (by omega)
    have hL1 : upd g (n + 9) (some (.loop τ [20] ca cb .busy none)) (n + 9) = some (.loop τ [20] ca cb .busy none) := upd_same
    generalize upd g (n + 9) (some (.loop τ [20] ca cb .busy none)) = g1 at *
    obtain ⟨h0, h1, h2, h3, h4, h5, h6, h7, h8⟩ := id hF1
    unfold Dy.cs at h1
    repeat' (first
      | ((with_reducible apply g_op); first
        | ((with_reducible apply g_load); first
          | ((with_reducible apply w_load (v := .string _)); exact rfl; (first | assumption | (simp (disch := omega) only [upd_same, upd_ne]; first | done | assumption | exact rfl) | exact rfl); exact rfl)
          | ((with_reducible apply w_load (v := .agg #[_, _, _, _, _, _, _, _, _])); exact rfl; (first | assumption | (simp (disch := omega) only [upd_same, upd_ne]; first | done | assumption | exact rfl) | exact rfl); exact rfl))
        | ((with_reducible apply g_move); first
          | ((with_reducible apply w_pure (v := .int _ _)); exact rfl; exact rfl)))
      | with_reducible refine w_seq ?_
      | with_reducible refine w_region ?_
      | with_reducible refine w_block ?_)
    refine w_rf (read_run s d i hs) (fun _ => rfl) (sn_cons (sn_plain rfl) (sn_cons dy_sn (sn_cons (sn_plain rfl) sn_nil))) ?_
    rintro _ rfl
    unfold hit at hK1 hK2
    generalize readS s d i = R at *
    obtain ⟨⟨r1, r2, r3⟩, rb⟩ := R
    dsimp only at hsm hK1 hK2 ⊢
    repeat' (first
      | ((with_reducible apply g_op); first
        | ((with_reducible apply g_load); first
          | ((with_reducible apply w_load (v := .int _ _)); exact rfl; (first | assumption | (simp (disch := omega) only [upd_same, upd_ne]; first | done | assumption | exact rfl) | exact rfl); exact rfl)
          | ((with_reducible apply w_load (v := .string _)); exact rfl; (first | assumption | (simp (disch := omega) only [upd_same, upd_ne]; first | done | assumption | exact rfl) | exact rfl); exact rfl)
          | ((with_reducible apply w_load (v := .agg #[_, _, _, _, _, _, _, _, _])); exact rfl; (first | assumption | (simp (disch := omega) only [upd_same, upd_ne]; first | done | assumption | exact rfl) | exact rfl); exact rfl))
        | ((with_reducible apply g_move); first
          | ((with_reducible apply w_pure (v := .tuple _)); exact rfl; exact rfl))
        | ((with_reducible apply g_fld); first
          | ((with_reducible apply w_fldp (o := 0)); exact rfl; exact rfl; exact rfl; exact (by decide)))
        | ((with_reducible apply g_assign); first
          | ((with_reducible apply w_pure (v := .bool _)); exact rfl; exact rfl))
        | ((with_reducible apply g_store); first
          | ((with_reducible apply w_store (us := [_, _, _]) (ws := [_, _, _])); exact rfl; exact rfl; (first | assumption | (simp (disch := omega) only [upd_same, upd_ne]; first | done | assumption | exact rfl) | exact rfl); omega; exact rfl; exact rfl; exact rfl))
        | ((with_reducible apply w_alloc (ls := [_, _, _])); exact rfl; exact rfl)
        | ((with_reducible apply w_pure (v := .bool _)); exact rfl; exact rfl)
        | ((with_reducible apply w_pure (v := .agg _)); exact rfl; exact rfl))
      | with_reducible refine w_seq ?_
      | with_reducible refine w_nil ?_
      | with_reducible refine w_region ?_)
    refine w_rf (name_run s d r1 hs hsm) (fun _ => rfl) (sn_cons (sn_plain rfl) (sn_cons dy_sn (sn_cons (sn_plain rfl) sn_nil))) ?_
    rintro _ rfl
    generalize nameS s d r1 = M at *
    obtain ⟨m1, mb⟩ := M
    dsimp only at hK1 hK2 ⊢
    cases rb
    · repeat' (first
        | ((with_reducible apply g_op); first
          | ((with_reducible apply g_load); first
            | ((with_reducible apply w_load (v := .bool _)); exact rfl; (first | assumption | (simp (disch := omega) only [upd_same, upd_ne]; first | done | assumption | exact rfl) | exact rfl); exact rfl))
          | ((with_reducible apply g_move); first
            | ((with_reducible apply w_pure (v := .bool _)); exact rfl; exact rfl)
            | ((with_reducible apply w_pure (v := .tuple _)); exact rfl; exact rfl))
          | ((with_reducible apply g_assign); first
            | ((with_reducible apply w_pure (v := .bool _)); exact rfl; exact rfl)
            | ((with_reducible apply w_pure (v := .string _)); exact rfl; exact rfl))
          | ((with_reducible apply g_store); first
            | ((with_reducible apply w_store (us := [.bool _]) (ws := [_])); exact rfl; exact rfl; (first | assumption | (simp (disch := omega) only [upd_same, upd_ne]; first | done | assumption | exact rfl) | exact rfl); omega; exact rfl; exact rfl; exact rfl))
          | ((with_reducible apply w_pure (v := .bool _)); exact rfl; exact rfl)
          | ((with_reducible apply w_pure (v := .string _)); exact rfl; exact rfl))
        | ((with_reducible apply g_gd); first
          | ((with_reducible apply w_pass); exact rfl))
        | with_reducible refine w_seq ?_
        | with_reducible refine w_nil ?_
        | with_reducible refine w_region ?_
        | with_reducible refine w_skip ?_
        | with_reducible refine w_blk ?_
        | ((with_reducible apply w_no); exact rfl))
      refine w_yend ⟨τ, [20], ca, cb, .busy, none, (upd_ne (by omega)).trans ((upd_ne (by omega)).trans ((upd_ne (by omega)).trans hL1)), .inl ⟨rfl, hK1 (by simp_all) _ _ (by omega) ?_ upd_same⟩⟩
      exact Fi.later (Fi.is (b := b) (Fi.later hF1 (fun j hj => by rw [upd_ne (by omega), upd_ne (by omega)]))) (fun j hj => upd_ne (by omega))
    cases mb
    · repeat' (first
        | ((with_reducible apply g_op); first
          | ((with_reducible apply g_load); first
            | ((with_reducible apply w_load (v := .bool _)); exact rfl; (first | assumption | (simp (disch := omega) only [upd_same, upd_ne]; first | done | assumption | exact rfl) | exact rfl); exact rfl))
          | ((with_reducible apply g_move); first
            | ((with_reducible apply w_pure (v := .bool _)); exact rfl; exact rfl)
            | ((with_reducible apply w_pure (v := .tuple _)); exact rfl; exact rfl))
          | ((with_reducible apply g_assign); first
            | ((with_reducible apply w_pure (v := .bool _)); exact rfl; exact rfl)
            | ((with_reducible apply w_pure (v := .string _)); exact rfl; exact rfl))
          | ((with_reducible apply g_store); first
            | ((with_reducible apply w_store (us := [.bool _]) (ws := [_])); exact rfl; exact rfl; (first | assumption | (simp (disch := omega) only [upd_same, upd_ne]; first | done | assumption | exact rfl) | exact rfl); omega; exact rfl; exact rfl; exact rfl))
          | ((with_reducible apply w_pure (v := .bool _)); exact rfl; exact rfl)
          | ((with_reducible apply w_pure (v := .string _)); exact rfl; exact rfl))
        | ((with_reducible apply g_gd); first
          | ((with_reducible apply w_want); exact rfl)
          | ((with_reducible apply w_pass); exact rfl))
        | with_reducible refine w_seq ?_
        | with_reducible refine w_nil ?_
        | with_reducible refine w_region ?_
        | with_reducible refine w_skip ?_
        | with_reducible refine w_blk ?_
        | ((with_reducible apply w_no); exact rfl))
      refine w_yend ⟨τ, [20], ca, cb, .busy, none, (upd_ne (by omega)).trans ((upd_ne (by omega)).trans ((upd_ne (by omega)).trans hL1)), .inl ⟨rfl, hK1 (by simp_all) _ _ (by omega) ?_ upd_same⟩⟩
      exact Fi.later (Fi.is (b := b) (Fi.later hF1 (fun j hj => by rw [upd_ne (by omega), upd_ne (by omega)]))) (fun j hj => upd_ne (by omega))
    cases r2
    · repeat' (first
        | ((with_reducible apply g_op); first
          | ((with_reducible apply g_load); first
            | ((with_reducible apply w_load (v := .bool _)); exact rfl; (first | assumption | (simp (disch := omega) only [upd_same, upd_ne]; first | done | assumption | exact rfl) | exact rfl); exact rfl))
          | ((with_reducible apply g_move); first
            | ((with_reducible apply w_pure (v := .bool _)); exact rfl; exact rfl)
            | ((with_reducible apply w_pure (v := .tuple _)); exact rfl; exact rfl))
          | ((with_reducible apply g_fld); first
            | ((with_reducible apply w_fldp (o := 1)); exact rfl; exact rfl; exact rfl; exact (by decide)))
          | ((with_reducible apply g_assign); first
            | ((with_reducible apply w_pure (v := .bool _)); exact rfl; exact rfl)
            | ((with_reducible apply w_pure (v := .string _)); exact rfl; exact rfl))
          | ((with_reducible apply g_store); first
            | ((with_reducible apply w_store (us := [.bool _]) (ws := [_])); exact rfl; exact rfl; (first | assumption | (simp (disch := omega) only [upd_same, upd_ne]; first | done | assumption | exact rfl) | exact rfl); omega; exact rfl; exact rfl; exact rfl))
          | ((with_reducible apply w_pure (v := .bool _)); exact rfl; exact rfl)
          | ((with_reducible apply w_pure (v := .string _)); exact rfl; exact rfl))
        | ((with_reducible apply g_gd); first
          | ((with_reducible apply w_want); exact rfl)
          | ((with_reducible apply w_pass); exact rfl))
        | with_reducible refine w_seq ?_
        | with_reducible refine w_nil ?_
        | with_reducible refine w_region ?_
        | with_reducible refine w_skip ?_
        | with_reducible refine w_blk ?_
        | ((with_reducible apply w_no); exact rfl))
      refine w_yend ⟨τ, [20], ca, cb, .busy, none, (upd_ne (by omega)).trans ((upd_ne (by omega)).trans ((upd_ne (by omega)).trans hL1)), .inl ⟨rfl, hK1 (by simp_all) _ _ (by omega) ?_ upd_same⟩⟩
      exact Fi.later (Fi.is (b := b) (Fi.later hF1 (fun j hj => by rw [upd_ne (by omega), upd_ne (by omega)]))) (fun j hj => upd_ne (by omega))
    by_cases hm : m1 = nm
    · repeat' (first
        | ((with_reducible apply g_op); first
          | ((with_reducible apply g_load); first
            | ((with_reducible apply w_load (v := .bool _)); exact rfl; (first | assumption | (simp (disch := omega) only [upd_same, upd_ne]; first | done | assumption | exact rfl) | exact rfl); exact rfl)
            | ((with_reducible apply w_load (v := .string _)); exact rfl; (first | assumption | (simp (disch := omega) only [upd_same, upd_ne]; first | done | assumption | exact rfl) | exact rfl); exact rfl)
            | ((with_reducible apply w_load (v := .agg #[_, _, _])); exact rfl; (first | assumption | (simp (disch := omega) only [upd_same, upd_ne]; first | done | assumption | exact rfl) | exact rfl); exact rfl))
          | ((with_reducible apply g_move); first
            | ((with_reducible apply w_pure (v := .bool _)); exact rfl; exact rfl)
            | ((with_reducible apply w_pure (v := .string _)); exact rfl; exact rfl)
            | ((with_reducible apply w_pure (v := .tuple _)); exact rfl; exact rfl))
          | ((with_reducible apply g_bin); first
            | ((with_reducible apply w_teq); exact rfl; exact rfl; exact rfl; exact rfl; exact rfl))
          | ((with_reducible apply g_fld); first
            | ((with_reducible apply w_fldp (o := 1)); exact rfl; exact rfl; exact rfl; exact (by decide)))
          | ((with_reducible apply g_assign); first
            | ((with_reducible apply w_pure (v := .bool _)); exact rfl; exact rfl)
            | ((with_reducible apply w_pure (v := .string _)); exact rfl; exact rfl))
          | ((with_reducible apply g_store); first
            | ((with_reducible apply w_store (us := [.bool _]) (ws := [_])); exact rfl; exact rfl; (first | assumption | (simp (disch := omega) only [upd_same, upd_ne]; first | done | assumption | exact rfl) | exact rfl); omega; exact rfl; exact rfl; exact rfl)
            | ((with_reducible apply w_store (us := [_, _, _]) (ws := [_, _, _])); exact rfl; exact rfl; (first | assumption | (simp (disch := omega) only [upd_same, upd_ne]; first | done | assumption | exact rfl) | exact rfl); omega; exact rfl; exact rfl; exact rfl))
          | ((with_reducible apply w_pure (v := .bool _)); exact rfl; exact rfl)
          | ((with_reducible apply w_pure (v := .string _)); exact rfl; exact rfl))
        | ((with_reducible apply g_gd); first
          | ((with_reducible apply w_want); exact rfl))
        | with_reducible refine w_seq ?_
        | with_reducible refine w_nil ?_
        | with_reducible refine w_region ?_
        | with_reducible refine w_skip ?_
        | with_reducible refine w_blk ?_
        | ((with_reducible apply w_ifd); exact rfl; all_goals (intro hc; first | (exfalso; omega) | skip)))
      all_goals first | exact absurd hm (by assumption) | skip
      refine w_yexit rfl ?_
      refine ⟨τ, [20], ca, cb, .busy, none, (upd_ne (by omega)).trans ((upd_ne (by omega)).trans ((upd_ne (by omega)).trans ((upd_ne (by omega)).trans hL1))), .inr (.inr ⟨0, rfl, hK2 (by rw [hm]; simp) _ _ (by omega) ?_ upd_same⟩)⟩
      rw [decide_eq_true hm]
      exact Fi.brk hF1 hN
    · repeat' (first
        | ((with_reducible apply g_op); first
          | ((with_reducible apply g_load); first
            | ((with_reducible apply w_load (v := .bool _)); exact rfl; (first | assumption | (simp (disch := omega) only [upd_same, upd_ne]; first | done | assumption | exact rfl) | exact rfl); exact rfl)
            | ((with_reducible apply w_load (v := .string _)); exact rfl; (first | assumption | (simp (disch := omega) only [upd_same, upd_ne]; first | done | assumption | exact rfl) | exact rfl); exact rfl)
            | ((with_reducible apply w_load (v := .agg #[_, _, _])); exact rfl; (first | assumption | (simp (disch := omega) only [upd_same, upd_ne]; first | done | assumption | exact rfl) | exact rfl); exact rfl))
          | ((with_reducible apply g_move); first
            | ((with_reducible apply w_pure (v := .bool _)); exact rfl; exact rfl)
            | ((with_reducible apply w_pure (v := .string _)); exact rfl; exact rfl)
            | ((with_reducible apply w_pure (v := .tuple _)); exact rfl; exact rfl))
          | ((with_reducible apply g_bin); first
            | ((with_reducible apply w_teq); exact rfl; exact rfl; exact rfl; exact rfl; exact rfl))
          | ((with_reducible apply g_fld); first
            | ((with_reducible apply w_fldp (o := 1)); exact rfl; exact rfl; exact rfl; exact (by decide)))
          | ((with_reducible apply g_assign); first
            | ((with_reducible apply w_pure (v := .bool _)); exact rfl; exact rfl)
            | ((with_reducible apply w_pure (v := .string _)); exact rfl; exact rfl))
          | ((with_reducible apply g_store); first
            | ((with_reducible apply w_store (us := [.bool _]) (ws := [_])); exact rfl; exact rfl; (first | assumption | (simp (disch := omega) only [upd_same, upd_ne]; first | done | assumption | exact rfl) | exact rfl); omega; exact rfl; exact rfl; exact rfl)
            | ((with_reducible apply w_store (us := [_, _, _]) (ws := [_, _, _])); exact rfl; exact rfl; (first | assumption | (simp (disch := omega) only [upd_same, upd_ne]; first | done | assumption | exact rfl) | exact rfl); omega; exact rfl; exact rfl; exact rfl))
          | ((with_reducible apply w_pure (v := .bool _)); exact rfl; exact rfl)
          | ((with_reducible apply w_pure (v := .string _)); exact rfl; exact rfl))
        | ((with_reducible apply g_gd); first
          | ((with_reducible apply w_want); exact rfl))
        | with_reducible refine w_seq ?_
        | with_reducible refine w_nil ?_
        | with_reducible refine w_region ?_
        | with_reducible refine w_skip ?_
        | with_reducible refine w_blk ?_
        | ((with_reducible apply w_ifd); exact rfl; all_goals (intro hc; first | (exfalso; omega) | skip)))
      all_goals first | exact absurd (by assumption) hm | skip
      refine w_yend ⟨τ, [20], ca, cb, .busy, none, (upd_ne (by omega)).trans ((upd_ne (by omega)).trans ((upd_ne (by omega)).trans hL1)), .inl ⟨rfl, hK1 (by simp_all) _ _ (by omega) ?_ upd_same⟩⟩
      rw [decide_eq_false hm]
      exact Fi.later (Fi.is (b := b) (Fi.later hF1 (fun j hj => by rw [upd_ne (by omega), upd_ne (by omega)]))) (fun j hj => upd_ne (by omega))
  have hF1 : Fi s d nm n Sy.zero false G1 := hG.later fun j hj => hG1 _ (by omega)
  have j6 := hF1.h6
  have j7 := hF1.h7
  have j8 := hF1.h8
  unfold Dy.cs at j7
  refine c_open Try.func33 rfl rfl rfl rfl rfl rfl ?_
  repeat' (first
    | ((with_reducible apply g_op); first
      | ((with_reducible apply g_load); first
        | ((with_reducible apply w_load (v := .string _)); exact rfl; (first | assumption | (simp (disch := omega) only [upd_same, upd_ne]; first | done | assumption | exact rfl) | exact rfl); exact rfl)
        | ((with_reducible apply w_load (v := .agg #[_, _, _, _, _, _, _, _, _])); exact rfl; (first | assumption | (simp (disch := omega) only [upd_same, upd_ne]; first | done | assumption | exact rfl) | exact rfl); exact rfl)))
    | with_reducible refine w_seq ?_
    | with_reducible refine w_region ?_)
  refine w_rf (count_run s d hs) (fun _ => rfl) (sn_cons (sn_plain rfl) (sn_cons dy_sn sn_nil)) ?_
  rintro _ rfl
  repeat' (first
    | ((with_reducible apply g_op); first
      | ((with_reducible apply g_load); first
        | ((with_reducible apply w_load (v := .string _)); exact rfl; (first | assumption | (simp (disch := omega) only [upd_same, upd_ne]; first | done | assumption | exact rfl) | exact rfl); exact rfl)
        | ((with_reducible apply w_load (v := .agg #[_, _, _, _, _, _, _, _, _])); exact rfl; (first | assumption | (simp (disch := omega) only [upd_same, upd_ne]; first | done | assumption | exact rfl) | exact rfl); exact rfl))
      | ((with_reducible apply g_assign); first
        | ((with_reducible apply w_pure (v := .int _ _)); exact rfl; exact rfl)))
    | with_reducible refine w_seq ?_
    | with_reducible refine w_nil ?_
    | with_reducible refine w_region ?_)
  refine w_rf (number_run s d 0 hs (by decide)) (fun _ => rfl) (sn_cons (sn_plain rfl) (sn_cons dy_sn (sn_cons (sn_plain rfl) sn_nil))) ?_
  rintro _ rfl
  obtain ⟨c0, hc0⟩ : ∃ c0 : Nat, countS s d = c0 := ⟨(countS s d).toNat, by have := countS_range s d; omega⟩
  have hcr := countS_range s d
  have hnr := numS_range s d 0
  obtain ⟨R, hR⟩ : ∃ R, findS s d nm = R := ⟨_, rfl⟩
  rw [hR]
  unfold findS at hR
  rw [hc0] at hR hcr ⊢
  rw [show ((c0 : Int)).toNat = c0 by omega] at hR
  generalize numS s d 0 = F at *
  obtain ⟨B, fb⟩ := F
  dsimp only at hR hnr ⊢
  have hh := hashN_lt nm
  by_cases h0 : c0 = 0
  · rw [if_pos (.inl (by omega))] at hR
    subst hR
    repeat' (first
      | ((with_reducible apply g_op); first
        | ((with_reducible apply g_move); first
          | ((with_reducible apply w_pure (v := .int _ _)); exact rfl; exact rfl)
          | ((with_reducible apply w_pure (v := .bool _)); exact rfl; exact rfl)
          | ((with_reducible apply w_pure (v := .tuple _)); exact rfl; exact rfl))
        | ((with_reducible apply g_bin); first
          | ((with_reducible apply w_pure (v := .bool _)); exact rfl; exact rfl))
        | ((with_reducible apply g_pick); first
          | ((with_reducible apply w_pk1 (v := .bool _)); exact rfl; exact rfl; (first | assumption | exact decide_eq_true (by assumption) | exact decide_eq_false (by assumption) | exact decide_eq_true (by omega) | exact decide_eq_false (by omega) | exact beq_iff_eq.2 (by omega) | exact beq_eq_false_iff_ne.2 (by omega) | exact bne_iff_ne.2 (by omega) | exact bne_eq_false_iff_eq.2 (by omega))))
        | ((with_reducible apply g_assign); first
          | ((with_reducible apply w_pure (v := .int _ _)); exact rfl; exact rfl)
          | ((with_reducible apply w_pure (v := .bool _)); exact rfl; exact rfl))
        | ((with_reducible apply w_pure (v := .int _ _)); exact rfl; exact rfl)
        | ((with_reducible apply w_pure (v := .bool _)); exact rfl; exact rfl))
      | ((with_reducible apply g_gd); first
        | ((with_reducible apply w_pass); exact rfl)
        | ((with_reducible apply w_gd_f); exact rfl; all_goals (intro hc; first | (exfalso; omega) | skip)))
      | with_reducible refine w_seq ?_
      | with_reducible refine w_nil ?_
      | with_reducible refine w_region ?_
      | ((with_reducible apply w_yes); exact rfl)
      | ((with_reducible apply w_ret (v := .tuple #[])); exact rfl))
    refine ⟨τ, [20], ca, cb, .ready, none, hL, by simp, .inl ⟨rfl, ?_⟩⟩
    have hF2 : Fi s d nm n Sy.zero false (upd G1 (n + 9) none) := hF1.later fun j hj => upd_ne (by omega)
    generalize upd G1 (n + 9) none = g4 at *
    have q3 := hF2.h3
    have q4 := hF2.h4
    have q5 := hF2.h5
    unfold sy Sy.zero at q3 q4
    refine w_keep (i := 6) k6 (w_keep (i := 8) k8 (w_keep (i := 9) k9 ?_))
    repeat' (first
      | with_reducible refine w_seq ?_
      | with_reducible refine w_blk ?_)
    refine w_l4 (v0 := syV Sy.zero) (v1 := .bool false) (v2 := undef) (v3 := .bool false) (g1 := upd g4 (n + 3) (some (.cells 37 (sy Sy.zero)))) (by kernel_rfl) (by kernel_rfl) rfl (st_load (off := 0) rfl q4 rfl) (st_load (off := 0) rfl q5 rfl) (st_store (off := 0) (us := sy Sy.zero) rfl rfl q3 (by omega) rfl rfl rfl) (st_pure rfl rfl) (st_load (off := 0) rfl (by rw [upd_ne (by omega)]; exact q5) rfl) ?_
    repeat' (first
      | ((with_reducible apply w_retct (v := .agg #[_, _, _]) (u := .bool _)); exact rfl; exact rfl; (first | assumption | (simp (disch := omega) only [upd_same, upd_ne]; first | done | assumption | exact rfl) | exact rfl); exact rfl; exact rfl))
    exact fr_plain rfl rfl
  cases fb
  · rw [if_pos (.inr (.inl rfl))] at hR
    subst hR
    repeat' (first
      | ((with_reducible apply g_op); first
        | ((with_reducible apply g_move); first
          | ((with_reducible apply w_pure (v := .int _ _)); exact rfl; exact rfl)
          | ((with_reducible apply w_pure (v := .bool _)); exact rfl; exact rfl)
          | ((with_reducible apply w_pure (v := .tuple _)); exact rfl; exact rfl))
        | ((with_reducible apply g_bin); first
          | ((with_reducible apply w_pure (v := .bool _)); exact rfl; exact rfl))
        | ((with_reducible apply g_pick); first
          | ((with_reducible apply w_pk0 (v := .bool _)); exact rfl; exact rfl; (first | assumption | exact decide_eq_true (by assumption) | exact decide_eq_false (by assumption) | exact decide_eq_true (by omega) | exact decide_eq_false (by omega) | exact beq_iff_eq.2 (by omega) | exact beq_eq_false_iff_ne.2 (by omega) | exact bne_iff_ne.2 (by omega) | exact bne_eq_false_iff_eq.2 (by omega))))
        | ((with_reducible apply g_assign); first
          | ((with_reducible apply w_pure (v := .int _ _)); exact rfl; exact rfl)
          | ((with_reducible apply w_pure (v := .bool _)); exact rfl; exact rfl))
        | ((with_reducible apply w_pure (v := .int _ _)); exact rfl; exact rfl)
        | ((with_reducible apply w_pure (v := .bool _)); exact rfl; exact rfl))
      | ((with_reducible apply g_gd); first
        | ((with_reducible apply w_pass); exact rfl)
        | ((with_reducible apply w_gd_f); exact rfl; all_goals (intro hc; first | (exfalso; omega) | skip)))
      | with_reducible refine w_seq ?_
      | with_reducible refine w_nil ?_
      | with_reducible refine w_region ?_
      | ((with_reducible apply w_yes); exact rfl)
      | ((with_reducible apply w_ret (v := .tuple #[])); exact rfl))
    refine ⟨τ, [20], ca, cb, .ready, none, hL, by simp, .inl ⟨rfl, ?_⟩⟩
    have hF2 : Fi s d nm n Sy.zero false (upd G1 (n + 9) none) := hF1.later fun j hj => upd_ne (by omega)
    generalize upd G1 (n + 9) none = g4 at *
    have q3 := hF2.h3
    have q4 := hF2.h4
    have q5 := hF2.h5
    unfold sy Sy.zero at q3 q4
    refine w_keep (i := 6) k6 (w_keep (i := 8) k8 (w_keep (i := 9) k9 ?_))
    repeat' (first
      | with_reducible refine w_seq ?_
      | with_reducible refine w_blk ?_)
    refine w_l4 (v0 := syV Sy.zero) (v1 := .bool false) (v2 := undef) (v3 := .bool false) (g1 := upd g4 (n + 3) (some (.cells 37 (sy Sy.zero)))) (by kernel_rfl) (by kernel_rfl) rfl (st_load (off := 0) rfl q4 rfl) (st_load (off := 0) rfl q5 rfl) (st_store (off := 0) (us := sy Sy.zero) rfl rfl q3 (by omega) rfl rfl rfl) (st_pure rfl rfl) (st_load (off := 0) rfl (by rw [upd_ne (by omega)]; exact q5) rfl) ?_
    repeat' (first
      | ((with_reducible apply w_retct (v := .agg #[_, _, _]) (u := .bool _)); exact rfl; exact rfl; (first | assumption | (simp (disch := omega) only [upd_same, upd_ne]; first | done | assumption | exact rfl) | exact rfl); exact rfl; exact rfl))
    exact fr_plain rfl rfl
  by_cases hB : B = 0
  · rw [if_pos (.inr (.inr hB))] at hR
    subst hR
    repeat' (first
      | ((with_reducible apply g_op); first
        | ((with_reducible apply g_move); first
          | ((with_reducible apply w_pure (v := .int _ _)); exact rfl; exact rfl)
          | ((with_reducible apply w_pure (v := .bool _)); exact rfl; exact rfl)
          | ((with_reducible apply w_pure (v := .tuple _)); exact rfl; exact rfl))
        | ((with_reducible apply g_bin); first
          | ((with_reducible apply w_pure (v := .bool _)); exact rfl; exact rfl))
        | ((with_reducible apply g_pick); first
          | ((with_reducible apply w_pk0 (v := .bool _)); exact rfl; exact rfl; (first | assumption | exact decide_eq_true (by assumption) | exact decide_eq_false (by assumption) | exact decide_eq_true (by omega) | exact decide_eq_false (by omega) | exact beq_iff_eq.2 (by omega) | exact beq_eq_false_iff_ne.2 (by omega) | exact bne_iff_ne.2 (by omega) | exact bne_eq_false_iff_eq.2 (by omega))))
        | ((with_reducible apply g_assign); first
          | ((with_reducible apply w_pure (v := .int _ _)); exact rfl; exact rfl)
          | ((with_reducible apply w_pure (v := .bool _)); exact rfl; exact rfl))
        | ((with_reducible apply w_pure (v := .int _ _)); exact rfl; exact rfl)
        | ((with_reducible apply w_pure (v := .bool _)); exact rfl; exact rfl))
      | ((with_reducible apply g_gd); first
        | ((with_reducible apply w_want); exact rfl)
        | ((with_reducible apply w_gd_f); exact rfl; all_goals (intro hc; first | (exfalso; omega) | skip)))
      | with_reducible refine w_seq ?_
      | with_reducible refine w_nil ?_
      | with_reducible refine w_region ?_
      | ((with_reducible apply w_ifd); exact rfl; all_goals (intro hc; first | (exfalso; omega) | skip))
      | ((with_reducible apply w_ret (v := .tuple #[])); exact rfl))
    refine ⟨τ, [20], ca, cb, .ready, none, hL, by simp, .inl ⟨rfl, ?_⟩⟩
    have hF2 : Fi s d nm n Sy.zero false (upd G1 (n + 9) none) := hF1.later fun j hj => upd_ne (by omega)
    generalize upd G1 (n + 9) none = g4 at *
    have q3 := hF2.h3
    have q4 := hF2.h4
    have q5 := hF2.h5
    unfold sy Sy.zero at q3 q4
    refine w_keep (i := 6) k6 (w_keep (i := 8) k8 (w_keep (i := 9) k9 ?_))
    repeat' (first
      | with_reducible refine w_seq ?_
      | with_reducible refine w_blk ?_)
    refine w_l4 (v0 := syV Sy.zero) (v1 := .bool false) (v2 := undef) (v3 := .bool false) (g1 := upd g4 (n + 3) (some (.cells 37 (sy Sy.zero)))) (by kernel_rfl) (by kernel_rfl) rfl (st_load (off := 0) rfl q4 rfl) (st_load (off := 0) rfl q5 rfl) (st_store (off := 0) (us := sy Sy.zero) rfl rfl q3 (by omega) rfl rfl rfl) (st_pure rfl rfl) (st_load (off := 0) rfl (by rw [upd_ne (by omega)]; exact q5) rfl) ?_
    repeat' (first
      | ((with_reducible apply w_retct (v := .agg #[_, _, _]) (u := .bool _)); exact rfl; exact rfl; (first | assumption | (simp (disch := omega) only [upd_same, upd_ne]; first | done | assumption | exact rfl) | exact rfl); exact rfl; exact rfl))
    exact fr_plain rfl rfl
  rw [if_neg (by simp; omega)] at hR
  have hmr := Int.emod_nonneg (hashN nm : Int) hB
  have hml := Int.emod_lt_of_pos (hashN nm : Int) (show 0 < B by omega)
  repeat' (first
    | ((with_reducible apply g_op); first
      | ((with_reducible apply g_load); first
        | ((with_reducible apply w_load (v := .int _ _)); exact rfl; (first | assumption | (simp (disch := omega) only [upd_same, upd_ne]; first | done | assumption | exact rfl) | exact rfl); exact rfl)
        | ((with_reducible apply w_load (v := .string _)); exact rfl; (first | assumption | (simp (disch := omega) only [upd_same, upd_ne]; first | done | assumption | exact rfl) | exact rfl); exact rfl)
        | ((with_reducible apply w_load (v := .agg #[_, _, _, _, _, _, _, _, _])); exact rfl; (first | assumption | (simp (disch := omega) only [upd_same, upd_ne]; first | done | assumption | exact rfl) | exact rfl); exact rfl))
      | ((with_reducible apply g_move); first
        | ((with_reducible apply w_pure (v := .int _ _)); exact rfl; exact rfl)
        | ((with_reducible apply w_pure (v := .bool _)); exact rfl; exact rfl)
        | ((with_reducible apply w_pure (v := .tuple _)); exact rfl; exact rfl))
      | ((with_reducible apply g_bin); first
        | ((with_reducible apply w_mod); exact rfl; exact rfl; exact rfl; exact rfl; exact rfl; omega; omega)
        | ((with_reducible apply w_wrap); exact rfl; exact rfl; first | exact i64_in _ (by omega) | exact u64_in _ (by omega) | exact u8_in _ (by omega))
        | ((with_reducible apply w_pure (v := .bool _)); exact rfl; exact rfl))
      | ((with_reducible apply g_pick); first
        | ((with_reducible apply w_pk0 (v := .bool _)); exact rfl; exact rfl; (first | assumption | exact decide_eq_true (by assumption) | exact decide_eq_false (by assumption) | exact decide_eq_true (by omega) | exact decide_eq_false (by omega) | exact beq_iff_eq.2 (by omega) | exact beq_eq_false_iff_ne.2 (by omega) | exact bne_iff_ne.2 (by omega) | exact bne_eq_false_iff_eq.2 (by omega))))
      | ((with_reducible apply g_assign); first
        | ((with_reducible apply w_pure (v := .int _ _)); exact rfl; exact rfl)
        | ((with_reducible apply w_pure (v := .bool _)); exact rfl; exact rfl))
      | ((with_reducible apply w_conv); exact rfl; exact rfl; exact rfl; first | exact i64_in _ (by omega) | exact u64_in _ (by omega) | exact u8_in _ (by omega) | exact u32_in _ (by omega))
      | ((with_reducible apply w_pure (v := .int _ _)); exact rfl; exact rfl)
      | ((with_reducible apply w_pure (v := .bool _)); exact rfl; exact rfl))
    | ((with_reducible apply g_gd); first
      | ((with_reducible apply w_want); exact rfl)
      | ((with_reducible apply w_gd_f); exact rfl; all_goals (intro hc; first | (exfalso; omega) | skip)))
    | with_reducible refine w_seq ?_
    | with_reducible refine w_nil ?_
    | with_reducible refine w_region ?_
    | with_reducible refine w_skip ?_
    | ((with_reducible apply w_draw); kernel_rfl; kernel_rfl)
    | ((with_reducible apply w_ifd); exact rfl; all_goals (intro hc; first | (exfalso; omega) | skip)))
  refine w_rf (number_run s d _ hs (by omega)) (fun _ => rfl) (sn_cons (sn_plain rfl) (sn_cons dy_sn (sn_cons (sn_plain rfl) sn_nil))) ?_
  rintro _ rfl
  have hxr := numS_range s d (2 + (hashN nm : Int) % B)
  generalize numS s d (2 + (hashN nm : Int) % B) = X at *
  obtain ⟨X1, X2⟩ := X
  dsimp only at hR hxr ⊢
  repeat' (first
    | ((with_reducible apply g_op); first
      | ((with_reducible apply g_move); first
        | ((with_reducible apply w_pure (v := .int _ _)); exact rfl; exact rfl)
        | ((with_reducible apply w_pure (v := .tuple _)); exact rfl; exact rfl))
      | ((with_reducible apply g_assign); first
        | ((with_reducible apply w_pure (v := .int _ _)); exact rfl; exact rfl)
        | ((with_reducible apply w_pure (v := .bool _)); exact rfl; exact rfl))
      | ((with_reducible apply w_pure (v := .int _ _)); exact rfl; exact rfl)
      | ((with_reducible apply w_pure (v := .bool _)); exact rfl; exact rfl))
    | with_reducible refine w_seq ?_
    | with_reducible refine w_nil ?_
    | with_reducible refine w_region ?_
    | with_reducible refine w_block ?_)
  refine w_cntK [(7, 8), (40, 69)] c0 (fun k (b : Int × Bool) σ g' n' => σ 40 = .int .i64 (k : Nat) ∧ σ 8 = .int .i64 b.1 ∧ σ 7 = .bool b.2 ∧ n + 10 ≤ n' ∧ (0 ≤ b.1 ∧ b.1 < 4294967296) ∧ fndGo s d B c0 nm (c0 - k) b.1 b.2 = R ∧ Fi s d nm n Sy.zero false g' ∧ g' (n + 9) = some (.loop τ [20] ca cb .ready none)) ?_ ?_ (X1, X2) ⟨rfl, rfl, rfl, by omega, hxr, hR, hF1, hL⟩
  · clear hF1 hL j6 j7 j8 hG1 hR hxr
    rintro k ⟨i, is⟩ σ g2 n2 hk ⟨k40, k8', k7', hN2, hir, hR, hF, hL⟩ ih
    dsimp only at k8' k7' hir hR
    rw [show c0 - k = (c0 - (k + 1)) + 1 by omega, fndGo] at hR
    have j6 := hF.h6
    have j7 := hF.h7
    unfold Dy.cs at j7
    refine w_keep (i := 40) k40 ?_
    refine w_keep (i := 8) k8' ?_
    refine w_keep (i := 7) k7' ?_
    cases is
    · rw [if_pos (.inl rfl)] at hR
      subst hR
      repeat' (first
        | ((with_reducible apply g_op); first
          | ((with_reducible apply g_move); first
            | ((with_reducible apply w_pure (v := .bool _)); exact rfl; exact rfl))
          | ((with_reducible apply g_bin); first
            | ((with_reducible apply w_pure (v := .bool _)); exact rfl; exact rfl))
          | ((with_reducible apply w_pure (v := .bool _)); exact rfl; exact rfl))
        | ((with_reducible apply g_gd); first
          | ((with_reducible apply w_pass); exact rfl))
        | with_reducible refine w_seq ?_
        | with_reducible refine w_nil ?_
        | with_reducible refine w_region ?_
        | with_reducible refine w_skip ?_
        | with_reducible refine w_block ?_
        | ((with_reducible apply w_yes); exact rfl)
        | ((with_reducible apply w_ifd); exact rfl; all_goals (intro hc; first | (exfalso; omega) | skip))
        | ((with_reducible apply w_ret (v := .tuple #[])); exact rfl))
      refine ⟨τ, [20], ca, cb, .ready, none, hL, by simp, .inl ⟨rfl, ?_⟩⟩
      have hF2 : Fi s d nm n Sy.zero false (upd g2 (n + 9) none) := hF.later fun j hj => upd_ne (by omega)
      generalize upd g2 (n + 9) none = g4 at *
      have q3 := hF2.h3
      have q4 := hF2.h4
      have q5 := hF2.h5
      unfold sy Sy.zero at q3 q4
      refine w_keep (i := 6) k6 (w_keep (i := 8) k8 (w_keep (i := 9) k9 ?_))
      repeat' (first
        | with_reducible refine w_seq ?_
        | with_reducible refine w_blk ?_)
      refine w_l4 (v0 := syV Sy.zero) (v1 := .bool false) (v2 := undef) (v3 := .bool false) (g1 := upd g4 (n + 3) (some (.cells 37 (sy Sy.zero)))) (by kernel_rfl) (by kernel_rfl) rfl (st_load (off := 0) rfl q4 rfl) (st_load (off := 0) rfl q5 rfl) (st_store (off := 0) (us := sy Sy.zero) rfl rfl q3 (by omega) rfl rfl rfl) (st_pure rfl rfl) (st_load (off := 0) rfl (by rw [upd_ne (by omega)]; exact q5) rfl) ?_
      repeat' (first
        | ((with_reducible apply w_retct (v := .agg #[_, _, _]) (u := .bool _)); exact rfl; exact rfl; (first | assumption | (simp (disch := omega) only [upd_same, upd_ne]; first | done | assumption | exact rfl) | exact rfl); exact rfl; exact rfl))
      exact fr_plain rfl rfl
    by_cases hi0 : i = 0
    · rw [if_pos (.inr (.inl hi0))] at hR
      subst hR
      repeat' (first
        | ((with_reducible apply g_op); first
          | ((with_reducible apply g_move); first
            | ((with_reducible apply w_pure (v := .int _ _)); exact rfl; exact rfl)
            | ((with_reducible apply w_pure (v := .bool _)); exact rfl; exact rfl))
          | ((with_reducible apply g_bin); first
            | ((with_reducible apply w_pure (v := .bool _)); exact rfl; exact rfl))
          | ((with_reducible apply g_pick); first
            | ((with_reducible apply w_pk1 (v := .bool _)); exact rfl; exact rfl; (first | assumption | exact decide_eq_true (by assumption) | exact decide_eq_false (by assumption) | exact decide_eq_true (by omega) | exact decide_eq_false (by omega) | exact beq_iff_eq.2 (by omega) | exact beq_eq_false_iff_ne.2 (by omega) | exact bne_iff_ne.2 (by omega) | exact bne_eq_false_iff_eq.2 (by omega))))
          | ((with_reducible apply w_pure (v := .bool _)); exact rfl; exact rfl))
        | ((with_reducible apply g_gd); first
          | ((with_reducible apply w_want); exact rfl)
          | ((with_reducible apply w_pass); exact rfl)
          | ((with_reducible apply w_gd_f); exact rfl; all_goals (intro hc; first | (exfalso; omega) | skip)))
        | with_reducible refine w_seq ?_
        | with_reducible refine w_nil ?_
        | with_reducible refine w_region ?_
        | with_reducible refine w_skip ?_
        | with_reducible refine w_block ?_
        | ((with_reducible apply w_yes); exact rfl)
        | ((with_reducible apply w_ifd); exact rfl; all_goals (intro hc; first | (exfalso; omega) | skip))
        | ((with_reducible apply w_ret (v := .tuple #[])); exact rfl))
      refine ⟨τ, [20], ca, cb, .ready, none, hL, by simp, .inl ⟨rfl, ?_⟩⟩
      have hF2 : Fi s d nm n Sy.zero false (upd g2 (n + 9) none) := hF.later fun j hj => upd_ne (by omega)
      generalize upd g2 (n + 9) none = g4 at *
      have q3 := hF2.h3
      have q4 := hF2.h4
      have q5 := hF2.h5
      unfold sy Sy.zero at q3 q4
      refine w_keep (i := 6) k6 (w_keep (i := 8) k8 (w_keep (i := 9) k9 ?_))
      repeat' (first
        | with_reducible refine w_seq ?_
        | with_reducible refine w_blk ?_)
      refine w_l4 (v0 := syV Sy.zero) (v1 := .bool false) (v2 := undef) (v3 := .bool false) (g1 := upd g4 (n + 3) (some (.cells 37 (sy Sy.zero)))) (by kernel_rfl) (by kernel_rfl) rfl (st_load (off := 0) rfl q4 rfl) (st_load (off := 0) rfl q5 rfl) (st_store (off := 0) (us := sy Sy.zero) rfl rfl q3 (by omega) rfl rfl rfl) (st_pure rfl rfl) (st_load (off := 0) rfl (by rw [upd_ne (by omega)]; exact q5) rfl) ?_
      repeat' (first
        | ((with_reducible apply w_retct (v := .agg #[_, _, _]) (u := .bool _)); exact rfl; exact rfl; (first | assumption | (simp (disch := omega) only [upd_same, upd_ne]; first | done | assumption | exact rfl) | exact rfl); exact rfl; exact rfl))
      exact fr_plain rfl rfl
    by_cases hic : i ≥ c0
    · rw [if_pos (.inr (.inr hic))] at hR
      subst hR
      repeat' (first
        | ((with_reducible apply g_op); first
          | ((with_reducible apply g_move); first
            | ((with_reducible apply w_pure (v := .int _ _)); exact rfl; exact rfl)
            | ((with_reducible apply w_pure (v := .bool _)); exact rfl; exact rfl))
          | ((with_reducible apply g_bin); first
            | ((with_reducible apply w_pure (v := .bool _)); exact rfl; exact rfl))
          | ((with_reducible apply g_pick); first
            | ((with_reducible apply w_pk1 (v := .bool _)); exact rfl; exact rfl; (first | assumption | exact decide_eq_true (by assumption) | exact decide_eq_false (by assumption) | exact decide_eq_true (by omega) | exact decide_eq_false (by omega) | exact beq_iff_eq.2 (by omega) | exact beq_eq_false_iff_ne.2 (by omega) | exact bne_iff_ne.2 (by omega) | exact bne_eq_false_iff_eq.2 (by omega)))
            | ((with_reducible apply w_pk0 (v := .bool _)); exact rfl; exact rfl; (first | assumption | exact decide_eq_true (by assumption) | exact decide_eq_false (by assumption) | exact decide_eq_true (by omega) | exact decide_eq_false (by omega) | exact beq_iff_eq.2 (by omega) | exact beq_eq_false_iff_ne.2 (by omega) | exact bne_iff_ne.2 (by omega) | exact bne_eq_false_iff_eq.2 (by omega))))
          | ((with_reducible apply w_pure (v := .bool _)); exact rfl; exact rfl))
        | ((with_reducible apply g_gd); first
          | ((with_reducible apply w_want); exact rfl)
          | ((with_reducible apply w_gd_f); exact rfl; all_goals (intro hc; first | (exfalso; omega) | skip)))
        | with_reducible refine w_seq ?_
        | with_reducible refine w_nil ?_
        | with_reducible refine w_region ?_
        | with_reducible refine w_skip ?_
        | with_reducible refine w_block ?_
        | ((with_reducible apply w_yes); exact rfl)
        | ((with_reducible apply w_ifd); exact rfl; all_goals (intro hc; first | (exfalso; omega) | skip))
        | ((with_reducible apply w_ret (v := .tuple #[])); exact rfl))
      refine ⟨τ, [20], ca, cb, .ready, none, hL, by simp, .inl ⟨rfl, ?_⟩⟩
      have hF2 : Fi s d nm n Sy.zero false (upd g2 (n + 9) none) := hF.later fun j hj => upd_ne (by omega)
      generalize upd g2 (n + 9) none = g4 at *
      have q3 := hF2.h3
      have q4 := hF2.h4
      have q5 := hF2.h5
      unfold sy Sy.zero at q3 q4
      refine w_keep (i := 6) k6 (w_keep (i := 8) k8 (w_keep (i := 9) k9 ?_))
      repeat' (first
        | with_reducible refine w_seq ?_
        | with_reducible refine w_blk ?_)
      refine w_l4 (v0 := syV Sy.zero) (v1 := .bool false) (v2 := undef) (v3 := .bool false) (g1 := upd g4 (n + 3) (some (.cells 37 (sy Sy.zero)))) (by kernel_rfl) (by kernel_rfl) rfl (st_load (off := 0) rfl q4 rfl) (st_load (off := 0) rfl q5 rfl) (st_store (off := 0) (us := sy Sy.zero) rfl rfl q3 (by omega) rfl rfl rfl) (st_pure rfl rfl) (st_load (off := 0) rfl (by rw [upd_ne (by omega)]; exact q5) rfl) ?_
      repeat' (first
        | ((with_reducible apply w_retct (v := .agg #[_, _, _]) (u := .bool _)); exact rfl; exact rfl; (first | assumption | (simp (disch := omega) only [upd_same, upd_ne]; first | done | assumption | exact rfl) | exact rfl); exact rfl; exact rfl))
      exact fr_plain rfl rfl
    rw [if_neg (by simp; omega)] at hR
    repeat' (first
      | ((with_reducible apply g_op); first
        | ((with_reducible apply g_move); first
          | ((with_reducible apply w_pure (v := .int _ _)); exact rfl; exact rfl)
          | ((with_reducible apply w_pure (v := .bool _)); exact rfl; exact rfl)
          | ((with_reducible apply w_pure (v := .func _ _ _)); exact rfl; exact rfl))
        | ((with_reducible apply g_bin); first
          | ((with_reducible apply w_pure (v := .bool _)); exact rfl; exact rfl))
        | ((with_reducible apply g_pick); first
          | ((with_reducible apply w_pk0 (v := .bool _)); exact rfl; exact rfl; (first | assumption | exact decide_eq_true (by assumption) | exact decide_eq_false (by assumption) | exact decide_eq_true (by omega) | exact decide_eq_false (by omega) | exact beq_iff_eq.2 (by omega) | exact beq_eq_false_iff_ne.2 (by omega) | exact bne_iff_ne.2 (by omega) | exact bne_eq_false_iff_eq.2 (by omega))))
        | ((with_reducible apply w_pure (v := .bool _)); exact rfl; exact rfl))
      | ((with_reducible apply g_gd); first
        | ((with_reducible apply w_want); exact rfl)
        | ((with_reducible apply w_gd_f); exact rfl; all_goals (intro hc; first | (exfalso; omega) | skip)))
      | with_reducible refine w_seq ?_
      | with_reducible refine w_nil ?_
      | with_reducible refine w_region ?_
      | with_reducible refine w_skip ?_
      | with_reducible refine w_block ?_
      | ((with_reducible apply w_ifd); exact rfl; all_goals (intro hc; first | (exfalso; omega) | skip)))
    refine w_yield rfl rfl hL (by omega) rfl (by rw [hca]; rfl) ?_
    refine round i false g2 _ _ hN2 hF hL ?_ ?_
    · intro hh g3 n3 hN3 hF3 hL3
      rw [if_neg (by rw [hh]; decide)] at hR
      have j6 := hF3.h6
      have j7 := hF3.h7
      unfold Dy.cs at j7
      repeat' (first
        | ((with_reducible apply g_op); first
          | ((with_reducible apply g_load); first
            | ((with_reducible apply w_load (v := .string _)); exact rfl; (first | assumption | (simp (disch := omega) only [upd_same, upd_ne]; first | done | assumption | exact rfl) | exact rfl); exact rfl)
            | ((with_reducible apply w_load (v := .agg #[_, _, _, _, _, _, _, _, _])); exact rfl; (first | assumption | (simp (disch := omega) only [upd_same, upd_ne]; first | done | assumption | exact rfl) | exact rfl); exact rfl))
          | ((with_reducible apply g_move); first
            | ((with_reducible apply w_pure (v := .int _ _)); exact rfl; exact rfl))
          | ((with_reducible apply g_bin); first
            | ((with_reducible apply w_wrap); exact rfl; exact rfl; first | exact i64_in _ (by omega) | exact u64_in _ (by omega) | exact u8_in _ (by omega)))
          | ((with_reducible apply g_pick); first
            | ((with_reducible apply w_pk0 (v := .bool _)); exact rfl; exact rfl; (first | assumption | exact decide_eq_true (by assumption) | exact decide_eq_false (by assumption) | exact decide_eq_true (by omega) | exact decide_eq_false (by omega) | exact beq_iff_eq.2 (by omega) | exact beq_eq_false_iff_ne.2 (by omega) | exact bne_iff_ne.2 (by omega) | exact bne_eq_false_iff_eq.2 (by omega))))
          | ((with_reducible apply w_pure (v := .bool _)); exact rfl; exact rfl))
        | ((with_reducible apply g_gd); first
          | ((with_reducible apply w_gd_f); exact rfl; all_goals (intro hc; first | (exfalso; omega) | skip)))
        | with_reducible refine w_nil ?_
        | with_reducible refine w_region ?_
        | with_reducible refine w_skip ?_
        | ((with_reducible apply w_no); exact rfl))
      refine w_rf (number_run s d _ hs (by omega)) (fun _ => rfl) (sn_cons (sn_plain rfl) (sn_cons dy_sn (sn_cons (sn_plain rfl) sn_nil))) ?_
      rintro _ rfl
      repeat' (first
        | ((with_reducible apply g_op); first
          | ((with_reducible apply g_move); first
            | ((with_reducible apply w_pure (v := .int _ _)); exact rfl; exact rfl)
            | ((with_reducible apply w_pure (v := .tuple _)); exact rfl; exact rfl))
          | ((with_reducible apply g_bin); first
            | ((with_reducible apply w_wrap); exact rfl; exact rfl; first | exact i64_in _ (by omega) | exact u64_in _ (by omega) | exact u8_in _ (by omega)))
          | ((with_reducible apply g_assign); first
            | ((with_reducible apply w_pure (v := .int _ _)); exact rfl; exact rfl)
            | ((with_reducible apply w_pure (v := .bool _)); exact rfl; exact rfl))
          | ((with_reducible apply w_pure (v := .int _ _)); exact rfl; exact rfl)
          | ((with_reducible apply w_pure (v := .bool _)); exact rfl; exact rfl))
        | with_reducible refine w_nil ?_
        | with_reducible refine w_region ?_
        | with_reducible refine w_blk ?_)
      exact ih _ _ _ _ (by repeat' (first | with_reducible exact Fr.mix | with_reducible exact Fr.rfl' | with_reducible refine Fr.put ?_ ?_ | with_reducible refine Fr.mix2 ?_ ?_ | with_reducible refine Fr.put0 ?_ | exact rfl)) ⟨rfl, rfl, rfl, by omega, numS_range s d _, hR, hF3, hL3⟩
    · intro hh g3 n3 hN3 hF3 hL3
      rw [if_pos hh] at hR
      subst hR
      repeat' (first
        | ((with_reducible apply g_op); first
          | ((with_reducible apply g_pick); first
            | ((with_reducible apply w_pk0 (v := .bool _)); exact rfl; exact rfl; (first | assumption | exact decide_eq_true (by assumption) | exact decide_eq_false (by assumption) | exact decide_eq_true (by omega) | exact decide_eq_false (by omega) | exact beq_iff_eq.2 (by omega) | exact beq_eq_false_iff_ne.2 (by omega) | exact bne_iff_ne.2 (by omega) | exact bne_eq_false_iff_eq.2 (by omega))))
          | ((with_reducible apply w_pure (v := .bool _)); exact rfl; exact rfl))
        | ((with_reducible apply g_gd); first
          | ((with_reducible apply w_gd_f); exact rfl; all_goals (intro hc; first | (exfalso; omega) | skip)))
        | with_reducible refine w_nil ?_
        | ((with_reducible apply w_yes); exact rfl)
        | ((with_reducible apply w_ret (v := .tuple #[])); exact rfl))
      refine ⟨τ, [20], ca, cb, .done, some (.exit 0), hL3, by simp, .inr (.inr ⟨0, rfl, ?_⟩)⟩
      have hF2 : Fi s d nm n (readS s d i).1 true (upd g3 (n + 9) none) := hF3.later fun j hj => upd_ne (by omega)
      generalize upd g3 (n + 9) none = g4 at *
      generalize (readS s d i).1 = y at *
      obtain ⟨y1, y2, y3⟩ := y
      have q3 := hF2.h3
      have q4 := hF2.h4
      have q5 := hF2.h5
      unfold sy at q3 q4
      refine w_keep (i := 6) k6 (w_keep (i := 8) k8 (w_keep (i := 9) k9 ?_))
      repeat' (first
        | with_reducible refine w_seq ?_
        | ((with_reducible apply w_exit); exact rfl))
      refine w_l4 (v0 := syV (y1, y2, y3)) (v1 := .bool true) (v2 := undef) (v3 := .bool true) (g1 := upd g4 (n + 3) (some (.cells 37 (sy (y1, y2, y3))))) (by kernel_rfl) (by kernel_rfl) rfl (st_load (off := 0) rfl q4 rfl) (st_load (off := 0) rfl q5 rfl) (st_store (off := 0) (us := sy (y1, y2, y3)) rfl rfl q3 (by omega) rfl rfl rfl) (st_pure rfl rfl) (st_load (off := 0) rfl (by rw [upd_ne (by omega)]; exact q5) rfl) ?_
      repeat' (first
        | ((with_reducible apply w_retct (v := .agg #[_, _, _]) (u := .bool _)); exact rfl; exact rfl; (first | assumption | (simp (disch := omega) only [upd_same, upd_ne]; first | done | assumption | exact rfl) | exact rfl); exact rfl; exact rfl))
      exact fr_plain rfl rfl
  · rintro ⟨i, is⟩ σ g2 n2 ⟨k40, k8', k7', hN2, hir, hR, hF, hL⟩
    rw [Nat.sub_self] at hR
    subst hR
    refine w_keep (i := 40) k40 ?_
    repeat' (first
      | ((with_reducible apply g_op); first
        | ((with_reducible apply g_bin); first
          | ((with_reducible apply w_pure (v := .bool _)); exact rfl; exact rfl)))
      | with_reducible refine w_seq ?_
      | with_reducible refine w_nil ?_
      | with_reducible refine w_region ?_
      | ((with_reducible apply w_exit); exact rfl)
      | ((with_reducible apply w_ifd); exact rfl; all_goals (intro hc; first | (exfalso; omega) | skip))
      | ((with_reducible apply w_end (v := .tuple #[])); exact rfl))
    refine ⟨τ, [20], ca, cb, .ready, none, hL, by simp, .inl ⟨rfl, ?_⟩⟩
    have hF2 : Fi s d nm n Sy.zero false (upd g2 (n + 9) none) := hF.later fun j hj => upd_ne (by omega)
    generalize upd g2 (n + 9) none = g4 at *
    have q3 := hF2.h3
    have q4 := hF2.h4
    have q5 := hF2.h5
    unfold sy Sy.zero at q3 q4
    refine w_keep (i := 6) k6 (w_keep (i := 8) k8 (w_keep (i := 9) k9 ?_))
    repeat' (first
      | with_reducible refine w_seq ?_
      | with_reducible refine w_blk ?_)
    refine w_l4 (v0 := syV Sy.zero) (v1 := .bool false) (v2 := undef) (v3 := .bool false) (g1 := upd g4 (n + 3) (some (.cells 37 (sy Sy.zero)))) (by kernel_rfl) (by kernel_rfl) rfl (st_load (off := 0) rfl q4 rfl) (st_load (off := 0) rfl q5 rfl) (st_store (off := 0) (us := sy Sy.zero) rfl rfl q3 (by omega) rfl rfl rfl) (st_pure rfl rfl) (st_load (off := 0) rfl (by rw [upd_ne (by omega)]; exact q5) rfl) ?_
    repeat' (first
      | ((with_reducible apply w_retct (v := .agg #[_, _, _]) (u := .bool _)); exact rfl; exact rfl; (first | assumption | (simp (disch := omega) only [upd_same, upd_ne]; first | done | assumption | exact rfl) | exact rfl); exact rfl; exact rfl))
    exact fr_plain rfl rfl
end Sym
end Go.Proofs.Ytoknnbjkjhigbaa.L

