/- ElfParses: walked, and its plain law. -/
import Derived.Test.Ytohfbnpmhlpkhaac08U
import Derived.Test.Ytohfbnpmhlpkhaac08X
import Derived.Test.Ytohfbnpmhlpkhaac08R
import Derived.Test.Ytohfbnpmhlpkhaac08P
namespace Go.L1
section
variable {P : Program} {T : Tb} {fn : Func} {k : List It} {σ : Env} {g g1 : Nat → Option Ob} {n m n1 : Nat} {Q : Value → (Nat → Option Ob) → Nat → Prop}
/-- Two loads, a call that makes something new, calls that read: the first load reads the same behind it. -/
theorem w_mp {id : Nat} {o0 o1 o2 o3 o4 o5 : Oper} {v0 v1 v2 v3 v4 v5 : Value} (hp : planOk P T.quiet [o0, o1, o2, o3, o4, o5].toArray = true) (hf : planNow P T.quiet [o0, o1, o2, o3, o4, o5].toArray = [(0, 2)])
    (hg : [o0, o1, o2, o3, o4, o5].all (fun o => o.guard == none) = true)
    (h0 : step1 P (run P T) o0 σ ⟨g, n, m⟩ = some (.returned v0, ⟨g, n, m⟩)) (h1 : step1 P (run P T) o1 (put o0.dst v0 σ) ⟨g, n, m⟩ = some (.returned v1, ⟨g, n, m⟩))
    (h2 : step1 P (run P T) o2 (put o1.dst v1 (put o0.dst v0 σ)) ⟨g, n, m⟩ = some (.returned v2, ⟨g1, n1, m⟩)) (h3 : step1 P (run P T) o3 (put o2.dst v2 (put o1.dst v1 (put o0.dst v0 σ))) ⟨g1, n1, m⟩ = some (.returned v3, ⟨g1, n1, m⟩))
    (h4 : step1 P (run P T) o4 (put o3.dst v3 (put o2.dst v2 (put o1.dst v1 (put o0.dst v0 σ)))) ⟨g1, n1, m⟩ = some (.returned v4, ⟨g1, n1, m⟩)) (h5 : step1 P (run P T) o5 (put o4.dst v4 (put o3.dst v3 (put o2.dst v2 (put o1.dst v1 (put o0.dst v0 σ))))) ⟨g1, n1, m⟩ = some (.returned v5, ⟨g1, n1, m⟩))
    (hx : step1 P (run P T) o0 σ ⟨g1, n1, m⟩ = some (.returned v0, ⟨g1, n1, m⟩))
    (h : Go P T fn k (put o5.dst v5 (put o4.dst v4 (put o3.dst v3 (put o2.dst v2 (put o1.dst v1 (put o0.dst v0 σ)))))) g1 n1 m Q) : Go P T fn (.code (.region id [o0, o1, o2, o3, o4, o5].toArray true) :: k) σ g n m Q := by
  obtain ⟨v, H', e1, e2⟩ := h
  simp only [List.all_cons, List.all_nil, Bool.and_true, Bool.and_eq_true, beq_iff_eq] at hg
  obtain ⟨g0, g1', g2', g3, g4, g5⟩ := hg
  have ht : traceOps P (run P T) [o0, o1, o2, o3, o4, o5].toArray [o0, o1, o2, o3, o4, o5].toArray.toList σ ⟨g, n, m⟩ = some [(σ, ⟨g, n, m⟩), (put o0.dst v0 σ, ⟨g, n, m⟩), (put o1.dst v1 (put o0.dst v0 σ), ⟨g, n, m⟩), (put o2.dst v2 (put o1.dst v1 (put o0.dst v0 σ)), ⟨g1, n1, m⟩), (put o3.dst v3 (put o2.dst v2 (put o1.dst v1 (put o0.dst v0 σ))), ⟨g1, n1, m⟩), (put o4.dst v4 (put o3.dst v3 (put o2.dst v2 (put o1.dst v1 (put o0.dst v0 σ)))), ⟨g1, n1, m⟩), (put o5.dst v5 (put o4.dst v4 (put o3.dst v3 (put o2.dst v2 (put o1.dst v1 (put o0.dst v0 σ))))), ⟨g1, n1, m⟩)] := by
    simp only [traceOps, Region.wanted, g0, g1', g2', g3, g4, g5, if_true, h0, h1, h2, h3, h4, h5, Option.bind_some, Option.map_some]
  refine ⟨v, H', r_drawc (v := v) (H' := H') hp ht (fun p hp' => ?_) e1, e2⟩
  rw [hf, List.mem_singleton] at hp'
  subst hp'
  exact fun _ => ⟨_, _, h0, hx⟩
end
end Go.L1
namespace Go.Proofs.Ytohfbnpmhlpkhaa.L.ElfParses
open Go.L1 Go.IntWalk Go.Proofs.Ytohfbnpmhlpkhaa.L Oct
set_option linter.unusedVariables false
set_option linter.unusedSimpArgs false
set_option maxHeartbeats 4000000
set_option maxRecDepth 20000
def tab : Tb := L.T
theorem tabok : ∀ C : Cx, C.P = Try.prog → TbOk C tab := L.tabok
theorem parse_len (s : ByteArray) : (parseS s).1.l.length ≤ 16 := by
  unfold parseS
  split
  · split
    · unfold readI; dsimp only; rw [readL_len]; omega
    · decide
  · decide
theorem walk (x : Im) (a b c d : Int) (hx : x.rg) (g : Nat → Option Ob) (n : Nat) : Rn Try.prog T 3 [x.v tg, .agg #[.int .i64 a, .int .i64 b, .int .i64 c, .int .i64 d]] g n n (fun v _ _ => v = .bool true) := by
  refine c_open Try.func3 rfl rfl rfl rfl rfl rfl ?_
  have hx' := fewI_rg hx
  have hl := fewI_len x
  have hf := few_run x
  generalize fewI x = X at hx' hl hf
  obtain ⟨k, e, l⟩ := x
  repeat' (first
    | ((with_reducible apply g_op); first
      | ((with_reducible apply g_assign); first
        | ((with_reducible apply w_pure (v := .bool _)); exact rfl; exact rfl))
      | ((with_reducible apply g_box); first
        | ((with_reducible apply w_box (vs := [_, _, _])); exact rfl; exact rfl)
        | ((with_reducible apply w_box (vs := [_, _, _, _])); exact rfl; exact rfl)))
    | with_reducible refine w_seq ?_
    | with_reducible refine w_nil ?_
    | with_reducible refine w_region ?_)
  refine w_rf awake_run (fun _ => rfl) sn_nil ?_
  rintro _ rfl
  repeat' (first
    | ((with_reducible apply g_op); first
      | ((with_reducible apply g_assign); first
        | ((with_reducible apply w_pure (v := .bool _)); exact rfl; exact rfl)))
    | with_reducible refine w_seq ?_
    | with_reducible refine w_nil ?_)
  obtain ⟨v, g1, n1, hrun, rfl, hg1, hn1⟩ := hf (upd (upd g n (some (.cells 24 [.int .i64 k, .int .i64 e, rv tg l]))) (n + 1) (some (.cells 26 [.int .i64 a, .int .i64 b, .int .i64 c, .int .i64 d]))) (n + 1 + 1) n
  have a1 := hg1 n (by omega)
  have a2 := hg1 (n + 1) (by omega)
  simp (disch := omega) only [upd_ne, upd_same] at a1 a2
  obtain ⟨vh, gh, nh, hrun2, rfl, rfl, rfl⟩ := rhead_run X hx' (by omega) g1 n1 n [X.v tg] (sn_cons im_sn sn_nil)
  have hhz := headS_size X
  obtain ⟨vt, gt, nt, hrun3, ⟨s, rfl, hs⟩, rfl, rfl⟩ := of_run a b c d (headS X) (by omega) gh nh n
  refine w_mp (v0 := .agg #[.int .i64 a, .int .i64 b, .int .i64 c, .int .i64 d]) (v1 := .agg #[.int .i64 k, .int .i64 e, rv tg l]) (v2 := X.v tg) (v3 := .string (headS X)) (v4 := .string s) (v5 := .string s) (by kernel_rfl) (by kernel_rfl) (by kernel_rfl) (st_load (i := n + 1) (off := 0) rfl upd_same rfl) (st_load (i := n) (off := 0) rfl (by simp (disch := omega) only [upd_ne, upd_same]; rfl) rfl) hrun hrun2 hrun3 rfl (st_load (i := n + 1) (off := 0) rfl a2 rfl) ?_
  dsimp only
  repeat' (first
    | ((with_reducible apply g_op); first
      | ((with_reducible apply g_move); first
        | ((with_reducible apply w_pure (v := .string _)); exact rfl; exact rfl)))
    | with_reducible refine w_seq ?_
    | with_reducible refine w_region ?_)
  refine w_rf (parse_run s (by omega)) (fun _ => rfl) (sn_plains rfl) ?_
  rintro _ rfl
  have hrp := parse_eq s
  have hpl := parse_len s
  generalize parseS s = R at hrp hpl ⊢
  obtain ⟨⟨k, e, l⟩, er⟩ := R
  dsimp only at hpl ⊢
  simp only [Im.v]
  repeat' (first
    | ((with_reducible apply g_op); first
      | ((with_reducible apply g_move); first
        | ((with_reducible apply w_pure (v := .string _)); exact rfl; exact rfl)
        | ((with_reducible apply w_pure (v := .tuple _)); exact rfl; exact rfl))
      | ((with_reducible apply g_assign); first
        | ((with_reducible apply w_pure (v := .int _ _)); exact rfl; exact rfl))
      | ((with_reducible apply g_store); first
        | ((with_reducible apply w_store (us := [_, _, _]) (ws := [_, _, _])); exact rfl; exact rfl; (first | assumption | (simp (disch := omega) only [upd_same, upd_ne]; first | done | assumption | exact rfl) | exact rfl); omega; exact rfl; exact rfl; exact rfl))
      | ((with_reducible apply w_alloc (ls := [_, _, _])); exact rfl; exact rfl)
      | ((with_reducible apply w_pure (v := .int _ _)); exact rfl; exact rfl)
      | ((with_reducible apply w_pure (v := .agg _)); exact rfl; exact rfl))
    | with_reducible refine w_seq ?_
    | with_reducible refine w_nil ?_
    | with_reducible refine w_region ?_)
  refine w_rf (rparse_run s (by omega)) (fun _ => rfl) (sn_plains rfl) ?_
  rintro _ rfl
  rw [← hrp]
  dsimp only
  simp only [Im.v]
  repeat' (first
    | ((with_reducible apply g_op); first
      | ((with_reducible apply g_load); first
        | ((with_reducible apply w_load (v := .agg #[_, _, _])); exact rfl; (first | assumption | (simp (disch := omega) only [upd_same, upd_ne]; first | done | assumption | exact rfl) | exact rfl); exact rfl))
      | ((with_reducible apply g_move); first
        | ((with_reducible apply w_pure (v := .tuple _)); exact rfl; exact rfl))
      | ((with_reducible apply g_assign); first
        | ((with_reducible apply w_pure (v := .int _ _)); exact rfl; exact rfl))
      | ((with_reducible apply g_store); first
        | ((with_reducible apply w_store (us := [_, _, _]) (ws := [_, _, _])); exact rfl; exact rfl; (first | assumption | (simp (disch := omega) only [upd_same, upd_ne]; first | done | assumption | exact rfl) | exact rfl); omega; exact rfl; exact rfl; exact rfl))
      | ((with_reducible apply w_alloc (ls := [_, _, _])); exact rfl; exact rfl)
      | ((with_reducible apply w_pure (v := .int _ _)); exact rfl; exact rfl)
      | ((with_reducible apply w_pure (v := .agg _)); exact rfl; exact rfl))
    | with_reducible refine w_seq ?_
    | with_reducible refine w_nil ?_
    | with_reducible refine w_region ?_)
  refine w_rf (rsame_run ⟨k, e, l⟩ ⟨k, e, l⟩ (by dsimp only; omega)) (fun _ => rfl) (sn_cons (im_sn (x := ⟨k, e, l⟩)) (sn_cons (im_sn (x := ⟨k, e, l⟩)) sn_nil)) ?_
  rintro _ rfl
  rw [sameI_iff.2 rfl]
  repeat' (first
    | ((with_reducible apply g_op); first
      | ((with_reducible apply g_move); first
        | ((with_reducible apply w_pure (v := .int _ _)); exact rfl; exact rfl)
        | ((with_reducible apply w_pure (v := .bool _)); exact rfl; exact rfl))
      | ((with_reducible apply g_bin); first
        | ((with_reducible apply w_pure (v := .bool _)); exact rfl; exact rfl))
      | ((with_reducible apply g_assign); first
        | ((with_reducible apply w_pure (v := .bool _)); exact rfl; exact rfl))
      | ((with_reducible apply w_pure (v := .bool _)); exact rfl; exact rfl))
    | ((with_reducible apply g_gd); first
      | ((with_reducible apply w_want); exact rfl))
    | with_reducible refine w_seq ?_
    | with_reducible refine w_nil ?_
    | with_reducible refine w_region ?_
    | ((with_reducible apply w_ret (v := .bool _)); exact rfl))
  all_goals first | exact congrArg Value.bool (beq_self_eq_true _) | exact congrArg Value.bool (decide_eq_true rfl) | rfl | (exfalso; omega)
theorem proved (x0 : I3) (x1 : Int × Int × Int × Int) {q : Prop} (w0 : I3ok x0) (w1 : q) : Rn Try.prog tab 3 [.agg (kI3.enc x0).toArray, .agg ((kPair (kInt .i64) (kPair (kInt .i64) (kPair (kInt .i64) (kInt .i64)))).enc x1).toArray] (fun _ => none) 0 0 (fun v _ _ => v = .bool true) := by
  rw [toIm_v]
  exact walk (toIm x0) x1.1 x1.2.1 x1.2.2.1 x1.2.2.2 (toIm_rg w0) _ 0
end Go.Proofs.Ytohfbnpmhlpkhaa.L.ElfParses

