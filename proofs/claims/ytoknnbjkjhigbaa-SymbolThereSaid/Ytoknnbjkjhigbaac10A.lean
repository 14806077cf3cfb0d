/- symbol.Hash, and the reference's. -/
import Derived.Test.Ytoknnbjkjhigbaac10P
namespace Go.Proofs.Ytoknnbjkjhigbaa.L
open Go.L1 Go.IntWalk
set_option linter.unusedVariables false
set_option linter.unusedSimpArgs false
set_option maxHeartbeats 4000000
namespace Sym
theorem turn_val (x c : Nat) (hx : x < 268435456) (hc : c < 256) : IntKind.u32.wrap
    ((BitVec.ofInt IntKind.u32.bits (IntKind.u32.wrap ((BitVec.ofInt IntKind.u32.bits (IntKind.u32.wrap (IntKind.u32.wrap ((x : Int) * 2 ^ min (Int.toNat 4) IntKind.u32.bits) + (c : Int))) &&& ~~~BitVec.ofInt IntKind.u32.bits (IntKind.u32.wrap ((BitVec.ofInt IntKind.u32.bits (IntKind.u32.wrap (IntKind.u32.wrap ((x : Int) * 2 ^ min (Int.toNat 4) IntKind.u32.bits) + (c : Int))) &&& BitVec.ofInt IntKind.u32.bits 4026531840).toNat : Nat))).toNat : Nat)) ^^^
      BitVec.ofInt IntKind.u32.bits ((IntKind.u32.wrap ((BitVec.ofInt IntKind.u32.bits (IntKind.u32.wrap (IntKind.u32.wrap ((x : Int) * 2 ^ min (Int.toNat 4) IntKind.u32.bits) + (c : Int))) &&& BitVec.ofInt IntKind.u32.bits 4026531840).toNat : Nat)).fdiv (2 ^ min (Int.toNat 24) IntKind.u32.bits))).toNat : Nat) = (stepV x c : Nat) := by
  have e1 : IntKind.u32.wrap (IntKind.u32.wrap ((x : Int) * 2 ^ min (Int.toNat 4) IntKind.u32.bits) + (c : Int)) = (((x * 16 + c) % 4294967296 : Nat) : Int) := by
    show IntKind.u32.wrap (IntKind.u32.wrap ((x : Int) * 16) + (c : Int)) = _
    rw [IntKind.wrap_u32, IntKind.wrap_u32]
    omega
  rw [e1]
  have hy := Nat.mod_lt (x * 16 + c) (show 0 < 4294967296 by decide)
  unfold stepV
  generalize (x * 16 + c) % 4294967296 = y at *
  obtain ⟨t1, t2⟩ := turn32 y hy
  rw [show (4026531840 : Int) = ((4026531840 : Nat) : Int) from rfl, and32 y 4026531840 (by omega) (by decide), t1, andNot32 y _ (by omega) (by omega), t2]
  have e2 : ((268435456 * (y / 268435456) : Nat) : Int).fdiv (2 ^ min (Int.toNat 24) IntKind.u32.bits) = ((y / 268435456 * 16 : Nat) : Int) := by
    show ((268435456 * (y / 268435456) : Nat) : Int).fdiv 16777216 = _
    rw [Int.fdiv_eq_ediv_of_nonneg _ (by decide)]
    omega
  rw [e2, xor32 _ _ (by omega) (by omega)]
theorem turn_run (x c : Nat) (hx : x < 268435456) (hc : c < 256) (g : Nat → Option Ob) (n m h : Nat) (hm : m ≤ h) (hg : g h = some (.cells 24 [.int .u32 x])) : Rn Try.prog T 20 [.int .u8 c, ptr h 0] g n m (fun _ g' n' => g' h = some (.cells 24 [.int .u32 (stepV x c : Nat)]) ∧ (∀ j, j ≠ h → g' j = g j) ∧ n' = n) := by
  refine c_open Try.func20 rfl rfl rfl rfl rfl rfl ?_
  repeat' (first
    | ((with_reducible apply g_op); first
      | ((with_reducible apply g_load); first
        | ((with_reducible apply w_load (v := .int _ _)); exact rfl; (first | assumption | (simp (disch := omega) only [upd_same, upd_ne]; first | done | assumption | exact rfl) | exact rfl); exact rfl))
      | ((with_reducible apply g_move); first
        | ((with_reducible apply w_pure (v := .int _ _)); exact rfl; exact rfl))
      | ((with_reducible apply g_bin); first
        | ((with_reducible apply w_shl); exact rfl; exact rfl; exact rfl; exact rfl; exact rfl; omega)
        | ((with_reducible apply w_pure (v := .int _ _)); exact rfl; exact rfl))
      | ((with_reducible apply g_assign); first
        | ((with_reducible apply w_pure (v := .int _ _)); exact rfl; exact rfl))
      | ((with_reducible apply g_store); first
        | ((with_reducible apply w_store (us := [.int _ _]) (ws := [_])); exact rfl; exact rfl; (first | assumption | (simp (disch := omega) only [upd_same, upd_ne]; first | done | assumption | exact rfl) | exact rfl); omega; exact rfl; exact rfl; exact rfl))
      | ((with_reducible apply w_conv); exact rfl; exact rfl; exact rfl; first | exact i64_in _ (by omega) | exact u64_in _ (by omega) | exact u8_in _ (by omega) | exact u32_in _ (by omega)))
    | with_reducible refine w_seq ?_
    | with_reducible refine w_nil ?_
    | with_reducible refine w_region ?_
    | ((with_reducible apply w_end (v := .tuple #[])); exact rfl))
  refine ⟨?_, fun j hj => by rw [upd_ne hj, upd_ne hj], rfl⟩
  rw [upd_same, turn_val x c hx hc]
/-- One byte more, in the reference. -/
theorem ref_val (x c : Nat) (hx : x < 268435456) (hc : c < 256) : IntKind.u64.wrap ((BitVec.ofInt IntKind.u64.bits (IntKind.u64.wrap ((IntKind.u64.wrap ((x : Int) * 16 + IntKind.u64.wrap (c : Int))).tmod 4294967296 - IntKind.u64.wrap (IntKind.u64.wrap (((IntKind.u64.wrap ((x : Int) * 16 + IntKind.u64.wrap (c : Int))).tmod 4294967296).tdiv 268435456) * 268435456))) ^^^
    BitVec.ofInt IntKind.u64.bits (IntKind.u64.wrap (IntKind.u64.wrap (((IntKind.u64.wrap ((x : Int) * 16 + IntKind.u64.wrap (c : Int))).tmod 4294967296).tdiv 268435456) * 2 ^ min (Int.toNat 4) IntKind.u64.bits))).toNat : Nat) = (stepV x c : Nat) := by
  have e0 : IntKind.u64.wrap ((x : Int) * 16 + IntKind.u64.wrap (c : Int)) = ((x * 16 + c : Nat) : Int) := by
    rw [IntKind.wrap_u64, IntKind.wrap_u64]; omega
  have e1 : ((x * 16 + c : Nat) : Int).tmod 4294967296 = (((x * 16 + c) % 4294967296 : Nat) : Int) := by
    rw [Int.tmod_eq_emod_of_nonneg (by omega)]; rfl
  rw [e0, e1]
  have hy := Nat.mod_lt (x * 16 + c) (show 0 < 4294967296 by decide)
  unfold stepV
  generalize (x * 16 + c) % 4294967296 = y at *
  have e2 : (y : Int).tdiv 268435456 = ((y / 268435456 : Nat) : Int) := by
    rw [Int.tdiv_eq_ediv_of_nonneg (by omega)]; rfl
  have e5 : IntKind.u64.wrap ((y / 268435456 : Nat) : Int) = ((y / 268435456 : Nat) : Int) := w64 _ (by omega)
  rw [e2, e5]
  have e3 : IntKind.u64.wrap ((y : Int) - IntKind.u64.wrap (((y / 268435456 : Nat) : Int) * 268435456)) = ((y % 268435456 : Nat) : Int) := by
    rw [IntKind.wrap_u64, IntKind.wrap_u64]; omega
  have e4 : IntKind.u64.wrap (((y / 268435456 : Nat) : Int) * 2 ^ min (Int.toNat 4) IntKind.u64.bits) = ((y / 268435456 * 16 : Nat) : Int) := by
    show IntKind.u64.wrap (((y / 268435456 : Nat) : Int) * 16) = _
    rw [IntKind.wrap_u64]; omega
  rw [e3, e4, xor64 _ _ (by omega) (by omega)]
theorem rhash_run (s : ByteArray) (hs : s.size ≤ 9223372036854775807) (g n m) : Rn Try.prog T 16 [.string s] g n m (fun v g' n' => v = .int .u32 (hashN s : Nat) ∧ g' = g ∧ n' = n) := by
  refine c_quiet Try.func16 rfl rfl rfl rfl rfl ?_
  repeat' (first
    | ((with_reducible apply g_op); first
      | ((with_reducible apply g_assign); first
        | ((with_reducible apply w_pure (v := .int _ _)); exact rfl; exact rfl)))
    | with_reducible refine w_seq ?_
    | with_reducible refine w_nil ?_
    | with_reducible refine w_region ?_
    | with_reducible refine w_block ?_)
  refine w_cnt s.size (fun i (_ : Unit) σ g' n' => σ 0 = .string s ∧ σ 3 = .int .u64 (hashV s i : Nat) ∧ σ 4 = .int .i64 (i : Nat) ∧ n ≤ n') ?_ ?_ () ⟨rfl, rfl, rfl, Nat.le_refl _⟩
  · rintro i _ σ g2 n2 hlt ⟨k0, k3, k4, hn⟩ ih
    refine w_keep (i := 0) k0 (w_keep (i := 3) k3 (w_keep (i := 4) k4 ?_))
    have h1 := hashV_lt s i
    have h2 := byN_lt s i
    repeat' (first
      | ((with_reducible apply g_op); first
        | ((with_reducible apply g_move); first
          | ((with_reducible apply w_pure (v := .int _ _)); exact rfl; exact rfl)
          | ((with_reducible apply w_pure (v := .string _)); exact rfl; exact rfl))
        | ((with_reducible apply g_bin); first
          | ((with_reducible apply w_wrap); exact rfl; exact rfl; first | exact i64_in _ (by omega) | exact u64_in _ (by omega) | exact u8_in _ (by omega))
          | ((with_reducible apply w_shl); exact rfl; exact rfl; exact rfl; exact rfl; exact rfl; omega)
          | ((with_reducible apply w_pure (v := .bool _)); exact rfl; exact rfl)
          | ((with_reducible apply w_pure (v := .int _ _)); exact rfl; exact rfl))
        | ((with_reducible apply g_assign); first
          | ((with_reducible apply w_pure (v := .int _ _)); exact rfl; exact rfl))
        | ((with_reducible apply g_call); first
          | ((with_reducible apply w_call (v := .int _ _)); exact rfl))
        | ((with_reducible apply w_convw); exact rfl; exact rfl; exact rfl)
        | ((with_reducible apply w_sidx); exact rfl; exact rfl; exact rfl; omega; omega))
      | with_reducible refine w_seq ?_
      | with_reducible refine w_nil ?_
      | with_reducible refine w_region ?_
      | with_reducible refine w_skip ?_
      | with_reducible refine w_block ?_
      | with_reducible refine w_blk ?_
      | ((with_reducible apply w_ifd); exact rfl; all_goals (intro hc; first | (exfalso; omega) | skip)))
    exact ih () _ _ _ ⟨rfl, congrArg (Value.int .u64) (ref_val (hashV s i) (byN s i) h1 h2), rfl, hn⟩
  · rintro _ σ g2 n2 ⟨k0, k3, k4, hn⟩
    refine w_keep (i := 0) k0 (w_keep (i := 3) k3 (w_keep (i := 4) k4 ?_))
    have h1 := hashV_lt s s.size
    repeat' (first
      | ((with_reducible apply g_op); first
        | ((with_reducible apply g_move); first
          | ((with_reducible apply w_pure (v := .int _ _)); exact rfl; exact rfl)
          | ((with_reducible apply w_pure (v := .string _)); exact rfl; exact rfl))
        | ((with_reducible apply g_bin); first
          | ((with_reducible apply w_pure (v := .bool _)); exact rfl; exact rfl))
        | ((with_reducible apply g_assign); first
          | ((with_reducible apply w_pure (v := .int _ _)); exact rfl; exact rfl))
        | ((with_reducible apply g_call); first
          | ((with_reducible apply w_call (v := .int _ _)); exact rfl))
        | ((with_reducible apply w_conv); exact rfl; exact rfl; exact rfl; first | exact i64_in _ (by omega) | exact u64_in _ (by omega) | exact u8_in _ (by omega) | exact u32_in _ (by omega)))
      | with_reducible refine w_seq ?_
      | with_reducible refine w_nil ?_
      | with_reducible refine w_region ?_
      | ((with_reducible apply w_exit); exact rfl)
      | ((with_reducible apply w_ifd); exact rfl; all_goals (intro hc; first | (exfalso; omega) | skip))
      | ((with_reducible apply w_ret (v := .int _ _)); exact rfl))
    exact ⟨rfl, rfl⟩
theorem hash_run (s : ByteArray) (hs : s.size ≤ 9223372036854775807) (g n m) : Rn Try.prog T 9 [.string s] g n m (fun v g' n' => v = .int .u32 (hashN s : Nat) ∧ g' = g ∧ n' = n) := by
  refine c_quiet Try.func9 rfl rfl rfl rfl rfl ?_
  repeat' (first
    | ((with_reducible apply g_op); first
      | ((with_reducible apply g_move); first
        | ((with_reducible apply w_pure (v := .int _ _)); exact rfl; exact rfl)
        | ((with_reducible apply w_pure (v := .string _)); exact rfl; exact rfl))
      | ((with_reducible apply g_assign); first
        | ((with_reducible apply w_pure (v := .int _ _)); exact rfl; exact rfl)
        | ((with_reducible apply w_pure (v := .func _ _ _)); exact rfl; exact rfl))
      | ((with_reducible apply g_call); first
        | ((with_reducible apply w_call (v := .int _ _)); exact rfl))
      | ((with_reducible apply g_store); first
        | ((with_reducible apply w_store (us := [.int _ _]) (ws := [_])); exact rfl; exact rfl; (first | assumption | (simp (disch := omega) only [upd_same, upd_ne]; first | done | assumption | exact rfl) | exact rfl); omega; exact rfl; exact rfl; exact rfl))
      | ((with_reducible apply w_alloc (ls := [.int _ _])); exact rfl; exact rfl)
      | ((with_reducible apply w_mkf (cs := [.pointer _])); exact rfl))
    | with_reducible refine w_seq ?_
    | with_reducible refine w_nil ?_
    | with_reducible refine w_region ?_
    | with_reducible refine w_block ?_)
  refine w_cnt s.size (fun i (_ : Unit) σ g' n' => σ 0 = .string s ∧ σ 3 = ptr n 0 ∧ σ 4 = .func (.func 20) #[] #[ptr n 0] ∧ σ 8 = .int .i64 s.size ∧ σ 9 = .int .i64 (i : Nat) ∧ g' n = some (.cells 24 [.int .u32 (hashV s i : Nat)]) ∧ n ≤ n') ?_ ?_ () ⟨rfl, rfl, rfl, rfl, rfl, by simp (disch := omega) only [upd_same, upd_ne]; rfl, by omega⟩
  · rintro i _ σ g2 n2 hlt ⟨k0, k3, k4, k8, k9, hg, hn⟩ ih
    refine w_keep (i := 0) k0 (w_keep (i := 3) k3 (w_keep (i := 4) k4 (w_keep (i := 8) k8 (w_keep (i := 9) k9 ?_))))
    have h1 := hashV_lt s i
    have h2 := byN_lt s i
    have h3 := byN_bt s i
    repeat' (first
      | ((with_reducible apply g_op); first
        | ((with_reducible apply g_move); first
          | ((with_reducible apply w_pure (v := .int _ _)); exact rfl; exact rfl)
          | ((with_reducible apply w_pure (v := .string _)); exact rfl; exact rfl)
          | ((with_reducible apply w_pure (v := .func _ _ _)); exact rfl; exact rfl))
        | ((with_reducible apply g_bin); first
          | ((with_reducible apply w_pure (v := .bool _)); exact rfl; exact rfl))
        | ((with_reducible apply g_assign); first
          | ((with_reducible apply w_pure (v := .int _ _)); exact rfl; exact rfl))
        | ((with_reducible apply w_sidx); exact rfl; exact rfl; exact rfl; omega; omega))
      | with_reducible refine w_seq ?_
      | with_reducible refine w_nil ?_
      | with_reducible refine w_region ?_
      | with_reducible refine w_skip ?_
      | with_reducible refine w_block ?_
      | ((with_reducible apply w_ifd); exact rfl; all_goals (intro hc; first | (exfalso; omega) | skip)))
    refine w_rn (turn_run (hashV s i) (byN s i) h1 h2 _ _ _ n (by omega) hg) (fun _ => rfl) ?_
    rintro _ g' n' ⟨e1, e2, rfl⟩
    repeat' (first
      | ((with_reducible apply g_op); first
        | ((with_reducible apply g_move); first
          | ((with_reducible apply w_pure (v := .int _ _)); exact rfl; exact rfl))
        | ((with_reducible apply g_bin); first
          | ((with_reducible apply w_wrap); exact rfl; exact rfl; first | exact i64_in _ (by omega) | exact u64_in _ (by omega) | exact u8_in _ (by omega))))
      | with_reducible refine w_nil ?_
      | with_reducible refine w_region ?_
      | with_reducible refine w_blk ?_)
    exact ih () _ _ _ ⟨rfl, rfl, rfl, rfl, rfl, e1, hn⟩
  · rintro _ σ g2 n2 ⟨k0, k3, k4, k8, k9, hg, hn⟩
    refine w_keep (i := 0) k0 (w_keep (i := 3) k3 (w_keep (i := 4) k4 (w_keep (i := 8) k8 (w_keep (i := 9) k9 ?_))))
    repeat' (first
      | ((with_reducible apply g_op); first
        | ((with_reducible apply g_load); first
          | ((with_reducible apply w_load (v := .int _ _)); exact rfl; (first | assumption | (simp (disch := omega) only [upd_same, upd_ne]; first | done | assumption | exact rfl) | exact rfl); exact rfl))
        | ((with_reducible apply g_bin); first
          | ((with_reducible apply w_pure (v := .bool _)); exact rfl; exact rfl))
        | ((with_reducible apply g_assign); first
          | ((with_reducible apply w_pure (v := .int _ _)); exact rfl; exact rfl)))
      | with_reducible refine w_seq ?_
      | with_reducible refine w_nil ?_
      | with_reducible refine w_region ?_
      | ((with_reducible apply w_exit); exact rfl)
      | ((with_reducible apply w_ifd); exact rfl; all_goals (intro hc; first | (exfalso; omega) | skip))
      | ((with_reducible apply w_ret (v := .int _ _)); exact rfl))
    exact ⟨rfl, rfl⟩
end Sym
end Go.Proofs.Ytoknnbjkjhigbaa.L

