/- What is read of entries: plain. -/
import Derived.Test.Ytffgdfoeeaoonaac09D
namespace Go.Proofs.Ytffgdfoeeaoonaa.L
open Go.L1 Go.IntWalk
set_option linter.unusedVariables false
def goE : List (Int × Int) → Dyn → List (Int × Bool) → Option Dyn
  | [], _, _ => none
  | e :: r, d, es =>
    let x := max e.2 0
    if e.1 = 0 then some d
    else if e.1 = 1 then (if x ≤ 1099511627776 ∧ d.nd.length < 64 then goE r { d with nd := d.nd ++ [x] } (mput es 1 true) else none)
    else if e.1 = 9 ∨ e.1 = 11 then (if x = 24 ∧ seen es e.1 = false then goE r d (mput es e.1 true) else none)
    else match fieldO e.1 with
      | some _ => if x ≤ 1099511627776 ∧ seen es e.1 = false then goE r (d.put e.1 x) (mput es e.1 true) else none
      | none => goE r d (mput es e.1 true)
/-- Entries stand in a view from a number on. -/
def Ent (s : ByteArray) : Nat → List (Int × Int) → Prop
  | _, [] => True
  | k, e :: r => Oct.stands s (16 * k) e.1 8 ∧ Oct.stands s (16 * k + 8) (max e.2 0) 8 ∧ Ent s (k + 1) r
theorem read_list (s : ByteArray) : ∀ (r : List (Int × Int)) (k f : Nat) (d : Dyn) (es : List (Int × Bool)), Ent s k r → (∀ e ∈ r, 0 ≤ e.1 ∧ e.1 < 18446744073709551616 ∧ e.2 < 18446744073709551616) → (∃ e ∈ r, e.1 = 0) → r.length ≤ f → readGo s f k d es = goE r d es
  | [], k, f, d, es, h1, h2, h3, h4 => by obtain ⟨e, he, _⟩ := h3; cases he
  | e :: r, k, f, d, es, h1, h2, h3, h4 => by
    obtain ⟨q1, q2, q3⟩ := h1
    obtain ⟨f, rfl⟩ : ∃ f', f = f' + 1 := ⟨f - 1, by simp at h4; omega⟩
    obtain ⟨r0, r1, r2⟩ := h2 e (List.mem_cons_self ..)
    have g1 : Oct.getV s (16 * (k : Int)) 8 = (e.1, true) := by
      have := Oct.getV_stands s (16 * k) 8 e.1 r0 (by decide) (by decide) q1
      rw [show ((16 * k : Nat) : Int) = 16 * (k : Int) by push_cast; rfl] at this
      rw [show (8 : Int) = ((8 : Nat) : Int) from rfl, this]
      congr 1
      exact Int.emod_eq_of_lt r0 (by rw [show (256 : Int) ^ 8 = 18446744073709551616 by decide]; exact r1)
    have g2 : Oct.getV s (16 * (k : Int) + 8) 8 = (max e.2 0, true) := by
      have := Oct.getV_stands s (16 * k + 8) 8 (max e.2 0) (by omega) (by decide) (by decide) q2
      rw [show ((16 * k + 8 : Nat) : Int) = 16 * (k : Int) + 8 by push_cast; rfl] at this
      refine this.trans ?_
      congr 1
      exact Int.emod_eq_of_lt (by omega) (by rw [show (256 : Int) ^ 8 = 18446744073709551616 by decide]; omega)
    have ih : ∀ d es, e.1 ≠ 0 → readGo s f (k + 1) d es = goE r d es := fun d es hne => read_list s r (k + 1) f d es q3 (fun e he => h2 e (List.mem_cons_of_mem _ he)) (by
      obtain ⟨e', he', h0⟩ := h3
      rcases List.mem_cons.1 he' with rfl | h
      · exact absurd h0 hne
      · exact ⟨e', h, h0⟩) (by simp at h4; omega)
    unfold readGo goE
    simp only [g1, g2, and_self, not_true_eq_false, if_false]
    by_cases h0 : e.1 = 0
    · rw [if_pos h0, if_pos h0]
    · simp only [if_neg h0]
      simp only [ih _ _ h0]
      first | rfl | (cases fieldO e.1 <;> rfl)
def bytesR : List (Int × Int) → ByteArray
  | [] => ⟨#[]⟩
  | e :: r => entry e.1 e.2 ++ bytesR r
theorem app_nil (a : ByteArray) : a ++ (⟨#[]⟩ : ByteArray) = a := Oct.ba_ext (by rw [Oct.data_app]; simp)
theorem nil_app (a : ByteArray) : (⟨#[]⟩ : ByteArray) ++ a = a := Oct.ba_ext (by rw [Oct.data_app]; simp)
theorem app_assoc (a b c : ByteArray) : a ++ b ++ c = a ++ (b ++ c) := Oct.ba_ext (by simp only [Oct.data_app, List.append_assoc])
theorem bytesE_eq (l : List (Int × Int)) : bytesE l = bytesR l := by
  suffices H : ∀ (l : List (Int × Int)) (b : ByteArray), l.foldl (fun b e => b ++ entry e.1 e.2) b = b ++ bytesR l from (H l ⟨#[]⟩).trans (nil_app _)
  intro l
  induction l with
  | nil => intro b; exact (app_nil b).symm
  | cons e l ih => intro b; rw [List.foldl_cons, ih, bytesR, app_assoc]
theorem bytesR_app (a b : List (Int × Int)) : bytesR (a ++ b) = bytesR a ++ bytesR b := by
  induction a with
  | nil => exact (nil_app _).symm
  | cons e a ih => rw [List.cons_append, bytesR, ih, bytesR, app_assoc]
theorem bytesR_size (l : List (Int × Int)) : (bytesR l).size = 16 * l.length := by rw [← bytesE_eq, bytesE_size]
theorem ent_at (u : ByteArray) : ∀ (r : List (Int × Int)) (p : ByteArray) (k : Nat), p.size = 16 * k → Ent (p ++ (bytesR r ++ u)) k r
  | [], p, k, h => trivial
  | e :: r, p, k, h => by
    refine ⟨?_, ?_, ?_⟩
    · rw [bytesR, entry, ← app_assoc p, ← app_assoc p, ← app_assoc p, ← h]
      have := Oct.stands_r (Oct.stands_put e.1 8) p
      rw [Nat.add_zero] at this
      exact Oct.stands_l (Oct.stands_l (Oct.stands_l this _) _) _
    · rw [bytesR, entry, ← app_assoc p, ← app_assoc p, ← app_assoc p]
      have := Oct.stands_r (Oct.stands_put (max e.2 0) 8) (p ++ Oct.putB e.1 8)
      rw [Nat.add_zero, ByteArray.size_append, Oct.putB_size, h] at this
      exact Oct.stands_l (Oct.stands_l this _) _
    · have := ent_at u r (p ++ entry e.1 e.2) (k + 1) (by rw [ByteArray.size_append, entry_size, h]; omega)
      rw [app_assoc] at this
      rw [bytesR, app_assoc]
      exact this
theorem read_ents (l : List (Int × Int)) (u : ByteArray) (h2 : ∀ e ∈ l, 0 ≤ e.1 ∧ e.1 < 18446744073709551616 ∧ e.2 < 18446744073709551616) (h3 : ∃ e ∈ l, e.1 = 0) : readS (bytesR l ++ u) = endD (goE l .zero []) := by
  unfold readS
  congr 1
  have he := ent_at u l ⟨#[]⟩ 0 rfl
  rw [nil_app] at he
  exact read_list _ l 0 _ _ _ he h2 h3 (by rw [ByteArray.size_append, bytesR_size]; omega)
end Go.Proofs.Ytffgdfoeeaoonaa.L

