/- strings.Repeat, as the library's shelf tells it, over the interpreter. -/
import Derived.Test.YtokbhihfooaijaaL1W
import Derived.Test.YtokbhihfooaijaaShelf
namespace Go.Proofs.Ytokbhihfooaijaa.L
open Go.L1 Go.RowKit
set_option linter.unusedVariables false
set_option linter.unusedSimpArgs false
set_option maxHeartbeats 4000000
set_option maxRecDepth 20000
def repL (s : ByteArray) (n : Nat) : ByteArray := ⟨(Lib.repeatL s.data.toList n).toArray⟩
def repExt : List Value → Hp → Option (Ending × Hp) := fun a H => match a with
  | [.string s, .int .i64 n] => if s.size = 1 ∧ 0 ≤ n ∧ n ≤ 100000000 then some (.returned (.string (repL s n.toNat)), H) else none
  | _ => none
theorem below_good {C : Cx} {ρ : Rho} {H : Hp} {w w' : World} (hr : HR C ρ H w) (hb : Below w.heap.size w w') : L1.Good C ρ H w ρ H w' := by
  have hold : ∀ k, k < w.heap.size → w'.heap[k]? = w.heap[k]? := fun k hk => hb.block k hk
  have hk : Keeps w w' := fun b c e fz h => ⟨c, fz, by rw [hold b (Array.getElem?_eq_some_iff.1 h).1]; exact h, rfl⟩
  have hz := hb.size
  have hbs := hr.hbase
  have hm : More H.next ρ w H.next ρ w' := hr.more (Nat.le_refl _) (fun _ _ => rfl) hk rfl rfl (fun b hb _ => hold b hb)
  exact ⟨hm, ⟨hr.below.trans ⟨hb.os, hb.tape, hb.output, hz, fun k hk => hold k (by omega)⟩, by omega, hr.fm, hr.mn, fun i o hg => ⟨(hr.ob i o hg).1, (hr.ob i o hg).2.same hm (hr.ob i o hg).1 (hold _ (hr.ob i o hg).2.block)⟩, hr.apart,
    fun b hb => ⟨by have := (hr.ice b hb).1; omega, (hr.ice b hb).2⟩, fun b hb => ⟨by have := (hr.snow b hb).1; omega, (hr.snow b hb).2⟩⟩, rfl, fun _ _ => rfl, hz, fun b hb _ => hold b hb, rfl, fun i hi hg => .inl ⟨i, hi, hg, rfl⟩⟩
theorem repL_one (s : ByteArray) : s = repL s 1 := by
  unfold repL
  obtain ⟨⟨d⟩⟩ := s
  simp [Lib.repeatL]
theorem rep_ok {C : Cx} (hC : C.P = Try.prog) {args : List Value} {H H' : Hp} {e : Ending} (h : repExt args H = some (e, H')) : FnOk C 45 args H e H' ∧ H' = H := by
  unfold repExt at h
  split at h
  · rename_i s n
    split at h
    · rename_i hc
      obtain ⟨h1, h2, h3⟩ := hc
      cases h
      refine ⟨.inl ⟨?_, fun ρ w args' hr ha => ?_⟩, rfl⟩
      · rw [hC]; exact ⟨_, Try.func45, by kernel_rfl, by kernel_rfl⟩
      · obtain ⟨l⟩ := args'
        obtain ⟨v1, r1, hl1, q1, q2⟩ := ha.uncons
        obtain ⟨v2, r2, hl2, q3, q4⟩ := q2.uncons
        have hr2 : r2 = [] := List.length_eq_zero_iff.1 (by rw [← q4.1]; rfl)
        have e1 := q1.string
        have e2 := q3.int
        subst hr2 e1 e2
        subst hl2
        have hl : l = [.string s, .int .i64 n] := hl1
        subst hl
        obtain ⟨k, rfl⟩ : ∃ k : Nat, n = k := ⟨n.toNat, by omega⟩
        have hk : (k : Int).toNat = k := by omega
        have fin : ∀ (t : ByteArray) (w' : World), Below w.heap.size w w' → t = repL s k → ∃ ρ', L1.Good C ρ H w ρ' H w' ∧ EndR C H.next ρ' w' (.returned (.string (repL s (k : Int).toNat))) (.returned (.string t)) := fun t w' hb ht =>
          ⟨ρ, below_good hr hb, by subst ht; rw [hk]; exact VR.of1 rfl⟩
        rw [hC]
        by_cases k0 : k = 0
        · subst k0
          exact (Try.strings_Repeat_zero s w).mono fun e' w' ⟨h4, h5⟩ => by subst h4 h5; exact fin _ _ (Below.refl _ _) rfl
        · by_cases k1 : k = 1
          · subst k1
            exact (Try.strings_Repeat_one s w).mono fun e' w' ⟨h4, h5⟩ => by subst h4 h5; exact fin _ _ (Below.refl _ _) (repL_one _)
          · exact (Try.strings_Repeat_main s k w (by omega) (by omega) (by rw [h1]; omega) (by omega)).mono fun e' w' ⟨h4, h5⟩ => by subst h4; exact fin _ _ h5 rfl
    · cases h
  · cases h
end Go.Proofs.Ytokbhihfooaijaa.L

