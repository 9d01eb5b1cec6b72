/- Mask -/
import Derived.LaidLaws
set_option maxRecDepth 100000
set_option maxHeartbeats 4000000
set_option linter.unusedVariables false
set_option linter.unusedSimpArgs false
namespace Go.Proofs.YtpblcjipmoblnaaGreatDoor
def codeOf : MemPlace → Nat
 | .cell b off => (b * 512 + off) * 2
 | .map b => b * 2 + 1
def maskB : List MemPlace → Nat → Bool
 | [], _ => true
 | x :: xs, m => !m.testBit (codeOf x) && maskB xs (m ||| 1 <<< codeOf x)
theorem mask_nodup : ∀ (xs : List MemPlace) (m : Nat), maskB xs m = true → xs.Nodup ∧ ∀ x ∈ xs, m.testBit (codeOf x) = false
 | [], m, _ => ⟨List.nodup_nil, fun x h => by cases h⟩
 | x :: xs, m, h => by
  simp only [maskB, Bool.and_eq_true, Bool.not_eq_true'] at h
  obtain ⟨h1, h2⟩ := mask_nodup xs _ h.2
  refine ⟨List.nodup_cons.2 ⟨fun hx => ?_, h1⟩, fun y hy => ?_⟩
  · have := h2 x hx
    rw [Nat.testBit_or, Nat.one_shiftLeft, Nat.testBit_two_pow_self] at this
    simp at this
  · rcases List.mem_cons.1 hy with rfl | hy
    · exact h.1
    · have := h2 y hy
      rw [Nat.testBit_or, Bool.or_eq_false_iff] at this
      exact this.1
theorem laidMet_of_mask {P : Program} {w : World} {l : List (String × DataW Unit)} (fuel : Nat) (h : (DataW.laidRun P w fuel (l.map (·.1))).map (·.1) = some l)
 (hr : (DataW.laidRun P w fuel (l.map (·.1))).map (fun x => laidRowsB P w x.2) = some true) (hn : (DataW.laidRun P w fuel (l.map (·.1))).map (fun x => maskB x.2 0) = some true) : laidMet P l w := by
 cases hx : DataW.laidRun P w fuel (l.map (·.1)) with
 | none => simp [hx] at h
 | some x =>
  obtain ⟨l', ps⟩ := x
  simp only [hx, Option.map_some, Option.some.injEq] at h hr hn
  subst h
  exact laidMet_of_run fuel hx (decide_eq_true (mask_nodup ps 0 hn).1) hr
end Go.Proofs.YtpblcjipmoblnaaGreatDoor
