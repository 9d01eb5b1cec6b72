/- What Flatten answers of a lane with needs: no program in sight. -/
import Derived.Test.YtgilejknjdbneaaPlain10
namespace Go.Proofs.Ytgilejknjdbneaa
open Go Go.RowKit
namespace Ln
def sumWants (M : Nat) (l : List Run) : Nat := l.foldr (fun r n => wants M r true + n) 0
theorem flatErr_wants {M : Nat} {l : List Run} : ∀ {i s : Nat}, flatErr M true i s l = none → s ≤ M → s + sumWants M l ≤ M := by
  induction l with
  | nil => intro i s _ h; simpa [sumWants] using h
  | cons r l ih =>
    intro i s h hm
    simp only [flatErr] at h
    split at h
    · split at h
      · simp at h
      · have := ih h (by omega)
        simp only [sumWants, List.foldr_cons] at this ⊢
        omega
    · simp at h
theorem sumWants_append (M : Nat) (l m : List Run) : sumWants M (l ++ m) = sumWants M l + sumWants M m := by
  induction l with
  | nil => simp [sumWants]
  | cons r l ih => simp only [sumWants, List.cons_append, List.foldr_cons] at ih ⊢; omega
theorem sumTo_congr {n : Nat} {f g : Nat → Nat} (h : ∀ i, i < n → f i = g i) : Edf.sumTo n f = Edf.sumTo n g :=
  Nat.le_antisymm (Edf.sumTo_le fun i hi => by rw [h i hi]; exact Nat.le_refl _) (Edf.sumTo_le fun i hi => by rw [h i hi]; exact Nat.le_refl _)
theorem sumTo_wants (M : Nat) (xs : List Run) : ∀ n, n ≤ xs.length → Edf.sumTo n (fun i => nB xs i * (M / nP xs i)) = sumWants M (xs.take n) := by
  intro n
  induction n with
  | zero => intro _; simp [Edf.sumTo, sumWants]
  | succ n ih =>
    intro hn
    have h1 : xs[n]? = some xs[n] := List.getElem?_eq_getElem (by omega)
    rw [List.take_add_one, h1, sumWants_append, ← ih (by omega)]
    simp only [Edf.sumTo, nB_at h1, nP_at h1, Option.toList_some]
    simp [sumWants, wants]
/-- The needs that Flatten takes. -/
structure NeedsOk (M : Nat) (xs : List Run) : Prop where
  each : ∀ r ∈ xs, 1 ≤ r.bud ∧ r.bud ≤ M ∧ r.bud ≤ r.per ∧ 1 ≤ r.per ∧ r.per ≤ M ∧ M % r.per = 0
  sum : sumWants M xs ≤ M
theorem needs_ok {M : Nat} {xs : List Run} (h : flatErr M true 0 0 xs = none) : NeedsOk M xs := by
  refine ⟨fun r hr => ?_, by simpa using flatErr_wants h (Nat.zero_le _)⟩
  obtain ⟨h1, h2, h3⟩ := right_ok ((flatErr_none h).1 r hr)
  obtain ⟨_, h4, h5, h6, h7⟩ := h3 rfl
  exact ⟨h1, h2, h4, h5, h6, h7⟩
theorem NeedsOk.pos {M : Nat} {xs : List Run} (h : NeedsOk M xs) : ∀ i, i < xs.length → 1 ≤ nP xs i ∧ 1 ≤ nB xs i ∧ nB xs i ≤ nP xs i ∧ M % nP xs i = 0 := fun i hi => by
  have h1 : xs[i]? = some xs[i] := List.getElem?_eq_getElem hi
  obtain ⟨a, b, c, d, e, f⟩ := h.each _ (List.mem_of_getElem? h1)
  rw [nP_at h1, nB_at h1]
  exact ⟨d, a, c, f⟩
theorem NeedsOk.fits {M : Nat} {xs : List Run} (hM : 0 < M) (h : NeedsOk M xs) : Edf.Fits xs.length (nP xs) (nB xs) := by
  refine Edf.fits_of hM (fun i hi => ⟨(h.pos i hi).1, (h.pos i hi).2.2.2⟩) ?_
  rw [sumTo_wants M xs _ (Nat.le_refl _), List.take_length]
  exact h.sum
theorem NeedsOk.len {M : Nat} {xs : List Run} (h : NeedsOk M xs) : xs.length ≤ M := by
  refine Nat.le_trans ?_ h.sum
  have : ∀ l : List Run, (∀ r ∈ l, 1 ≤ r.bud ∧ 1 ≤ r.per ∧ r.per ≤ M) → l.length ≤ sumWants M l := fun l => by
    induction l with
    | nil => intro _; simp
    | cons r l ih =>
      intro h
      have h1 := ih (fun x hx => h x (List.mem_cons_of_mem _ hx))
      obtain ⟨h2, h3, h4⟩ := h r (by simp)
      have h5 : 1 ≤ M / r.per := (Nat.le_div_iff_mul_le h3).2 (by omega)
      have h6 : 1 * 1 ≤ r.bud * (M / r.per) := Nat.mul_le_mul h2 h5
      simp only [sumWants, List.foldr_cons, wants, if_true, List.length_cons] at h1 ⊢
      omega
  exact this xs fun r hr => by obtain ⟨a, b, c, d, e, f⟩ := h.each r hr; exact ⟨a, d, e⟩
theorem edf_good (xs : List Run) (M : Nat) : Good (edf xs M) (Edf.ticks xs.length (nP xs) (nB xs) (nS xs) M) := by
  have := good_nil.rows (ts := Edf.ticks xs.length (nP xs) (nB xs) (nS xs) M)
  simpa [edf] using this
theorem edf_end (xs : List Run) (M : Nat) : endOf (edf xs M) = M := by
  rw [endOf_last, (edf_good xs M).last, Edf.ticks_length]
theorem edf_len (xs : List Run) (M : Nat) : (edf xs M).length ≤ M := by
  have := (upTo_ticks (Edf.ticks xs.length (nP xs) (nB xs) (nS xs) M) (upTo_nil (0 : Nat))).2
  rw [Edf.ticks_length] at this
  simpa [edf] using this
/-- Flatten's answer of a lane with needs. -/
def flatNeeds (M : Nat) (xs : List Run) : List Slot × Int × Int :=
  match flatErr M true 0 0 xs with
  | some (i, e) => ([], i, e)
  | none => capped (edf xs M)
end Ln
end Go.Proofs.Ytgilejknjdbneaa
