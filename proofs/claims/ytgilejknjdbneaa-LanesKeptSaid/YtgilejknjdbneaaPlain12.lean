/- The document's ticks of a lane, as numbers of runs. -/
import Derived.Test.YtgilejknjdbneaaPlain11
namespace Go.Proofs.Ytgilejknjdbneaa
open Go Go.RowKit
namespace Ln
/-- The numbers of runs, one behind the other. -/
def numsFrom : Nat → List Run → List Int
  | _, [] => []
  | i, r :: l => List.replicate r.bud (i : Int) ++ numsFrom (i + 1) l
theorem numsFrom_length (l : List Run) : ∀ i, (numsFrom i l).length = sumBud l := by
  induction l with
  | nil => intro i; rfl
  | cons r l ih => intro i; simp only [numsFrom, List.length_append, List.length_replicate, ih]; rfl
def numsRuns (M : Nat) (xs : List Run) : List Int := numsFrom 0 xs ++ List.replicate (M - sumBud xs) (-1)
def numOf : Option Nat → Int
  | none => -1
  | some k => k
def numsNeeds (M : Nat) (xs : List Run) : List Int := (List.range M).map fun t => numOf (Edf.who xs.length (nP xs) (nB xs) t)
/-- Whose tick it is. -/
def subjAt (xs : List Run) (i : Int) : ByteArray := if 0 ≤ i then nS xs i.toNat else ByteArray.empty
theorem numsNeeds_names (M : Nat) (xs : List Run) : (numsNeeds M xs).map (subjAt xs) = Edf.ticks xs.length (nP xs) (nB xs) (nS xs) M := by
  unfold numsNeeds Edf.ticks
  rw [List.map_map]
  apply List.map_congr_left
  intro t _
  show subjAt xs (numOf _) = _
  rcases Edf.who xs.length (nP xs) (nB xs) t with _ | k
  · rfl
  · simp [numOf, subjAt, Edf.nameOf]
theorem numsFrom_names (xs : List Run) : ∀ (l : List Run) (i : Nat), xs.drop i = l → (numsFrom i l).map (subjAt xs) = expand l := by
  intro l
  induction l with
  | nil => intro i _; rfl
  | cons r l ih =>
    intro i h
    have hi : i < xs.length := by
      rcases Nat.lt_or_ge i xs.length with h1 | h1
      · exact h1
      · rw [List.drop_eq_nil_of_le h1] at h; simp at h
    rw [List.drop_eq_getElem_cons hi] at h
    injection h with h1 h2
    have h3 : xs[i]? = some r := by rw [List.getElem?_eq_getElem hi, h1]
    simp only [numsFrom, List.map_append, ih (i + 1) h2, expand, List.flatMap_cons, List.map_replicate]
    congr 2
    simp [subjAt, nS_at h3]
theorem numsRuns_names (M : Nat) (xs : List Run) : (numsRuns M xs).map (subjAt xs) = expand xs ++ List.replicate (M - sumBud xs) ByteArray.empty := by
  unfold numsRuns
  rw [List.map_append, numsFrom_names xs xs 0 rfl, List.map_replicate]
  rfl
end Ln
end Go.Proofs.Ytgilejknjdbneaa
