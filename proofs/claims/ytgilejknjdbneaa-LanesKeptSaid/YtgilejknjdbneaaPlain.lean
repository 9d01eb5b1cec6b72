/- Plain words of lanes: no program in sight. -/
import GoSem.Core.World
import Derived.Below
namespace Go.Proofs.Ytgilejknjdbneaa
open Go Go.RowKit

structure Run where
  pos : Int
  subj : ByteArray
  bud : Nat
  per : Nat

structure Slot where
  subj : ByteArray
  from_ : Int
  to : Int

namespace Ln
/-- A row that grows by so many ticks of a subject. -/
def run (l : List Slot) (s : ByteArray) (t : Int) : List Slot :=
  match l.getLast? with
  | none => [⟨s, 0, t⟩]
  | some x => if x.subj = s then l.dropLast ++ [⟨x.subj, x.from_, x.to + t⟩] else l ++ [⟨s, x.to, x.to + t⟩]
/-- How many ticks a slot row has, behind e ticks and the subject p; 0: it is none. -/
def lenFrom : Int → Option ByteArray → List Slot → Int
  | e, _, [] => e
  | e, p, s :: l => if s.from_ ≠ e ∨ s.to ≤ s.from_ ∨ p = some s.subj then 0 else lenFrom s.to (some s.subj) l
/-- The ticks that a slot adds to its subject's budget. -/
def part (s : ByteArray) (x : Slot) : Int := if x.subj = s ∧ 0 ≤ x.from_ ∧ x.from_ < x.to ∧ x.to ≤ 65536 then x.to - x.from_ else 0
def budget (s : ByteArray) : Int → List Slot → Int
  | n, [] => n
  | n, x :: l => budget s (n + part s x) l
theorem part_le (s : ByteArray) (x : Slot) : 0 ≤ part s x ∧ part s x ≤ 65536 := by unfold part; split <;> omega
def endOf (l : List Slot) : Int := match l.getLast? with | none => 0 | some x => x.to
/-- What is wrong with a run by itself. -/
def right (M : Nat) (r : Run) (nd : Bool) : Int :=
  if r.bud = 0 ∨ M < r.bud then 90
  else if nd = true ∧ r.subj.toList.isEmpty = true then 80
  else if nd = true ∧ (r.per < r.bud ∨ M < r.per ∨ ((M : Int) % (r.per : Int) != 0) = true) then 91
  else 0
def wants (M : Nat) (r : Run) (nd : Bool) : Nat := if nd then r.bud * (M / r.per) else r.bud

/-- The demand of a list of runs, behind d: none if one of them is not right. -/
def demand (M : Nat) (nd : Bool) : Nat → List Run → Option Nat
  | d, [] => some d
  | d, r :: l => if right M r nd = 0 then demand M nd (d + wants M r nd) l else none

theorem right_ok {M : Nat} {r : Run} {nd : Bool} (h : right M r nd = 0) : 1 ≤ r.bud ∧ r.bud ≤ M ∧ (nd = true → r.subj.toList.isEmpty = false ∧ r.bud ≤ r.per ∧ 1 ≤ r.per ∧ r.per ≤ M ∧ M % r.per = 0) := by
  unfold right at h
  split at h
  · simp at h
  split at h
  · simp at h
  split at h
  · simp at h
  rename_i h1 h2 h3
  refine ⟨by omega, by omega, fun hn => ?_⟩
  subst hn
  simp only [true_and] at h2 h3
  have h4 : r.bud ≤ r.per := by
    rcases Nat.lt_or_ge r.per r.bud with h | h
    · exact absurd (.inl h) h3
    · exact h
  have h5 : r.per ≤ M := by
    rcases Nat.lt_or_ge M r.per with h | h
    · exact absurd (.inr (.inl h)) h3
    · exact h
  have h6 : ((M : Int) % (r.per : Int) != 0) = false := by
    rcases Bool.eq_false_or_eq_true ((M : Int) % (r.per : Int) != 0) with h | h
    · exact absurd (.inr (.inr h)) h3
    · exact h
  refine ⟨by simpa using h2, h4, by omega, h5, ?_⟩
  have h7 : (M : Int) % (r.per : Int) = 0 := by simpa using h6
  have h8 : ((M % r.per : Nat) : Int) = 0 := by simpa using h7
  omega
theorem wants_le {M : Nat} {r : Run} {nd : Bool} (h : right M r nd = 0) : wants M r nd ≤ M := by
  obtain ⟨h1, h2, h3⟩ := right_ok h
  unfold wants
  cases nd
  · simpa using h2
  · obtain ⟨_, h4, h5, h6, _⟩ := h3 rfl
    exact Nat.le_trans (Nat.mul_le_mul_right _ h4) (Nat.mul_div_le M r.per)
end Ln
end Go.Proofs.Ytgilejknjdbneaa
