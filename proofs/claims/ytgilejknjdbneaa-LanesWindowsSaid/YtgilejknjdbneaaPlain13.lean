/- A schedule that gives each need its budget in each period is as long as the needs want. -/
import Derived.Test.YtgilejknjdbneaaPlain11
namespace Go.Proofs.Ytgilejknjdbneaa
open Go Go.RowKit
namespace Ln
/-- How many of the first t ticks are need i's. -/
def seen (ws : List Int) (t i : Nat) : Nat := Edf.sumTo t fun s => if ws[s]? = some (i : Int) then 1 else 0
theorem seen_le (ws : List Int) (i : Nat) : ∀ t, seen ws t i ≤ t := by
  intro t
  induction t with
  | zero => exact Nat.le_refl _
  | succ t ih =>
    have : seen ws (t + 1) i = seen ws t i + if ws[t]? = some (i : Int) then 1 else 0 := rfl
    rw [this]
    split <;> omega
theorem seen_succ (ws : List Int) (t i : Nat) : seen ws (t + 1) i = seen ws t i + if ws[t]? = some (i : Int) then 1 else 0 := rfl
theorem sumTo_add (n : Nat) (f g : Nat → Nat) : Edf.sumTo n (fun i => f i + g i) = Edf.sumTo n f + Edf.sumTo n g := by
  induction n with
  | zero => rfl
  | succ n ih => simp only [Edf.sumTo, ih]; omega
theorem sumTo_one (n : Nat) (x : Option Int) : Edf.sumTo n (fun i => if x = some (i : Int) then 1 else 0) ≤ 1 := by
  have key : ∀ n, Edf.sumTo n (fun i => if x = some (i : Int) then 1 else 0) ≤ 1 ∧ ((∀ i, i < n → x ≠ some (i : Int)) → Edf.sumTo n (fun i => if x = some (i : Int) then 1 else 0) = 0) := by
    intro n
    induction n with
    | zero => exact ⟨by simp [Edf.sumTo], fun _ => rfl⟩
    | succ n ih =>
      simp only [Edf.sumTo]
      by_cases h : x = some (n : Int)
      · have h0 := ih.2 (fun i hi e => by rw [h] at e; injection e with e; omega)
        rw [if_pos h, h0]
        exact ⟨by omega, fun h' => absurd h (h' n (by omega))⟩
      · rw [if_neg h]
        exact ⟨by have := ih.1; omega, fun h' => by rw [ih.2 (fun i hi => h' i (by omega))]⟩
  exact (key n).1
theorem seen_sum (ws : List Int) (n : Nat) : ∀ t, Edf.sumTo n (fun i => seen ws t i) ≤ t := by
  intro t
  induction t with
  | zero =>
    have : Edf.sumTo n (fun i => seen ws 0 i) ≤ Edf.sumTo n (fun _ => 0) := Edf.sumTo_le fun i _ => Nat.le_refl _
    have h0 : ∀ n, Edf.sumTo n (fun _ => 0) = 0 := fun n => by induction n with
      | zero => rfl
      | succ n ih => simp only [Edf.sumTo, ih]
    rw [h0] at this
    exact this
  | succ t ih =>
    have e : Edf.sumTo n (fun i => seen ws (t + 1) i) = Edf.sumTo n (fun i => seen ws t i) + Edf.sumTo n (fun i => if ws[t]? = some (i : Int) then 1 else 0) := by
      rw [← sumTo_add]; rfl
    rw [e]
    have := sumTo_one n ws[t]?
    omega
theorem flatErr_needs {M : Nat} {xs : List Run} (h : ∀ r ∈ xs, right M r true = 0) : ∀ (i s : Nat), s ≤ M → (s + sumWants M xs ≤ M → flatErr M true i s xs = none) ∧ (M < s + sumWants M xs → ∃ j : Nat, j < i + xs.length ∧ flatErr M true i s xs = some ((j : Int), 93)) := by
  induction xs with
  | nil => intro i s hs; exact ⟨fun _ => rfl, fun h => by simp [sumWants] at h; omega⟩
  | cons r xs ih =>
    intro i s hs
    have h1 := h r (by simp)
    have e : sumWants M (r :: xs) = wants M r true + sumWants M xs := rfl
    have ih' := ih (fun x hx => h x (List.mem_cons_of_mem _ hx)) (i + 1) (s + wants M r true)
    rw [e]
    simp only [flatErr, h1, if_true]
    refine ⟨fun hle => ?_, fun hlt => ?_⟩
    · rw [if_neg (by omega)]
      exact (ih' (by omega)).1 (by omega)
    · by_cases hc : M < s + wants M r true
      · rw [if_pos hc]; exact ⟨i, by simp, rfl⟩
      · rw [if_neg hc]
        obtain ⟨j, h2, h3⟩ := (ih' (by omega)).2 (by omega)
        exact ⟨j, by simp at h2 ⊢; omega, h3⟩
/-- Needs that are right. -/
theorem right_needs {M : Nat} {r : Run} (h1 : 1 ≤ r.bud) (h2 : r.bud ≤ r.per) (h3 : r.per ≤ M) (h4 : M % r.per = 0) (h5 : r.subj.toList.isEmpty = false) : right M r true = 0 := by
  unfold right
  rw [if_neg (by omega), if_neg (by simp [h5]), if_neg]
  rintro ⟨_, h | h | h⟩
  · omega
  · omega
  · have : ((M : Int) % (r.per : Int)) = ((M % r.per : Nat) : Int) := by simp
    rw [this, h4] at h
    simp at h
theorem rowFrom_ne {ts : List ByteArray} (h : ts ≠ []) : rowFrom [] ts ≠ [] := fun e => by
  have h1 := (good_rowFrom ts).last
  rw [e] at h1
  have h2 : (0 : Int) = ts.length := h1
  have : ts.length = 0 := by omega
  exact h (List.eq_nil_of_length_eq_zero this)
end Ln
end Go.Proofs.Ytgilejknjdbneaa
