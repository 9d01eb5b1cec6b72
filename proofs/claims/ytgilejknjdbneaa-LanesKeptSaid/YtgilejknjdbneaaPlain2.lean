/- More plain words of lanes. -/
import Derived.Test.YtgilejknjdbneaaPlain
namespace Go.Proofs.Ytgilejknjdbneaa
open Go Go.RowKit
namespace Ln
/-- Slots one behind the other from e on. -/
def Chain : Int → List Slot → Prop
  | _, [] => True
  | e, s :: l => s.from_ = e ∧ s.from_ < s.to ∧ Chain s.to l
def lastTo : Int → List Slot → Int
  | e, [] => e
  | _, s :: l => lastTo s.to l
theorem lenFrom_chain {l : List Slot} : ∀ {e : Int} {p : Option ByteArray}, lenFrom e p l ≠ 0 → Chain e l ∧ lenFrom e p l = lastTo e l := by
  induction l with
  | nil => intro e p _; exact ⟨trivial, rfl⟩
  | cons s l ih =>
    intro e p h
    simp only [lenFrom] at h ⊢
    split at h
    · exact absurd rfl h
    · rename_i hc
      rw [if_neg hc]
      have h1 : s.from_ = e := by
        rcases Classical.em (s.from_ = e) with g | g
        · exact g
        · exact absurd (.inl g) hc
      have h2 : s.from_ < s.to := by
        rcases Classical.em (s.from_ < s.to) with g | g
        · exact g
        · exact absurd (.inr (.inl (by omega))) hc
      obtain ⟨h3, h4⟩ := ih h
      exact ⟨⟨h1, h2, h3⟩, h4⟩
theorem Chain.last {l : List Slot} : ∀ {e : Int}, Chain e l → e ≤ lastTo e l := by
  induction l with
  | nil => intro e _; exact Int.le_refl _
  | cons s l ih => intro e h; have := ih h.2.2; have h1 := h.1; have h2 := h.2.1; simp only [lastTo]; omega
theorem Chain.at_ {l : List Slot} : ∀ {e : Int} {i : Nat} {s : Slot}, Chain e l → l[i]? = some s → e ≤ s.from_ ∧ s.from_ < s.to ∧ s.to ≤ lastTo e l := by
  induction l with
  | nil => intro e i s _ h; simp at h
  | cons x l ih =>
    intro e i s h hs
    have h1 := h.1
    have h2 := h.2.1
    cases i with
    | zero =>
      simp at hs; subst hs
      have := h.2.2.last
      simp only [lastTo]
      omega
    | succ i =>
      have := ih h.2.2 (i := i) (by simpa using hs)
      simp only [lastTo]
      omega
theorem Chain.mono {l : List Slot} : ∀ {e : Int} {i j : Nat} {s t : Slot}, Chain e l → i < j → l[i]? = some s → l[j]? = some t → s.to ≤ t.from_ := by
  induction l with
  | nil => intro e i j s t _ _ h; simp at h
  | cons x l ih =>
    intro e i j s t h hij hs ht
    obtain ⟨j, rfl⟩ : ∃ j', j = j' + 1 := ⟨j - 1, by omega⟩
    have ht' : l[j]? = some t := by simpa using ht
    cases i with
    | zero => simp at hs; subst hs; exact (h.2.2.at_ ht').1
    | succ i => exact ih h.2.2 (i := i) (by omega) (by simpa using hs) ht'
theorem Chain.last_at {l : List Slot} : ∀ {e : Int} {s : Slot}, Chain e l → l[l.length - 1]? = some s → s.to = lastTo e l := by
  induction l with
  | nil => intro e s _ h; simp at h
  | cons x l ih =>
    intro e s h hs
    cases l with
    | nil => simp at hs; subst hs; rfl
    | cons y l => exact ih h.2.2 (by simpa using hs)
theorem find_at {α : Type} {p : α → Bool} {l : List α} : ∀ {k : Nat} {y : α}, (∀ j x, j < k → l[j]? = some x → p x = false) → l[k]? = some y → p y = true → l.find? p = some y := by
  induction l with
  | nil => intro k y _ h; simp at h
  | cons x l ih =>
    intro k y h hy hp
    cases k with
    | zero => simp at hy; subst hy; simp [hp]
    | succ k =>
      have h0 := h 0 x (by omega) (by simp)
      rw [List.find?_cons_of_neg (by simp [h0])]
      exact ih (k := k) (fun j z hj hz => h (j + 1) z (by omega) (by simpa using hz)) (by simpa using hy) hp
/-- Who runs at the tick o of a row, and for how long. -/
def schedOf (l : List Slot) (o : Int) : ByteArray × Int :=
  match l.find? (fun s => decide (o < s.to)) with
  | some s => (s.subj, s.to - o)
  | none => (ByteArray.empty, 0)
/-- Sched's answer. -/
def sched (l : List Slot) (o : Int) : ByteArray × Int :=
  if lenFrom 0 none l = 0 then (ByteArray.empty, 0) else schedOf l ((max o 0) % lenFrom 0 none l)
end Ln
end Go.Proofs.Ytgilejknjdbneaa
