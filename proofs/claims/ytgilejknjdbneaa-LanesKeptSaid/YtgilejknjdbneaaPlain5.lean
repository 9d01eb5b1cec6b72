/- Plain words of lanes: a heap of jobs. -/
import Derived.Test.YtgilejknjdbneaaPlain4
namespace Go.Proofs.Ytgilejknjdbneaa
open Go Go.RowKit

structure Job where
  need : Int
  due : Int
  left : Int

namespace Ln
/-- A job is due ahead of another one. -/
def jlt (a b : Job) : Prop := a.due < b.due ∨ a.due = b.due ∧ a.need < b.need
instance (a b : Job) : Decidable (jlt a b) := inferInstanceAs (Decidable (_ ∨ _ ∧ _))
theorem jlt_irrefl (a : Job) : ¬ jlt a a := by unfold jlt; omega
theorem jle_trans {a b c : Job} (h : ¬ jlt b a) (k : ¬ jlt c b) : ¬ jlt c a := by unfold jlt at *; omega
theorem jlt_asymm {a b : Job} (h : jlt a b) : ¬ jlt b a := by unfold jlt at *; omega

def swapped (l : List Job) (i j : Nat) (a b : Job) : List Job := (l.set i b).set j a
theorem swapped_length {l : List Job} {i j : Nat} {a b : Job} : (swapped l i j a b).length = l.length := by simp [swapped]
theorem swapped_perm {l : List Job} {i j : Nat} {a b : Job} (ha : l[i]? = some a) (hb : l[j]? = some b) : (swapped l i j a b).Perm l := by
  obtain ⟨h1, rfl⟩ := List.getElem?_eq_some_iff.1 ha
  obtain ⟨h2, rfl⟩ := List.getElem?_eq_some_iff.1 hb
  exact List.set_set_perm h1 h2
theorem swapped_at {l : List Job} {i j : Nat} {a b : Job} (ha : l[i]? = some a) (hb : l[j]? = some b) (k : Nat) : (swapped l i j a b)[k]? = if k = j then some a else if k = i then some b else l[k]? := by
  have h1 := (List.getElem?_eq_some_iff.1 ha).1
  have h2 := (List.getElem?_eq_some_iff.1 hb).1
  unfold swapped
  by_cases e1 : k = j
  · subst e1; rw [List.getElem?_set_self (by simpa using h2), if_pos rfl]
  · rw [List.getElem?_set_ne (by omega), if_neg e1]
    by_cases e2 : k = i
    · subst e2; rw [List.getElem?_set_self h1, if_pos rfl]
    · rw [List.getElem?_set_ne (by omega), if_neg e2]

/-- Of the first n, each but j is not ahead of its parent. -/
def HeapBut (l : List Job) (n j : Nat) : Prop := ∀ k x y, 0 < k → k < n → k ≠ j → l[k]? = some x → l[(k - 1) / 2]? = some y → ¬ jlt x y
/-- The children of j are not ahead of j's parent. -/
def Over (l : List Job) (n j : Nat) : Prop := ∀ k x y, 0 < k → k < n → (k - 1) / 2 = j → 0 < j → l[k]? = some x → l[(j - 1) / 2]? = some y → ¬ jlt x y
def IsHeap (l : List Job) (n : Nat) : Prop := ∀ k x y, 0 < k → k < n → l[k]? = some x → l[(k - 1) / 2]? = some y → ¬ jlt x y

theorem IsHeap.root {l : List Job} {n : Nat} (h : IsHeap l n) (hn : n ≤ l.length) : ∀ k x r, k < n → l[k]? = some x → l[0]? = some r → ¬ jlt x r := by
  intro k
  induction k using Nat.strongRecOn with
  | _ k ih =>
    intro x r hk hx hr
    rcases Nat.eq_zero_or_pos k with h0 | h0
    · subst h0; rw [hx] at hr; injection hr with hr; subst hr; exact jlt_irrefl _
    · obtain ⟨y, hy⟩ : ∃ y, l[(k - 1) / 2]? = some y := ⟨_, List.getElem?_eq_getElem (by omega)⟩
      exact jle_trans (ih ((k - 1) / 2) (by omega) y r (by omega) hy hr) (h k x y h0 hk hx hy)

/-- sift up: one step. -/
theorem up_step {l : List Job} {n j : Nat} {a b : Job} (hj : 0 < j) (hjn : j < n) (hn : n ≤ l.length) (h1 : HeapBut l n j) (h2 : Over l n j) (ha : l[(j - 1) / 2]? = some a) (hb : l[j]? = some b) (hlt : jlt b a) :
    HeapBut (swapped l ((j - 1) / 2) j a b) n ((j - 1) / 2) ∧ Over (swapped l ((j - 1) / 2) j a b) n ((j - 1) / 2) := by
  have hat := swapped_at ha hb
  constructor
  · intro k x y hk0 hkn hki hx hy
    rw [hat] at hx hy
    by_cases e1 : k = j
    · subst e1
      rw [if_pos rfl] at hx
      rw [if_neg (by omega), if_pos rfl] at hy
      injection hx with hx; injection hy with hy
      subst hx hy
      exact jlt_asymm hlt
    · rw [if_neg e1, if_neg hki] at hx
      by_cases e2 : (k - 1) / 2 = j
      · rw [if_pos e2] at hy
        injection hy with hy
        subst hy
        exact h2 k x a hk0 hkn e2 hj hx ha
      · rw [if_neg e2] at hy
        by_cases e3 : (k - 1) / 2 = (j - 1) / 2
        · rw [if_pos e3] at hy
          injection hy with hy
          subst hy
          have := h1 k x a hk0 hkn e1 hx (by rw [e3]; exact ha)
          unfold jlt at *
          omega
        · rw [if_neg e3] at hy
          exact h1 k x y hk0 hkn e1 hx hy
  · intro k x y hk0 hkn hkp hi0 hx hy
    rw [hat] at hx hy
    have hpar : ∃ z, l[((j - 1) / 2 - 1) / 2]? = some z := ⟨_, List.getElem?_eq_getElem (by omega)⟩
    obtain ⟨z, hz⟩ := hpar
    rw [if_neg (by omega), if_neg (by omega), hz] at hy
    injection hy with hy
    subst hy
    have haz := h1 ((j - 1) / 2) a z hi0 (by omega) (by omega) ha hz
    by_cases e1 : k = j
    · rw [if_pos e1] at hx
      injection hx with hx
      subst hx
      exact haz
    · rw [if_neg e1, if_neg (by omega)] at hx
      have := h1 k x a hk0 hkn e1 hx (by rw [hkp]; exact ha)
      exact jle_trans haz this
theorem up_done {l : List Job} {n j : Nat} (h1 : HeapBut l n j) (h : j = 0 ∨ ∃ a b, l[(j - 1) / 2]? = some a ∧ l[j]? = some b ∧ ¬ jlt b a) : IsHeap l n := by
  intro k x y hk0 hkn hx hy
  by_cases e : k = j
  · rcases h with h | ⟨a, b, ha, hb, hab⟩
    · omega
    · subst e
      rw [hx] at hb; rw [hy] at ha
      injection hb with hb; injection ha with ha
      subst hb ha
      exact hab
  · exact h1 k x y hk0 hkn e hx hy

/-- Of the first n, each but the children of i is not ahead of its parent; and these are not ahead of i's parent. -/
def HeapUnder (l : List Job) (n i : Nat) : Prop :=
  (∀ k x y, 0 < k → k < n → (k - 1) / 2 ≠ i → l[k]? = some x → l[(k - 1) / 2]? = some y → ¬ jlt x y) ∧ Over l n i
theorem down_step {l : List Job} {n i j : Nat} {a b : Job} (hi : (j - 1) / 2 = i) (hj0 : 0 < j) (hjn : j < n) (hn : n ≤ l.length) (h : HeapUnder l n i) (ha : l[i]? = some a) (hb : l[j]? = some b)
    (hmin : ∀ k x, 0 < k → k < n → (k - 1) / 2 = i → l[k]? = some x → ¬ jlt x b) (hlt : jlt b a) : HeapUnder (swapped l i j a b) n j := by
  obtain ⟨h1, h2⟩ := h
  have hat := swapped_at ha hb
  constructor
  · intro k x y hk0 hkn hkp hx hy
    rw [hat] at hx hy
    rw [if_neg hkp] at hy
    by_cases e1 : k = j
    · rw [if_pos e1] at hx
      injection hx with hx; subst hx
      rw [if_pos (by omega)] at hy
      injection hy with hy; subst hy
      exact jlt_asymm hlt
    · rw [if_neg e1] at hx
      by_cases e2 : k = i
      · rw [if_pos e2] at hx
        injection hx with hx; subst hx
        rw [if_neg (by omega)] at hy
        subst e2
        exact h2 j b y hj0 hjn hi hk0 hb hy
      · rw [if_neg e2] at hx
        by_cases e3 : (k - 1) / 2 = i
        · rw [if_pos e3] at hy
          injection hy with hy; subst hy
          exact hmin k x hk0 hkn e3 hx
        · rw [if_neg e3] at hy
          exact h1 k x y hk0 hkn e3 hx hy
  · intro k x y hk0 hkn hkp _ hx hy
    rw [hat] at hx hy
    rw [if_neg (by omega), if_neg (by omega)] at hx
    rw [if_neg (by omega), if_pos hi] at hy
    injection hy with hy; subst hy
    exact h1 k x b hk0 hkn (by omega) hx (by rw [hkp]; exact hb)
theorem down_done {l : List Job} {n i : Nat} {a : Job} (h : HeapUnder l n i) (ha : l[i]? = some a) (hc : ∀ k x, 0 < k → k < n → (k - 1) / 2 = i → l[k]? = some x → ¬ jlt x a) : IsHeap l n := by
  intro k x y hk0 hkn hx hy
  by_cases e : (k - 1) / 2 = i
  · rw [e, ha] at hy
    injection hy with hy; subst hy
    exact hc k x hk0 hkn e hx
  · exact h.1 k x y hk0 hkn e hx hy
end Ln
end Go.Proofs.Ytgilejknjdbneaa
