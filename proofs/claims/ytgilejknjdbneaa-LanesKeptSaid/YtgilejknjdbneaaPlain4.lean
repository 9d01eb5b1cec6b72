/- Plain words of lanes: Flatten. -/
import Derived.Test.YtgilejknjdbneaaPlain2
namespace Go.Proofs.Ytgilejknjdbneaa
open Go Go.RowKit
namespace Ln
/-- Which run is refused, and how. -/
def flatErr (M : Nat) (nd : Bool) : Nat → Nat → List Run → Option (Int × Int)
  | _, _, [] => none
  | i, sum, r :: l => if right M r nd = 0 then (if M < sum + wants M r nd then some (i, 93) else flatErr M nd (i + 1) (sum + wants M r nd) l) else some (i, right M r nd)
def rowRuns (l : List Slot) (rs : List Run) : List Slot := rs.foldl (fun acc r => run acc r.subj r.bud) l
/-- The rest of the frame is nobody's. -/
def fill (M : Nat) (l : List Slot) : List Slot := if 0 < (M : Int) - endOf l then run l ByteArray.empty (M - endOf l) else l
/-- What Flatten answers of a row that is made. -/
def capped (l : List Slot) : List Slot × Int × Int := if 4096 < l.length then ([], -1, 4) else (l, 0, 0)

def UpTo (T : Int) (l : List Slot) : Prop := ∀ x ∈ l, 0 ≤ x.to ∧ x.to ≤ T
theorem upTo_nil (T : Int) : UpTo T [] := fun x h => by simp at h
theorem UpTo.mono {T T' : Int} {l : List Slot} (h : UpTo T l) (hT : T ≤ T') : UpTo T' l := fun x hx => ⟨(h x hx).1, by have := (h x hx).2; omega⟩
theorem UpTo.run {T : Int} {l : List Slot} (h : UpTo T l) (h0 : 0 ≤ T) (s : ByteArray) {t : Int} (ht : 0 ≤ t) : UpTo (T + t) (run l s t) := by
  unfold Ln.run
  split
  · intro x hx
    simp at hx; subst hx
    exact ⟨ht, by simp; omega⟩
  · rename_i y hy
    have hm := List.mem_of_getLast? hy
    have h1 := h y hm
    split
    · intro x hx
      rcases List.mem_append.1 hx with hx | hx
      · have := h x ((List.dropLast_sublist l).subset hx)
        exact ⟨this.1, by omega⟩
      · simp at hx; subst hx
        exact ⟨by simp; omega, by simp; omega⟩
    · intro x hx
      rcases List.mem_append.1 hx with hx | hx
      · have := h x hx
        exact ⟨this.1, by omega⟩
      · simp at hx; subst hx
        exact ⟨by simp; omega, by simp; omega⟩
theorem run_length (l : List Slot) (s : ByteArray) (t : Int) : (run l s t).length ≤ l.length + 1 := by
  unfold Ln.run
  split
  · simp
  · split
    all_goals (simp only [List.length_append, List.length_dropLast, List.length_cons, List.length_nil]; omega)
theorem UpTo.end_ {T : Int} {l : List Slot} (h : UpTo T l) (h0 : 0 ≤ T) : 0 ≤ endOf l ∧ endOf l ≤ T := by
  unfold endOf
  split
  · exact ⟨by omega, h0⟩
  · rename_i y hy
    exact h y (List.mem_of_getLast? hy)
def sumBud (l : List Run) : Nat := l.foldr (fun r n => r.bud + n) 0
theorem flatErr_none {M : Nat} {nd : Bool} {l : List Run} : ∀ {i s : Nat}, flatErr M nd i s l = none → (∀ r ∈ l, right M r nd = 0) ∧ (nd = false → s ≤ M → s + sumBud l ≤ M) := by
  induction l with
  | nil => intro i s _; exact ⟨fun r h => by simp at h, fun _ h => by simpa [sumBud] using h⟩
  | cons r l ih =>
    intro i s h
    simp only [flatErr] at h
    split at h
    · rename_i hr
      split at h
      · simp at h
      · rename_i hs
        obtain ⟨h1, h2⟩ := ih h
        refine ⟨fun x hx => ?_, fun hn hm => ?_⟩
        · rcases List.mem_cons.1 hx with rfl | hx
          · exact hr
          · exact h1 x hx
        · have := h2 hn (by omega)
          subst hn
          simp only [sumBud, List.foldr_cons, wants, Bool.false_eq_true, if_false] at this ⊢
          omega
    · simp at h
theorem sumBud_len {l : List Run} (h : ∀ r ∈ l, 1 ≤ r.bud) : l.length ≤ sumBud l := by
  induction l with
  | nil => simp
  | cons r l ih =>
    have h1 := ih (fun x hx => h x (List.mem_cons_of_mem _ hx))
    have h2 := h r (by simp)
    simp only [sumBud, List.foldr_cons, List.length_cons] at h1 ⊢
    omega
end Ln
end Go.Proofs.Ytgilejknjdbneaa
