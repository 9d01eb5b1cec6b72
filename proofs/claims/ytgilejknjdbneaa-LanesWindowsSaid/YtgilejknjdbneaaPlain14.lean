/- A row of slots that says what ticks say: the slot at a tick; what needs have done. -/
import Derived.Test.YtgilejknjdbneaaPlain13
namespace Go.Proofs.Ytgilejknjdbneaa
open Go Go.RowKit
namespace Ln
theorem Good.cover {l : List Slot} {ts : List ByteArray} (h : Good l ts) {k t : Nat} {y : Slot} {s : ByteArray} (hy : l[k]? = some y) (ht : (t : Int) < y.to) (hb : ∀ (j : Nat) (z : Slot), j < k → l[j]? = some z → z.to ≤ (t : Int)) (hs : ts[t]? = some s) : y.subj = s := by
  obtain ⟨x, hx, x1, x2, x3⟩ := h.tick t s hs
  have h1 := chain_find h.chain.chain hx x1 x2
  have h2 : l.find? (fun s => decide ((t : Int) < s.to)) = some y := find_at (k := k) (fun j z hj hz => by
    have := hb j z hj hz
    simp; omega) hy (by simpa using ht)
  rw [h1] at h2
  injection h2 with h2
  rw [← h2]; exact x3
theorem Good.inside {l : List Slot} {ts : List ByteArray} (h : Good l ts) {t : Nat} {s : ByteArray} (hs : ts[t]? = some s) (hb : ∀ (j : Nat) (z : Slot), l[j]? = some z → z.to ≤ (t : Int)) : False := by
  obtain ⟨x, hx, x1, x2, x3⟩ := h.tick t s hs
  obtain ⟨j, hj⟩ := List.getElem?_of_mem hx
  have := hb j x hj
  omega
theorem edf_name {xs : List Run} {M t : Nat} (h : t < M) : (Edf.ticks xs.length (nP xs) (nB xs) (nS xs) M)[t]? = some (Edf.nameOf (nS xs) (Edf.who xs.length (nP xs) (nB xs) t)) := by
  unfold Edf.ticks
  rw [List.getElem?_map, List.getElem?_range h]; rfl
theorem edf_to {xs : List Run} {M : Nat} : ∀ x ∈ edf xs M, 0 ≤ x.to ∧ x.to ≤ (M : Int) := by
  have := (upTo_ticks (Edf.ticks xs.length (nP xs) (nB xs) (nS xs) M) (upTo_nil (0 : Nat))).1
  rw [Edf.ticks_length] at this
  simpa [edf, UpTo] using this
/-- So many wants of the first runs. -/
theorem sumWants_take {M : Nat} {xs : List Run} {k : Nat} {r : Run} (h : xs[k]? = some r) : sumWants M (xs.take (k + 1)) = sumWants M (xs.take k) + M / r.per * r.bud := by
  rw [List.take_add_one, h, sumWants_append]
  simp [sumWants, wants, Nat.mul_comm]
end Ln
namespace Edf
variable {n : Nat} {p b : Nat → Nat}
/-- What the law's list says at the head of tick t. -/
def DoneAt (n : Nat) (p b : Nat → Nat) (t : Nat) (C : Nat → Nat) : Prop := ∀ i, i < n → (t = 0 ∧ C i = 0) ∨ (0 < t ∧ C i + st n p b t i = b i)
theorem st_add (t i : Nat) : st n p b t i ≤ b i := st_le t i
theorem done_next {t : Nat} {C : Nat → Nat} (h : ∀ i, i < n → C i + rel p b t (st n p b t) i = b i) {o : Option Nat} (ho : o = who n p b t) : DoneAt n p b (t + 1) (fun i => if o = some i then C i + 1 else C i) := fun i hi => by
  refine .inr ⟨by omega, ?_⟩
  have h1 : st n p b (t + 1) i = dec (rel p b t (st n p b t)) (who n p b t) i := rfl
  rw [h1, ← ho]
  have h2 := h i hi
  unfold dec
  by_cases hc : o = some i
  · simp only [if_pos hc]
    obtain ⟨_, h3, _⟩ := pick_some (show pick p t (rel p b t (st n p b t)) n = some i by rw [← hc, ho]; rfl)
    omega
  · simp only [if_neg hc]; exact h2
end Edf
end Go.Proofs.Ytgilejknjdbneaa
