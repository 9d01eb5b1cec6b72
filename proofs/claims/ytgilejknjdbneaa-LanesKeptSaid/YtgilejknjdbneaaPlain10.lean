/- Earliest due first with two heaps: what a round of the great loop leaves. -/
import Derived.Test.YtgilejknjdbneaaPlain9
namespace Go.Proofs.Ytgilejknjdbneaa
open Go Go.RowKit
namespace Ln
/-- What the needs of a list say, by their number. -/
def nP (xs : List Run) (i : Nat) : Nat := match xs[i]? with | some r => r.per | none => 1
def nB (xs : List Run) (i : Nat) : Nat := match xs[i]? with | some r => r.bud | none => 1
def nS (xs : List Run) (i : Nat) : ByteArray := match xs[i]? with | some r => r.subj | none => ByteArray.empty
theorem nP_at {xs : List Run} {i : Nat} {r : Run} (h : xs[i]? = some r) : nP xs i = r.per := by unfold nP; rw [h]
theorem nB_at {xs : List Run} {i : Nat} {r : Run} (h : xs[i]? = some r) : nB xs i = r.bud := by unfold nB; rw [h]
theorem nS_at {xs : List Run} {i : Nat} {r : Run} (h : xs[i]? = some r) : nS xs i = r.subj := by unfold nS; rw [h]
/-- Earliest due first's row, t ticks long. -/
def edf (xs : List Run) (t : Nat) : List Slot := rowFrom [] (Edf.ticks xs.length (nP xs) (nB xs) (nS xs) t)
theorem upTo_ticks (ts : List ByteArray) : ∀ {l : List Slot} {T : Nat}, UpTo T l → UpTo (T + ts.length) (rowFrom l ts) ∧ (rowFrom l ts).length ≤ l.length + ts.length := by
  induction ts with
  | nil => intro l T h; exact ⟨h, Nat.le_refl _⟩
  | cons s ts ih =>
    intro l T h
    have h1 := h.run (by omega) s (t := 1) (by decide)
    obtain ⟨h2, h3⟩ := ih (T := T + 1) (by simpa using h1)
    have h4 := run_length l s 1
    refine ⟨?_, ?_⟩
    · have e : (T : Int) + ((s :: ts).length : Nat) = ((T + 1 : Nat) : Int) + (ts.length : Nat) := by simp; omega
      rw [e]; exact h2
    · have : (rowFrom l (s :: ts)) = rowFrom (run l s 1) ts := rfl
      rw [this]; simp; omega
end Ln
namespace Edf
open Ln
variable {n : Nat} {p b : Nat → Nat}
theorem st_le : ∀ (t i : Nat), st n p b t i ≤ b i := by
  intro t
  induction t with
  | zero => intro i; exact Nat.zero_le _
  | succ t ih =>
    intro i
    have h1 : rel p b t (st n p b t) i ≤ b i := by
      unfold rel
      split
      · exact Nat.le_refl _
      · exact ih i
    show dec (rel p b t (st n p b t)) _ i ≤ b i
    unfold dec
    split <;> omega
theorem rel_le (t i : Nat) : rel p b t (st n p b t) i ≤ b i := by
  unfold rel
  split
  · exact Nat.le_refl _
  · exact st_le t i
theorem AfterInv.busy (hf : Fits n p b) (hp : ∀ i, i < n → 1 ≤ p i) {t : Nat} {wl nl : List Job} {x : Job} (h : AfterInv n p b t wl nl) (hh : IsHeap wl wl.length) (hx : wl[0]? = some x) :
    ∃ k l : Nat, k < n ∧ 0 < l ∧ l ≤ b k ∧ x = ⟨k, due p t k, l⟩ ∧ ∀ c : Nat, 1 ≤ c → c ≤ l → (∀ i, i < n → t + c ≤ due p t i) → (∀ s, s < c → who n p b (t + s) = some k) ∧
      (c < l → HeadInv n p b (t + c) (wl.set 0 ⟨k, due p t k, l - c⟩) nl) ∧ (c = l → ∀ wl', (wl' ++ [⟨k, due p t k, 0⟩]).Perm (wl.set 0 ⟨k, due p t k, 0⟩) → HeadInv n p b (t + c) wl' nl) := by
  obtain ⟨k, hk, hk0, rfl, hpick⟩ := wait_root h.wait hh hx
  refine ⟨k, _, hk, hk0, rel_le t k, rfl, fun c hc1 hcl hu => ?_⟩
  have hb := batch hp hpick hcl hu
  obtain ⟨hst, _⟩ := hb c (Nat.le_refl _)
  have hst := hst hc1
  have hdel := jobsOf_del (L := rel p b t (st n p b t)) (D := due p t) hk hk0
  refine ⟨fun s hs => (hb s (by omega)).2 hs, fun hlt => ?_, fun heq wl' hw' => ?_⟩
  · obtain ⟨tl, h1, h2⟩ := set_root (r' := ⟨k, due p t k, ((rel p b t (st n p b t) k : Nat) : Int) - c⟩) hx
    rw [h2]
    refine head_next hf hp (by omega) hu ?_ h.next
    have h3 : tl.Perm (jobsOf (set1 (rel p b t (st n p b t)) k 0) (due p t) n) := by
      have := h.wait.trans hdel
      rw [h1] at this
      exact (List.perm_cons _).1 this
    have h4 := jobsOf_add (L := set1 (rel p b t (st n p b t)) k 0) (D := due p t) (k := k) (v := rel p b t (st n p b t) k - c) (by simp [set1]) (by omega) hk
    have e : (((rel p b t (st n p b t) k - c : Nat) : Int)) = ((rel p b t (st n p b t) k : Nat) : Int) - c := by omega
    rw [e] at h4
    rw [jobsOf_congr (L' := set1 (set1 (rel p b t (st n p b t)) k 0) k (rel p b t (st n p b t) k - c)) (D' := due p t) (fun i hi => ?_) (fun _ _ _ => rfl)]
    · exact (h3.cons _).trans h4.symm
    · rw [hst i hi]; unfold set1; split <;> rfl
  · obtain ⟨tl, h1, h2⟩ := set_root (r' := ⟨k, due p t k, 0⟩) hx
    rw [h2] at hw'
    refine head_next hf hp (by omega) hu ?_ h.next
    have h3 : tl.Perm (jobsOf (set1 (rel p b t (st n p b t)) k 0) (due p t) n) := by
      have := h.wait.trans hdel
      rw [h1] at this
      exact (List.perm_cons _).1 this
    have h4 : wl'.Perm tl := (List.perm_cons _).1 ((List.perm_append_singleton _ _).symm.trans hw')
    rw [jobsOf_congr (L' := set1 (rel p b t (st n p b t)) k 0) (D' := due p t) (fun i hi => ?_) (fun _ _ _ => rfl)]
    · exact h4.trans h3
    · rw [hst i hi]
      unfold set1
      split
      · omega
      · rfl
theorem AfterInv.idle (hf : Fits n p b) (hp : ∀ i, i < n → 1 ≤ p i) {t : Nat} {wl nl : List Job} (h : AfterInv n p b t wl nl) (hw : wl.length = 0) {c : Nat} (hc : 1 ≤ c) (hu : ∀ i, i < n → t + c ≤ due p t i) :
    (∀ s, s < c → who n p b (t + s) = none) ∧ HeadInv n p b (t + c) wl nl := by
  obtain rfl := List.eq_nil_of_length_eq_zero hw
  have h0 : ∀ i, i < n → rel p b t (st n p b t) i = 0 := fun i hi => by
    rcases Nat.eq_zero_or_pos (rel p b t (st n p b t) i) with h1 | h1
    · exact h1
    · have := h.wait.mem_iff.2 (jobsOf_mem.2 ⟨i, hi, h1, rfl⟩)
      simp at this
  have hi := Edf.idle hp h0 hu
  refine ⟨fun s hs => (hi s (by omega)).2 hs, head_next hf hp (by omega) hu ?_ h.next⟩
  have hst := (hi c (Nat.le_refl _)).1 hc
  have e : jobsOf (st n p b (t + c)) (due p t) n = [] := by
    rcases hj : jobsOf (st n p b (t + c)) (due p t) n with _ | ⟨x, l⟩
    · rfl
    · obtain ⟨i, hi, h1, _⟩ := jobsOf_mem.1 (show x ∈ jobsOf (st n p b (t + c)) (due p t) n by rw [hj]; simp)
      have := hst i hi
      omega
  rw [e]
/-- When the next release is. -/
theorem AfterInv.until (hp : ∀ i, i < n → 1 ≤ p i) {t : Nat} {wl nl : List Job} {r : Job} (h : AfterInv n p b t wl nl) (hh : IsHeap nl nl.length) (hr : nl[0]? = some r) :
    ∃ u : Nat, r.due = u ∧ t < u ∧ ∀ i, i < n → u ≤ due p t i := by
  obtain ⟨k, hk, rfl, hmin⟩ := next_root h.next hh hr
  exact ⟨due p t k, rfl, due_gt (hp k hk), hmin⟩
end Edf
end Go.Proofs.Ytgilejknjdbneaa
