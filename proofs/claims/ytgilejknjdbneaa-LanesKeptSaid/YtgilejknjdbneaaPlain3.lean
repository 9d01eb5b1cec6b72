/- Plain words of lanes: At. -/
import Derived.Test.YtgilejknjdbneaaPlain2
namespace Go.Proofs.Ytgilejknjdbneaa
open Go Go.RowKit

structure Stint where
  subj : Int
  ticks : Int

namespace Ln
/-- One call of At's closure: does it go on; end, who, left. -/
def take (M o e who left s t : Int) : Bool × Int × Int × Int :=
  let e' := e + min t (M - e)
  let s' := max s (-1)
  if e' ≤ o then (decide (e' < M), e', who, left)
  else if left = 0 then (decide (e' < M), e', s', e' - max e o)
  else if s' = who then (decide (e' < M), e', who, left + (e' - e))
  else (false, e', who, left)
def atGo (M o : Int) : Int → Int → Int → List Stint → Int × Int
  | e, who, left, [] => let r := take M o e who left (-1) M; (r.2.2.1, r.2.2.2)
  | e, who, left, x :: l =>
    if x.ticks ≤ 0 then atGo M o e who left l
    else
      let r := take M o e who left x.subj x.ticks
      if r.1 then atGo M o r.2.1 r.2.2.1 r.2.2.2 l else (r.2.2.1, r.2.2.2)
/-- At's answer. -/
def at_ (l : List Stint) (M o : Int) : Int × Int := if o < 0 ∨ M ≤ o then (-1, 0) else atGo M o 0 (-1) 0 l

structure AtInv (M o e left : Int) : Prop where
  e0 : 0 ≤ e
  eM : e < M
  l0 : 0 ≤ left
  lM : left ≤ e
  le : left = 0 → e ≤ o
  gt : left ≠ 0 → o < e
theorem take_inv {M o e who left s t : Int} (h : AtInv M o e left) (ho : 0 ≤ o) (ht : 0 < t) :
    (take M o e who left s t).1 = true → AtInv M o (take M o e who left s t).2.1 (take M o e who left s t).2.2.2 := by
  obtain ⟨h1, h2, h3, h4, h5, h6⟩ := h
  unfold take
  simp only
  split
  · intro h; simp at h; exact ⟨by simp; omega, by simp; omega, by simp; omega, by simp; omega, by simp; omega, by simp; omega⟩
  · split
    · intro h; simp at h; exact ⟨by simp; omega, by simp; omega, by simp; omega, by simp; omega, by simp; omega, by simp; omega⟩
    · split
      · intro h; simp at h; exact ⟨by simp; omega, by simp; omega, by simp; omega, by simp; omega, by simp; omega, by simp; omega⟩
      · intro h; simp at h
/-- One call of the closure, as the reference does it. -/
theorem take_on {M o e who left s t : Int} (h : AtInv M o e left) (h0 : left ≠ 0) (hs : max s (-1) = who) (ht : 0 < t) : take M o e who left s t = (decide (e + min t (M - e) < M), e + min t (M - e), who, left + min t (M - e)) := by
  have := h.gt h0
  have := h.eM
  unfold take
  simp only
  rw [if_neg (by omega), if_neg h0, if_pos hs]
  congr 3
  omega
theorem take_off {M o e who left s t : Int} (h : AtInv M o e left) (h0 : left ≠ 0) (hs : max s (-1) ≠ who) (ht : 0 < t) : take M o e who left s t = (false, e + min t (M - e), who, left) := by
  have := h.gt h0
  have := h.eM
  unfold take
  simp only
  rw [if_neg (by omega), if_neg h0, if_neg hs]
theorem take_new {M o e who s t : Int} (h : AtInv M o e 0) (ht : 0 < t) (hn : o < e + min t (M - e)) : take M o e who 0 s t = (decide (e + min t (M - e) < M), e + min t (M - e), max s (-1), e + min t (M - e) - o) := by
  have := h.le rfl
  unfold take
  simp only
  rw [if_neg (by omega), if_pos trivial, show max e o = o by omega]
theorem take_skip {M o e who s t : Int} (hn : ¬ o < e + min t (M - e)) : take M o e who 0 s t = (decide (e + min t (M - e) < M), e + min t (M - e), who, 0) := by
  unfold take
  simp only
  rw [if_pos (by omega)]
end Ln
end Go.Proofs.Ytgilejknjdbneaa
