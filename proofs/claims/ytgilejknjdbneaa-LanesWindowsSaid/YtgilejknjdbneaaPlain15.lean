/- Any frame's worth of ticks has each subject's budget. -/
import Derived.Test.YtgilejknjdbneaaPlain14
namespace Go.Proofs.Ytgilejknjdbneaa
open Go Go.RowKit
namespace Ln
theorem budget_snoc (s : ByteArray) (x : Slot) (l : List Slot) : ∀ n, budget s n (l ++ [x]) = budget s n l + part s x := by
  induction l with
  | nil => intro n; rfl
  | cons y l ih => intro n; exact ih _
/-- How many of the first t ticks are the subject's. -/
def tally (ts : List ByteArray) (s : ByteArray) (t : Nat) : Nat := Edf.sumTo t fun o => if ts[o]? = some s then 1 else 0
theorem budget_tally (nm : ByteArray) {ts : List ByteArray} (hl : ts.length ≤ 65536) : ∀ t, t ≤ ts.length → budget nm 0 (rowFrom [] (ts.take t)) = (tally ts nm t : Int) := by
  intro t
  induction t with
  | zero => intro _; rfl
  | succ t ih =>
    intro ht
    have hi := ih (by omega)
    have hs : ts[t]? = some (ts[t]'(by omega)) := List.getElem?_eq_getElem (by omega)
    generalize ts[t]'(by omega) = s at hs
    have hrun : rowFrom [] (ts.take (t + 1)) = run (rowFrom [] (ts.take t)) s 1 := by
      obtain ⟨h1, h2⟩ := List.getElem?_eq_some_iff.1 hs
      rw [← List.take_append_getElem h1, h2, rowFrom_append]; rfl
    have htal : tally ts nm (t + 1) = tally ts nm t + if s = nm then 1 else 0 := by
      have : tally ts nm (t + 1) = tally ts nm t + if ts[t]? = some nm then 1 else 0 := rfl
      rw [this, hs]
      simp only [Option.some.injEq]
    have hg := good_rowFrom (ts.take t)
    have hup := (upTo_ticks (ts.take t) (upTo_nil (0 : Nat))).1
    have htl : (ts.take t).length = t := by rw [List.length_take]; omega
    rw [htl] at hup
    have hlast := hg.last
    rw [htl] at hlast
    rw [hrun, htal]
    rcases snoc_of (rowFrom [] (ts.take t)) with h0 | ⟨m, x, h0⟩
    · rw [h0] at hlast hi
      have ht0 : (0 : Int) = t := hlast
      rw [h0, run_nil]
      have e : budget nm 0 [⟨s, 0, 1⟩] = 0 + part nm ⟨s, 0, 1⟩ := rfl
      have e0 : budget nm 0 ([] : List Slot) = 0 := rfl
      rw [e0] at hi
      rw [e]
      unfold part
      by_cases hsn : s = nm
      · rw [if_pos ⟨hsn, by simp, by simp, by simp⟩, if_pos hsn]; simp; omega
      · rw [if_neg (fun h => hsn h.1), if_neg hsn]; simp; omega
    · rw [h0, lastTo_snoc] at hlast
      have hc := hg.chain
      rw [h0] at hc
      obtain ⟨_, c2, c3, _⟩ := chainD_snoc.1 hc
      have hf0 : 0 ≤ x.from_ := by
        rw [c2]
        rcases snoc_of m with hm | ⟨m', z, hm⟩
        · rw [hm]; exact Int.le_refl _
        · rw [hm, lastTo_snoc]
          exact (hup z (by rw [h0, hm]; simp)).1
      rw [h0, budget_snoc] at hi
      rw [h0, run_snoc]
      have hpx : part nm x = if x.subj = nm then x.to - x.from_ else 0 := by
        unfold part
        by_cases hsn : x.subj = nm
        · rw [if_pos ⟨hsn, hf0, c3, by omega⟩, if_pos hsn]
        · rw [if_neg (fun h => hsn h.1), if_neg hsn]
      rw [hpx] at hi
      by_cases hxs : x.subj = s
      · rw [if_pos hxs, budget_snoc]
        have hp2 : part nm ⟨x.subj, x.from_, x.to + 1⟩ = if x.subj = nm then x.to + 1 - x.from_ else 0 := by
          unfold part
          by_cases hsn : x.subj = nm
          · rw [if_pos ⟨hsn, hf0, by simp; omega, by simp; omega⟩, if_pos hsn]
          · rw [if_neg (fun h => hsn h.1), if_neg hsn]
        rw [hp2, ← hxs]
        by_cases hsn : x.subj = nm
        · rw [if_pos hsn] at hi ⊢; rw [if_pos hsn]; omega
        · rw [if_neg hsn] at hi ⊢; rw [if_neg hsn]; omega
      · rw [if_neg hxs, budget_snoc, budget_snoc, hpx]
        have hp2 : part nm ⟨s, x.to, x.to + 1⟩ = if s = nm then 1 else 0 := by
          unfold part
          by_cases hsn : s = nm
          · rw [if_pos ⟨hsn, by simp; omega, by simp; omega, by simp; omega⟩, if_pos hsn]; simp; omega
          · rw [if_neg (fun h => hsn h.1), if_neg hsn]
        rw [hp2]
        by_cases hsn : s = nm
        · rw [if_pos hsn, if_pos hsn]; omega
        · rw [if_neg hsn, if_neg hsn]; omega
theorem budget_row (nm : ByteArray) {ts : List ByteArray} (hl : ts.length ≤ 65536) : budget nm 0 (rowFrom [] ts) = (tally ts nm ts.length : Int) := by
  have := budget_tally nm hl ts.length (Nat.le_refl _)
  rwa [List.take_length] at this
theorem Good.sched_mod {l : List Slot} {ts : List ByteArray} (h : Good l ts) (hl : 0 < ts.length) (t : Nat) {s : ByteArray} (hs : ts[t % ts.length]? = some s) : (sched l (t : Int)).1 = s := by
  have h1 := (h.sched_at hs).1
  rw [← h1]
  unfold sched
  rw [h.len]
  have e : (max (t : Int) 0) % (ts.length : Int) = (max ((t % ts.length : Nat) : Int) 0) % (ts.length : Int) := by
    rw [Int.max_eq_left (by omega), Int.max_eq_left (by omega)]
    have e2 : ((t % ts.length : Nat) : Int) = (t : Int) % (ts.length : Int) := by simp
    rw [e2, Int.emod_emod_of_dvd _ (Int.dvd_refl _)]
  rw [e]
theorem sumTo_shift (h : Nat → Nat) : ∀ M, Edf.sumTo M (fun q => h (q + 1)) + h 0 = Edf.sumTo M h + h M := by
  intro M
  induction M with
  | zero => simp [Edf.sumTo]
  | succ M ih => simp only [Edf.sumTo]; omega
theorem window {M : Nat} (hM : 0 < M) (g : Nat → Nat) : ∀ f, Edf.sumTo M (fun q => g ((f + q) % M)) = Edf.sumTo M g := by
  intro f
  induction f with
  | zero => exact sumTo_congr fun q hq => by rw [Nat.zero_add, Nat.mod_eq_of_lt hq]
  | succ f ih =>
    have h1 := sumTo_shift (fun q => g ((f + q) % M)) M
    simp only [Nat.add_zero] at h1
    have e : g ((f + M) % M) = g (f % M) := by rw [Nat.add_mod_right]
    rw [e] at h1
    rw [← ih]
    have e2 : Edf.sumTo M (fun q => g ((f + 1 + q) % M)) = Edf.sumTo M (fun q => g ((f + (q + 1)) % M)) := sumTo_congr fun q _ => by
      have : f + 1 + q = f + (q + 1) := by omega
      rw [this]
    rw [e2]
    omega
end Ln
end Go.Proofs.Ytgilejknjdbneaa
