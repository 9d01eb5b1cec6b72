/- Arguments opened: a list of numbers. -/
import Derived.Test.YtgilejknjdbneaaOpen3
import Derived.Test.YtgilejknjdbneaaLawBest
import Derived.ChangeSlices
namespace Go.Proofs.Ytgilejknjdbneaa
open Go.ChangeShapes Go.WideShapes Go.ChangeAt Go.RowKit Go.Deep Go.Joins

theorem ints_open {H : Type} {enc : TypeId × Value → H} {W : World} {base : Nat} {A : Option Addr} {n c : Nat} {d : DataW H} {p : List MemPlace} (h : DataW.Trod enc Try.prog W base (fun _ => true) true 54 (.slice A n c) d p) :
    ∃ xs : List Int, xs.length = n ∧ IntsAt W A xs ∧ True ∧ (n = 0 ∨ ∃ el sp, d = .slice el sp ∧ el.length = n) := by
  obtain ⟨fuel, hf⟩ := h
  rcases open_ints Try.underlying54 Try.underlying3 (by kernel_rfl) (by simpa [Value.cells] using hf) with ⟨hcs, hx⟩ | ⟨a, len, cap, zs, hcs, hb, hl, hm, hzl, hx, hc, hw⟩
  · simp at hcs
    obtain ⟨rfl, rfl, rfl⟩ := hcs
    exact ⟨[], rfl, fun h => by simp at h, trivial, .inl rfl⟩
  · simp at hcs
    obtain ⟨rfl, rfl, rfl⟩ := hcs
    simp only [if_true] at hzl
    refine ⟨zs.take n, by rw [List.length_take]; omega, fun hpos => ?_, trivial, .inr ⟨_, _, (Prod.mk.inj hx).1, by simp [lits]; omega⟩⟩
    have hn0 : 0 < zs.length := by rw [List.length_take] at hpos; omega
    obtain ⟨b, off, rfl, hbl, hadd⟩ := spot_none (by simpa using hc 0 hn0)
    refine ⟨b, off, rfl, hbl, fun i x hx => ?_⟩
    have hi : i < n := by have := (List.getElem?_eq_some_iff.1 hx).1; rw [List.length_take] at this; omega
    rw [List.getElem?_take_of_lt hi] at hx
    have h1 := hc i (by omega)
    rw [hadd, List.getD_eq_getElem?_getD, hx] at h1
    exact h1
end Go.Proofs.Ytgilejknjdbneaa
