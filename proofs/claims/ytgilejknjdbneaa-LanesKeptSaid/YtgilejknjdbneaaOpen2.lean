/- Arguments opened: slices of slots and of runs. Written by gen_open.py. -/
import Derived.Test.YtgilejknjdbneaaOpen
namespace Go.Proofs.Ytgilejknjdbneaa
open Go.ChangeShapes Go.WideShapes Go.ChangeAt Go.RowKit Go.Deep

theorem slots_open_cells {H : Type} {enc : TypeId × Value → H} {W : World} {base : Nat} {A : Option Addr} {n c fuel : Nat} {x : DataW H × List MemPlace} (hf : DataW.trod enc Try.prog W base (fun _ => true) true fuel 22 [.slice A n c] = some x) :
    ∃ xs : List Slot, xs.length = n ∧ SlotsAt W A xs ∧ (∀ s ∈ xs, s.subj.size ≤ maxLen ∧ (-9223372036854775808 ≤ s.from_ ∧ s.from_ ≤ 9223372036854775807) ∧ (-9223372036854775808 ≤ s.to ∧ s.to ≤ 9223372036854775807)) ∧ (n = 0 ∨ ∃ el sp, x.1 = .slice el sp ∧ el.length = n) := by
  rcases open_slice_fields Try.underlying22 Try.underlying33 (by kernel_rfl) (by kernel_rfl) hf with ⟨hcs, hx⟩ | ⟨a, len, cap, m, D, Pl, hcs, _, hl, hm, hmm, hx, hi⟩
  · simp at hcs
    obtain ⟨rfl, rfl, rfl⟩ := hcs
    exact ⟨[], rfl, fun h => by simp at h, fun s h => by simp at h, .inl rfl⟩
  · simp at hcs
    obtain ⟨rfl, rfl, rfl⟩ := hcs
    simp only [if_true] at hmm
    obtain ⟨xs, hxl, hq⟩ := list_of (Q := fun i (s : Slot) => (W.cell? (a.add (i * 3)) = some (.string s.subj) ∧ W.cell? (a.add (i * 3 + 1)) = some (.int .i64 s.from_) ∧ W.cell? (a.add (i * 3 + 2)) = some (.int .i64 s.to)) ∧ s.subj.size ≤ maxLen ∧ (Lit.int .i64 s.from_).wf = true ∧ (Lit.int .i64 s.to).wf = true) n (fun i hin => by
      obtain ⟨ys, nf, _, _, _, hfld⟩ := hi i (by omega)
      obtain ⟨v0, y0, hc0, _, ht0⟩ := hfld 0 _ rfl
      obtain ⟨n0, e0, _, w0⟩ := DataW.trod_string Try.underlying9 ht0
      obtain ⟨v1, y1, hc1, _, ht1⟩ := hfld 1 _ rfl
      obtain ⟨n1, e1, _, w1⟩ := DataW.trod_int Try.underlying3 ht1
      obtain ⟨v2, y2, hc2, _, ht2⟩ := hfld 2 _ rfl
      obtain ⟨n2, e2, _, w2⟩ := DataW.trod_int Try.underlying3 ht2
      simp at e0 e1 e2
      subst e0 e1 e2
      exact ⟨⟨n0, n1, n2⟩, ⟨hc0, hc1, hc2⟩, w0, w1, w2⟩)
    refine ⟨xs, hxl, fun hpos => ?_, fun s hs => ?_, ?_⟩
    · obtain ⟨s0, hs0⟩ : ∃ s, xs[0]? = some s := ⟨xs[0], List.getElem?_eq_getElem hpos⟩
      obtain ⟨b, off, rfl, hb, hadd⟩ := spot_none (by simpa using (hq 0 s0 hs0).1.1)
      refine ⟨b, off, rfl, hb, fun i s hs => ?_⟩
      obtain ⟨⟨h0, h1, h2⟩, _⟩ := hq i s hs
      rw [hadd] at h0 h1 h2
      exact ⟨h0, by rw [Nat.add_assoc]; exact h1, by rw [Nat.add_assoc]; exact h2⟩
    · obtain ⟨i, hi⟩ := List.getElem?_of_mem hs
      obtain ⟨_, h0, h1, h2⟩ := hq i s hi
      exact ⟨h0, bounds_i64 h1, bounds_i64 h2⟩
    · skip
      exact .inr ⟨_, _, by rw [hx], by simp⟩

theorem slots_open {H : Type} {enc : TypeId × Value → H} {W : World} {base : Nat} {A : Option Addr} {n c : Nat} {d : DataW H} {p : List MemPlace} (h : DataW.Trod enc Try.prog W base (fun _ => true) true 22 (.slice A n c) d p) :
    ∃ xs : List Slot, xs.length = n ∧ SlotsAt W A xs ∧ (∀ s ∈ xs, s.subj.size ≤ maxLen ∧ (-9223372036854775808 ≤ s.from_ ∧ s.from_ ≤ 9223372036854775807) ∧ (-9223372036854775808 ≤ s.to ∧ s.to ≤ 9223372036854775807)) ∧ (n = 0 ∨ ∃ el sp, d = .slice el sp ∧ el.length = n) := by
  obtain ⟨fuel, hf⟩ := h
  exact slots_open_cells (by simpa [Value.cells] using hf)

theorem runs_open_cells {H : Type} {enc : TypeId × Value → H} {W : World} {base : Nat} {A : Option Addr} {n c fuel : Nat} {x : DataW H × List MemPlace} (hf : DataW.trod enc Try.prog W base (fun _ => true) true fuel 29 [.slice A n c] = some x) :
    ∃ xs : List Run, xs.length = n ∧ RunsAt W A xs ∧ (∀ s ∈ xs, (-9223372036854775808 ≤ s.pos ∧ s.pos ≤ 9223372036854775807) ∧ s.subj.size ≤ maxLen ∧ s.bud < 18446744073709551616 ∧ s.per < 18446744073709551616) ∧ (n = 0 ∨ ∃ el sp, x.1 = .slice el sp ∧ el.length = n) := by
  rcases open_slice_fields Try.underlying29 Try.underlying28 (by kernel_rfl) (by kernel_rfl) hf with ⟨hcs, hx⟩ | ⟨a, len, cap, m, D, Pl, hcs, _, hl, hm, hmm, hx, hi⟩
  · simp at hcs
    obtain ⟨rfl, rfl, rfl⟩ := hcs
    exact ⟨[], rfl, fun h => by simp at h, fun s h => by simp at h, .inl rfl⟩
  · simp at hcs
    obtain ⟨rfl, rfl, rfl⟩ := hcs
    simp only [if_true] at hmm
    obtain ⟨xs, hxl, hq⟩ := list_of (Q := fun i (s : Run) => (W.cell? (a.add (i * 4)) = some (.int .i64 s.pos) ∧ W.cell? (a.add (i * 4 + 1)) = some (.string s.subj) ∧ W.cell? (a.add (i * 4 + 2)) = some (.int .u64 s.bud) ∧ W.cell? (a.add (i * 4 + 3)) = some (.int .u64 s.per)) ∧ (Lit.int .i64 s.pos).wf = true ∧ s.subj.size ≤ maxLen ∧ (Lit.int .u64 (s.bud : Int)).wf = true ∧ (Lit.int .u64 (s.per : Int)).wf = true) n (fun i hin => by
      obtain ⟨ys, nf, _, _, _, hfld⟩ := hi i (by omega)
      obtain ⟨v0, y0, hc0, _, ht0⟩ := hfld 0 _ rfl
      obtain ⟨n0, e0, _, w0⟩ := DataW.trod_int Try.underlying3 ht0
      obtain ⟨v1, y1, hc1, _, ht1⟩ := hfld 1 _ rfl
      obtain ⟨n1, e1, _, w1⟩ := DataW.trod_string Try.underlying9 ht1
      obtain ⟨v2, y2, hc2, _, ht2⟩ := hfld 2 _ rfl
      obtain ⟨n2, e2, _, w2⟩ := DataW.trod_int Try.underlying26 ht2
      obtain ⟨v3, y3, hc3, _, ht3⟩ := hfld 3 _ rfl
      obtain ⟨n3, e3, _, w3⟩ := DataW.trod_int Try.underlying26 ht3
      simp at e0 e1 e2 e3
      subst e0 e1 e2 e3
      obtain ⟨m2, rfl⟩ : ∃ m : Nat, n2 = (m : Int) := ⟨n2.toNat, by have := (bounds_u64 w2).1; omega⟩
      obtain ⟨m3, rfl⟩ : ∃ m : Nat, n3 = (m : Int) := ⟨n3.toNat, by have := (bounds_u64 w3).1; omega⟩
      exact ⟨⟨n0, n1, m2, m3⟩, ⟨hc0, hc1, hc2, hc3⟩, w0, w1, w2, w3⟩)
    refine ⟨xs, hxl, fun hpos => ?_, fun s hs => ?_, ?_⟩
    · obtain ⟨s0, hs0⟩ : ∃ s, xs[0]? = some s := ⟨xs[0], List.getElem?_eq_getElem hpos⟩
      obtain ⟨b, off, rfl, hb, hadd⟩ := spot_none (by simpa using (hq 0 s0 hs0).1.1)
      refine ⟨b, off, rfl, hb, fun i s hs => ?_⟩
      obtain ⟨⟨h0, h1, h2, h3⟩, _⟩ := hq i s hs
      rw [hadd] at h0 h1 h2 h3
      exact ⟨h0, by rw [Nat.add_assoc]; exact h1, by rw [Nat.add_assoc]; exact h2, by rw [Nat.add_assoc]; exact h3⟩
    · obtain ⟨i, hi⟩ := List.getElem?_of_mem hs
      obtain ⟨_, h0, h1, h2, h3⟩ := hq i s hi
      exact ⟨bounds_i64 h0, h1, by have := (bounds_u64 h2).2; omega, by have := (bounds_u64 h3).2; omega⟩
    · skip
      exact .inr ⟨_, _, by rw [hx], by simp⟩

theorem runs_open {H : Type} {enc : TypeId × Value → H} {W : World} {base : Nat} {A : Option Addr} {n c : Nat} {d : DataW H} {p : List MemPlace} (h : DataW.Trod enc Try.prog W base (fun _ => true) true 29 (.slice A n c) d p) :
    ∃ xs : List Run, xs.length = n ∧ RunsAt W A xs ∧ (∀ s ∈ xs, (-9223372036854775808 ≤ s.pos ∧ s.pos ≤ 9223372036854775807) ∧ s.subj.size ≤ maxLen ∧ s.bud < 18446744073709551616 ∧ s.per < 18446744073709551616) ∧ (n = 0 ∨ ∃ el sp, d = .slice el sp ∧ el.length = n) := by
  obtain ⟨fuel, hf⟩ := h
  exact runs_open_cells (by simpa [Value.cells] using hf)

end Go.Proofs.Ytgilejknjdbneaa
