/- Arguments opened: slices of structs. -/
import Derived.Test.YtgilejknjdbneaaBase
import Derived.Test.YtgilejknjdbneaaU2
import Derived.ProofKit
import Derived.SizedLaws
import Derived.Deep.Slices
import Derived.Deep.Fields
import Derived.ChangeSame
import Derived.ChangeOld
namespace Go.Proofs.Ytgilejknjdbneaa
open Go.ChangeShapes Go.WideShapes Go.ChangeAt Go.RowKit Go.Deep

section
variable {H : Type} {enc : TypeId × Value → H} {P : Program} {w : World} {base : Nat} {spare : Nat → Bool} {held : Bool}
theorem open_slice_fields {t e : TypeId} {fs : Array Field} {fuel : Nat} {cs : List Value} {x : DataW H × List MemPlace} (ht : P.underlying t = some (.slice e)) (he : P.underlying e = some (.struct fs))
    (hone : oneCellFields P fs = true) (hC : P.cellsOf e = fs.size) (h : DataW.trod enc P w base spare held fuel t cs = some x) :
    (cs = [.slice none 0 0] ∧ x = (.nil, [])) ∨
    ∃ (a : Addr) (len cap m : Nat) (D : Nat → DataW H) (Pl : Nat → List MemPlace), cs = [.slice (some a) len cap] ∧ base ≤ a.block ∧ len ≤ cap ∧ cap ≤ maxLen ∧ m = (if spare a.block then cap else len) ∧
      x = (.slice ((List.range len).map D) ((List.range (m - len)).map fun j => D (len + j)), MemPlace.row a (m * fs.size) ++ (List.range m).flatMap Pl) ∧
      ∀ i, i < m → ∃ (ys : List (DataW H × List MemPlace)) (n : Nat), D i = .agg (ys.map (·.1)) ∧ Pl i = ys.flatMap (·.2) ∧ ys.length = fs.size ∧
        ∀ (j : Nat) (f : Field), fs[j]? = some f → ∃ (v : Value) (y : DataW H × List MemPlace), w.cell? (a.add (i * fs.size + j)) = some v ∧ ys[j]? = some y ∧ DataW.trod enc P w base spare held n f.type [v] = some y := by
  rcases open_slice ht h with h0 | ⟨a, len, cap, m, n, D, Pl, hcs, hb, hl, hm, hmm, hx, hi⟩
  · exact .inl h0
  · refine .inr ⟨a, len, cap, m, D, Pl, hcs, hb, hl, hm, hmm, by rw [hC] at hx; exact hx, fun i him => ?_⟩
    obtain ⟨cs', hc, ht'⟩ := hi i him
    rw [hC] at hc
    obtain ⟨ys, n', hn', hy, hlen, hyl, hf⟩ := DataW.trod_struct he ht'
    obtain ⟨_, hcl, hat⟩ := World.cells?_some hc
    simp only [Prod.mk.injEq] at hy
    refine ⟨ys, n', hy.1, hy.2, hyl, fun j f hj => ?_⟩
    obtain ⟨ho, hk⟩ := hone_of hone j f hj
    have hjl : j < fs.size := (Array.getElem?_eq_some_iff.1 hj).1
    have hcell := hat j hjl
    have hv : cs'[j]? = some (cs'[j]'(by omega)) := List.getElem?_eq_getElem (by omega)
    have h1 := hf j f hj
    rw [ho, hk] at h1
    have hone' : (cs'.drop j).take 1 = [cs'[j]'(by omega)] := by
      rw [List.drop_eq_getElem_cons (by omega)]
      rfl
    rw [hone'] at h1
    have hys : ys[j]? = some (ys[j]'(by omega)) := List.getElem?_eq_getElem (by omega)
    refine ⟨_, _, ?_, hys, h1.trans hys⟩
    rw [← Go.Deep.add_add, hcell, hv]
end

theorem list_of {α : Type} {Q : Nat → α → Prop} : ∀ (n : Nat), (∀ i, i < n → ∃ s, Q i s) → ∃ xs : List α, xs.length = n ∧ ∀ i s, xs[i]? = some s → Q i s := by
  intro n
  induction n with
  | zero => intro _; exact ⟨[], rfl, fun i s h => by simp at h⟩
  | succ n ih =>
    intro h
    obtain ⟨xs, hl, hq⟩ := ih (fun i hi => h i (by omega))
    obtain ⟨s, hs⟩ := h n (by omega)
    refine ⟨xs ++ [s], by simp [hl], fun i t ht => ?_⟩
    rcases Nat.lt_or_ge i xs.length with hi | hi
    · rw [List.getElem?_append_left hi] at ht
      exact hq i t ht
    · rw [List.getElem?_append_right hi] at ht
      have h0 : i - xs.length = 0 := by
        rcases Nat.eq_zero_or_pos (i - xs.length) with h0 | h0
        · exact h0
        · rw [List.getElem?_eq_none (by simp; omega)] at ht; simp at ht
      rw [h0] at ht
      simp at ht
      subst ht
      have : i = n := by omega
      subst this
      exact hs

theorem bounds_i64 {n : Int} (h : (Lit.int .i64 n).wf = true) : -9223372036854775808 ≤ n ∧ n ≤ 9223372036854775807 := by
  have h1 : IntKind.i64.min = -9223372036854775808 := rfl
  have h2 : IntKind.i64.max = 9223372036854775807 := rfl
  simp only [Lit.wf, Bool.and_eq_true, decide_eq_true_eq] at h
  omega
theorem bounds_u64 {n : Int} (h : (Lit.int .u64 n).wf = true) : 0 ≤ n ∧ n ≤ 18446744073709551615 := by
  have h1 : IntKind.u64.min = 0 := rfl
  have h2 : IntKind.u64.max = 18446744073709551615 := rfl
  simp only [Lit.wf, Bool.and_eq_true, decide_eq_true_eq] at h
  omega

theorem spot_none {W : World} {a : Addr} {v : Value} (h : W.cell? (a.add 0) = some v) : ∃ b off, a = ⟨b, off, none⟩ ∧ b < W.heap.size ∧ ∀ j, a.add j = ⟨b, off + j, none⟩ := by
  obtain ⟨b, off, spot⟩ := a
  have hadd : ∀ j, (⟨b, off, none⟩ : Addr).add j = ⟨b, off + j, none⟩ := fun j => by unfold Addr.add; split <;> simp_all
  have hs : spot = none := by simpa [Addr.add] using World.cell?_spot h
  subst hs
  refine ⟨b, off, rfl, ?_, hadd⟩
  rw [hadd] at h
  exact World.block_lt_of_cell? W ⟨b, off + 0, none⟩ h

section
variable {H : Type} {enc : TypeId × Value → H} {W : World} {base : Nat} {spare : Nat → Bool} {held : Bool}
theorem stints_open {A : Option Addr} {n c : Nat} {d : DataW H} {p : List MemPlace} (h : DataW.Trod enc Try.prog W base (fun _ => true) true 44 (.slice A n c) d p) :
    ∃ xs : List Stint, xs.length = n ∧ StintsAt W A xs ∧ (∀ s ∈ xs, (-9223372036854775808 ≤ s.subj ∧ s.subj ≤ 9223372036854775807) ∧ s.ticks ≤ 9223372036854775807) ∧ (n = 0 ∨ ∃ el sp, d = .slice el sp ∧ el.length = n) := by
  obtain ⟨fuel, hf⟩ := h
  rcases open_slice_fields Try.underlying44 Try.underlying47 (by kernel_rfl) (by kernel_rfl) hf with ⟨hcs, hx⟩ | ⟨a, len, cap, m, D, Pl, hcs, _, hl, hm, hmm, hx, hi⟩
  · simp [Value.cells] at hcs
    obtain ⟨rfl, rfl, rfl⟩ := hcs
    exact ⟨[], rfl, fun h => by simp at h, fun s h => by simp at h, .inl rfl⟩
  · simp [Value.cells] at hcs
    obtain ⟨rfl, rfl, rfl⟩ := hcs
    simp only [if_true] at hmm
    obtain ⟨xs, hxl, hq⟩ := list_of (Q := fun i (s : Stint) => W.cell? (a.add (i * 2)) = some (.int .i64 s.subj) ∧ W.cell? (a.add (i * 2 + 1)) = some (.int .i64 s.ticks) ∧ (Lit.int .i64 s.subj).wf = true ∧ (Lit.int .i64 s.ticks).wf = true) n (fun i hin => by
      obtain ⟨ys, nf, _, _, _, hfld⟩ := hi i (by omega)
      obtain ⟨v0, y0, hc0, _, ht0⟩ := hfld 0 _ rfl
      obtain ⟨v1, y1, hc1, _, ht1⟩ := hfld 1 _ rfl
      obtain ⟨n0, e0, _, w0⟩ := DataW.trod_int Try.underlying3 ht0
      obtain ⟨n1, e1, _, w1⟩ := DataW.trod_int Try.underlying3 ht1
      simp at e0 e1
      subst e0 e1
      exact ⟨⟨n0, n1⟩, hc0, hc1, w0, w1⟩)
    refine ⟨xs, hxl, fun hpos => ?_, fun s hs => ?_, ?_⟩
    · obtain ⟨s0, hs0⟩ : ∃ s, xs[0]? = some s := ⟨xs[0], List.getElem?_eq_getElem hpos⟩
      obtain ⟨b, off, rfl, hb, hadd⟩ := spot_none (by simpa using (hq 0 s0 hs0).1)
      refine ⟨b, off, rfl, hb, fun i s hs => ?_⟩
      obtain ⟨h1, h2, _⟩ := hq i s hs
      rw [hadd] at h1 h2
      exact ⟨h1, by rw [Nat.add_assoc]; exact h2⟩
    · obtain ⟨i, hi⟩ := List.getElem?_of_mem hs
      obtain ⟨_, _, h3, h4⟩ := hq i s hi
      exact ⟨bounds_i64 h3, (bounds_i64 h4).2⟩
    · simp only [Prod.mk.injEq] at hx
      exact .inr ⟨_, _, hx.1, by simp⟩
end

end Go.Proofs.Ytgilejknjdbneaa
