/- Arrays of numbers in memory of the call's own. -/
import Derived.Test.YtgilejknjdbneaaH7
namespace Go.Proofs.Ytgilejknjdbneaa
open Go.RowKit Go.IntWalk

def kCells (k : IntKind) (n : Nat) (f : Nat → Nat) : List Value := (List.range n).map fun i => Value.int k (f i)
theorem kCells_length (k : IntKind) (n : Nat) (f : Nat → Nat) : (kCells k n f).length = n := by simp [kCells]
theorem kCells_at {k : IntKind} {n i : Nat} {f : Nat → Nat} (h : i < n) : (kCells k n f)[i]? = some (.int k (f i)) := by
  unfold kCells
  rw [List.getElem?_map, List.getElem?_range h]; rfl
theorem kCells_set (k : IntKind) (n i v : Nat) (f : Nat → Nat) : (kCells k n f).set i (.int k v) = kCells k n (Edf.set1 f i v) := by
  apply List.ext_getElem?
  intro j
  rcases Nat.lt_or_ge j n with h | h
  · rw [kCells_at h, List.getElem?_set]
    unfold Edf.set1
    by_cases hij : i = j
    · subst hij; rw [if_pos rfl, if_pos (by rw [kCells_length]; exact h), if_pos rfl]
    · rw [if_neg hij, kCells_at h, if_neg (fun e => hij e.symm)]
  · rw [List.getElem?_eq_none (by rw [List.length_set, kCells_length]; exact h), List.getElem?_eq_none (by rw [kCells_length]; exact h)]
theorem kCells_congr {k : IntKind} {n : Nat} {f f' : Nat → Nat} (h : ∀ i, i < n → f i = f' i) : kCells k n f = kCells k n f' := by
  unfold kCells
  exact List.map_congr_left fun i hi => by rw [h i (by simpa using hi)]
theorem kCells_zero (k : IntKind) (n : Nat) : (madeCells #[Value.int k 0] n).toList = kCells k n (fun _ => 0) := by
  apply List.ext_getElem?
  intro j
  rcases Nat.lt_or_ge j n with h | h
  · rw [kCells_at h]
    simp [madeCells, h, Nat.mod_one]
  · rw [List.getElem?_eq_none (by simp [madeCells]; exact h), List.getElem?_eq_none (by rw [kCells_length]; exact h)]

/-- An array of numbers. -/
def Arr (w : World) (B : Nat) (e : TypeId) (k : IntKind) (g n : Nat) (f : Nat → Nat) : Prop := w.ownsRow B e 1 (.slice (some ⟨g, 0, none⟩) n n) n (kCells k n f)
namespace Arr
variable {w w' : World} {B : Nat} {e : TypeId} {k : IntKind} {g n : Nat} {f f' : Nat → Nat}
theorem cell (h : Arr w B e k g n f) {i : Nat} (hi : i < n) : w.cell? ⟨g, i, none⟩ = some (.int k (f i)) := by
  have hadd : ∀ j, (⟨g, 0, none⟩ : Addr).add j = ⟨g, j, none⟩ := fun j => by unfold Addr.add; split <;> simp_all
  have := World.ownsRow.cells h (g := g) rfl _ _ (kCells_at hi)
  rwa [hadd] at this
theorem frozen (h : Arr w B e k g n f) (i : Nat) : w.frozen? ⟨g, i, none⟩ = false := World.ownsRow.frozenAt h i
theorem set (h : Arr w B e k g n f) (i v : Nat) : Arr (w.setCell ⟨g, i, none⟩ (.int k v)) B e k g n (Edf.set1 f i v) := by
  have := (World.ownsRow.stored h i (.int k v)).1
  rw [kCells_set] at this
  exact this
theorem keep {S : Nat → Prop} (h : Arr w B e k g n f) (hk : Keep S w w') (hS : ¬ S g) : Arr w' B e k g n f := own_keep h hk (fun j hj => by simp [Value.ownBlock] at hj; subst hj; exact hS)
theorem congr (h : Arr w B e k g n f) (hf : ∀ i, i < n → f i = f' i) : Arr w B e k g n f' := by unfold Arr at *; rw [← kCells_congr hf]; exact h
theorem lt (h : Arr w B e k g n f) : g < w.heap.size := (World.ownsRow.lt h g rfl).2
theorem ge (h : Arr w B e k g n f) : B ≤ g := (World.ownsRow.lt h g rfl).1
end Arr
end Go.Proofs.Ytgilejknjdbneaa
