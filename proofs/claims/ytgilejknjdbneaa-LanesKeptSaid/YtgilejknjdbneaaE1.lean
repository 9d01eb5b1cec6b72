/- Earliest due first: small facts for the walk. -/
import Derived.Test.YtgilejknjdbneaaH7
import Derived.Test.YtgilejknjdbneaaPlain10
namespace Go.Proofs.Ytgilejknjdbneaa
open Go.RowKit Go.IntWalk

theorem HeapAt.set_cell {w : World} {P g n c : Nat} {l : List Job} {r r' : Job} (h : HeapAt w P (.slice (some ⟨g, 0, none⟩) n c) l) (hr : l[0]? = some r) (hn : n = l.length) {i : Nat} {d : Int}
    (he : (i = 1 ∧ r' = ⟨r.need, d, r.left⟩) ∨ (i = 2 ∧ r' = ⟨r.need, r.due, d⟩)) :
    HeapAt (w.setCell ⟨g, i, none⟩ (.int .i64 d)) P (.slice (some ⟨g, 0, none⟩) n c) (l.set 0 r') ∧ Keep (fun k => k = g) w (w.setCell ⟨g, i, none⟩ (.int .i64 d)) := by
  have hk : Keep (fun k => k = g) w (w.setCell ⟨g, i, none⟩ (.int .i64 d)) := (Keep.refl (fun k => k = g) w).setCell (fun _ => rfl) _
  have hne : ¬ P = g := by have := h.ne; simp [Value.ownBlock] at this; exact fun e => this e.symm
  refine ⟨⟨h.var.keep hk hne, ?_⟩, hk⟩
  have ho := h.own
  rw [← hn] at ho
  have hs := (ho.stored i (.int .i64 d)).1
  obtain ⟨tl, h1, h2⟩ := Edf.set_root (r' := r') hr
  rw [List.length_set, ← hn, h2]
  rw [h1] at hs
  rcases he with ⟨rfl, rfl⟩ | ⟨rfl, rfl⟩ <;> simpa [jobCells, Job.cells] using hs

/-- The memory at the start. -/
theorem ESt.start (w : World) (p PW PN gw gn : Nat) (wo : World) (hp : p = w.heap.size) (hgw : gw = p + 1) (hPW : PW = p + 2) (hgn : gn = p + 3) (hPN : PN = p + 4)
    (hwo : wo = (((((w.alloc (Obj.cells #[Value.slice none 0 0] 74)).alloc (Obj.cells #[] 96)).alloc (Obj.cells #[Value.slice (some ⟨gw, 0, none⟩) 0 0] 93)).alloc (Obj.cells #[] 96)).alloc (Obj.cells #[Value.slice (some ⟨gn, 0, none⟩) 0 0] 93))) :
    ESt w.heap.size w wo p PW PN (.slice none 0 0) (.slice (some ⟨gw, 0, none⟩) 0 0) (.slice (some ⟨gn, 0, none⟩) 0 0) [] [] [] := by
  subst hp hgw hPW hgn hPN
  have b0 : ∀ (w : World) (o : Obj), (w.alloc o).heap[w.heap.size]? = some o := fun w o => heap_alloc_new w o
  have keep : ∀ {w : World} {k : Nat} {o : Obj} (o' : Obj), w.heap[k]? = some o → (w.alloc o').heap[k]? = some o := fun {w k o} o' h => by
    have hk := (Array.getElem?_eq_some_iff.1 h).1
    rw [Below.heap_alloc w o' k hk]; exact h
  have s1 : ∀ (w : World) (o : Obj), (w.alloc o).heap.size = w.heap.size + 1 := fun w o => by simp
  have e0 : wo.heap[w.heap.size]? = some (Obj.cells #[Value.slice none 0 0] 74) := by subst hwo; exact keep _ (keep _ (keep _ (keep _ (b0 _ _))))
  have e1 : wo.heap[w.heap.size + 1]? = some (Obj.cells #[] 96) := by
    subst hwo; refine keep _ (keep _ (keep _ ?_)); have := b0 (w.alloc (Obj.cells #[Value.slice none 0 0] 74)) (Obj.cells #[] 96); rwa [s1] at this
  have e2 : wo.heap[w.heap.size + 2]? = some (Obj.cells #[Value.slice (some ⟨w.heap.size + 1, 0, none⟩) 0 0] 93) := by
    subst hwo; refine keep _ (keep _ ?_); have := b0 ((w.alloc (Obj.cells #[Value.slice none 0 0] 74)).alloc (Obj.cells #[] 96)) (Obj.cells #[Value.slice (some ⟨w.heap.size + 1, 0, none⟩) 0 0] 93); simpa only [s1] using this
  have e3 : wo.heap[w.heap.size + 3]? = some (Obj.cells #[] 96) := by
    subst hwo; refine keep _ ?_; have := b0 (((w.alloc (Obj.cells #[Value.slice none 0 0] 74)).alloc (Obj.cells #[] 96)).alloc (Obj.cells #[Value.slice (some ⟨w.heap.size + 1, 0, none⟩) 0 0] 93)) (Obj.cells #[] 96); simpa only [s1] using this
  have e4 : wo.heap[w.heap.size + 4]? = some (Obj.cells #[Value.slice (some ⟨w.heap.size + 3, 0, none⟩) 0 0] 93) := by
    subst hwo; have := b0 ((((w.alloc (Obj.cells #[Value.slice none 0 0] 74)).alloc (Obj.cells #[] 96)).alloc (Obj.cells #[Value.slice (some ⟨w.heap.size + 1, 0, none⟩) 0 0] 93)).alloc (Obj.cells #[] 96)) (Obj.cells #[Value.slice (some ⟨w.heap.size + 3, 0, none⟩) 0 0] 93); simpa only [s1] using this
  have hb : Below w.heap.size w wo := by
    subst hwo
    refine ((((((Below.refl _ _).alloc ?_ _).alloc ?_ _).alloc ?_ _).alloc ?_ _).alloc ?_ _) <;> simp <;> omega
  have ho : ∀ g, wo.heap[g]? = some (Obj.cells #[] 96) → wo.ownsRow 0 96 3 (.slice (some ⟨g, 0, none⟩) 0 0) 0 (jobCells []) := fun g hg =>
    ⟨rfl, .inr ⟨g, 0, #[], rfl, by omega, hg, by omega, by omega, rfl, rfl⟩⟩
  refine ⟨e0, World.ownsRow_nil _ _ _ _, ⟨e2, ho _ e1⟩, ⟨e4, ho _ e3⟩, by omega, ?_, by omega, by omega, by omega, ?_, ?_, hb⟩
  · intro k hk h; simp [Value.ownBlock] at hk h; omega
  · intro k hk; simp [Value.ownBlock] at hk; omega
  · intro k hk; simp [Value.ownBlock] at hk; omega
theorem HeapAt.slice {w : World} {P : Nat} {v : Value} {l : List Job} (h : HeapAt w P v l) : ∃ A c, v = .slice A l.length c := by
  rcases h.own.2 with ⟨h, h2⟩ | ⟨g, cap, cur, h, _⟩
  · exact ⟨none, 0, by rw [h, h2]⟩
  · exact ⟨_, _, h⟩
theorem HeapAt.root {w : World} {P g n c : Nat} {l : List Job} {r : Job} (h : HeapAt w P (.slice (some ⟨g, 0, none⟩) n c) l) (hn : l.length = n) (hr : l[0]? = some r) :
    w.cell? ⟨g, 0, none⟩ = some (.int .i64 r.need) ∧ w.cell? ⟨g, 1, none⟩ = some (.int .i64 r.due) ∧ w.cell? ⟨g, 2, none⟩ = some (.int .i64 r.left) := by
  have ho := h.own
  rw [hn] at ho
  have := own_cells ho hr
  simpa using this
theorem own_base_low {w : World} {base base' : Nat} {e : TypeId} {size : Nat} {v : Value} {n : Nat} {xs : List Value} (h : w.ownsRow base e size v n xs) (hb : base' ≤ base) : w.ownsRow base' e size v n xs := by
  refine ⟨h.1, ?_⟩
  rcases h.2 with h1 | ⟨g, cap, cur, h1, h2, h3⟩
  · exact .inl h1
  · exact .inr ⟨g, cap, cur, h1, Nat.le_trans hb h2, h3⟩
end Go.Proofs.Ytgilejknjdbneaa
