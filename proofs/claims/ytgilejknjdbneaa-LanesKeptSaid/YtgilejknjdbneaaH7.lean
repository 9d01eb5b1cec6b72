/- The memory of earliest: a row and two heaps. -/
import Derived.Test.YtgilejknjdbneaaH6
import Derived.Test.YtgilejknjdbneaaT3
import Derived.Test.YtgilejknjdbneaaPlain9
namespace Go.Proofs.Ytgilejknjdbneaa
open Go.RowKit Go.IntWalk

/-- The element type of a block of cells. -/
def tyAt (w : World) (k : Nat) : Option TypeId := match w.heap[k]? with | some (.cells _ t _) => some t | _ => none
theorem Var.ty {w : World} {b : Nat} {t : TypeId} {v : Value} (h : Var w b t v) : tyAt w b = some t := by unfold tyAt; unfold Var at h; rw [h]
theorem own_ty {w : World} {B : Nat} {e : TypeId} {size : Nat} {v : Value} {n : Nat} {xs : List Value} (h : w.ownsRow B e size v n xs) {k : Nat} (hk : v.ownBlock = some k) : tyAt w k = some e ∧ B ≤ k ∧ k < w.heap.size := by
  rcases h.2 with ⟨rfl, _⟩ | ⟨g, cap, cur, rfl, hB, hh, _⟩
  · simp [Value.ownBlock] at hk
  · have : g = k := by simpa [Value.ownBlock] using hk
    subst this
    exact ⟨by unfold tyAt; rw [hh], hB, (Array.getElem?_eq_some_iff.1 hh).1⟩
theorem own_keep {S : Nat → Prop} {w w' : World} {B : Nat} {e : TypeId} {size : Nat} {v : Value} {n : Nat} {xs : List Value} (h : w.ownsRow B e size v n xs) (hk : Keep S w w') (hS : ∀ k, v.ownBlock = some k → ¬ S k) : w'.ownsRow B e size v n xs := by
  refine ⟨h.1, ?_⟩
  rcases h.2 with h1 | ⟨g, cap, cur, rfl, hB, hh, h3⟩
  · exact .inl h1
  · exact .inr ⟨g, cap, cur, rfl, hB, by rw [hk.block g (Array.getElem?_eq_some_iff.1 hh).1 (hS g rfl)]; exact hh, h3⟩
theorem HeapAt.keep {S : Nat → Prop} {w w' : World} {P : Nat} {v : Value} {l : List Job} (h : HeapAt w P v l) (hk : Keep S w w') (hP : ¬ S P) (hv : ∀ k, v.ownBlock = some k → ¬ S k) : HeapAt w' P v l :=
  ⟨h.var.keep hk hP, own_keep h.own hk hv⟩

structure ESt (z : Nat) (w0 w : World) (p PW PN : Nat) (rv vw vn : Value) (rows : List Slot) (wl nl : List Job) : Prop where
  vp : Var w p 74 rv
  row : w.ownsRow (p + 1) 33 3 rv rows.length (slotCells rows)
  wait : HeapAt w PW vw wl
  next : HeapAt w PN vn nl
  nePP : PW ≠ PN
  ne : ∀ k, vw.ownBlock = some k → vn.ownBlock ≠ some k
  lowp : z ≤ p
  loww : z ≤ PW
  lown : z ≤ PN
  lww : ∀ k, vw.ownBlock = some k → z ≤ k
  lnn : ∀ k, vn.ownBlock = some k → z ≤ k
  below : Below z w0 w

namespace ESt
variable {z : Nat} {w0 w w' : World} {p PW PN : Nat} {rv vw vn rv' vw' vn' : Value} {rows rows' : List Slot} {wl nl wl' nl' : List Job}
theorem onNext (h : ESt z w0 w p PW PN rv vw vn rows wl nl) (hz : z ≤ w.heap.size) (hk : Keep (fun k => k = PN ∨ vn.ownBlock = some k) w w') (hn : HeapAt w' PN vn' nl') (ho : vn'.ownBlock = vn.ownBlock ∨ ∃ k, vn'.ownBlock = some k ∧ w.heap.size ≤ k) :
    ESt z w0 w' p PW PN rv vw vn' rows wl nl' := by
  have t1 := h.vp.ty
  have t2 := h.wait.var.ty
  have t3 := h.next.var.ty
  have t4 := fun k hk => (own_ty h.row (k := k) hk).1
  have t5 := fun k hk => (own_ty h.wait.own (k := k) hk)
  have t6 := fun k hk => (own_ty h.next.own (k := k) hk).1
  refine ⟨h.vp.keep hk ?_, own_keep h.row hk ?_, h.wait.keep hk ?_ ?_, hn, h.nePP, ?_, h.lowp, h.loww, h.lown, h.lww, ?_, h.below.trans (hk.below hz ?_)⟩
  · rintro (e | e)
    · subst e; rw [t1] at t3; simp at t3
    · have := t6 _ e; rw [t1] at this; simp at this
  · rintro k hk' (e | e)
    · subst e; have := t4 _ hk'; rw [t3] at this; simp at this
    · have := t4 _ hk'; have h2 := t6 _ e; rw [this] at h2; simp at h2
  · rintro (e | e)
    · exact h.nePP e
    · have := t6 _ e; rw [t2] at this; simp at this
  · rintro k hk' (e | e)
    · subst e; have := (t5 _ hk').1; rw [t3] at this; simp at this
    · exact h.ne k hk' e
  · intro k hk'
    rcases ho with e | ⟨q, e, hq⟩
    · rw [e]; exact h.ne k hk'
    · rw [e]
      have := (t5 k hk').2.2
      intro h; injection h with h; omega
  · intro k hk'
    rcases ho with e | ⟨q, e, hq⟩
    · rw [e] at hk'; exact h.lnn k hk'
    · rw [e] at hk'; injection hk' with hk'; omega
  · rintro i hi (e | e)
    · have := h.lown; omega
    · have := h.lnn i e; omega
theorem onWait (h : ESt z w0 w p PW PN rv vw vn rows wl nl) (hz : z ≤ w.heap.size) (hk : Keep (fun k => k = PW ∨ vw.ownBlock = some k) w w') (hn : HeapAt w' PW vw' wl') (ho : vw'.ownBlock = vw.ownBlock ∨ ∃ k, vw'.ownBlock = some k ∧ w.heap.size ≤ k) :
    ESt z w0 w' p PW PN rv vw' vn rows wl' nl := by
  have t1 := h.vp.ty
  have t2 := h.wait.var.ty
  have t3 := h.next.var.ty
  have t4 := fun k hk => (own_ty h.row (k := k) hk).1
  have t5 := fun k hk => (own_ty h.wait.own (k := k) hk)
  have t6 := fun k hk => (own_ty h.next.own (k := k) hk)
  refine ⟨h.vp.keep hk ?_, own_keep h.row hk ?_, hn, h.next.keep hk ?_ ?_, h.nePP, ?_, h.lowp, h.loww, h.lown, ?_, h.lnn, h.below.trans (hk.below hz ?_)⟩
  · rintro (e | e)
    · subst e; rw [t1] at t2; simp at t2
    · have := (t5 _ e).1; rw [t1] at this; simp at this
  · rintro k hk' (e | e)
    · subst e; have := t4 _ hk'; rw [t2] at this; simp at this
    · have := t4 _ hk'; have h2 := (t5 _ e).1; rw [this] at h2; simp at h2
  · rintro (e | e)
    · exact h.nePP e.symm
    · have := (t5 _ e).1; rw [t3] at this; simp at this
  · rintro k hk' (e | e)
    · subst e; have := (t6 _ hk').1; rw [t2] at this; simp at this
    · exact h.ne k e hk'
  · intro k hk' hk2
    rcases ho with e | ⟨q, e, hq⟩
    · rw [e] at hk'; exact h.ne k hk' hk2
    · rw [e] at hk'
      have := (t6 k hk2).2.2
      injection hk' with h; omega
  · intro k hk'
    rcases ho with e | ⟨q, e, hq⟩
    · rw [e] at hk'; exact h.lww k hk'
    · rw [e] at hk'; injection hk' with hk'; omega
  · rintro i hi (e | e)
    · have := h.loww; omega
    · have := h.lww i e; omega
theorem onRow (h : ESt z w0 w p PW PN rv vw vn rows wl nl) (hz : z ≤ w.heap.size) (hk : Keep (fun k => k = p ∨ rv.ownBlock = some k) w w') (hv : Var w' p 74 rv') (hr : w'.ownsRow (p + 1) 33 3 rv' rows'.length (slotCells rows')) :
    ESt z w0 w' p PW PN rv' vw vn rows' wl nl := by
  have t1 := h.vp.ty
  have t2 := h.wait.var.ty
  have t3 := h.next.var.ty
  have t4 := fun k hk => (own_ty h.row (k := k) hk)
  have t5 := fun k hk => (own_ty h.wait.own (k := k) hk)
  have t6 := fun k hk => (own_ty h.next.own (k := k) hk)
  refine ⟨hv, hr, h.wait.keep hk ?_ ?_, h.next.keep hk ?_ ?_, h.nePP, h.ne, h.lowp, h.loww, h.lown, h.lww, h.lnn, h.below.trans (hk.below hz ?_)⟩
  · rintro (e | e)
    · subst e; rw [t1] at t2; simp at t2
    · have := (t4 _ e).1; rw [t2] at this; simp at this
  · rintro k hk' (e | e)
    · subst e; have := (t5 _ hk').1; rw [t1] at this; simp at this
    · have := (t5 _ hk').1; have h2 := (t4 _ e).1; rw [this] at h2; simp at h2
  · rintro (e | e)
    · subst e; rw [t1] at t3; simp at t3
    · have := (t4 _ e).1; rw [t3] at this; simp at this
  · rintro k hk' (e | e)
    · subst e; have := (t6 _ hk').1; rw [t1] at this; simp at this
    · have := (t6 _ hk').1; have h2 := (t4 _ e).1; rw [this] at h2; simp at h2
  · rintro i hi (e | e)
    · have := h.lowp; omega
    · have := (t4 _ e).2.1; have := h.lowp; omega
theorem alloc (h : ESt z w0 w p PW PN rv vw vn rows wl nl) (hz : z ≤ w.heap.size) (o : Obj) : ESt z w0 (w.alloc o) p PW PN rv vw vn rows wl nl := by
  have hk : Keep (fun _ => False) w (w.alloc o) := (Keep.refl _ _).alloc _
  exact ⟨h.vp.keep hk (by simp), own_keep h.row hk (by simp), h.wait.keep hk (by simp) (by simp), h.next.keep hk (by simp) (by simp), h.nePP, h.ne, h.lowp, h.loww, h.lown, h.lww, h.lnn, h.below.alloc hz _⟩
theorem keepN (h : ESt z w0 w p PW PN rv vw vn rows wl nl) (hz : z ≤ w.heap.size) (hk : Keep (fun _ => False) w w') : ESt z w0 w' p PW PN rv vw vn rows wl nl :=
  ⟨h.vp.keep hk (by simp), own_keep h.row hk (by simp), h.wait.keep hk (by simp) (by simp), h.next.keep hk (by simp) (by simp), h.nePP, h.ne, h.lowp, h.loww, h.lown, h.lww, h.lnn, h.below.trans (hk.below hz (by simp))⟩
theorem size (h : ESt z w0 w p PW PN rv vw vn rows wl nl) : z ≤ w.heap.size := by have := h.vp.lt; have := h.lowp; omega
end ESt

end Go.Proofs.Ytgilejknjdbneaa
