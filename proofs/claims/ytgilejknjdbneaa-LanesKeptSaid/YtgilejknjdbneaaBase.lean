/- Words and small lemmas for the walks. -/
import Derived.Test.YtgilejknjdbneaaProg
import Derived.Test.YtgilejknjdbneaaPlain
import Derived.WalkKit
import Derived.WalkSpells
import Derived.WalkLawsBesides
import Derived.Deep.QuietTactic
import Derived.BigQuiet
import Derived.Lib.Hide
import Derived.Deep.AppendLies
import Derived.Deep.Draws
namespace Go.Proofs.Ytgilejknjdbneaa
open Go.RowKit Go.IntWalk

theorem ret_int {k : IntKind} {a b : Int} (h : a = b) : Ending.returned (.int k a) = .returned (.int k b) := by rw [h]
theorem below_drewN {B : Nat} {a w : World} (h : Below B a w) (n : Nat) : Below B a (w.drewN n) := ⟨h.os, h.tape, h.output, h.size, h.block⟩
def Run.val (r : Run) : Value := .agg #[.int .i64 r.pos, .string r.subj, .int .u64 r.bud, .int .u64 r.per]


theorem bcell {W w1 : World} (hb : Below W.heap.size W w1) : (∀ b o, b < W.heap.size → w1.cell? ⟨b, o, none⟩ = W.cell? ⟨b, o, none⟩) ∧ (∀ b o, b < W.heap.size → w1.frozen? ⟨b, o, none⟩ = W.frozen? ⟨b, o, none⟩) :=
  ⟨fun b o h => hb.cell (p := ⟨b, o, none⟩) h, fun b o h => hb.frozen (p := ⟨b, o, none⟩) h⟩

/-- The slice value at A, n long, reads as these runs. -/
def RunsAt (w : World) (A : Option Addr) (xs : List Run) : Prop :=
  0 < xs.length → ∃ b off, A = some ⟨b, off, none⟩ ∧ b < w.heap.size ∧ ∀ i r, xs[i]? = some r →
    w.cell? ⟨b, off + i * 4, none⟩ = some (.int .i64 r.pos) ∧ w.cell? ⟨b, off + i * 4 + 1, none⟩ = some (.string r.subj) ∧
    w.cell? ⟨b, off + i * 4 + 2, none⟩ = some (.int .u64 r.bud) ∧ w.cell? ⟨b, off + i * 4 + 3, none⟩ = some (.int .u64 r.per)

theorem RunsAt.below {w w' : World} {A : Option Addr} {xs : List Run} {B : Nat} (h : RunsAt w A xs) (hb : Below B w w') (hB : w.heap.size ≤ B) : RunsAt w' A xs := by
  intro hn
  obtain ⟨b, off, e, hlt, hc⟩ := h hn
  refine ⟨b, off, e, Nat.lt_of_lt_of_le hlt hb.size, fun i r hr => ?_⟩
  obtain ⟨c0, c1, c2, c3⟩ := hc i r hr
  have hk : ∀ o, w'.cell? ⟨b, o, none⟩ = w.cell? ⟨b, o, none⟩ := fun o => hb.cell (p := ⟨b, o, none⟩) (by simp; omega)
  exact ⟨(hk _).trans c0, (hk _).trans c1, (hk _).trans c2, (hk _).trans c3⟩


theorem bytes_ext {a b : ByteArray} (h : a.toList = b.toList) : a = b := by
  rw [ByteArray.toList_eq, ByteArray.toList_eq] at h
  obtain ⟨⟨x⟩⟩ := a
  obtain ⟨⟨y⟩⟩ := b
  simp only at h
  subst h
  rfl
theorem bytes_ne {a b : ByteArray} (h : a ≠ b) : (a.toList == b.toList) = false := by
  rw [beq_eq_false_iff_ne]
  exact fun e => h (bytes_ext e)
theorem bytes_beq (a b : ByteArray) : (a.toList == b.toList) = decide (a = b) := by
  by_cases h : a = b
  · subst h; simp
  · rw [bytes_ne h]; simp [h]

def Slot.cells (s : Slot) : List Value := [.string s.subj, .int .i64 s.from_, .int .i64 s.to]
def slotCells (l : List Slot) : List Value := l.flatMap Slot.cells

theorem slotCells_length (l : List Slot) : (slotCells l).length = l.length * 3 := by
  induction l with
  | nil => rfl
  | cons s l ih => simp only [slotCells, List.flatMap_cons, List.length_append, List.length_cons] at ih ⊢; rw [ih]; simp [Slot.cells]; omega
theorem slotCells_append (l m : List Slot) : slotCells (l ++ m) = slotCells l ++ slotCells m := by simp [slotCells]
theorem slotCells_at {l : List Slot} {i : Nat} {s : Slot} (h : l[i]? = some s) :
    (slotCells l)[i * 3]? = some (.string s.subj) ∧ (slotCells l)[i * 3 + 1]? = some (.int .i64 s.from_) ∧ (slotCells l)[i * 3 + 2]? = some (.int .i64 s.to) := by
  induction l generalizing i with
  | nil => simp at h
  | cons x l ih =>
    cases i with
    | zero => simp at h; subst h; simp [slotCells, Slot.cells]
    | succ i =>
      have := ih (i := i) (by simpa using h)
      have e : ∀ j, (slotCells (x :: l))[(i + 1) * 3 + j]? = (slotCells l)[i * 3 + j]? := fun j => by
        simp only [slotCells, List.flatMap_cons]
        rw [List.getElem?_append_right (by simp [Slot.cells]; omega)]
        congr 1
        simp [Slot.cells]; omega
      exact ⟨(e 0).trans this.1, (e 1).trans this.2.1, (e 2).trans this.2.2⟩

theorem Try.info33 : (Try.prog.info? 33).map (fun i => (i.zero, i.size, i.bytes)) = some (some (.agg #[.string ByteArray.empty, .int .i64 0, .int .i64 0]), 3, 32) := by kernel_rfl

/-- Only the blocks in S, and new ones, have turned. -/
structure Keep (S : Nat → Prop) (w w' : World) : Prop where
  os : w'.os = w.os
  tape : w'.tape = w.tape
  output : w'.output = w.output
  size : w.heap.size ≤ w'.heap.size
  block : ∀ k, k < w.heap.size → ¬ S k → w'.heap[k]? = w.heap[k]?

namespace Keep
variable {S T : Nat → Prop} {a b c w w' : World}
theorem refl (S : Nat → Prop) (w : World) : Keep S w w := ⟨rfl, rfl, rfl, Nat.le_refl _, fun _ _ _ => rfl⟩
theorem trans (h : Keep S a b) (k : Keep T b c) (hT : ∀ i, i < a.heap.size → T i → S i) : Keep S a c :=
  ⟨k.os.trans h.os, k.tape.trans h.tape, k.output.trans h.output, Nat.le_trans h.size k.size, fun i hi hs => (k.block i (Nat.lt_of_lt_of_le hi h.size) (fun ht => hs (hT i hi ht))).trans (h.block i hi hs)⟩
theorem mono (h : Keep S a b) (hS : ∀ i, i < a.heap.size → S i → T i) : Keep T a b := ⟨h.os, h.tape, h.output, h.size, fun i hi hs => h.block i hi (fun x => hs (hS i hi x))⟩
theorem alloc (h : Keep S a w) (o : Obj) : Keep S a (w.alloc o) :=
  ⟨h.os, h.tape, h.output, Nat.le_trans h.size (by simp), fun i hi hs => (Below.heap_alloc w o i (Nat.lt_of_lt_of_le hi h.size)).trans (h.block i hi hs)⟩
theorem drew (h : Keep S a w) : Keep S a w.drew := ⟨h.os, h.tape, h.output, h.size, h.block⟩
theorem drewN (h : Keep S a w) (n : Nat) : Keep S a (w.drewN n) := ⟨h.os, h.tape, h.output, h.size, h.block⟩
theorem setCell (h : Keep S a w) {p : Addr} (hp : p.block < a.heap.size → S p.block) (u : Value) : Keep S a (w.setCell p u) :=
  ⟨h.os, h.tape, h.output, by simpa [World.setCell] using h.size, fun i hi hs => (Below.heap_setCell w p u i (by rintro rfl; exact hs (hp hi))).trans (h.block i hi hs)⟩
theorem of_below {B : Nat} (h : Below B a w) (hS : ∀ i, i < a.heap.size → B ≤ i → S i) : Keep S a w := ⟨h.os, h.tape, h.output, h.size, fun i hi hs => h.block i (Nat.lt_of_not_le fun hb => hs (hS i hi hb))⟩
theorem of_grown {row : Option Nat} (h : a.grownBy w row) (hS : ∀ k, row = some k → S k) : Keep S a w := ⟨h.os, h.tape, h.output, h.size, fun i hi hs => h.block i hi (fun e => hs (hS i e.symm))⟩
theorem below (h : Keep S a w) {B : Nat} (hB : B ≤ a.heap.size) (hS : ∀ i, i < B → ¬ S i) : Below B a w := ⟨h.os, h.tape, h.output, h.size, fun i hi => h.block i (Nat.lt_of_lt_of_le hi hB) (hS i hi)⟩
theorem cell (h : Keep S a w) {p : Addr} (hlt : p.block < a.heap.size) (hp : ¬ S p.block) : w.cell? p = a.cell? p := World.cell?_of_block (h.block _ hlt hp)
theorem frozen (h : Keep S a w) {p : Addr} (hlt : p.block < a.heap.size) (hp : ¬ S p.block) : w.frozen? p = a.frozen? p := World.frozen?_of_block (h.block _ hlt hp)
end Keep

/-- A variable of one cell. -/
def Var (w : World) (b : Nat) (t : TypeId) (v : Value) : Prop := w.heap[b]? = some (.cells #[v] t (0, 0))
theorem Var.lt {w : World} {b : Nat} {t : TypeId} {v : Value} (h : Var w b t v) : b < w.heap.size := (Array.getElem?_eq_some_iff.1 h).1
theorem Var.cell {w : World} {b : Nat} {t : TypeId} {v : Value} (h : Var w b t v) : w.cell? ⟨b, 0, none⟩ = some v := cell_of_one h
theorem Var.frozen {w : World} {b : Nat} {t : TypeId} {v : Value} (h : Var w b t v) : w.frozen? ⟨b, 0, none⟩ = false := free_of_one h
theorem Var.keep {S : Nat → Prop} {w w' : World} {b : Nat} {t : TypeId} {v : Value} (h : Var w b t v) (hk : Keep S w w') (hS : ¬ S b) : Var w' b t v := (hk.block b h.lt hS).trans h
theorem Var.set_ {w : World} {b : Nat} {t : TypeId} {v : Value} (h : Var w b t v) (u : Value) : Var (w.setCell ⟨b, 0, none⟩ u) b t u := by
  unfold Var at h ⊢
  simp [World.setCell, Array.getElem?_modify, h]


/-- The slice value at A reads as these slots. -/
def SlotsAt (w : World) (A : Option Addr) (xs : List Slot) : Prop :=
  0 < xs.length → ∃ b off, A = some ⟨b, off, none⟩ ∧ b < w.heap.size ∧ ∀ i s, xs[i]? = some s →
    w.cell? ⟨b, off + i * 3, none⟩ = some (.string s.subj) ∧ w.cell? ⟨b, off + i * 3 + 1, none⟩ = some (.int .i64 s.from_) ∧
    w.cell? ⟨b, off + i * 3 + 2, none⟩ = some (.int .i64 s.to)

theorem SlotsAt.below {w w' : World} {A : Option Addr} {xs : List Slot} {B : Nat} (h : SlotsAt w A xs) (hb : Below B w w') (hB : w.heap.size ≤ B) : SlotsAt w' A xs := by
  intro hn
  obtain ⟨b, off, e, hlt, hc⟩ := h hn
  refine ⟨b, off, e, Nat.lt_of_lt_of_le hlt hb.size, fun i r hr => ?_⟩
  obtain ⟨c0, c1, c2⟩ := hc i r hr
  have hk : ∀ o, w'.cell? ⟨b, o, none⟩ = w.cell? ⟨b, o, none⟩ := fun o => hb.cell (p := ⟨b, o, none⟩) (by simp; omega)
  exact ⟨(hk _).trans c0, (hk _).trans c1, (hk _).trans c2⟩

end Go.Proofs.Ytgilejknjdbneaa
