/- The heap of jobs: Len, Less, Swap, Push, Pop. -/
import Derived.Test.YtgilejknjdbneaaH1
import Derived.Test.YtgilejknjdbneaaPlain5
namespace Go.Proofs.Ytgilejknjdbneaa
open Go.RowKit Go.IntWalk

def Job.cells (s : Job) : List Value := [.int .i64 s.need, .int .i64 s.due, .int .i64 s.left]
def jobCells (l : List Job) : List Value := l.flatMap Job.cells
theorem jobCells_length (l : List Job) : (jobCells l).length = l.length * 3 := by
  induction l with
  | nil => rfl
  | cons s l ih => simp only [jobCells, List.flatMap_cons, List.length_append, List.length_cons] at ih ⊢; rw [ih]; simp [Job.cells]; omega
theorem jobCells_append (l m : List Job) : jobCells (l ++ m) = jobCells l ++ jobCells m := by simp [jobCells]
theorem jobCells_at {l : List Job} {i : Nat} {s : Job} (h : l[i]? = some s) :
    (jobCells l)[i * 3]? = some (.int .i64 s.need) ∧ (jobCells l)[i * 3 + 1]? = some (.int .i64 s.due) ∧ (jobCells l)[i * 3 + 2]? = some (.int .i64 s.left) := by
  induction l generalizing i with
  | nil => simp at h
  | cons x l ih =>
    cases i with
    | zero => simp at h; subst h; simp [jobCells, Job.cells]
    | succ i =>
      have := ih (i := i) (by simpa using h)
      have e : ∀ j, (jobCells (x :: l))[(i + 1) * 3 + j]? = (jobCells l)[i * 3 + j]? := fun j => by
        simp only [jobCells, List.flatMap_cons]
        rw [List.getElem?_append_right (by simp [Job.cells]; omega)]
        congr 1
        simp [Job.cells]; omega
      exact ⟨(e 0).trans this.1, (e 1).trans this.2.1, (e 2).trans this.2.2⟩
theorem jobCells_set (l : List Job) (i : Nat) (b : Job) (h : i < l.length) : jobCells (l.set i b) = (((jobCells l).set (i * 3) (.int .i64 b.need)).set (i * 3 + 1) (.int .i64 b.due)).set (i * 3 + 2) (.int .i64 b.left) := by
  induction l generalizing i with
  | nil => simp at h
  | cons x l ih =>
    cases i with
    | zero => simp [jobCells, Job.cells]
    | succ i =>
      have := ih i (by simpa using h)
      have e : ∀ (l : List Value) (j : Nat) (u : Value), (x.cells ++ l).set ((i + 1) * 3 + j) u = x.cells ++ l.set (i * 3 + j) u := fun l j u => by
        rw [List.set_append_right _ _ (by simp [Job.cells]; omega)]
        congr 2
        simp [Job.cells]; omega
      have e0 := fun l u => e l 0 u
      simp only [Nat.add_zero] at e0
      simp only [List.set_cons_succ, jobCells, List.flatMap_cons] at this ⊢
      rw [this, e0, e, e]

theorem Try.info96 : (Try.prog.info? 96).map (fun i => (i.zero, i.size, i.bytes)) = some (some (.agg #[.int .i64 0, .int .i64 0, .int .i64 0]), 3, 24) := by kernel_rfl

theorem len_any (w : World) (A : Option Addr) (n c : Nat) : Calls Try.prog 55 #[.slice A n c] w fun e w' => e = .returned (.int .i64 n) ∧ w = w' := by
  go_enter Try.func55, Try.ntmps55
  go_wp2
  go_ret
  exact ⟨rfl, rfl⟩

/-- The cells of a job in an owned row. -/
theorem own_cells {w : World} {B g n c i : Nat} {l : List Job} {a : Job} (hown : w.ownsRow B 96 3 (.slice (some ⟨g, 0, none⟩) n c) n (jobCells l)) (ha : l[i]? = some a) :
    w.cell? ⟨g, i * 3, none⟩ = some (.int .i64 a.need) ∧ w.cell? ⟨g, i * 3 + 1, none⟩ = some (.int .i64 a.due) ∧ w.cell? ⟨g, i * 3 + 2, none⟩ = some (.int .i64 a.left) := by
  have hadd : ∀ j, (⟨g, 0, none⟩ : Addr).add j = ⟨g, j, none⟩ := fun j => by unfold Addr.add; split <;> simp_all
  obtain ⟨q0, q1, q2⟩ := jobCells_at ha
  have hcs := hown.cells (g := g) rfl
  have c0 := hcs _ _ q0
  have c1 := hcs _ _ q1
  have c2 := hcs _ _ q2
  rw [hadd] at c0 c1 c2
  exact ⟨c0, c1, c2⟩

set_option maxRecDepth 100000 in
set_option maxHeartbeats 1000000 in
theorem less_any (w : World) (g n c i j : Nat) (a b : Job) (l : List Job) (hn : l.length = n) (ha : l[i]? = some a) (hb : l[j]? = some b) (hown : w.ownsRow 0 96 3 (.slice (some ⟨g, 0, none⟩) n c) n (jobCells l)) :
    Calls Try.prog 78 #[.slice (some ⟨g, 0, none⟩) n c, .int .i64 i, .int .i64 j] w fun e w' => e = .returned (.bool (decide (Ln.jlt a b))) ∧ ∃ n, w' = w.drewN n := by
  obtain ⟨a0, a1, a2⟩ := own_cells hown ha
  obtain ⟨b0, b1, b2⟩ := own_cells hown hb
  have h1 := (List.getElem?_eq_some_iff.1 ha).1
  have h2 := (List.getElem?_eq_some_iff.1 hb).1
  have h1' : (i : Int) < n := by omega
  have h2' : (j : Int) < n := by omega
  clear hown ha hb hn
  by_cases g1 : a.due < b.due
  · have hr : decide (Ln.jlt a b) = true := by simp; exact .inl g1
    rw [hr]
    have g1' : decide (a.due < b.due) = true := by simpa using g1
    clear hr g1
    go_enter Try.func78, Try.ntmps78
    go_wp2
    go_big_quiet (fail)
    go_wp2
    go_ret
    exact ⟨rfl, nq, rfl⟩
  · have g1' : decide (a.due < b.due) = false := by simpa using g1
    by_cases g2 : a.due = b.due
    · have g2' : (a.due == b.due) = true := by simpa using g2
      have hr : decide (Ln.jlt a b) = decide (a.need < b.need) := by simp [Ln.jlt, g2]
      rw [hr]
      clear hr g1 g2
      go_enter Try.func78, Try.ntmps78
      go_wp2
      go_big_quiet (fail)
      go_wp2
      go_ret
      exact ⟨rfl, nq, rfl⟩
    · have g2' : (a.due == b.due) = false := by simpa using g2
      have hr : decide (Ln.jlt a b) = false := by rw [decide_eq_false_iff_not]; unfold Ln.jlt; omega
      rw [hr]
      clear hr g1 g2
      go_enter Try.func78, Try.ntmps78
      go_wp2
      go_big_quiet (fail)
      go_wp2
      go_ret
      exact ⟨rfl, nq, rfl⟩

set_option maxRecDepth 100000 in
set_option maxHeartbeats 1000000 in
theorem swap_any (w : World) (g n c i j : Nat) (a b : Job) (l : List Job) (hn : l.length = n) (ha : l[i]? = some a) (hb : l[j]? = some b) (hown : w.ownsRow 0 96 3 (.slice (some ⟨g, 0, none⟩) n c) n (jobCells l)) :
    Calls Try.prog 81 #[.slice (some ⟨g, 0, none⟩) n c, .int .i64 i, .int .i64 j] w fun e w' => e = .returned (.tuple #[]) ∧ w'.ownsRow 0 96 3 (.slice (some ⟨g, 0, none⟩) n c) n (jobCells (Ln.swapped l i j a b)) ∧ Keep (fun k => k = g) w w' := by
  obtain ⟨a0, a1, a2⟩ := own_cells hown ha
  obtain ⟨b0, b1, b2⟩ := own_cells hown hb
  have fz : ∀ k, w.frozen? ⟨g, k, none⟩ = false := fun k => hown.frozenAt k
  have f0 := fz (i * 3)
  have f1 := fz (i * 3 + 1)
  have f2 := fz (i * 3 + 2)
  have f3 := fz (j * 3)
  have f4 := fz (j * 3 + 1)
  have f5 := fz (j * 3 + 2)
  have h1 := (List.getElem?_eq_some_iff.1 ha).1
  have h2 := (List.getElem?_eq_some_iff.1 hb).1
  have h1' : (i : Int) < n := by omega
  have h2' : (j : Int) < n := by omega
  have HA := Lib.hid ha
  have HB := Lib.hid hb
  clear ha hb hn fz
  have hres : ((((((w.setCell ⟨g, i * 3, none⟩ (.int .i64 b.need)).setCell ⟨g, i * 3 + 1, none⟩ (.int .i64 b.due)).setCell ⟨g, i * 3 + 2, none⟩ (.int .i64 b.left)).setCell ⟨g, j * 3, none⟩ (.int .i64 a.need)).setCell ⟨g, j * 3 + 1, none⟩ (.int .i64 a.due)).setCell ⟨g, j * 3 + 2, none⟩ (.int .i64 a.left)).drew.ownsRow 0 96 3 (.slice (some ⟨g, 0, none⟩) n c) n (jobCells (Ln.swapped l i j a b)) := by
    have s1 := (hown.stored (i * 3) (.int .i64 b.need)).1
    have s2 := (s1.stored (i * 3 + 1) (.int .i64 b.due)).1
    have s3 := (s2.stored (i * 3 + 2) (.int .i64 b.left)).1
    rw [← jobCells_set l i b h1] at s3
    have s4 := (s3.stored (j * 3) (.int .i64 a.need)).1
    have s5 := (s4.stored (j * 3 + 1) (.int .i64 a.due)).1
    have s6 := (s5.stored (j * 3 + 2) (.int .i64 a.left)).1
    rw [← jobCells_set (l.set i b) j a (by simpa using h2)] at s6
    exact s6.drew
  have hkeep : Keep (fun k => k = g) w ((((((w.setCell ⟨g, i * 3, none⟩ (.int .i64 b.need)).setCell ⟨g, i * 3 + 1, none⟩ (.int .i64 b.due)).setCell ⟨g, i * 3 + 2, none⟩ (.int .i64 b.left)).setCell ⟨g, j * 3, none⟩ (.int .i64 a.need)).setCell ⟨g, j * 3 + 1, none⟩ (.int .i64 a.due)).setCell ⟨g, j * 3 + 2, none⟩ (.int .i64 a.left)).drew :=
    (((((((Keep.refl (fun k => k = g) w).setCell (fun _ => rfl) _).setCell (fun _ => rfl) _).setCell (fun _ => rfl) _).setCell (fun _ => rfl) _).setCell (fun _ => rfl) _).setCell (fun _ => rfl) _).drew
  have HRes := Lib.hid hres
  have HKeep := Lib.hid hkeep
  clear hres hkeep hown
  rcases Nat.lt_trichotomy i j with hij | hij | hij
  · go_enter Try.func81, Try.ntmps81
    go_wp2
    go_region
    go_wp2
    go_end0
    exact ⟨rfl, HRes.out, HKeep.out⟩
  · subst hij
    have hab : a = b := by have h1 := HA.out; have h2 := HB.out; rw [h1] at h2; injection h2
    subst hab
    go_enter Try.func81, Try.ntmps81
    go_wp2
    go_region
    go_wp2
    go_end0
    exact ⟨rfl, HRes.out, HKeep.out⟩
  · go_enter Try.func81, Try.ntmps81
    go_wp2
    go_region
    go_wp2
    go_end0
    exact ⟨rfl, HRes.out, HKeep.out⟩

end Go.Proofs.Ytgilejknjdbneaa
