/- The contract of (*row).run. -/
import Derived.Test.YtgilejknjdbneaaT1
namespace Go.Proofs.Ytgilejknjdbneaa
open Go.RowKit Go.IntWalk

theorem slice_news {s : ByteArray} {a b : Int} : ∀ u ∈ [Value.string s, .int .i64 a, .int .i64 b], u.oneCell' = true := by
  intro u hu; simp at hu; rcases hu with rfl | rfl | rfl <;> rfl

/-- What is left when a row was grown by append and stored back. -/
theorem run_end {w w1 : World} {p B : Nat} {v v' : Value} {l : List Slot} {s : ByteArray} {a b : Int} (hp : Var w p 74 v) (hpB : p < B)
    (hown : w.ownsRow B 33 3 v l.length (slotCells l))
    (hown' : w1.ownsRow B 33 3 v' (l.length + 1) (slotCells l ++ [.string s, .int .i64 a, .int .i64 b]))
    (hgrow : (w.alloc (Obj.cells #[.string s, .int .i64 a, .int .i64 b] 33)).grownBy w1 v.ownBlock) :
    Var w1 p 74 v ∧ (Var w1 p 74 v → Var (w1.setCell ⟨p, 0, none⟩ v') p 74 v' ∧ (w1.setCell ⟨p, 0, none⟩ v').ownsRow B 33 3 v' (l ++ [Slot.mk s a b]).length (slotCells (l ++ [Slot.mk s a b])) ∧
      Keep (fun k => k = p ∨ v.ownBlock = some k) w (w1.setCell ⟨p, 0, none⟩ v')) := by
  have hlt := hp.lt
  have hk0 : Keep (fun k => v.ownBlock = some k) w w1 := ((Keep.refl _ w).alloc _).trans (Keep.of_grown hgrow (S := fun k => v.ownBlock = some k) (fun k h => h)) (fun _ _ h => h)
  have hne : ¬ v.ownBlock = some p := fun h => by have := (hown.lt p h).1; omega
  refine ⟨hp.keep hk0 hne, fun h1 => ⟨h1.set_ _, ?_, ?_⟩⟩
  · rw [slotCells_append]
    rw [List.length_append]
    exact ownsRow_setCell_below (a := ⟨p, 0, none⟩) hown' (by exact hpB) _
  · exact (hk0.mono fun i _ h => .inr h).setCell (fun _ => .inl rfl) _

set_option maxHeartbeats 400000 in
theorem run_zero (w : World) (p B : Nat) (A : Option Addr) (c : Nat) (s : ByteArray) (t : Int) (ht : 0 ≤ t ∧ t ≤ 65536) (hp : Var w p 74 (.slice A 0 c)) (hpB : p < B) (hB : B ≤ w.heap.size)
    (hown : w.ownsRow B 33 3 (.slice A 0 c) 0 []) :
    Calls Try.prog 38 #[.pointer (some ⟨p, 0, none⟩), .string s, .int .i64 t] w fun e w' => e = .returned (.tuple #[]) ∧
      ∃ v', Var w' p 74 v' ∧ w'.ownsRow B 33 3 v' 1 (slotCells [⟨s, 0, t⟩]) ∧ Keep (fun k => k = p ∨ (Value.slice A 0 c).ownBlock = some k) w w' := by
  have hc := hp.cell
  have hf := hp.frozen
  have hlt := hp.lt
  obtain ⟨i0, hi, hz0, hz1, hz2⟩ := info_parts Try.info33
  go_enter Try.func38, Try.ntmps38
  go_wp2_with fail
  refine (end_none _ _ _).mono ?_
  rintro e w' ⟨rfl, rfl⟩
  go_wp2_with fail
  refine (end_none _ _ _).mono ?_
  rintro e w' ⟨rfl, rfl⟩
  go_wp2_with (at_builtin; refine wpList_append_lies _ rfl _ _ 74 rfl B 33 i0 (.agg #[.string ByteArray.empty, .int .i64 0, .int .i64 0]) 3 32 Try.underlying74 hi hz0 hz1 hz2 rfl (by omega) (.slice A 0 c) 0 [] rfl (hown.alloc _) ⟨w.heap.size, 0, none⟩ 1 1 [.string s, .int .i64 0, .int .i64 t] rfl rfl (World.news_of_block (cs := #[.string s, .int .i64 0, .int .i64 t]) (heap_alloc_new w _)) slice_news (by omega) (by unfold maxLen; omega) (by omega) ?c2 (w.heap.size + 1) (by simp) ?_)
  case c2 => simp; omega
  intro g cap w1 hown1 hgrow hat hlt2
  obtain ⟨hv, hfin⟩ := run_end (l := []) hp hpB hown hown1 hgrow
  have hc1 := hv.cell
  have hf1 := hv.frozen
  go_wp2
  go_end0
  exact ⟨rfl, _, hfin hv⟩

set_option maxHeartbeats 400000 in
theorem run_more (w : World) (p B g n c : Nat) (l : List Slot) (x : Slot) (s : ByteArray) (t : Int) (ht : 0 ≤ t ∧ t ≤ 65536) (hx : 0 ≤ x.to ∧ x.to ≤ 4611686018427387904) (hn : n ≤ 1000000000)
    (hp : Var w p 74 (.slice (some ⟨g, 0, none⟩) (n + 1) c)) (hpB : p < B) (hB : B ≤ w.heap.size)
    (hl : l.length = n + 1) (hlast : l[n]? = some x) (hne : x.subj ≠ s)
    (hown : w.ownsRow B 33 3 (.slice (some ⟨g, 0, none⟩) (n + 1) c) (n + 1) (slotCells l)) :
    Calls Try.prog 38 #[.pointer (some ⟨p, 0, none⟩), .string s, .int .i64 t] w fun e w' => e = .returned (.tuple #[]) ∧
      ∃ v', Var w' p 74 v' ∧ w'.ownsRow B 33 3 v' (l ++ [Slot.mk s x.to (x.to + t)]).length (slotCells (l ++ [Slot.mk s x.to (x.to + t)])) ∧ Keep (fun k => k = p ∨ (Value.slice (some ⟨g, 0, none⟩) (n + 1) c).ownBlock = some k) w w' := by
  have hc := hp.cell
  have hf := hp.frozen
  have hlt := hp.lt
  obtain ⟨i0, hi, hz0, hz1, hz2⟩ := info_parts Try.info33
  obtain ⟨q0, q1, q2⟩ := slotCells_at hlast
  have hcs := hown.cells (g := g) rfl
  have hadd : ∀ j, (⟨g, 0, none⟩ : Addr).add j = ⟨g, j, none⟩ := fun j => by unfold Addr.add; split <;> simp_all
  have c0 := hcs _ _ q0
  have c2 := hcs _ _ q2
  rw [hadd] at c0 c2
  have hne' := bytes_ne hne
  have Hl := Lib.hid hl
  clear hcs hl hadd q0 q1 q2 hlast
  go_enter Try.func38, Try.ntmps38
  go_wp2_with fail
  refine (end_some _ g 0 n c x.to (by omega) (by simpa using c2)).mono ?_
  rintro e w' ⟨rfl, rfl⟩
  go_wp2_with fail
  refine (end_some _ g 0 n c x.to (by omega) (by simpa using c2)).mono ?_
  rintro e w' ⟨rfl, rfl⟩
  go_wp2_with (at_builtin; refine wpList_append_lies _ rfl _ _ 74 rfl B 33 i0 (.agg #[.string ByteArray.empty, .int .i64 0, .int .i64 0]) 3 32 Try.underlying74 hi hz0 hz1 hz2 rfl (by omega) (.slice (some ⟨g, 0, none⟩) (n + 1) c) (n + 1) (slotCells l) rfl (hown.alloc _) ⟨w.heap.size, 0, none⟩ 1 1 [.string s, .int .i64 x.to, .int .i64 (x.to + t)] rfl rfl (World.news_of_block (cs := #[.string s, .int .i64 x.to, .int .i64 (x.to + t)]) (heap_alloc_new w _)) slice_news (by omega) (by unfold maxLen; omega) (by omega) ?c2 (w.heap.size + 1) (by simp) ?_)
  case c2 => simp; omega
  intro g' cap w1 hown1 hgrow hat hlt2
  obtain ⟨hv, hfin⟩ := run_end (l := l) hp hpB (by rw [Hl.out]; exact hown) (by rw [Hl.out]; exact hown1) hgrow
  have hc1 := hv.cell
  have hf1 := hv.frozen
  go_wp2
  go_end0
  exact ⟨rfl, _, hfin hv⟩

set_option maxHeartbeats 400000 in
theorem run_same (w : World) (p B g n c : Nat) (l : List Slot) (x : Slot) (t : Int) (ht : 0 ≤ t ∧ t ≤ 65536) (hx : 0 ≤ x.to ∧ x.to ≤ 4611686018427387904) (hn : n ≤ 1000000000)
    (hp : Var w p 74 (.slice (some ⟨g, 0, none⟩) (n + 1) c)) (hpB : p < B) (hB : B ≤ w.heap.size)
    (hl : l.length = n + 1) (hlast : l[n]? = some x)
    (hown : w.ownsRow B 33 3 (.slice (some ⟨g, 0, none⟩) (n + 1) c) (n + 1) (slotCells l)) :
    Calls Try.prog 38 #[.pointer (some ⟨p, 0, none⟩), .string x.subj, .int .i64 t] w fun e w' => e = .returned (.tuple #[]) ∧
      w' = w.setCell ⟨g, n * 3 + 2, none⟩ (.int .i64 (x.to + t)) := by
  have hc := hp.cell
  have hf := hp.frozen
  have hlt := hp.lt
  obtain ⟨q0, q1, q2⟩ := slotCells_at hlast
  have hcs := hown.cells (g := g) rfl
  have hadd : ∀ j, (⟨g, 0, none⟩ : Addr).add j = ⟨g, j, none⟩ := fun j => by unfold Addr.add; split <;> simp_all
  have c0 := hcs _ _ q0
  have c2 := hcs _ _ q2
  rw [hadd] at c0 c2
  have fz : w.frozen? ⟨g, n * 3 + 2, none⟩ = false := hown.frozenAt _
  clear hcs hl hadd q0 q1 q2 hlast
  go_enter Try.func38, Try.ntmps38
  go_wp2
  refine bodyPost_ret (results_none rfl _ _ _) rfl ?_
  exact ⟨rfl, rfl⟩

/-- (*row).run: the row grows. -/
theorem run_any (w : World) (p B : Nat) (v : Value) (l : List Slot) (s : ByteArray) (t : Int) (ht : 0 ≤ t ∧ t ≤ 65536) (hx : ∀ x ∈ l, 0 ≤ x.to ∧ x.to ≤ 4611686018427387904) (hn : l.length ≤ 1000000000)
    (hp : Var w p 74 v) (hpB : p < B) (hB : B ≤ w.heap.size) (hown : w.ownsRow B 33 3 v l.length (slotCells l)) :
    Calls Try.prog 38 #[.pointer (some ⟨p, 0, none⟩), .string s, .int .i64 t] w fun e w' => e = .returned (.tuple #[]) ∧
      ∃ v', Var w' p 74 v' ∧ w'.ownsRow B 33 3 v' (Ln.run l s t).length (slotCells (Ln.run l s t)) ∧ Keep (fun k => k = p ∨ v.ownBlock = some k) w w' := by
  rcases Nat.eq_zero_or_pos l.length with h0 | h0
  · obtain rfl := List.eq_nil_of_length_eq_zero h0
    have hv : ∃ A c, v = .slice A 0 c := by
      rcases hown.2 with ⟨rfl, _⟩ | ⟨g, cap, cur, rfl, _⟩
      · exact ⟨_, _, rfl⟩
      · exact ⟨_, _, rfl⟩
    obtain ⟨A, c, rfl⟩ := hv
    exact run_zero w p B A c s t ht hp hpB hB hown
  · obtain ⟨g, cap, rfl, hBg, hlt⟩ := hown.form h0
    obtain ⟨n, hl⟩ : ∃ n, l.length = n + 1 := ⟨l.length - 1, by omega⟩
    obtain ⟨x, hlast⟩ : ∃ x, l[n]? = some x := ⟨l[n]'(by omega), List.getElem?_eq_getElem (by omega)⟩
    have hlast' : l.getLast? = some x := by rw [List.getLast?_eq_getElem?, hl]; exact hlast
    have hxx := hx x (List.mem_of_getElem? hlast)
    rw [hl] at hp hown
    rw [hl]
    by_cases hs : x.subj = s
    · subst hs
      refine (run_same w p B g n cap l x t ht hxx (by omega) hp hpB hB hl hlast hown).mono ?_
      rintro e w' ⟨rfl, rfl⟩
      have hst := (hown.stored (n * 3 + 2) (.int .i64 (x.to + t))).1
      have hne : ¬ g = p := by omega
      have hr : Ln.run l x.subj t = l.dropLast ++ [Slot.mk x.subj x.from_ (x.to + t)] := by simp [Ln.run, hlast']
      have hll : l = l.dropLast ++ [x] := by
        obtain ⟨ys, rfl⟩ := List.getLast?_eq_some_iff.1 hlast'
        simp
      have hdl : l.dropLast.length = n := by rw [List.length_dropLast, hl]; rfl
      refine ⟨rfl, _, hp.keep ((Keep.refl (fun k => k = g) w).setCell (fun _ => rfl) _) (fun h => hne h.symm), ?_, (Keep.refl _ w).setCell (fun _ => .inr rfl) _⟩
      rw [hr]
      have hlen : (l.dropLast ++ [Slot.mk x.subj x.from_ (x.to + t)]).length = n + 1 := by simp [hdl]
      rw [hlen]
      have hcs : slotCells (l.dropLast ++ [Slot.mk x.subj x.from_ (x.to + t)]) = (slotCells l).set (n * 3 + 2) (.int .i64 (x.to + t)) := by
        conv => rhs; rw [hll]
        rw [slotCells_append, slotCells_append, List.set_append_right _ _ (by rw [slotCells_length, hdl]; omega), slotCells_length, hdl]
        have : n * 3 + 2 - n * 3 = 2 := by omega
        rw [this]
        rfl
      rw [hcs]
      exact hst
    · refine (run_more w p B g n cap l x s t ht hxx (by omega) hp hpB hB hl hlast hs hown).mono ?_
      rintro e w' ⟨rfl, v', h1, h2, h3⟩
      have hr : Ln.run l s t = l ++ [Slot.mk s x.to (x.to + t)] := by simp [Ln.run, hlast', hs]
      rw [hr]
      exact ⟨rfl, v', h1, h2, h3⟩

end Go.Proofs.Ytgilejknjdbneaa
