/- Run: bulkheadbook's Roomy, Same and Intact at this type. Written by gen_book.py. -/
import Derived.Test.YtgilejknjdbneaaCopy
import Derived.Test.YtgilejknjdbneaaBase
namespace Go.Proofs.Ytgilejknjdbneaa
open Go.RowKit Go.IntWalk

def Run.cellsL (s : Run) : List Value := [.int .i64 s.pos, .string s.subj, .int .u64 s.bud, .int .u64 s.per]
def Run.val' (s : Run) : Value := .agg #[.int .i64 s.pos, .string s.subj, .int .u64 s.bud, .int .u64 s.per]
def rowOfRun (l : List Run) : List Value := l.flatMap Run.cellsL
theorem rowOfRun_length (l : List Run) : (rowOfRun l).length = l.length * 4 := by
  induction l with
  | nil => rfl
  | cons s l ih => simp only [rowOfRun, List.flatMap_cons, List.length_append, List.length_cons] at ih ⊢; rw [ih]; simp [Run.cellsL]; omega
theorem rowOfRun_at {l : List Run} {i : Nat} {s : Run} (h : l[i]? = some s) : (rowOfRun l)[i * 4]? = some (.int .i64 s.pos) ∧ (rowOfRun l)[i * 4 + 1]? = some (.string s.subj) ∧ (rowOfRun l)[i * 4 + 2]? = some (.int .u64 s.bud) ∧ (rowOfRun l)[i * 4 + 3]? = some (.int .u64 s.per) := by
  induction l generalizing i with
  | nil => simp at h
  | cons x l ih =>
    cases i with
    | zero => simp at h; subst h; simp [rowOfRun, Run.cellsL]
    | succ i =>
      have := ih (i := i) (by simpa using h)
      have e : ∀ j, (rowOfRun (x :: l))[(i + 1) * 4 + j]? = (rowOfRun l)[i * 4 + j]? := fun j => by
        simp only [rowOfRun, List.flatMap_cons]
        rw [List.getElem?_append_right (by simp [Run.cellsL]; omega)]
        congr 1
        simp [Run.cellsL]; omega
      exact ⟨(e 0).trans this.1, (e 1).trans this.2.1, (e 2).trans this.2.2.1, (e 3).trans this.2.2.2⟩
theorem rowOfRun_one (l : List Run) : ∀ u ∈ rowOfRun l, u.oneCell' = true := by
  intro u hu
  simp only [rowOfRun, List.mem_flatMap, Run.cellsL, List.mem_cons, List.not_mem_nil, or_false] at hu
  obtain ⟨s, _, hu⟩ := hu
  rcases hu with rfl | rfl | rfl | rfl <;> rfl

/-- Block g reads as these, from its beginning. -/
def RunRow (w : World) (g : Nat) (xs : List Run) : Prop := ∀ i s, xs[i]? = some s → w.cell? ⟨g, i * 4, none⟩ = some (.int .i64 s.pos) ∧ w.cell? ⟨g, i * 4 + 1, none⟩ = some (.string s.subj) ∧ w.cell? ⟨g, i * 4 + 2, none⟩ = some (.int .u64 s.bud) ∧ w.cell? ⟨g, i * 4 + 3, none⟩ = some (.int .u64 s.per)
theorem RunRow.at_ {w : World} {g : Nat} {xs : List Run} (h : RunRow w g xs) (hg : g < w.heap.size) : RunsAt w (some ⟨g, 0, none⟩) xs :=
  fun _ => ⟨g, 0, rfl, hg, fun i s hs => by simpa using h i s hs⟩
theorem RunRow.pre {w : World} {g : Nat} {xs ys : List Run} (h : RunRow w g (xs ++ ys)) : RunRow w g xs :=
  fun i s hs => h i s (by rw [List.getElem?_append_left (List.getElem?_eq_some_iff.1 hs).1]; exact hs)
theorem RunRow.of_block {w : World} {g : Nat} {xs : List Run} {rest : List Value} {t : TypeId} {fr : Nat × Nat} (h : w.heap[g]? = some (.cells (rowOfRun xs ++ rest).toArray t fr)) : RunRow w g xs := by
  intro i s hs
  have hl : i < xs.length := (List.getElem?_eq_some_iff.1 hs).1
  have hle := rowOfRun_length xs
  obtain ⟨q0, q1, q2, q3⟩ := rowOfRun_at hs
  have e : ∀ j, w.cell? ⟨g, j, none⟩ = (rowOfRun xs ++ rest)[j]? := fun j => by rw [cell_of_row w g j _ t fr h]; simp
  rw [e, e, e, e, List.getElem?_append_left (by omega), List.getElem?_append_left (by omega), List.getElem?_append_left (by omega), List.getElem?_append_left (by omega)]
  exact ⟨q0, q1, q2, q3⟩
theorem RunRow.keep {w w' : World} {g : Nat} {xs : List Run} (h : RunRow w g xs) (hk : ∀ j, w'.cell? ⟨g, j, none⟩ = w.cell? ⟨g, j, none⟩) : RunRow w' g xs := by
  intro i s hs
  rw [hk, hk, hk, hk]
  exact h i s hs
theorem RunsAt.list {w : World} {A : Option Addr} {xs : List Run} (h : RunsAt w A xs) (hl : 0 < xs.length) : ∃ ad, A = some ad ∧ ∀ j v, (rowOfRun xs)[j]? = some v → w.cell? (ad.add j) = some v := by
  obtain ⟨b, off, e, _, hc⟩ := h hl
  refine ⟨_, e, fun j v hv => ?_⟩
  have hadd : (⟨b, off, none⟩ : Addr).add j = ⟨b, off + j, none⟩ := by unfold Addr.add; split <;> simp_all
  rw [hadd]
  have hj : j < xs.length * 4 := by rw [← rowOfRun_length]; exact (List.getElem?_eq_some_iff.1 hv).1
  obtain ⟨i, r, hi, hr⟩ : ∃ i r, j = i * 4 + r ∧ r < 4 := ⟨j / 4, j % 4, by omega, by omega⟩
  have hil : i < xs.length := by omega
  have hs : xs[i]? = some xs[i] := List.getElem?_eq_getElem hil
  obtain ⟨q0, q1, q2, q3⟩ := rowOfRun_at hs
  obtain ⟨c0, c1, c2, c3⟩ := hc i _ hs
  subst hi
  match r, hr with
  | 0, _ => rw [Nat.add_zero] at hv ⊢; rw [c0, ← q0, hv]
  | 1, _ => rw [← Nat.add_assoc, c1, ← q1, hv]
  | 2, _ => rw [← Nat.add_assoc, c2, ← q2, hv]
  | 3, _ => rw [← Nat.add_assoc, c3, ← q3, hv]

/-- A block of so many cells, none frozen. -/
def BlkRun (w : World) (g n : Nat) : Prop := ∃ cur, w.heap[g]? = some (.cells cur 28 (0, 0)) ∧ cur.size = n
theorem BlkRun.cell {w : World} {g n : Nat} (h : BlkRun w g n) {j : Nat} (hj : j < n) : (∃ v, w.cell? ⟨g, j, none⟩ = some v) ∧ w.frozen? ⟨g, j, none⟩ = false := by
  obtain ⟨cur, h1, h2⟩ := h
  refine ⟨⟨cur[j]'(by omega), ?_⟩, by simp [World.frozen?, h1]⟩
  rw [cell_of_row w g j cur _ _ h1, Array.getElem?_eq_getElem]
theorem BlkRun.setCell {w : World} {g n : Nat} (h : BlkRun w g n) (p : Addr) (u : Value) : BlkRun (w.setCell p u) g n := by
  obtain ⟨cur, h1, h2⟩ := h
  by_cases hp : g = p.block
  · subst hp
    unfold BlkRun
    simp only [World.setCell, Array.getElem?_modify, h1]
    simp only [if_true, Option.map_some]
    exact ⟨_, rfl, by split <;> simp [h2]⟩
  · exact ⟨cur, (Below.heap_setCell w p u g hp).trans h1, h2⟩

theorem RunRow.push {w : World} {g k n : Nat} {xs : List Run} (h : RunRow w g xs) (hb : BlkRun w g n) (m : Run) (hk : k = xs.length) (hn : k * 4 + 4 ≤ n) : RunRow ((((w.setCell ⟨g, k * 4, none⟩ (.int .i64 m.pos)).setCell ⟨g, k * 4 + 1, none⟩ (.string m.subj)).setCell ⟨g, k * 4 + 2, none⟩ (.int .u64 m.bud)).setCell ⟨g, k * 4 + 3, none⟩ (.int .u64 m.per)) g (xs ++ [m]) := by
  intro i s hs
  have hcell : ∀ (W : World) (j : Nat) (u v : Value), W.cell? ⟨g, j, none⟩ = some v → (W.setCell ⟨g, j, none⟩ u).cell? ⟨g, j, none⟩ = some u := fun W j u v hv => World.cell?_setCell_same W _ u hv
  have hoth : ∀ (W : World) (j j' : Nat) (u : Value), j' ≠ j → (W.setCell ⟨g, j, none⟩ u).cell? ⟨g, j', none⟩ = W.cell? ⟨g, j', none⟩ := fun W j j' u hne => World.cell?_setCell_other W _ _ u (by intro e; injection e with _ e; omega)
  by_cases hik : i < xs.length
  · rw [List.getElem?_append_left hik] at hs
    obtain ⟨c0, c1, c2, c3⟩ := h i s hs
    refine ⟨?_, ?_, ?_, ?_⟩
    · rw [hoth _ _ _ _ (by omega), hoth _ _ _ _ (by omega), hoth _ _ _ _ (by omega), hoth _ _ _ _ (by omega)]; exact c0
    · rw [hoth _ _ _ _ (by omega), hoth _ _ _ _ (by omega), hoth _ _ _ _ (by omega), hoth _ _ _ _ (by omega)]; exact c1
    · rw [hoth _ _ _ _ (by omega), hoth _ _ _ _ (by omega), hoth _ _ _ _ (by omega), hoth _ _ _ _ (by omega)]; exact c2
    · rw [hoth _ _ _ _ (by omega), hoth _ _ _ _ (by omega), hoth _ _ _ _ (by omega), hoth _ _ _ _ (by omega)]; exact c3
  · rw [List.getElem?_append_right (by omega)] at hs
    have hi : i = k := by
      rcases Nat.eq_zero_or_pos (i - xs.length) with h0 | h0
      · omega
      · rw [List.getElem?_eq_none (by simp; omega)] at hs; simp at hs
    subst hi
    rw [hk, Nat.sub_self] at hs
    simp at hs
    subst hs
    obtain ⟨v0, c0⟩ := (hb.cell (j := i * 4 + 0) (by omega)).1; obtain ⟨v1, c1⟩ := (hb.cell (j := i * 4 + 1) (by omega)).1; obtain ⟨v2, c2⟩ := (hb.cell (j := i * 4 + 2) (by omega)).1; obtain ⟨v3, c3⟩ := (hb.cell (j := i * 4 + 3) (by omega)).1
    rw [Nat.add_zero] at c0
    refine ⟨?_, ?_, ?_, ?_⟩
    · rw [hoth _ _ _ _ (by omega), hoth _ _ _ _ (by omega), hoth _ _ _ _ (by omega)]
      exact hcell _ _ _ _ (by exact c0)
    · rw [hoth _ _ _ _ (by omega), hoth _ _ _ _ (by omega)]
      exact hcell _ _ _ _ (by rw [hoth _ _ _ _ (by omega)]; exact c1)
    · rw [hoth _ _ _ _ (by omega)]
      exact hcell _ _ _ _ (by rw [hoth _ _ _ _ (by omega), hoth _ _ _ _ (by omega)]; exact c2)
    · exact hcell _ _ _ _ (by rw [hoth _ _ _ _ (by omega), hoth _ _ _ _ (by omega), hoth _ _ _ _ (by omega)]; exact c3)

theorem Try.info28 : (Try.prog.info? 28).map (fun i => (i.zero, i.size, i.bytes)) = some (some (.agg #[.int .i64 0, .string ByteArray.empty, .int .u64 0, .int .u64 0]), 4, 40) := by kernel_rfl

set_option maxRecDepth 100000 in
set_option maxHeartbeats 1000000 in
theorem sameRun_any (A A' : Option Addr) (c c' : Nat) (xs : List Run) (w : World) (hl : xs.length ≤ 10000000000000) (hr : RunsAt w A xs) (hr' : RunsAt w A' xs) :
    Calls Try.prog 58 #[.slice A xs.length c, .slice A' xs.length c'] w fun e w' => e = .returned (.bool true) ∧ ∃ n, w' = w.drewN n := by
  go_enter Try.func58, Try.ntmps58
  go_wp2
  go_loopw [5] (fun i wr => ∃ k n : Nat, k ≤ xs.length ∧ i = .int .i64 k ∧ wr = w.drewN n) (fun i _ => xs.length - (intOf i).toNat)
  case atStart => exact ⟨0, 0, by omega, rfl, rfl⟩
  case round =>
    obtain ⟨k, n, hk, rfl, rfl⟩ := hrel
    by_cases hlt : k < xs.length
    · obtain ⟨b, off, rfl, hbl, hcs⟩ := hr (by omega)
      obtain ⟨b', off', rfl, hbl', hcs'⟩ := hr' (by omega)
      obtain ⟨s, hs⟩ : ∃ s, xs[k]? = some s := ⟨xs[k], List.getElem?_eq_getElem hlt⟩
      obtain ⟨p0, p1, p2, p3⟩ := hcs k s hs
      obtain ⟨q0, q1, q2, q3⟩ := hcs' k s hs
      have r_subj : (s.subj.toList == s.subj.toList) = true := by simp
      have hlt' : (k : Int) < xs.length := by omega
      clear hs hcs hcs' hr hr'
      go_wp2
      go_big_quiet (fail)
      go_wp2
      go_roundw
      case rel => exact ⟨k + 1, n + nq, by omega, by go_num, rfl⟩
      case measure => simp [intOf]; omega
    · go_wp2
      go_ret
      exact ⟨rfl, n, rfl⟩

set_option maxRecDepth 100000 in
set_option maxHeartbeats 1000000 in
theorem intactRun_any (g c c' : Nat) (A : Option Addr) (xs : List Run) (s : Run) (w : World) (hl : xs.length ≤ 9000000000000) (hg : g < w.heap.size) (hc : xs.length + 80 ≤ c') (hr : RunsAt w A xs) (hf : RunRow w g (xs ++ List.replicate 80 s)) :
    Calls Try.prog 43 #[.slice (some ⟨g, 0, none⟩) (xs.length + 80) c', .slice A xs.length c, s.val'] w fun e w' => e = .returned (.bool true) ∧ Below w.heap.size w w' := by
  obtain ⟨W, hW⟩ : ∃ W, W = w.alloc (.cells #[.int .i64 s.pos, .string s.subj, .int .u64 s.bud, .int .u64 s.per] 28) := ⟨_, rfl⟩
  have hB : Below w.heap.size w W := by subst hW; exact (Below.refl _ _).alloc (Nat.le_refl _) _
  have hWs : w.heap.size < W.heap.size := by subst hW; simp
  have hbx : ∀ j, W.cell? ⟨w.heap.size, j, none⟩ = (#[.int .i64 s.pos, .string s.subj, .int .u64 s.bud, .int .u64 s.per] : Array Value)[j]? := fun j => by subst hW; exact cell_of_row _ _ _ _ _ _ (heap_alloc_new w _)
  have b0 : W.cell? ⟨w.heap.size, 0, none⟩ = some (.int .i64 s.pos) := hbx 0; have b1 : W.cell? ⟨w.heap.size, 1, none⟩ = some (.string s.subj) := hbx 1; have b2 : W.cell? ⟨w.heap.size, 2, none⟩ = some (.int .u64 s.bud) := hbx 2; have b3 : W.cell? ⟨w.heap.size, 3, none⟩ = some (.int .u64 s.per) := hbx 3
  have hR : RunsAt W A xs := hr.below hB (Nat.le_refl _)
  have hF : RunRow W g (xs ++ List.replicate 80 s) := hf.keep (fun j => hB.cell (p := ⟨g, j, none⟩) hg)
  have hgW : g < W.heap.size := by omega
  have hc1 : (xs.length : Int) ≤ (c' : Int) := by omega
  have hc0 : (0 : Int) ≤ (xs.length : Int) := by omega
  have r_subj : (s.subj.toList == s.subj.toList) = true := by simp
  have HB := Lib.hid hB
  clear hB hbx hr hf
  unfold Run.val'
  go_enter Try.func43, Try.ntmps43
  go_wp2_with fail
  rw [← hW]
  clear hW
  refine (sameRun_any (some ⟨g, 0, none⟩) A c' c xs W (by omega) (hF.pre.at_ hgW) hR).mono ?_
  rintro e w1 ⟨rfl, n1, rfl⟩
  go_wp2
  go_loopw [7] (fun i wr => ∃ j n : Nat, j ≤ 80 ∧ i = .int .i64 ((xs.length + j : Nat) : Int) ∧ wr = W.drewN n) (fun i _ => xs.length + 80 - (intOf i).toNat)
  case atStart => exact ⟨0, n1, by omega, by simp, rfl⟩
  case round =>
    obtain ⟨j, n, hj, rfl, rfl⟩ := hrel
    obtain ⟨k, hk⟩ : ∃ k, k = xs.length + j := ⟨_, rfl⟩
    rw [← hk]
    by_cases hlt : j < 80
    · have hklt : (k : Int) < (xs.length : Int) + 80 := by omega
      have hat : (xs ++ List.replicate 80 s)[k]? = some s := by
        rw [List.getElem?_append_right (by omega), List.getElem?_replicate, if_pos (by omega)]
      obtain ⟨q0, q1, q2, q3⟩ := hF k s hat
      have Hk := Lib.hid hk
      clear hk hat hF hR
      go_wp2
      go_big_quiet (fail)
      go_wp2
      go_roundw
      case rel => exact ⟨j + 1, n + nq, by omega, by have := Hk.out; go_num, rfl⟩
      case measure => have := Hk.out; simp [intOf]; omega
    · have hk2 : ¬ (k : Int) < (xs.length : Int) + 80 := by omega
      clear hk
      go_wp2
      go_ret
      exact ⟨rfl, below_drewN HB.out n⟩

set_option maxRecDepth 100000 in
set_option maxHeartbeats 1000000 in
theorem roomyRun_any (A : Option Addr) (c : Nat) (xs : List Run) (m : Run) (w : World) (hl : xs.length * 40 ≤ 140737488351232) (hr : RunsAt w A xs) :
    Calls Try.prog 41 #[.slice A xs.length c, m.val'] w fun e w' => ∃ g, e = .returned (.slice (some ⟨g, 0, none⟩) (xs.length + 80) (xs.length + 80)) ∧ w.heap.size ≤ g ∧ g < w'.heap.size ∧
      RunRow w' g (xs ++ List.replicate 80 m) ∧ (∃ cur, w'.heap[g]? = some (.cells cur 28 (0, 0))) ∧ Below w.heap.size w w' := by
  obtain ⟨W, hW⟩ : ∃ W, W = w.alloc (.cells #[.int .i64 m.pos, .string m.subj, .int .u64 m.bud, .int .u64 m.per] 28) := ⟨_, rfl⟩
  have hB : Below w.heap.size w W := by subst hW; exact (Below.refl _ _).alloc (Nat.le_refl _) _
  have hWs : W.heap.size = w.heap.size + 1 := by subst hW; simp
  have hbx : ∀ j, W.cell? ⟨w.heap.size, j, none⟩ = (#[.int .i64 m.pos, .string m.subj, .int .u64 m.bud, .int .u64 m.per] : Array Value)[j]? := fun j => by subst hW; exact cell_of_row _ _ _ _ _ _ (heap_alloc_new w _)
  have b0 : W.cell? ⟨w.heap.size, 0, none⟩ = some (.int .i64 m.pos) := hbx 0; have b1 : W.cell? ⟨w.heap.size, 1, none⟩ = some (.string m.subj) := hbx 1; have b2 : W.cell? ⟨w.heap.size, 2, none⟩ = some (.int .u64 m.bud) := hbx 2; have b3 : W.cell? ⟨w.heap.size, 3, none⟩ = some (.int .u64 m.per) := hbx 3
  have hR : RunsAt W A xs := hr.below hB (Nat.le_refl _)
  have HS := Lib.hid hWs
  have HB := Lib.hid hB
  obtain ⟨i0, hi, hz0, hz1, hz2⟩ := info_parts Try.info28
  have hsz : (Try.prog.info? 28).map (·.size) = some 4 := by rw [hi]; simp [hz1]
  have HSZ := Lib.hid hsz
  clear hWs hB hbx hsz
  unfold Run.val'
  go_enter Try.func41, Try.ntmps41
  go_wp2_with (at_make; refine wpList_make_full _ rfl (.tmp 9) (.tmp 9) 29 rfl (w.heap.size + 1) 28 i0 (.agg #[.int .i64 0, .string ByteArray.empty, .int .u64 0, .int .u64 0]) 4 Try.underlying29 hi hz0 hz1 .i64 .i64 (xs.length + 80) (xs.length + 80) (xs.length + 80) rfl rfl (by omega) (by omega) ?h1 ?h2 ?h3 ?_)
  case h1 => rw [hz2]; omega
  case h2 => unfold maxLen; omega
  case h3 => simp
  intro w1 hown1 hgrow1
  obtain ⟨g, hg⟩ : ∃ g, g = w.heap.size + 1 := ⟨_, rfl⟩
  rw [← hg] at hown1 ⊢
  rw [← hW] at hgrow1
  obtain ⟨cur, hcur, hcs⟩ : ∃ cur, w1.heap[g]? = some (.cells cur 28 (0, 0)) ∧ cur.size = (xs.length + 80) * 4 := by
    rcases hown1.2 with ⟨h, _⟩ | ⟨g', cap', cur, h, _, h2, _, _, h3, _⟩
    · simp at h
    · simp only [Value.slice.injEq, Option.some.injEq, Addr.mk.injEq, and_true, true_and] at h
      obtain ⟨rfl, rfl⟩ := h
      exact ⟨cur, h2, h3⟩
  have hk1 : Keep (fun _ => False) W w1 := Keep.of_grown hgrow1 (by simp)
  have hR1 : RunsAt w1 A xs := hR.below (hk1.below (Nat.le_refl _) (by simp)) (Nat.le_refl _)
  have hgw : w.heap.size < g := by omega
  have hg1 : g < w1.heap.size := (Array.getElem?_eq_some_iff.1 hcur).1
  have hW1 : w.heap.size < W.heap.size := by rw [HS.out]; omega
  have d0 : w1.cell? ⟨w.heap.size, 0, none⟩ = some (.int .i64 m.pos) := (hk1.cell (p := ⟨w.heap.size, 0, none⟩) hW1 (by simp)).trans b0; have d1 : w1.cell? ⟨w.heap.size, 1, none⟩ = some (.string m.subj) := (hk1.cell (p := ⟨w.heap.size, 1, none⟩) hW1 (by simp)).trans b1; have d2 : w1.cell? ⟨w.heap.size, 2, none⟩ = some (.int .u64 m.bud) := (hk1.cell (p := ⟨w.heap.size, 2, none⟩) hW1 (by simp)).trans b2; have d3 : w1.cell? ⟨w.heap.size, 3, none⟩ = some (.int .u64 m.per) := (hk1.cell (p := ⟨w.heap.size, 3, none⟩) hW1 (by simp)).trans b3
  have hB1 : Below w.heap.size w w1 := HB.out.trans (hk1.below HB.out.size (by simp))
  have hcl := rowOfRun_length xs
  have HCL := Lib.hid hcl
  clear hown1 hgrow1 hk1 hR b0 b1 b2 b3 hcl hg
  go_wp2_with (with_reducible refine wpList_copy_all rfl (.tmp 11) (.tmp 12) 29 29 rfl 28 4 Try.underlying29 HSZ.out g (xs.length + 80) (xs.length + 80) A xs.length c rfl rfl cur 28 hcur (rowOfRun xs) (by omega) HCL.out hR1.list ?h4 (rowOfRun_one xs) ?_)
  case h4 => rw [HCL.out, hcs]; omega
  intro w2 hcur2 hgrow2 hsz2
  have hk2 : Keep (fun k => k = g) w1 w2 := Keep.of_grown hgrow2 (fun k h => by injection h with h; exact h.symm)
  have e0 : w2.cell? ⟨w.heap.size, 0, none⟩ = some (.int .i64 m.pos) := (hk2.cell (p := ⟨w.heap.size, 0, none⟩) (by simp only; omega) (by simp only; omega)).trans d0; have e1 : w2.cell? ⟨w.heap.size, 1, none⟩ = some (.string m.subj) := (hk2.cell (p := ⟨w.heap.size, 1, none⟩) (by simp only; omega) (by simp only; omega)).trans d1; have e2 : w2.cell? ⟨w.heap.size, 2, none⟩ = some (.int .u64 m.bud) := (hk2.cell (p := ⟨w.heap.size, 2, none⟩) (by simp only; omega) (by simp only; omega)).trans d2; have e3 : w2.cell? ⟨w.heap.size, 3, none⟩ = some (.int .u64 m.per) := (hk2.cell (p := ⟨w.heap.size, 3, none⟩) (by simp only; omega) (by simp only; omega)).trans d3
  have hB2 : Below w.heap.size w w2 := hB1.trans (hk2.below hB1.size (fun i hi => by omega))
  have hrow2 : RunRow w2 g xs := RunRow.of_block hcur2
  have hblk2 : BlkRun w2 g ((xs.length + 80) * 4) := ⟨_, hcur2, by simp [HCL.out]; omega⟩
  have HS2 := Lib.hid hsz2
  clear hcur2 hgrow2 hsz2 hk2 hcs hcur hR1 d0 d1 d2 d3 hB1
  go_wp2
  go_loopw [6] (fun i wr => ∃ j : Nat, j ≤ 80 ∧ i = .int .i64 ((xs.length + j : Nat) : Int) ∧ RunRow wr g (xs ++ List.replicate j m) ∧ BlkRun wr g ((xs.length + 80) * 4) ∧ Below w.heap.size w wr ∧ wr.heap.size = w2.heap.size ∧ wr.cell? ⟨w.heap.size, 0, none⟩ = some (.int .i64 m.pos) ∧ wr.cell? ⟨w.heap.size, 1, none⟩ = some (.string m.subj) ∧ wr.cell? ⟨w.heap.size, 2, none⟩ = some (.int .u64 m.bud) ∧ wr.cell? ⟨w.heap.size, 3, none⟩ = some (.int .u64 m.per)) (fun i _ => xs.length + 80 - (intOf i).toNat)
  case atStart => exact ⟨0, by omega, by simp, by simpa using hrow2, hblk2, hB2, rfl, e0, e1, e2, e3⟩
  case round =>
    obtain ⟨j, hj, rfl, hrow, hblk, hbw, hsz, y0, y1, y2, y3⟩ := hrel
    have HZ := Lib.hid hsz
    clear hsz
    obtain ⟨k, hk⟩ : ∃ k, k = xs.length + j := ⟨_, rfl⟩
    rw [← hk]
    by_cases hlt : j < 80
    · have hklt : k < xs.length + 80 := by omega
      obtain ⟨⟨v0, q0⟩, f0⟩ := hblk.cell (j := k * 4 + 0) (by omega); obtain ⟨⟨v1, q1⟩, f1⟩ := hblk.cell (j := k * 4 + 1) (by omega); obtain ⟨⟨v2, q2⟩, f2⟩ := hblk.cell (j := k * 4 + 2) (by omega); obtain ⟨⟨v3, q3⟩, f3⟩ := hblk.cell (j := k * 4 + 3) (by omega)
      rw [Nat.add_zero] at q0 f0
      have hne : ¬ w.heap.size = g := by omega
      have hpush := hrow.push hblk m (k := k) (by simp; omega) (by omega)
      have hblk' := ((((hblk.setCell ⟨g, k * 4, none⟩ (.int .i64 m.pos)).setCell ⟨g, k * 4 + 1, none⟩ (.string m.subj)).setCell ⟨g, k * 4 + 2, none⟩ (.int .u64 m.bud)).setCell ⟨g, k * 4 + 3, none⟩ (.int .u64 m.per))
      have HP := Lib.hid hpush
      have Hk := Lib.hid hk
      clear hk hpush
      go_wp2
      go_roundw
      case rel =>
        refine ⟨j + 1, by omega, by have := Hk.out; go_num, by rw [List.replicate_succ', ← List.append_assoc]; exact HP.out, hblk', ((((hbw.setCell (p := ⟨g, k * 4, none⟩) (by simp only; omega) _).setCell (p := ⟨g, k * 4 + 1, none⟩) (by simp only; omega) _).setCell (p := ⟨g, k * 4 + 2, none⟩) (by simp only; omega) _).setCell (p := ⟨g, k * 4 + 3, none⟩) (by simp only; omega) _), by simp [World.setCell]; exact HZ.out, ?_, ?_, ?_, ?_⟩
        all_goals rw [World.cell?_setCell_other _ _ _ _ (by intro e; injection e with e _; exact hne e.symm), World.cell?_setCell_other _ _ _ _ (by intro e; injection e with e _; exact hne e.symm), World.cell?_setCell_other _ _ _ _ (by intro e; injection e with e _; exact hne e.symm), World.cell?_setCell_other _ _ _ _ (by intro e; injection e with e _; exact hne e.symm)]
        all_goals assumption
      case measure => have := Hk.out; simp [intOf]; omega
    · have hk2 : k = xs.length + 80 := by omega
      have hj2 : j = 80 := by omega
      subst hj2
      go_wp2
      go_ret
      exact ⟨g, rfl, by omega, by have := HZ.out; have := hB2.size; have := hblk; obtain ⟨cur, h1, _⟩ := this; exact (Array.getElem?_eq_some_iff.1 h1).1, hrow, by obtain ⟨cur, h1, _⟩ := hblk; exact ⟨cur, h1⟩, hbw⟩

end Go.Proofs.Ytgilejknjdbneaa
