/- Demand and the document's Flatten of any lane; the law's told. -/
import Derived.Test.YtgilejknjdbneaaR6
import Derived.Test.YtgilejknjdbneaaV1
import Derived.Test.YtgilejknjdbneaaBkSlot
import Derived.Test.YtgilejknjdbneaaBkRun
import Derived.Deep.CutRange
namespace Go.Proofs.Ytgilejknjdbneaa
open Go.RowKit Go.IntWalk

theorem flatR_any (M : Nat) (nd : Bool) (A : Option Addr) (c : Nat) (xs : List Run) (lp : Int) (cpu : Nat) (w : World) (hM : M < 18446744073709551616)
    (hx : ∀ r ∈ xs, r.bud < 18446744073709551616 ∧ r.per < 18446744073709551616) (hl : xs.length ≤ 140737488351232) (hr : RunsAt w A xs) :
    Calls Try.prog 30 #[.int .u64 M, .agg #[.int .i64 lp, .int .u64 cpu, .bool nd, .slice A xs.length c]] w (FlatPost w (Ln.flatAny M nd xs)) := by
  by_cases h : M < 1 ∨ 65536 < M
  · rw [Ln.flatAny, if_pos h]
    exact flatR_bad M w h hM lp cpu nd _ rfl
  · exact flatR_in M xs.length nd A c xs lp cpu w (by omega) (by omega) hx rfl hl hr
def Ln.demandAny (M : Nat) (nd : Bool) (xs : List Run) : Option Nat := if M < 1 ∨ 65536 < M then none else Ln.demand M nd 0 xs
theorem demand_bad (M : Nat) (w : World) (h : M < 1 ∨ 65536 < M) (hM : M < 18446744073709551616) (lp : Int) (cpu : Nat) (nd : Bool) (s : Value) (hs : s.cells = #[s]) :
    Calls Try.prog 40 #[.int .u64 M, .agg #[.int .i64 lp, .int .u64 cpu, .bool nd, s]] w fun e w' => e = demandOut none ∧ Below w.heap.size w w' := by
  by_cases h0 : M < 1
  · clear h
    go_enter Try.func40, Try.ntmps40
    go_wp2
    go_ret2
    exact ⟨rfl, (Below.refl _ _).alloc (Nat.le_refl _) _⟩
  · have h1 : 65536 < M := by omega
    clear h
    go_enter Try.func40, Try.ntmps40
    go_wp2
    go_ret2
    exact ⟨rfl, (Below.refl _ _).alloc (Nat.le_refl _) _⟩
theorem demandR_bad (M : Nat) (w : World) (h : M < 1 ∨ 65536 < M) (hM : M < 18446744073709551616) (lp : Int) (cpu : Nat) (nd : Bool) (s : Value) (hs : s.cells = #[s]) :
    Calls Try.prog 42 #[.int .u64 M, .agg #[.int .i64 lp, .int .u64 cpu, .bool nd, s]] w fun e w' => e = demandOut none ∧ Below w.heap.size w w' := by
  by_cases h0 : M < 1
  · clear h
    go_enter Try.func42, Try.ntmps42
    go_wp2
    go_ret2
    exact ⟨rfl, (Below.refl _ _).alloc (Nat.le_refl _) _⟩
  · have h1 : 65536 < M := by omega
    clear h
    go_enter Try.func42, Try.ntmps42
    go_wp2
    go_ret2
    exact ⟨rfl, (Below.refl _ _).alloc (Nat.le_refl _) _⟩
theorem demand_any (M : Nat) (nd : Bool) (A : Option Addr) (c : Nat) (xs : List Run) (lp : Int) (cpu : Nat) (w : World) (hM : M < 18446744073709551616)
    (hx : ∀ r ∈ xs, r.bud < 18446744073709551616 ∧ r.per < 18446744073709551616) (hl : xs.length ≤ 140737488351232) (hr : RunsAt w A xs) :
    Calls Try.prog 40 #[.int .u64 M, .agg #[.int .i64 lp, .int .u64 cpu, .bool nd, .slice A xs.length c]] w fun e w' => e = demandOut (Ln.demandAny M nd xs) ∧ Below w.heap.size w w' := by
  by_cases h : M < 1 ∨ 65536 < M
  · rw [Ln.demandAny, if_pos h]
    exact demand_bad M w h hM lp cpu nd _ rfl
  · rw [Ln.demandAny, if_neg h]
    exact demand_in M A c xs lp cpu nd w (by omega) (by omega) hx hl hr
theorem demandR_any (M : Nat) (nd : Bool) (A : Option Addr) (c : Nat) (xs : List Run) (lp : Int) (cpu : Nat) (w : World) (hM : M < 18446744073709551616)
    (hx : ∀ r ∈ xs, r.bud < 18446744073709551616 ∧ r.per < 18446744073709551616) (hl : xs.length ≤ 140737488351232) (hr : RunsAt w A xs) :
    Calls Try.prog 42 #[.int .u64 M, .agg #[.int .i64 lp, .int .u64 cpu, .bool nd, .slice A xs.length c]] w fun e w' => e = demandOut (Ln.demandAny M nd xs) ∧ Below w.heap.size w w' := by
  by_cases h : M < 1 ∨ 65536 < M
  · rw [Ln.demandAny, if_pos h]
    exact demandR_bad M w h hM lp cpu nd _ rfl
  · rw [Ln.demandAny, if_neg h]
    exact demandR_in M A c xs lp cpu nd w (by omega) (by omega) hx hl hr
theorem Ln.flatAny_len (M : Nat) (nd : Bool) (xs : List Run) : (Ln.flatAny M nd xs).1.length ≤ 4096 := by
  unfold Ln.flatAny
  split
  · simp
  · split
    · simp
    · unfold Ln.capped
      split
      · simp
      · simp only; omega
theorem demandOut_form (o : Option Nat) : ∃ (d : Nat) (b : Bool), demandOut o = .returned (.tuple #[.int .u64 d, .bool b]) := by
  rcases o with _ | d
  · exact ⟨0, false, rfl⟩
  · exact ⟨d, true, rfl⟩
theorem slotsAt_form {w : World} {B : Nat} {A : Option Addr} {n c : Nat} {l : List Slot} (hn : l.length = n) (hown : w.ownsRow B 33 3 (.slice A n c) n (slotCells l)) : SlotsAt w A l := by
  intro h0
  obtain ⟨g, cap, hv, hBg, hlt⟩ := hown.form (by omega)
  injection hv with e1 e2 e3
  subst e1
  exact slotsAt_of_own hown hlt h0
def markStr : ByteArray := ⟨#[109, 97, 114, 107]⟩

set_option maxRecDepth 100000 in
set_option maxHeartbeats 2000000 in
theorem told_any (M n : Nat) (nd : Bool) (A : Option Addr) (c : Nat) (xs : List Run) (lp : Int) (cpu : Nat) (w : World) (hM : M < 18446744073709551616)
    (hx : ∀ r ∈ xs, r.bud < 18446744073709551616 ∧ r.per < 18446744073709551616) (hxn : xs.length = n) (hl : n * 40 ≤ 140737488351232) (hr : RunsAt w A xs) :
    Calls Try.prog 15 #[.int .u64 M, .agg #[.int .i64 lp, .int .u64 cpu, .bool nd, .slice A n c]] w fun e w' => e = .returned (.bool true) ∧ Below w.heap.size w w' := by
  obtain ⟨W, hW⟩ : ∃ W, W = (w.alloc (.cells #[.int .i64 lp, .int .u64 cpu, .bool nd, .slice A n c] 31)).alloc (.cells #[.int .i64 0, .string markStr, .int .u64 0, .int .u64 0] 28) := ⟨_, rfl⟩
  obtain ⟨p, hp⟩ : ∃ p, p = w.heap.size := ⟨_, rfl⟩
  have hB : Below w.heap.size w W := by subst hW; exact ((Below.refl _ _).alloc (Nat.le_refl _) _).alloc (by simp) _
  have hWs : W.heap.size = p + 2 := by subst hW hp; simp
  have hv0 : W.heap[p]? = some (.cells #[.int .i64 lp, .int .u64 cpu, .bool nd, .slice A n c] 31 (0, 0)) := by
    subst hW hp; rw [Below.heap_alloc _ _ _ (by simp)]; exact heap_alloc_new _ _
  have hv1 : W.heap[p + 1]? = some (.cells #[.int .i64 0, .string markStr, .int .u64 0, .int .u64 0] 28 (0, 0)) := by
    subst hW hp
    have := heap_alloc_new (w.alloc (.cells #[.int .i64 lp, .int .u64 cpu, .bool nd, .slice A n c] 31)) (.cells #[.int .i64 0, .string markStr, .int .u64 0, .int .u64 0] 28)
    simpa using this
  have hC : Hid (∀ wr, Below W.heap.size W wr → (wr.cell? ⟨p, 0, none⟩ = some (.int .i64 lp) ∧ wr.cell? ⟨p, 1, none⟩ = some (.int .u64 cpu) ∧ wr.cell? ⟨p, 2, none⟩ = some (.bool nd) ∧ wr.cell? ⟨p, 3, none⟩ = some (.slice A n c)) ∧
      (wr.cell? ⟨p + 1, 0, none⟩ = some (.int .i64 0) ∧ wr.cell? ⟨p + 1, 1, none⟩ = some (.string markStr) ∧ wr.cell? ⟨p + 1, 2, none⟩ = some (.int .u64 0) ∧ wr.cell? ⟨p + 1, 3, none⟩ = some (.int .u64 0)) ∧ p + 1 < wr.heap.size) := fun wr hb => by
    have e0 : wr.heap[p]? = some (.cells #[.int .i64 lp, .int .u64 cpu, .bool nd, .slice A n c] 31 (0, 0)) := (hb.block p (by omega)).trans hv0
    have e1 : wr.heap[p + 1]? = some (.cells #[.int .i64 0, .string markStr, .int .u64 0, .int .u64 0] 28 (0, 0)) := (hb.block (p + 1) (by omega)).trans hv1
    exact ⟨⟨cell_of_row _ _ _ _ _ _ e0, cell_of_row _ _ _ _ _ _ e0, cell_of_row _ _ _ _ _ _ e0, cell_of_row _ _ _ _ _ _ e0⟩, ⟨cell_of_row _ _ _ _ _ _ e1, cell_of_row _ _ _ _ _ _ e1, cell_of_row _ _ _ _ _ _ e1, cell_of_row _ _ _ _ _ _ e1⟩, by have := hb.size; omega⟩
  obtain ⟨R, hRes⟩ : ∃ R, R = Ln.flatAny M nd xs := ⟨_, rfl⟩
  obtain ⟨R1, R2, R3, hR3⟩ : ∃ R1 R2 R3, Ln.flatAny M nd xs = (R1, R2, R3) := ⟨_, _, _, rfl⟩
  obtain ⟨d, bo, hdo⟩ := demandOut_form (Ln.demandAny M nd xs)
  have HS := Lib.hid hWs
  have HB := Lib.hid hB
  have HR := Lib.hid hr
  have HX := Lib.hid hx
  have HXN := Lib.hid hxn
  have HRes := Lib.hid hR3
  have HDo := Lib.hid hdo
  have HP := Lib.hid hp
  clear hWs hB hv0 hv1 hr hx hxn hRes hR3 hdo R
  obtain ⟨⟨c0, c1, c2, c3⟩, ⟨m0, m1, m2, m3⟩, hps⟩ := hC.out W (Below.refl _ _)
  have hpw : w.heap.size = p := hp.symm
  have hroom := roomyRun_any A c xs ⟨0, markStr, 0, 0⟩ W (by rw [HXN.out]; exact hl) (HR.out.below HB.out (Nat.le_refl _))
  rw [HXN.out] at hroom
  have HRoom := Lib.hid hroom
  have HPW := Lib.hid hpw
  clear hroom hp hpw
  go_enter Try.func15, Try.ntmps15
  go_wp2_with fail
  rw [show (⟨#[109, 97, 114, 107]⟩ : ByteArray) = markStr from rfl, ← hW, HPW.out]
  clear hW
  refine HRoom.out.mono ?_
  rintro e w1 ⟨g, rfl, hg1, hg2, hrow, _, hb1⟩
  clear c0 c1 c2 c3 m0 m1 m2 m3
  obtain ⟨⟨c0, c1, c2, c3⟩, _, hps1⟩ := hC.out w1 hb1
  obtain ⟨q, hq⟩ : ∃ q, q = w1.heap.size := ⟨_, rfl⟩
  obtain ⟨w2, hw2⟩ : ∃ w2, w2 = w1.alloc (.cells #[.int .i64 lp, .int .u64 cpu, .bool nd, .slice (some ⟨g, 0, none⟩) n (n + 80)] 31) := ⟨_, rfl⟩
  have hb2 : Below q w1 w2 := by
    rw [hw2]
    exact (Below.refl q w1).alloc (by omega) _
  have hv2 : w2.heap[q]? = some (.cells #[.int .i64 lp, .int .u64 cpu, .bool nd, .slice (some ⟨g, 0, none⟩) n (n + 80)] 31 (0, 0)) := by
    rw [hw2, hq]
    exact heap_alloc_new w1 _
  have hY : Hid (∀ wr, Below w2.heap.size w2 wr → wr.cell? ⟨q, 0, none⟩ = some (.int .i64 lp) ∧ wr.cell? ⟨q, 1, none⟩ = some (.int .u64 cpu) ∧ wr.cell? ⟨q, 2, none⟩ = some (.bool nd) ∧ wr.cell? ⟨q, 3, none⟩ = some (.slice (some ⟨g, 0, none⟩) n (n + 80)) ∧ q < wr.heap.size) := fun wr hb => by
    have hq2 : q < w2.heap.size := (Array.getElem?_eq_some_iff.1 hv2).1
    have e0 := (hb.block q hq2).trans hv2
    exact ⟨cell_of_row _ _ _ _ _ _ e0, cell_of_row _ _ _ _ _ _ e0, cell_of_row _ _ _ _ _ _ e0, cell_of_row _ _ _ _ _ _ e0, by have := hb.size; omega⟩
  have hBW : Below W.heap.size W w2 := hb1.trans (hb2.mono (by rw [hq]; exact hb1.size))
  have hRow : Hid (∀ wr, Below w2.heap.size w2 wr → RunRow wr g (xs ++ List.replicate 80 ⟨0, markStr, 0, 0⟩) ∧ g < wr.heap.size) := fun wr hb => by
    have h1 : Below q w1 wr := hb2.trans (hb.mono (by have := hb2.size; rw [hq]; exact this))
    exact ⟨hrow.keep (fun j => h1.cell (p := ⟨g, j, none⟩) (by rw [hq]; exact hg2)), by have := h1.size; omega⟩
  have HBW := Lib.hid hBW
  have hle : (n : Int) ≤ (n : Int) + 80 := by omega
  have hq1 : q < w2.heap.size := (Array.getElem?_eq_some_iff.1 hv2).1
  clear hb1 hrow hb2 hv2 hBW
  have hps2 : p < w1.heap.size := by omega
  have HQ := Lib.hid hq
  clear hq
  go_upto_region 5 with fail
  rw [← HQ.out, ← hw2]
  clear hw2 c0 c1 c2 c3 hps2
  obtain ⟨y0, y1, y2, y3, hqs⟩ := hY.out w2 (Below.refl _ _)
  have hfl := flat_any M nd (some ⟨g, 0, none⟩) (n + 80) xs lp cpu w2 hM HX.out (by rw [HXN.out]; omega) ((hRow.out w2 (Below.refl _ _)).1.pre.at_ (hRow.out w2 (Below.refl _ _)).2)
  rw [HXN.out, HRes.out] at hfl
  have HFl := Lib.hid hfl
  clear hfl
  go_wp2_with fail
  refine HFl.out.mono ?_
  rintro e w3 ⟨v1, rfl, hown1, hb3⟩
  simp only at hown1
  obtain ⟨A1, e1, rfl⟩ := own_form hown1
  have hs1 := slotsAt_form rfl hown1
  have hBW3 : Below W.heap.size W w3 := HBW.out.trans (hb3.mono HBW.out.size)
  have HB3 := Lib.hid hb3
  have HS1 := Lib.hid hs1
  have HBW3 := Lib.hid hBW3
  clear y0 y1 y2 y3 hb3 hs1 hown1 hBW3
  obtain ⟨⟨c0, c1, c2, c3⟩, _, hps2⟩ := hC.out w3 HBW3.out
  have hfl := flatR_any M nd A c xs lp cpu w3 hM HX.out (by rw [HXN.out]; omega) (HR.out.below (HB.out.trans (HBW3.out.mono HB.out.size)) (Nat.le_refl _))
  rw [HXN.out, HRes.out] at hfl
  have HFl2 := Lib.hid hfl
  clear hfl
  go_wp2_with fail
  refine HFl2.out.mono ?_
  rintro e w4 ⟨v2, rfl, hown2, hb4⟩
  simp only at hown2
  obtain ⟨A2, e2, rfl⟩ := own_form hown2
  have hs2 := slotsAt_form rfl hown2
  have hBW4 : Below W.heap.size W w4 := HBW3.out.trans (hb4.mono HBW3.out.size)
  have hb24 : Below w2.heap.size w2 w4 := HB3.out.trans (hb4.mono HB3.out.size)
  have hs14 := HS1.out.below hb4 (Nat.le_refl _)
  have HB4 := Lib.hid hb24
  have HS2 := Lib.hid hs2
  have HS14 := Lib.hid hs14
  have HBW4 := Lib.hid hBW4
  clear c0 c1 c2 c3 hb4 hb24 hs2 hs14 hown2 hBW4 HS1 HB3
  obtain ⟨y0, y1, y2, y3, hqs4⟩ := hY.out w4 HB4.out
  have hfl := demand_any M nd (some ⟨g, 0, none⟩) (n + 80) xs lp cpu w4 hM HX.out (by rw [HXN.out]; omega) ((hRow.out w4 HB4.out).1.pre.at_ (hRow.out w4 HB4.out).2)
  rw [HXN.out, HDo.out] at hfl
  have HFl3 := Lib.hid hfl
  clear hfl
  go_wp2_with fail
  refine HFl3.out.mono ?_
  rintro e w5 ⟨rfl, hb5⟩
  have hBW5 : Below W.heap.size W w5 := HBW4.out.trans (hb5.mono HBW4.out.size)
  have hb25 : Below w2.heap.size w2 w5 := HB4.out.trans (hb5.mono HB4.out.size)
  have hs15 := HS14.out.below hb5 (Nat.le_refl _)
  have hs25 := HS2.out.below hb5 (Nat.le_refl _)
  have HB5 := Lib.hid hb25
  have HBW5 := Lib.hid hBW5
  have HS15 := Lib.hid hs15
  have HS25 := Lib.hid hs25
  clear y0 y1 y2 y3 hb5 hb25 hs15 hs25 hBW5 HS14 HS2 HB4
  obtain ⟨⟨c0, c1, c2, c3⟩, _, hps5⟩ := hC.out w5 HBW5.out
  have hfl := demandR_any M nd A c xs lp cpu w5 hM HX.out (by rw [HXN.out]; omega) (HR.out.below (HB.out.trans (HBW5.out.mono HB.out.size)) (Nat.le_refl _))
  rw [HXN.out, HDo.out] at hfl
  have HFl4 := Lib.hid hfl
  clear hfl
  go_wp2_with fail
  refine HFl4.out.mono ?_
  rintro e w6 ⟨rfl, hb6⟩
  have hBW6 : Below W.heap.size W w6 := HBW5.out.trans (hb6.mono HBW5.out.size)
  have hb26 : Below w2.heap.size w2 w6 := HB5.out.trans (hb6.mono HB5.out.size)
  have hs16 := HS15.out.below hb6 (Nat.le_refl _)
  have hs26 := HS25.out.below hb6 (Nat.le_refl _)
  have HB6 := Lib.hid hb26
  have HBW6 := Lib.hid hBW6
  have HS16 := Lib.hid hs16
  have HS26 := Lib.hid hs26
  have hr1 : R1.length ≤ 4096 := by have h := Ln.flatAny_len M nd xs; rw [HRes.out] at h; exact h
  clear c0 c1 c2 c3 hb6 hb26 hs16 hs26 hBW6 HS15 HS25 HB5
  go_wp2_with fail
  refine (sameSlot_any A1 A2 e1 e2 R1 w6 (by omega) HS16.out HS26.out).mono ?_
  rintro e w7 ⟨rfl, nn, hw7⟩
  have hk7 : Keep (fun _ => False) w6 w7 := by rw [hw7]; exact (Keep.refl _ _).drewN _
  have hBW7 : Below W.heap.size W w7 := HBW6.out.trans (hk7.below HBW6.out.size (by simp))
  have hb27 : Below w2.heap.size w2 w7 := HB6.out.trans (hk7.below HB6.out.size (by simp))
  have HB7 := Lib.hid hb27
  have HBW7 := Lib.hid hBW7
  clear hw7 hk7 hBW7 hb27
  obtain ⟨⟨c0, c1, c2, c3⟩, ⟨m0, m1, m2, m3⟩, hps7⟩ := hC.out w7 HBW7.out
  have hfl := intactRun_any g c (n + 80) A xs ⟨0, markStr, 0, 0⟩ w7 (by rw [HXN.out]; omega) (hRow.out w7 HB7.out).2 (by rw [HXN.out]; omega) (HR.out.below (HB.out.trans (HBW7.out.mono HB.out.size)) (Nat.le_refl _)) (hRow.out w7 HB7.out).1
  rw [HXN.out] at hfl
  have HFl5 := Lib.hid hfl
  clear hfl
  go_wp2_with fail
  refine HFl5.out.mono ?_
  rintro e w8 ⟨rfl, hb8⟩
  have hB8 : Below w.heap.size w w8 := HB.out.trans ((HBW7.out.trans (hb8.mono HBW7.out.size)).mono HB.out.size)
  have HB8 := Lib.hid hB8
  clear c0 c1 c2 c3 m0 m1 m2 m3 hb8 hB8
  go_wp2
  go_ret
  exact ⟨rfl, by first | exact HB8.out | (rw [HP.out]; exact HB8.out)⟩


set_option maxRecDepth 100000 in
set_option maxHeartbeats 2000000 in
theorem lawFlattens_any (M : Nat) (A : Option Addr) (c : Nat) (xs : List Run) (lp : Int) (cpu : Nat) (nd : Bool) (w : World) (hM : M < 18446744073709551616)
    (hx : ∀ r ∈ xs, r.bud < 18446744073709551616 ∧ r.per < 18446744073709551616) (hl : xs.length * 40 ≤ 140737488351232) (hr : RunsAt w A xs) :
    Calls Try.prog 4 #[.int .u64 M, .agg #[.int .i64 lp, .int .u64 cpu, .bool nd, .slice A xs.length c]] w fun e w' => e = .returned (.bool true) ∧ Below w.heap.size w w' := by
  obtain ⟨W, hW⟩ : ∃ W, W = w.alloc (.cells #[.int .i64 lp, .int .u64 cpu, .bool nd, .slice A xs.length c] 31) := ⟨_, rfl⟩
  obtain ⟨p, hp⟩ : ∃ p, p = w.heap.size := ⟨_, rfl⟩
  have hB : Below w.heap.size w W := by subst hW; exact (Below.refl _ _).alloc (Nat.le_refl _) _
  have hv0 : W.heap[p]? = some (.cells #[.int .i64 lp, .int .u64 cpu, .bool nd, .slice A xs.length c] 31 (0, 0)) := by subst hW hp; exact heap_alloc_new _ _
  have hps : p < W.heap.size := (Array.getElem?_eq_some_iff.1 hv0).1
  have hC : Hid (∀ wr, Below W.heap.size W wr → (wr.cell? ⟨p, 0, none⟩ = some (.int .i64 lp) ∧ wr.cell? ⟨p, 1, none⟩ = some (.int .u64 cpu) ∧ wr.cell? ⟨p, 2, none⟩ = some (.bool nd) ∧ wr.cell? ⟨p, 3, none⟩ = some (.slice A xs.length c)) ∧ p < wr.heap.size) := fun wr hb => by
    have e0 := (hb.block p hps).trans hv0
    exact ⟨⟨cell_of_row _ _ _ _ _ _ e0, cell_of_row _ _ _ _ _ _ e0, cell_of_row _ _ _ _ _ _ e0, cell_of_row _ _ _ _ _ _ e0⟩, by have := hb.size; omega⟩
  have HT : Hid (∀ wr, Below W.heap.size W wr → Calls Try.prog 15 #[.int .u64 M, .agg #[.int .i64 lp, .int .u64 cpu, .bool nd, .slice A xs.length c]] wr fun e w' => e = .returned (.bool true) ∧ Below wr.heap.size wr w') := fun wr hb =>
    told_any M xs.length nd A c xs lp cpu wr hM hx rfl hl (hr.below (hB.trans (hb.mono hB.size)) (Nat.le_refl _))
  obtain ⟨⟨c0, c1, c2, c3⟩, _⟩ := hC.out W (Below.refl _ _)
  have HB := Lib.hid hB
  have HP := Lib.hid hp
  have HPW : Hid (w.heap.size = p) := hp.symm
  clear hB hv0 hr hx hp
  go_enter Try.func4, Try.ntmps4
  go_wp2_with fail
  rw [← hW, HPW.out]
  clear hW
  refine (great_any M A c xs.length lp cpu nd W hM (by omega)).mono ?_
  rintro e w1 ⟨rfl, hb1⟩
  have HB1 := Lib.hid hb1
  clear hb1 c0 c1 c2 c3
  obtain ⟨gr, hgr⟩ : ∃ gr, gr = Ln.great M nd xs.length := ⟨_, rfl⟩
  rw [← hgr]
  clear hgr
  obtain ⟨⟨c0, c1, c2, c3⟩, hps1⟩ := hC.out w1 HB1.out
  cases gr
  · go_wp2_with fail
    refine (HT.out w1 HB1.out).mono ?_
    rintro e w2 ⟨rfl, hb2⟩
    have HB2 := Lib.hid (HB1.out.trans (hb2.mono HB1.out.size))
    clear hb2 c0 c1 c2 c3
    obtain ⟨⟨c0, c1, c2, c3⟩, hps2⟩ := hC.out w2 HB2.out
    go_wp2_with fail
    refine (HT.out w2 HB2.out).mono ?_
    rintro e w3 ⟨rfl, hb3⟩
    have HB3 := Lib.hid (HB2.out.trans (hb3.mono HB2.out.size))
    clear hb3 c0 c1 c2 c3
    go_wp2_with fail
    refine (known_any w3).mono ?_
    rintro e w4 ⟨rfl, hb4⟩
    have HB4 := Lib.hid (HB3.out.trans (hb4.mono HB3.out.size))
    clear hb4
    go_wp2
    go_ret
    exact ⟨rfl, by first | exact HB.out.trans (HB4.out.mono HB.out.size) | (rw [HP.out]; exact HB.out.trans (HB4.out.mono HB.out.size))⟩
  · go_wp2_with fail
    refine (known_any w1).mono ?_
    rintro e w4 ⟨rfl, hb4⟩
    have HB4 := Lib.hid (HB1.out.trans (hb4.mono HB1.out.size))
    clear hb4
    go_wp2
    go_ret
    exact ⟨rfl, by first | exact HB.out.trans (HB4.out.mono HB.out.size) | (rw [HP.out]; exact HB.out.trans (HB4.out.mono HB.out.size))⟩
end Go.Proofs.Ytgilejknjdbneaa
