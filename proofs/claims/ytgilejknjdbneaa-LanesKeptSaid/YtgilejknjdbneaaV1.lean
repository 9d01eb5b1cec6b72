/- The laws known() returns true. -/
import Derived.Test.YtgilejknjdbneaaU4
import Derived.Test.YtgilejknjdbneaaU2
import Derived.Test.YtgilejknjdbneaaT8
namespace Go.Proofs.Ytgilejknjdbneaa
open Go.RowKit Go.IntWalk

theorem slotsAt_of_own {w : World} {B g n cap : Nat} {l : List Slot} (hown : w.ownsRow B 33 3 (.slice (some ⟨g, 0, none⟩) n cap) n (slotCells l)) (hlt : g < w.heap.size) : SlotsAt w (some ⟨g, 0, none⟩) l := by
  intro _
  refine ⟨g, 0, rfl, hlt, fun i s hs => ?_⟩
  have hadd : ∀ j, (⟨g, 0, none⟩ : Addr).add j = ⟨g, j, none⟩ := fun j => by unfold Addr.add; split <;> simp_all
  obtain ⟨q0, q1, q2⟩ := slotCells_at hs
  have hcs := hown.cells (g := g) rfl
  have c0 := hcs _ _ q0
  have c1 := hcs _ _ q1
  have c2 := hcs _ _ q2
  rw [hadd] at c0 c1 c2
  simpa using ⟨c0, c1, c2⟩

def aStr : ByteArray := ⟨#[97]⟩
def kRuns : List Run := [⟨0, aStr, 3, 0⟩, ⟨0, ByteArray.empty, 2, 0⟩]
def kRow : List Slot := [⟨aStr, 0, 3⟩, ⟨ByteArray.empty, 3, 10⟩]
theorem kFlat : Ln.flatRuns 10 kRuns = (kRow, 0, 0) := by rfl
theorem kSched : Ln.sched kRow 11 = (aStr, 2) := by rfl
theorem kDemand : Ln.demand 10 false 0 [⟨0, aStr, 3, 0⟩] = some 3 := by rfl
theorem kAt : Ln.at_ [⟨2, 3⟩] 5 1 = (2, 2) := by rfl
theorem kBudget : Ln.budget aStr 0 kRow = 3 := by rfl
theorem kShare : shareF ByteArray.empty kRow = 4604480259023595110 := by
  have h1 : Ln.lenFrom 0 none kRow = 10 := by rfl
  have h2 : Ln.budget ByteArray.empty 0 kRow = 7 := by rfl
  unfold shareF
  rw [h1, h2, if_neg (by decide)]
  decide +kernel

theorem runsAt_new (w : World) (l : List Run) (cs : Array Value) (h : ∀ i r, l[i]? = some r → cs[i * 4]? = some (.int .i64 r.pos) ∧ cs[i * 4 + 1]? = some (.string r.subj) ∧ cs[i * 4 + 2]? = some (.int .u64 r.bud) ∧ cs[i * 4 + 3]? = some (.int .u64 r.per)) :
    RunsAt (w.alloc (.cells cs 28)) (some ⟨w.heap.size, 0, none⟩) l := by
  intro _
  refine ⟨w.heap.size, 0, rfl, by simp, fun i r hr => ?_⟩
  obtain ⟨h0, h1, h2, h3⟩ := h i r hr
  have hc : ∀ j, (w.alloc (.cells cs 28)).cell? ⟨w.heap.size, j, none⟩ = cs[j]? := fun j => cell_of_row _ _ _ _ _ _ (heap_alloc_new w _)
  simp only [Nat.zero_add]
  rw [hc, hc, hc, hc]
  exact ⟨h0, h1, h2, h3⟩

theorem order_k : (FloatKind.f64.format.order 4604480259023595110 4604480259023595110 == some .eq) = true := by decide +kernel

set_option maxRecDepth 100000 in
set_option maxHeartbeats 1000000 in
theorem known_any (w : World) : Calls Try.prog 13 #[] w fun e w' => e = .returned (.bool true) ∧ Below w.heap.size w w' := by
  go_enter Try.func13, Try.ntmps13
  go_wp2_with fail
  refine (flat_runs 10 (some ⟨w.heap.size, 0, none⟩) 2 kRuns 0 0 _ (by omega) (by omega) ?h1 (by decide) (runsAt_new w kRuns _ ?h2)).mono ?_
  case h1 => intro r hr; simp [kRuns] at hr; rcases hr with rfl | rfl <;> exact ⟨by decide, by decide⟩
  case h2 =>
    intro i r hr
    match i, hr with
    | 0, hr => simp [kRuns] at hr; subst hr; exact ⟨rfl, rfl, rfl, rfl⟩
    | 1, hr => simp [kRuns] at hr; subst hr; exact ⟨rfl, rfl, rfl, rfl⟩
    | i + 2, hr => simp [kRuns] at hr
  rw [kFlat]
  rintro e w1 ⟨v1, rfl, hown1, hb1⟩
  obtain ⟨g, cap, hv, hg1, hg2⟩ := hown1.form (show 0 < kRow.length by decide)
  subst hv
  have hB1 : Below w.heap.size w w1 := ((Below.refl _ _).alloc (Nat.le_refl _) _).trans (hb1.mono (by simp))
  have hr1 := slotsAt_of_own hown1 hg2
  have hs1 := hb1.size
  simp at hs1
  clear hb1 hown1
  clear hg1
  go_wp2_with fail
  refine (flat_bad 0 w1 (by omega) (by omega) 0 0 false (.slice none 0 0) rfl).mono ?_
  rintro e w2 ⟨v2, rfl, hown2, hb2⟩
  have hv2 : ∃ A c, v2 = .slice A 0 c := by
    rcases hown2.2 with ⟨h, _⟩ | ⟨g', cap', cur, h, _⟩
    · exact ⟨_, _, h⟩
    · exact ⟨_, _, h⟩
  obtain ⟨A2, c2, rfl⟩ := hv2
  have hB2 := hB1.trans (hb2.mono hB1.size)
  have hr2 := hr1.below hb2 (Nat.le_refl _)
  have hs2 := hb2.size
  clear hb2 hown2 hB1 hr1
  go_wp2_with fail
  refine (sched_any (some ⟨g, 0, none⟩) cap kRow 11 w2 (by decide) (by omega) ?hk hr2).mono ?_
  case hk => intro s hs; simp [kRow] at hs; rcases hs with rfl | rfl <;> decide
  rw [kSched]
  rintro e w3 ⟨rfl, hb3⟩
  have hB3 := hB2.trans (hb3.mono hB2.size)
  have hr3 := hr2.below hb3 (Nat.le_refl _)
  have hs3 := hb3.size
  clear hb3 hB2 hr2
  go_wp2_with fail
  refine (demand_in 10 (some ⟨w3.heap.size, 0, none⟩) 1 [⟨0, aStr, 3, 0⟩] 0 0 false _ (by omega) (by omega) ?h1 (by decide) (runsAt_new w3 _ _ ?h2)).mono ?_
  case h1 => intro r hr; simp at hr; subst hr; exact ⟨by decide, by decide⟩
  case h2 =>
    intro i r hr
    match i, hr with
    | 0, hr => simp at hr; subst hr; exact ⟨rfl, rfl, rfl, rfl⟩
    | i + 1, hr => simp at hr
  rw [kDemand]
  rintro e w4 ⟨rfl, hb4⟩
  have hB4 := (hB3.alloc hB3.size _).trans (hb4.mono (by simp; omega))
  have hr4 : SlotsAt w4 (some ⟨g, 0, none⟩) kRow := (hr3.below (B := w3.heap.size) ((Below.refl _ _).alloc (Nat.le_refl _) _) (Nat.le_refl _)).below (B := w3.heap.size + 1) (hb4.mono (by simp)) (by simp)
  have hs4 := hb4.size
  simp at hs4
  clear hb4 hB3 hr3
  unfold demandOut
  go_wp2_with fail
  refine (at_any (some ⟨w4.heap.size, 0, none⟩) 1 [⟨2, 3⟩] 5 1 _ (by decide) (by omega) ?h1 ?h2).mono ?_
  case h1 => intro r hr; simp at hr; subst hr; decide
  case h2 =>
    intro _
    refine ⟨w4.heap.size, 0, rfl, by simp, fun i r hr => ?_⟩
    have hc : ∀ j cs, (w4.alloc (.cells cs 47)).cell? ⟨w4.heap.size, j, none⟩ = cs[j]? := fun j cs => cell_of_row _ _ _ _ _ _ (heap_alloc_new w4 _)
    match i, hr with
    | 0, hr => simp at hr; subst hr; rw [hc, hc]; exact ⟨rfl, rfl⟩
    | i + 1, hr => simp at hr
  rw [kAt]
  rintro e w5 ⟨rfl, hb5⟩
  have hB5 := (hB4.alloc hB4.size _).trans (hb5.mono (by simp; omega))
  have hr5 : SlotsAt w5 (some ⟨g, 0, none⟩) kRow := (hr4.below (B := w4.heap.size) ((Below.refl _ _).alloc (Nat.le_refl _) _) (Nat.le_refl _)).below (B := w4.heap.size + 1) (hb5.mono (by simp)) (by simp)
  have hs5 := hb5.size
  simp at hs5
  clear hb5 hB4 hr4
  obtain ⟨b', off', he, hlt', hcs⟩ := hr5 (by decide)
  injection he with he
  injection he with he1 he2
  subst he1 he2
  obtain ⟨q0, q1, q2⟩ := hcs 1 ⟨ByteArray.empty, 3, 10⟩ rfl
  clear hcs
  simp only [Nat.zero_add, Nat.one_mul, Nat.reduceAdd] at q0 q1 q2
  have hk2 : kRow.length = 2 := rfl
  have ha : aStr.toList = [97] := by simp [aStr, ByteArray.toList_eq]
  have HK2 := Lib.hid hk2
  have hkb : ∀ s ∈ kRow, s.to ≤ 9223372036854775807 := by intro s hs; simp [kRow] at hs; rcases hs with rfl | rfl <;> decide
  have HKB := Lib.hid hkb
  clear hkb
  go_wp2_with fail
  refine (budget_any (some ⟨g, 0, none⟩) cap kRow aStr w5 (by decide) hr5).mono ?_
  rw [kBudget]
  rintro e w6 ⟨rfl, hb6⟩
  have hB6 := hB5.trans (hb6.mono hB5.size)
  have hr6 := hr5.below hb6 (Nat.le_refl _)
  clear hb6 hB5 hr5 q0 q1 q2
  go_wp2_with fail
  refine (share_any (some ⟨g, 0, none⟩) cap kRow ByteArray.empty w6 (by decide) HKB.out hr6).mono ?_
  rw [kShare]
  rintro e w7 ⟨rfl, hb7⟩
  have hB7 := hB6.trans (hb7.mono hB6.size)
  have ho := order_k
  clear hb7 hB6 hr6
  go_wp2
  go_ret
  exact ⟨rfl, hB7⟩

end Go.Proofs.Ytgilejknjdbneaa
