/- The walk of the law LanesNames. -/
import Derived.Test.YtgilejknjdbneaaV1
import Derived.Test.YtgilejknjdbneaaN1
namespace Go.Proofs.Ytgilejknjdbneaa
open Go.RowKit Go.IntWalk

def bStr : ByteArray := ⟨#[98]⟩
def nRuns : List Run := [⟨0, aStr, 1, 2⟩, ⟨0, bStr, 2, 4⟩]
def nRow : List Slot := [⟨aStr, 0, 1⟩, ⟨bStr, 1, 2⟩, ⟨aStr, 2, 3⟩, ⟨bStr, 3, 4⟩]
theorem nFlat : Ln.flatNeeds 4 nRuns = (nRow, 0, 0) := by kernel_rfl

set_option maxRecDepth 100000 in
set_option maxHeartbeats 1000000 in
theorem lawNames_any (w : World) : Calls Try.prog 3 #[] w fun e w' => e = .returned (.bool true) ∧ Below w.heap.size w w' := by
  go_enter Try.func3, Try.ntmps3
  go_wp2_with fail
  refine (flat_needs 4 (some ⟨w.heap.size, 0, none⟩) 2 nRuns 0 0 _ (by omega) (by omega) ?h1 (by decide) (runsAt_new w nRuns _ ?h2)).mono ?_
  case h1 => intro r hr; simp [nRuns] at hr; rcases hr with rfl | rfl <;> exact ⟨by decide, by decide⟩
  case h2 =>
    intro i r hr
    match i, hr with
    | 0, hr => simp [nRuns] at hr; subst hr; exact ⟨rfl, rfl, rfl, rfl⟩
    | 1, hr => simp [nRuns] at hr; subst hr; exact ⟨rfl, rfl, rfl, rfl⟩
    | i + 2, hr => simp [nRuns] at hr
  rw [nFlat]
  rintro e w1 ⟨v1, rfl, hown1, hb1⟩
  obtain ⟨g, cap, hv, hg1, hg2⟩ := hown1.form (show 0 < nRow.length by decide)
  subst hv
  have hB1 : Below w.heap.size w w1 := ((Below.refl _ _).alloc (Nat.le_refl _) _).trans (hb1.mono (by simp))
  have hr1 := slotsAt_of_own hown1 hg2
  obtain ⟨b', off', he, hlt', hcs⟩ := hr1 (by decide)
  injection he with he
  injection he with he1 he2
  subst he1 he2
  obtain ⟨p0, _, _⟩ := hcs 0 _ rfl
  obtain ⟨p1, _, _⟩ := hcs 1 _ rfl
  obtain ⟨p2, p3, p4⟩ := hcs 2 _ rfl
  obtain ⟨p5, _, _⟩ := hcs 3 _ rfl
  simp only [Nat.zero_add, Nat.zero_mul, Nat.one_mul, Nat.reduceAdd, Nat.reduceMul] at p0 p1 p2 p3 p4 p5
  have hk : nRow.length = 4 := rfl
  have ha : aStr.toList = [97] := by simp [aStr, ByteArray.toList_eq]
  have hb : bStr.toList = [98] := by simp [bStr, ByteArray.toList_eq]
  clear hb1 hown1 hr1 hg1 hcs
  go_wp2_with fail
  refine (known_any w1).mono ?_
  rintro e w2 ⟨rfl, hb2⟩
  go_wp2
  go_ret
  exact ⟨rfl, hB1.trans (hb2.mono hB1.size)⟩
end Go.Proofs.Ytgilejknjdbneaa
