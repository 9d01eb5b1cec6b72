/- The walk of the law LanesAt. -/
import Derived.Test.YtgilejknjdbneaaV1
import Derived.Test.YtgilejknjdbneaaU3
import Derived.Test.YtgilejknjdbneaaBkStint
namespace Go.Proofs.Ytgilejknjdbneaa
open Go.RowKit Go.IntWalk

set_option maxRecDepth 100000 in
set_option maxHeartbeats 1000000 in
theorem lawAt_any (A : Option Addr) (c : Nat) (l : List Stint) (M o : Int) (w : World) (hl : l.length * 16 ≤ 140737488351232) (hM : M ≤ 9223372036854775807)
    (hx : ∀ s ∈ l, (-9223372036854775808 ≤ s.subj ∧ s.subj ≤ 9223372036854775807) ∧ s.ticks ≤ 9223372036854775807) (hr : StintsAt w A l) :
    Calls Try.prog 6 #[.slice A l.length c, .int .i64 M, .int .i64 o] w fun e w' => e = .returned (.bool true) ∧ Below w.heap.size w w' := by
  obtain ⟨R, hR⟩ : ∃ R, R = Ln.at_ l M o := ⟨_, rfl⟩
  have HR := Lib.hid hR
  have hl2 : l.length ≤ 8796093021952 := by omega
  have HX := Lib.hid hx
  clear hR hx
  go_enter Try.func6, Try.ntmps6
  go_wp2_with fail
  refine (roomyStint_any A c l ⟨0, -9⟩ w hl hr).mono ?_
  rintro e w1 ⟨g, rfl, hg1, hg2, hrow, _, hb1⟩
  have hr1 := hr.below hb1 (Nat.le_refl _)
  have hle : (l.length : Int) ≤ (l.length : Int) + 80 := by omega
  go_wp2_with fail
  refine (at_any (some ⟨g, 0, none⟩) (l.length + 80) l M o w1 (by omega) hM HX.out (hrow.pre.at_ hg2)).mono ?_
  rw [← HR.out]
  rintro e w2 ⟨rfl, hb2⟩
  have hr2 := hr1.below hb2 (Nat.le_refl _)
  have hrow2 := hrow.keep (w' := w2) (fun j => hb2.cell (p := ⟨g, j, none⟩) hg2)
  have hs2 := hb2.size
  have hB2 := hb1.trans (hb2.mono hb1.size)
  clear hr1 hrow hb1 hb2
  go_wp2_with fail
  refine (refAt_any A c l M o w2 (by omega) hM HX.out hr2).mono ?_
  rw [← HR.out]
  rintro e w3 ⟨rfl, rfl⟩
  have e1 : (R.1 == R.1) = true := by simp
  have e2 : (R.2 == R.2) = true := by simp
  go_wp2_with fail
  refine (intactStint_any g c (l.length + 80) A l ⟨0, -9⟩ w3 (by omega) (by omega) (by omega) hr2 hrow2).mono ?_
  rintro e w4 ⟨rfl, hb4⟩
  have hB4 := hB2.trans (hb4.mono hB2.size)
  go_wp2_with fail
  refine (known_any w4).mono ?_
  rintro e w5 ⟨rfl, hb5⟩
  have hB5 := hB4.trans (hb5.mono hB4.size)
  go_wp2
  go_ret
  exact ⟨rfl, hB5⟩

end Go.Proofs.Ytgilejknjdbneaa
