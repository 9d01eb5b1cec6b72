/- The walk of the law LanesTells. -/
import Derived.Test.YtgilejknjdbneaaV1
import Derived.Test.YtgilejknjdbneaaT9
import Derived.Test.YtgilejknjdbneaaBkSlot
namespace Go.Proofs.Ytgilejknjdbneaa
open Go.RowKit Go.IntWalk

def mkStr : ByteArray := ⟨#[109, 97, 114, 107]⟩

theorem order_share {t : ByteArray} {l : List Slot} (hl : l.length * 32 ≤ 140737488351232) (hb : ∀ s ∈ l, s.to ≤ 9223372036854775807) : (FloatKind.f64.format.order (shareF t l) (shareF t l) == some .eq) = true := by
  have h1 := lenFrom_bd hb
  have h2 := Ln.budget_bd t l 0
  unfold shareF
  by_cases h0 : Ln.lenFrom 0 none l = 0
  · rw [if_pos h0]; decide +kernel
  · rw [if_neg h0]
    have := (div_num (a := Ln.budget t 0 l) (b := Ln.lenFrom 0 none l) h2.1 (by omega) (by omega) (by omega)).2
    show (Ieee.Format.order Ieee.double _ _ == some .eq) = true
    rw [this]; rfl

set_option maxRecDepth 100000 in
set_option maxHeartbeats 1000000 in
theorem lawTells_any (A : Option Addr) (c : Nat) (l : List Slot) (o : Int) (t : ByteArray) (w : World) (hl : l.length * 32 ≤ 140737488351232) (ho : -9223372036854775808 ≤ o ∧ o ≤ 9223372036854775807)
    (hx : ∀ s ∈ l, s.to ≤ 9223372036854775807) (hr : SlotsAt w A l) :
    Calls Try.prog 5 #[.slice A l.length c, .int .i64 o, .string t] w fun e w' => e = .returned (.bool true) ∧ Below w.heap.size w w' := by
  obtain ⟨R, hR⟩ : ∃ R, R = Ln.sched l o := ⟨_, rfl⟩
  have HR := Lib.hid hR
  obtain ⟨S, hS⟩ : ∃ S, S = shareF t l := ⟨_, rfl⟩
  have hSS := order_share (t := t) hl hx
  rw [← hS] at hSS
  have HS := Lib.hid hS
  obtain ⟨U, hU⟩ : ∃ U, U = Ln.budget t 0 l := ⟨_, rfl⟩
  have HU := Lib.hid hU
  have hl2 : l.length ≤ 4398046510976 := by omega
  have hq : Ln.lenFrom 0 none l ≠ 0 → 0 < Ln.lenFrom 0 none l := fun h => by have := lenFrom_bd hx; omega
  have HQ := Lib.hid hq
  have HX := Lib.hid hx
  clear hR hx hS hU hq
  go_enter Try.func5, Try.ntmps5
  go_wp2_with fail
  refine (roomySlot_any A c l ⟨mkStr, 0, 0⟩ w hl hr).mono ?_
  rintro e w1 ⟨g, rfl, hg1, hg2, hrow, _, hb1⟩
  have hr1 := hr.below hb1 (Nat.le_refl _)
  have hle : (l.length : Int) ≤ (l.length : Int) + 80 := by omega
  go_wp2_with fail
  refine (sched_any (some ⟨g, 0, none⟩) (l.length + 80) l o w1 (by omega) ho HX.out (hrow.pre.at_ hg2)).mono ?_
  rw [← HR.out]
  rintro e w2 ⟨rfl, hb2⟩
  have hr2 := hr1.below hb2 (Nat.le_refl _)
  have hrow2 := hrow.keep (w' := w2) (fun j => hb2.cell (p := ⟨g, j, none⟩) hg2)
  have hs2 := hb2.size
  have hB2 := hb1.trans (hb2.mono hb1.size)
  have hg3 : g < w2.heap.size := by omega
  clear hr1 hrow hb1 hb2 hr
  go_wp2_with fail
  refine (refSched_any A c l o w2 (by omega) ho HX.out hr2 HQ.out).mono ?_
  rw [← HR.out]
  rintro e w3 ⟨rfl, hb3⟩
  have hr3 := hr2.below hb3 (Nat.le_refl _)
  have hrow3 := hrow2.keep (w' := w3) (fun j => hb3.cell (p := ⟨g, j, none⟩) hg3)
  have hs3 := hb3.size
  have hB3 := hB2.trans (hb3.mono hB2.size)
  have hg4 : g < w3.heap.size := by omega
  clear hr2 hrow2 hB2 hb3
  go_wp2_with fail
  refine (budget_any (some ⟨g, 0, none⟩) (l.length + 80) l t w3 (by omega) (hrow3.pre.at_ hg4)).mono ?_
  rw [← HU.out]
  rintro e w4 ⟨rfl, hb4⟩
  have hr4 := hr3.below hb4 (Nat.le_refl _)
  have hrow4 := hrow3.keep (w' := w4) (fun j => hb4.cell (p := ⟨g, j, none⟩) hg4)
  have hs4 := hb4.size
  have hB4 := hB3.trans (hb4.mono hB3.size)
  have hg5 : g < w4.heap.size := by omega
  clear hr3 hrow3 hB3 hb4
  have e1 : (R.1.toList == R.1.toList) = true := by simp
  have e2 : (R.2 == R.2) = true := by simp
  have e3 : (U == U) = true := by simp
  go_wp2_with fail
  refine (refBudget_any A c l t w4 (by omega) hr4).mono ?_
  rw [← HU.out]
  rintro e w5 ⟨rfl, hb5⟩
  have hr5 := hr4.below hb5 (Nat.le_refl _)
  have hrow5 := hrow4.keep (w' := w5) (fun j => hb5.cell (p := ⟨g, j, none⟩) hg5)
  have hs5 := hb5.size
  have hB5 := hB4.trans (hb5.mono hB4.size)
  have hg6 : g < w5.heap.size := by omega
  clear hr4 hrow4 hB4 hb5
  go_wp2_with fail
  refine (share_any (some ⟨g, 0, none⟩) (l.length + 80) l t w5 (by omega) HX.out (hrow5.pre.at_ hg6)).mono ?_
  rw [← HS.out]
  rintro e w6 ⟨rfl, hb6⟩
  have hr6 := hr5.below hb6 (Nat.le_refl _)
  have hrow6 := hrow5.keep (w' := w6) (fun j => hb6.cell (p := ⟨g, j, none⟩) hg6)
  have hs6 := hb6.size
  have hB6 := hB5.trans (hb6.mono hB5.size)
  have hg7 : g < w6.heap.size := by omega
  clear hr5 hrow5 hB5 hb6
  go_wp2_with fail
  refine (lawShare_any A c l t w6 (by omega) HX.out hr6).mono ?_
  rw [← HS.out]
  rintro e w7 ⟨rfl, hb7⟩
  have hr7 := hr6.below hb7 (Nat.le_refl _)
  have hrow7 := hrow6.keep (w' := w7) (fun j => hb7.cell (p := ⟨g, j, none⟩) hg7)
  have hs7 := hb7.size
  have hB7 := hB6.trans (hb7.mono hB6.size)
  have hg8 : g < w7.heap.size := by omega
  clear hr6 hrow6 hB6 hb7
  go_wp2_with fail
  refine (intactSlot_any g c (l.length + 80) A l ⟨mkStr, 0, 0⟩ w7 (by omega) hg8 (by omega) hr7 hrow7).mono ?_
  rintro e w8 ⟨rfl, hb8⟩
  have hB8 := hB7.trans (hb8.mono hB7.size)
  clear hr7 hrow7 hB7 hb8
  go_wp2_with fail
  refine (known_any w8).mono ?_
  rintro e w9 ⟨rfl, hb9⟩
  have hB9 := hB8.trans (hb9.mono hB8.size)
  go_wp2
  go_ret
  exact ⟨rfl, hB9⟩

end Go.Proofs.Ytgilejknjdbneaa
