/- NNames -/
import Derived.Test.YtpblcjipmoblnaaGreatDoorNKnown
import Derived.Test.YtpblcjipmoblnaaGreatDoorStart
set_option maxRecDepth 100000
set_option maxHeartbeats 4000000
set_option linter.unusedVariables false
set_option linter.unusedSimpArgs false
namespace Go.Proofs.YtpblcjipmoblnaaGreatDoor
open Go.RowKit Go.IntWalk Ck
theorem names_law {w : World} (hl : Laid w.heap.size w) : Calls Tryz.prog 3 #[] w fun e w' => e = .returned (.bool true) ∧ Keep (fun _ => False) w w' := by
 go_enter Tryz.func3, Tryz.ntmps3
 go_wp2_with fail
 refine (numbers_any w).mono ?_
 rintro e w1 ⟨rfl, hk1⟩
 have HL := Lib.hid ((hl.below (hk1.below0 (Nat.le_refl _))).mono hk1.size)
 have HK := Lib.hid hk1
 clear hl hk1
 go_wp2_with fail
 refine (knownL_any HL.out).mono ?_
 rintro e w2 ⟨rfl, hk2⟩
 have HK2 := Lib.hid hk2
 clear hk2
 go_wp2
 go_ret
 exact ⟨rfl, HK.out.trans HK2.out (fun _ _ e => e)⟩
end Go.Proofs.YtpblcjipmoblnaaGreatDoor
