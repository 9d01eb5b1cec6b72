/- NHolds -/
import Derived.Test.YtpblcjipmoblnaaGreatDoorCards
import Derived.Test.YtpblcjipmoblnaaGreatDoorTie
import Derived.Test.YtpblcjipmoblnaaGreatDoorNNames
import Derived.Test.YtpblcjipmoblnaaGreatDoorNWorld
import Derived.Test.YtpblcjipmoblnaaGreatDoorNFacts
import Derived.ProofKit
import Derived.OpenShut
import Derived.Deep.DeepHandedRow
set_option maxRecDepth 100000
set_option maxHeartbeats 4000000
set_option linter.unusedVariables false
set_option linter.unusedSimpArgs false
namespace Go.Proofs.YtpblcjipmoblnaaGreatDoor.checkNamesFacts
open Go
theorem closed : joinedFacts P f fn s c = true := by
 unfold joinedFacts
 exact (and2 (and2 (and2 (and2 (and2 (and2 (and2 (and2 (and2 (and2 (and2 (and2 (and2 (and2 (and2 (and2 (and2 (and2 (and2 (and2 (and2 (and2 (and2 (and2 (and2 (and2 (and2 (and2 (and2 (and2 (and2 j0 j1) j2) j3) j4) j5) j6) j7) j8) j9) j10) j11) j12) j13) j14) j15) j16) j17) j18) j19) j20) j21) j22) j23) j24) j25) j26) j27) j28) j29) j30) j31)
end Go.Proofs.YtpblcjipmoblnaaGreatDoor.checkNamesFacts
namespace Go.Proofs.YtpblcjipmoblnaaGreatDoor.names
open Go.ChangeShapes Go.WideShapes Go.ChangeAt Go.RowKit
theorem own : ownKnob Tryz.prog.godebug = none := by kernel_rfl
theorem contract (H : Type) (enc : TypeId × Value → H) (W : World) (args : Array Value) (ds gs : List (DataW H)) (before : List MemPlace)
 (hW : DataW.Whole enc Tryz.prog Tryz.f3.params.toList Rows.checkNamesSpec.vars false W args.toList ds gs before) (hL : laidMetH Tryz.prog Rows.checkNamesRow.laid W) (hsh : W.ShapedOpen Tryz.prog) :
 Calls Tryz.prog 3 args W fun e W' => ∃ v, e = .returned v ∧ Rows.checkNamesSpec.post enc Tryz.prog Tryz.f3 false true false false W args v W' := by
 have hW' := hW
 obtain ⟨p, q, hA0, hV, rfl, hfz, hnd⟩ := hW
 have hA : DataW.TrodAll enc Tryz.prog W 0 (fun _ => true) true Tryz.f3.params.toList args.toList ds p := hA0
 rw [Tryz.params3] at hA
 obtain ⟨hnil, rfl, rfl⟩ := trodAll_nil hA
 obtain rfl : args = #[] := by cases args; simp_all
 obtain ⟨rfl, rfl⟩ := trodVars_none hV
 clear hA0
 simp only [List.append_nil] at hW'
 refine (names_law (laid_start hL hsh)).mono fun e W' ⟨he, hk⟩ => ?_
 subst he
 have hb : Below W.heap.size W W' := hk.below0 (Nat.le_refl _)
 exact ⟨_, rfl, _, _, _, [], _, [], hW', trodAll_mk1 (shut_bool Tryz.underlying4 _), trodAll_mk0, rfl, hb.frame _, fun h => by cases h⟩
theorem reads (os : Os) {H : Type} (enc : TypeId × Value → H) : ∃ places, DataW.whole enc Tryz.prog (wl os).memory Tryz.f3.params.toList Rows.checkNamesSpec.vars false (#[] : Array Value).toList 8 = some ([], [], places) :=
 ⟨[], by kernel_rfl⟩
theorem lifted (os : Os) (started : os.Started) (H : Type) (enc : TypeId × Value → H) (F : Stop.Interp) :
 ReturnsInHanded {} Tryz.checked os 3 .any ((OpenSpec.ofChange Rows.checkNamesSpec).preRow enc Tryz.prog Tryz.f3 Rows.checkNamesRow.domain false Rows.checkNamesRow.laid) (((OpenSpec.ofChange Rows.checkNamesSpec).at F).post enc Tryz.prog Tryz.f3 false true false false) := by
 obtain ⟨places, hx⟩ := reads os enc
 refine returnsInHanded_of_row (C := Tryz.checked) (s := OpenSpec.ofChange Rows.checkNamesSpec) own started (by kernel_rfl) Tryz.func3
  (witness_row_atRef (enc := enc) (C := Tryz.checked) false (laidWorld os) #[] rfl (wl_vars os) (wl_heap os) (by kernel_rfl)
    (OpenSpec.preRow_of_cond 8 hx (by kernel_rfl) (fun k hk => by cases hk) (by kernel_rfl) (laid_met os))) ?_
 intro W base args ds gs before _ hW _ _ _ hL hsh _
 exact contract H enc W args ds gs before hW hL hsh
theorem said : Rows.CheckNamesSaid :=
 OpenClaim.holds_of_cond 3 Tryz.f3 rfl rfl rfl rfl rfl rfl rfl ⟨rfl, rfl, rfl, rfl, rfl⟩ rfl rfl rfl rfl rfl (by kernel_rfl) Tryz.func3 checkNamesFacts.closed
  (of_decide_eq_true (by kernel_rfl)) (by unfold Func.isWrapper; first | (rw [if_pos (by decide +kernel)]; kernel_rfl) | (rw [if_neg (by decide +kernel)]; exact ⟨rfl, rfl⟩))
  (fun os started H enc _ F => by rw [OpenClaim.pre_eq_preRow]; exact lifted os started H enc F)
theorem plain (f : FuncId) (fn : Func) (hf : Tryz.pinned.checked.prog.funcNamed "bulkhead/bulkheadlaw10.CheckNames" = some f) (hfn : Tryz.pinned.checked.prog.funcs[f]? = some fn) :
 true = Tryz.pinned.checked.prog.looks [] ∧ ∀ (j : Nat) t, fn.params[j]? = some t → Tryz.pinned.checked.prog.wantsStandIn t = false := by
 obtain rfl : f = 3 := Option.some.inj ((show Tryz.prog.funcNamed "bulkhead/bulkheadlaw10.CheckNames" = some 3 by kernel_rfl).symm.trans hf) |>.symm
 obtain rfl : fn = Tryz.f3 := (Option.some.inj (Tryz.func3.symm.trans hfn)).symm
 refine ⟨by kernel_rfl, fun j t ht => ?_⟩
 rw [Tryz.params3] at ht
 simp at ht
theorem checkNames_holds : Rows.CheckNamesCardSaid :=
 Claim7.holds_tied_plain_at .later [] _ _ _ _ said (fun _ h => by cases h) (by kernel_rfl) (fun _ h => by cases h) checkNames_row_tie rfl ⟨rfl, rfl⟩ (by kernel_rfl) rfl plain (by kernel_rfl)
end Go.Proofs.YtpblcjipmoblnaaGreatDoor.names
