/- LanesBest: for every frame, every lane and every list of numbers the Go law returns true and leaves its arguments. No condition. -/
import Derived.Test.YtgilejknjdbneaaRows
import Derived.Test.YtgilejknjdbneaaLawBest
import Derived.Test.YtgilejknjdbneaaOpen4
import Derived.OpenShut
import Derived.ShutString
namespace Go.Proofs.Ytgilejknjdbneaa
open Go.ChangeShapes Go.WideShapes Go.ChangeAt Go.RowKit
open Go.ChangeMaps (open_string shut_string)

theorem Try.ownlanesBest : ownKnob Try.prog.godebug = none := by kernel_rfl
theorem Try.laidOutlanesBest : laidOutB Try.prog = true := by kernel_rfl

set_option maxRecDepth 100000 in
theorem lanesBest_lifted (os : Os) (started : os.Started) (H : Type) (enc : TypeId × Value → H) :
    ReturnsInHanded {} Try.checked os 8 .any (Rows.lanesBestSpec.pre6 enc Try.prog Try.f8 Rows.lanesBestRow.domain false) (Rows.lanesBestSpec.post enc Try.prog Try.f8 false true false false) := by
  refine returnsInHanded_of_change_sized (C := Try.checked) Try.ownlanesBest started (by kernel_rfl) Try.func8
    (ChangeSpec.witness6 (enc := enc) (C := Try.checked) false ⟨#[], #[.int .u64 0, .agg #[.int .i64 0, .int .u64 0, .bool false, .slice none 0 0], .slice none 0 0], []⟩ 8 (by kernel_rfl) (by kernel_rfl) (by kernel_rfl) (by kernel_rfl)) ?_
  intro W base args ds gs before hval0 hW _ hsz0 _
  have hsz : (DataW.weightsEach Try.prog (Try.f8.params.toList ++ Rows.lanesBestSpec.plain.varTypes Try.prog) (ds ++ gs)).all (· ≤ reachBytes) = true := hsz0
  clear hsz0
  have hval : ∀ (j : Nat) t v, Try.f8.params[j]? = some t → args[j]? = some v → Value.okWide Try.prog W .any base t v := hval0
  have hW' := hW
  obtain ⟨p, q, hA0, hV, rfl, hfz, hnd⟩ := hW
  have hA : DataW.TrodAll enc Try.prog W 0 (fun _ => true) true Try.f8.params.toList args.toList ds p := hA0
  rw [Try.params8] at hA hval hsz
  obtain ⟨v0, vs0, d0, ds0, p0, q0, hargs, rfl, rfl, h0, r0⟩ := trodAll_cons hA
  obtain ⟨v1, vs1, d1, ds1, p1, q1, rfl, rfl, rfl, h1, r1⟩ := trodAll_cons r0
  obtain ⟨v2, vs2, d2, ds2, p2, q2, rfl, rfl, rfl, h2, r2⟩ := trodAll_cons r1
  obtain ⟨rfl, rfl, rfl⟩ := trodAll_nil r2
  obtain rfl : args = #[v0, v1, v2] := by cases args; simp_all
  obtain ⟨rfl, rfl⟩ := trodVars_none hV
  obtain ⟨x0, rfl, rfl, rfl, w0⟩ := open_int Try.underlying26 (hval 0 26 v0 rfl rfl) h0
  have k1 := h1
  have lt1 : ∀ x ∈ p1, x.block < W.heap.size := by obtain ⟨m, hm⟩ := k1; exact DataW.trod_lt m _ _ _ hm
  obtain ⟨lp1, cpu1, nd1, A1, c1, xs1, rfl, hxat1, hxb1, hxs1⟩ := lane_open (hval 1 31 v1 rfl rfl) h1
  obtain ⟨a2, len2, cap2, rfl⟩ := okWide_slice Try.underlying54 (hval 2 54 v2 rfl rfl)
  have k2 := h2
  have lt2 : ∀ x ∈ p2, x.block < W.heap.size := by obtain ⟨m, hm⟩ := k2; exact DataW.trod_lt m _ _ _ hm
  obtain ⟨xs2, hxl2, hxat2, hxb2, hxd2⟩ := ints_open h2
  clear hA0 hval0
  have hlen2 : xs2.length * 8 ≤ 140737488351232 := by
    rcases hxd2 with h | ⟨el, sp, rfl, hel⟩
    · omega
    · have := sized_slice hsz (j := 2) (t := 54) (e := 3) rfl rfl Try.underlying54
      rw [show Try.prog.bytesOf 3 = 8 from by kernel_rfl] at this
      simp only [reachBytes] at this
      have h3 : el.length * 8 ≤ (el.length + sp.length) * 8 := Nat.mul_le_mul_right _ (by omega)
      omega
  subst hxl2
  have hx0 : ((x0.toNat : Nat) : Int) = x0 := Int.toNat_of_nonneg (bounds_u64 w0).1
  refine (hx0 ▸ lawBest_any x0.toNat A1 c1 xs1 lp1 cpu1 nd1 a2 cap2 xs2 W (by have := bounds_u64 w0; omega) (fun s hs => (hxb1 s hs).2.2) (hxs1 _ _ 1 hsz rfl rfl) hlen2 hxat1 hxat2).mono fun e W' ⟨he, bel⟩ => ?_
  subst he
  exact ⟨_, rfl, _, _, _, [], _, [], hW', trodAll_mk1 (shut_bool Try.underlying4 _), (trodAll_cons_mk (shut_int Try.underlying26 w0) (trodAll_cons_mk (Below.trod Try.laidOutlanesBest (by kernel_rfl) (of_decide_eq_true (by kernel_rfl)) k1 bel lt1) (trodAll_cons_mk (Below.trod Try.laidOutlanesBest (by kernel_rfl) (of_decide_eq_true (by kernel_rfl)) k2 bel lt2) trodAll_mk0))), rfl, bel.frame _, fun h => by cases h⟩

theorem lanesBest_holds : Rows.LanesBestSaid :=
  OpenClaim.holds_of_wide 8 Try.f8 rfl rfl rfl rfl rfl rfl rfl ⟨rfl, rfl, rfl, rfl, rfl⟩ rfl rfl rfl rfl rfl (by kernel_rfl) Try.func8 (by kernel_rfl)
    (of_decide_eq_true (by kernel_rfl)) (by unfold Func.isWrapper; first | (rw [if_pos (by decide +kernel)]; kernel_rfl) | (rw [if_neg (by decide +kernel)]; exact ⟨rfl, rfl⟩))
    (fun os started H enc _ => lanesBest_lifted os started H enc)

end Go.Proofs.Ytgilejknjdbneaa
