/- Arguments opened: a lane. -/
import Derived.Test.YtgilejknjdbneaaOpen2
import Derived.Lib.SmallJoins
namespace Go.Proofs.Ytgilejknjdbneaa
open Go.ChangeShapes Go.WideShapes Go.ChangeAt Go.RowKit Go.Deep Go.Joins

set_option maxRecDepth 100000 in
theorem lane_open {H : Type} {enc : TypeId × Value → H} {W : World} {base b0 : Nat} {r : Reach} {v : Value} {d : DataW H} {p : List MemPlace} (hv : Value.okWide Try.prog W r b0 31 v) (h : DataW.Trod enc Try.prog W base (fun _ => true) true 31 v d p) :
    ∃ (lp : Int) (cpu : Nat) (nd : Bool) (A : Option Addr) (c : Nat) (xs : List Run), v = .agg #[.int .i64 lp, .int .u64 cpu, .bool nd, .slice A xs.length c] ∧ RunsAt W A xs ∧
      (∀ s ∈ xs, (-9223372036854775808 ≤ s.pos ∧ s.pos ≤ 9223372036854775807) ∧ s.subj.size ≤ maxLen ∧ s.bud < 18446744073709551616 ∧ s.per < 18446744073709551616) ∧
      (∀ (ts : List TypeId) (ds : List (DataW H)) (j : Nat), (DataW.weightsEach Try.prog ts ds).all (· ≤ reachBytes) = true → ts[j]? = some 31 → ds[j]? = some d → xs.length * 40 ≤ 140737488351232) := by
  obtain ⟨v0, v1, v2, v3, y0, y1, y2, y3, n, rfl, rfl, rfl, t0, t1, t2, t3⟩ := open_agg4 Try.underlying31 (by kernel_rfl) (by kernel_rfl) hv h
  obtain ⟨n0, e0, _, w0⟩ := DataW.trod_int Try.underlying3 t0
  obtain ⟨n1, e1, _, w1⟩ := DataW.trod_int Try.underlying26 t1
  obtain ⟨n2, e2, _⟩ := DataW.trod_bool Try.underlying4 t2
  obtain ⟨A, l, c, e3⟩ := slice_form Try.underlying29 t3
  simp at e0 e1 e2 e3
  subst e0 e1 e2 e3
  obtain ⟨xs, hxl, hxat, hxb, hxd⟩ := runs_open_cells t3
  have hu := bounds_u64 w1
  subst hxl
  refine ⟨n0, n1.toNat, n2, A, c, xs, by rw [Int.toNat_of_nonneg hu.1], hxat, hxb, fun ts ds j hw ht hd => ?_⟩
  rcases hxd with h0 | ⟨el, sp, he, hel⟩
  · omega
  · have h1 := List.all_eq_true.1 hw _ (DataW.weights_mem_each ht hd ((el.length + sp.length) * Try.prog.bytesOf 28) (by simp [DataW.weights, DataW.weightsEach, Try.underlying31, Try.underlying29, he]))
    rw [show Try.prog.bytesOf 28 = 40 from by kernel_rfl] at h1
    have h1 : (el.length + sp.length) * 40 ≤ reachBytes := by simpa using h1
    simp only [reachBytes] at h1
    have h3 : el.length * 40 ≤ (el.length + sp.length) * 40 := Nat.mul_le_mul_right _ (by omega)
    omega

end Go.Proofs.Ytgilejknjdbneaa
