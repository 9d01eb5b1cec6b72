/- Contracts of lanes.right, lanes.wants and row.end. -/
import Derived.Test.YtgilejknjdbneaaBase
namespace Go.Proofs.Ytgilejknjdbneaa
open Go.RowKit Go.IntWalk

set_option maxHeartbeats 400000 in
theorem right_any (M : Nat) (r : Run) (nd : Bool) (w : World) (hM : M < 18446744073709551616) (hb : r.bud < 18446744073709551616) (hp : r.per < 18446744073709551616) :
    Calls Try.prog 35 #[.int .u64 M, r.val, .bool nd] w fun e w' => e = .returned (.int .i64 (Ln.right M r nd)) ∧ Below w.heap.size w w' := by
  obtain ⟨pos, s, bud, per⟩ := r
  simp only [Run.val] at *
  go_enter Try.func35, Try.ntmps35
  go_wp2
  all_goals go_ret
  all_goals refine ⟨ret_int ?_, (Below.refl _ _).alloc (Nat.le_refl _) _⟩
  all_goals (unfold Ln.right; simp_all)
  all_goals try omega

set_option maxHeartbeats 400000 in
theorem wants_any (M : Nat) (r : Run) (nd : Bool) (w : World) (hM : M ≤ 65536) (hb : r.bud ≤ M) (hp : nd = true → r.bud ≤ r.per ∧ 1 ≤ r.per ∧ r.per ≤ M) :
    Calls Try.prog 36 #[.int .u64 M, r.val, .bool nd] w fun e w' => e = .returned (.int .u64 (Ln.wants M r nd)) ∧ Below w.heap.size w w' := by
  obtain ⟨pos, s, bud, per⟩ := r
  simp only [Run.val] at *
  go_enter Try.func36, Try.ntmps36
  cases nd
  · go_wp2
    go_ret
    exact ⟨rfl, (Below.refl _ _).alloc (Nat.le_refl _) _⟩
  · obtain ⟨h1, h2, h3⟩ := hp rfl
    clear hp
    have h4 : bud * (M / per) ≤ M := Nat.le_trans (Nat.mul_le_mul_right _ h1) (Nat.mul_div_le M per)
    have h5 : (bud : Int) * ((M : Int) / (per : Int)) = ((bud * (M / per) : Nat) : Int) := by simp
    have h6 : (0 : Int) ≤ (bud : Int) * ((M : Int) / (per : Int)) := by rw [h5]; omega
    have h7 : (bud : Int) * ((M : Int) / (per : Int)) ≤ 65536 := by rw [h5]; omega
    clear h5
    go_wp2
    go_quiet (fail)
    go_wp2
    go_ret
    refine ⟨ret_int ?_, below_drewN ((Below.refl _ _).alloc (Nat.le_refl _) _) _⟩
    simp only [Ln.wants, if_true]
    have h8 := tdiv_le M per (by omega) (by omega)
    rw [u64_in (↑M / ↑per) (by omega), u64_in _ (by omega)]
    simp

set_option maxHeartbeats 400000 in
theorem end_none (w : World) (c : Nat) (A : Option Addr) : Calls Try.prog 39 #[.slice A 0 c] w fun e w' => e = .returned (.int .i64 0) ∧ w = w' := by
  go_enter Try.func39, Try.ntmps39
  go_wp2
  go_ret
  exact ⟨rfl, rfl⟩

set_option maxHeartbeats 400000 in
theorem end_some (w : World) (b off n c : Nat) (to : Int) (hn : n < 140737488351232) (hc : w.cell? ⟨b, off + n * 3 + 2, none⟩ = some (.int .i64 to)) : Calls Try.prog 39 #[.slice (some ⟨b, off, none⟩) (n+1) c] w fun e w' => e = .returned (.int .i64 to) ∧ w = w' := by
  go_enter Try.func39, Try.ntmps39
  go_wp2
  go_ret
  exact ⟨rfl, rfl⟩

end Go.Proofs.Ytgilejknjdbneaa
