/- Contracts of the law's great and of the document's wrong, wants and Demand. -/
import Derived.Test.YtgilejknjdbneaaT2
import Derived.StillTailTactics
namespace Go.Proofs.Ytgilejknjdbneaa
open Go.RowKit Go.IntWalk

def Ln.great (M : Nat) (nd : Bool) (n : Nat) : Bool := decide (5000 < n) || (nd && decide (M ≤ 65536) && decide (60000000 < n * M))

set_option maxRecDepth 100000 in
set_option maxHeartbeats 1000000 in
theorem great_any (M : Nat) (A : Option Addr) (c n : Nat) (lp : Int) (cpu : Nat) (nd : Bool) (w : World) (hM : M < 18446744073709551616) (hl : n ≤ 140737488351232) :
    Calls Try.prog 14 #[.int .u64 M, .agg #[.int .i64 lp, .int .u64 cpu, .bool nd, .slice A n c]] w fun e w' => e = .returned (.bool (Ln.great M nd n)) ∧ Below w.heap.size w w' := by
  by_cases h1 : 5000 < n
  · have hr : Ln.great M nd n = true := by simp [Ln.great, h1]
    rw [hr]
    clear hr
    go_enter Try.func14, Try.ntmps14
    go_wp2
    go_ret
    exact ⟨rfl, (Below.refl _ _).alloc (Nat.le_refl _) _⟩
  · cases nd
    · have hr : Ln.great M false n = false := by simp [Ln.great, h1]
      rw [hr]
      clear hr
      go_enter Try.func14, Try.ntmps14
      go_wp2
      go_ret
      exact ⟨by simp; omega, (Below.refl _ _).alloc (Nat.le_refl _) _⟩
    · by_cases h2 : M ≤ 65536
      · have hmul : n * M ≤ 5000 * 65536 := Nat.mul_le_mul (by omega) h2
        have hm1 : (n : Int) * (M : Int) = ((n * M : Nat) : Int) := by simp
        obtain ⟨q, hq⟩ : ∃ q, q = n * M := ⟨_, rfl⟩
        rw [← hq] at hmul hm1
        have hr : Ln.great M true n = decide (60000000 < q) := by simp [Ln.great, h1, h2, hq]
        rw [hr]
        have h2' : decide (M ≤ 65536) = true := by simpa using h2
        have h2'' : (M : Int) ≤ 65536 := by omega
        clear hr hq
        go_enter Try.func14, Try.ntmps14
        go_wp2
        go_ret
        refine ⟨?_, (Below.refl _ _).alloc (Nat.le_refl _) _⟩
        have hd0 : decide ((5000 : Int) < n) = false := by simp; omega
        simp [hm1, hd0]
        omega
      · have hr : Ln.great M true n = false := by simp [Ln.great, h1, h2]
        rw [hr]
        clear hr
        go_enter Try.func14, Try.ntmps14
        go_wp2
        go_ret
        exact ⟨by simp; omega, (Below.refl _ _).alloc (Nat.le_refl _) _⟩

set_option maxRecDepth 100000 in
set_option maxHeartbeats 1000000 in
theorem wrongR_any (M : Nat) (r : Run) (nd : Bool) (w : World) (hM : M < 18446744073709551616) (hb : r.bud < 18446744073709551616) (hp : r.per < 18446744073709551616) :
    Calls Try.prog 50 #[.int .u64 M, r.val, .bool nd] w fun e w' => e = .returned (.int .i64 (Ln.right M r nd)) ∧ Below w.heap.size w w' := by
  obtain ⟨pos, s, bud, per⟩ := r
  simp only [Run.val] at *
  by_cases h0 : per = 0
  · subst h0
    go_enter Try.func50, Try.ntmps50
    go_wp2
    all_goals go_ret
    all_goals refine ⟨ret_int ?_, (Below.refl _ _).alloc (Nat.le_refl _) _⟩
    all_goals (unfold Ln.right; simp_all)
    all_goals try omega
  · have h0' : ((per : Int) == 0) = false := by simpa using h0
    go_enter Try.func50, Try.ntmps50
    go_wp2
    all_goals go_ret
    all_goals refine ⟨ret_int ?_, (Below.refl _ _).alloc (Nat.le_refl _) _⟩
    all_goals (unfold Ln.right; simp_all)
    all_goals try omega

set_option maxRecDepth 100000 in
set_option maxHeartbeats 1000000 in
theorem wantsR_any (M : Nat) (r : Run) (nd : Bool) (w : World) (hM : M ≤ 65536) (hb : r.bud ≤ M) (hp : nd = true → r.bud ≤ r.per ∧ 1 ≤ r.per ∧ r.per ≤ M) :
    Calls Try.prog 51 #[.int .u64 M, r.val, .bool nd] w fun e w' => e = .returned (.int .u64 (Ln.wants M r nd)) ∧ Below w.heap.size w w' := by
  obtain ⟨pos, s, bud, per⟩ := r
  simp only [Run.val] at *
  go_enter Try.func51, Try.ntmps51
  cases nd
  · go_wp2
    go_ret
    exact ⟨rfl, (Below.refl _ _).alloc (Nat.le_refl _) _⟩
  · obtain ⟨h1, h2, h3⟩ := hp rfl
    clear hp
    have h4 : bud * (M / per) ≤ M := Nat.le_trans (Nat.mul_le_mul_right _ h1) (Nat.mul_div_le M per)
    have h5 : (bud : Int) * ((M : Int) / (per : Int)) = ((bud * (M / per) : Nat) : Int) := by simp
    have h6 : (0 : Int) ≤ (bud : Int) * ((M : Int) / (per : Int)) := by rw [h5]; omega
    have h7 : (bud : Int) * ((M : Int) / (per : Int)) ≤ 65536 := by rw [h5]; omega
    clear h5
    go_wp2
    go_quiet (fail)
    go_wp2
    go_ret
    refine ⟨ret_int ?_, below_drewN ((Below.refl _ _).alloc (Nat.le_refl _) _) _⟩
    simp only [Ln.wants, if_true]
    have h8 := tdiv_le M per (by omega) (by omega)
    rw [u64_in (↑M / ↑per) (by omega), u64_in _ (by omega)]
    simp
end Go.Proofs.Ytgilejknjdbneaa
