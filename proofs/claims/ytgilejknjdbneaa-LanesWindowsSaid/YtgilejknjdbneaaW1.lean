/- The contract of the book's Within, at 0 to 200000; Flatten's good answer. -/
import Derived.Test.YtgilejknjdbneaaR5
import Derived.Test.YtgilejknjdbneaaV1
import Derived.Test.YtgilejknjdbneaaPlain15
namespace Go.Proofs.Ytgilejknjdbneaa
open Go.RowKit Go.IntWalk

theorem tmod_lt (n : Int) : -200001 < n.tmod 200001 ∧ n.tmod 200001 < 200001 := by
  constructor
  · have := Int.lt_tmod_of_pos n (b := 200001) (by decide); simpa using this
  · exact Int.tmod_lt_of_pos n (by decide)
set_option maxRecDepth 100000 in
theorem within_any (n : Int) (w : World) (hn : -9223372036854775808 ≤ n ∧ n ≤ 9223372036854775807) :
    Calls Try.prog 29 #[.int .i64 n, .int .i64 0, .int .i64 200000] w fun e w' => (∃ F : Nat, F ≤ 200000 ∧ e = .returned (.int .i64 F)) ∧ w = w' := by
  obtain ⟨h1, h2⟩ := tmod_lt n
  obtain ⟨q, hq⟩ : ∃ q, q = n.tmod 200001 := ⟨_, rfl⟩
  rw [← hq] at h1 h2
  go_enter Try.func29, Try.ntmps29
  go_wp2
  · rw [← hq]
    go_ret
    refine ⟨⟨(q + 200001).toNat, by omega, ret_int ?_⟩, rfl⟩
    simp
    omega
  · rw [← hq]
    go_ret
    refine ⟨⟨q.toNat, by omega, ret_int ?_⟩, rfl⟩
    simp
    omega
namespace Ln
theorem flatErr_ne {M : Nat} {nd : Bool} {xs : List Run} : ∀ {i s : Nat} {a e : Int}, flatErr M nd i s xs = some (a, e) → e ≠ 0 := by
  induction xs with
  | nil => intro i s a e h; simp [flatErr] at h
  | cons r xs ih =>
    intro i s a e h
    simp only [flatErr] at h
    split at h
    · split at h
      · injection h with h; injection h with h1 h2; rw [← h2]; decide
      · exact ih h
    · rename_i hr
      injection h with h; injection h with h1 h2; rw [← h2]; exact hr
theorem flatAny_ok {M : Nat} {nd : Bool} {xs : List Run} (h : (flatAny M nd xs).2.2 = 0) :
    1 ≤ M ∧ M ≤ 65536 ∧ (names M nd xs).length = M ∧ flatAny M nd xs = (rowFrom [] (names M nd xs), 0, 0) ∧ (rowFrom [] (names M nd xs)).length ≤ 4096 := by
  unfold flatAny at h ⊢
  by_cases hm : M < 1 ∨ 65536 < M
  · rw [if_pos hm] at h; simp at h
  · rw [if_neg hm] at h ⊢
    rcases hq : flatErr M nd 0 0 xs with _ | ⟨a, e⟩
    · rw [hq] at h
      simp only at h ⊢
      unfold capped at h ⊢
      by_cases hc : 4096 < (rowFrom [] (names M nd xs)).length
      · rw [if_pos hc] at h; simp at h
      · rw [if_neg hc]
        exact ⟨by omega, by omega, names_length hq, rfl, by omega⟩
    · rw [hq] at h
      exact absurd h (flatErr_ne hq)
end Ln
end Go.Proofs.Ytgilejknjdbneaa
