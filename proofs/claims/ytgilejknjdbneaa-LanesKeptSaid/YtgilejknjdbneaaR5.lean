/- The contract of the document's Ticks; Flatten's answer in plain words. -/
import Derived.Test.YtgilejknjdbneaaR4
import Derived.Test.YtgilejknjdbneaaN1
namespace Go.Proofs.Ytgilejknjdbneaa
open Go.RowKit Go.IntWalk
namespace Ln
/-- Who runs at each tick of a lane that is right. -/
def names (M : Nat) (nd : Bool) (xs : List Run) : List ByteArray := if nd then Edf.ticks xs.length (nP xs) (nB xs) (nS xs) M else runTicks M xs
/-- Flatten's answer. -/
def flatAny (M : Nat) (nd : Bool) (xs : List Run) : List Slot × Int × Int :=
  if M < 1 ∨ 65536 < M then ([], -1, 92) else match flatErr M nd 0 0 xs with
  | some (i, e) => ([], i, e)
  | none => capped (rowFrom [] (names M nd xs))
theorem flatAny_needs {M : Nat} {xs : List Run} (h : ¬ (M < 1 ∨ 65536 < M)) : flatAny M true xs = flatNeeds M xs := by
  unfold flatAny flatNeeds
  rw [if_neg h]
  rfl
theorem flatAny_runs {M : Nat} {xs : List Run} (h : ¬ (M < 1 ∨ 65536 < M)) : flatAny M false xs = flatRuns M xs := by
  unfold flatAny flatRuns
  rw [if_neg h]
  rcases hq : flatErr M false 0 0 xs with _ | ⟨i, e⟩
  · simp only
    rw [runs_row (fun r hr => (right_ok ((flatErr_none hq).1 r hr)).1)]
    rfl
  · rfl
theorem names_length {M : Nat} {nd : Bool} {xs : List Run} (h : flatErr M nd 0 0 xs = none) : (names M nd xs).length = M := by
  unfold names
  cases nd
  · have := (flatErr_none h).2 rfl (by omega)
    exact runTicks_length (by omega)
  · exact Edf.ticks_length M
end Ln

/-- lanes.Flatten. -/
theorem flat_any (M : Nat) (nd : Bool) (A : Option Addr) (c : Nat) (xs : List Run) (lp : Int) (cpu : Nat) (w : World) (hM : M < 18446744073709551616)
    (hx : ∀ r ∈ xs, r.bud < 18446744073709551616 ∧ r.per < 18446744073709551616) (hl : xs.length ≤ 140737488351232) (hr : RunsAt w A xs) :
    Calls Try.prog 12 #[.int .u64 M, .agg #[.int .i64 lp, .int .u64 cpu, .bool nd, .slice A xs.length c]] w (FlatPost w (Ln.flatAny M nd xs)) := by
  by_cases h : M < 1 ∨ 65536 < M
  · rw [Ln.flatAny, if_pos h]
    exact flat_bad M w h hM lp cpu nd _ rfl
  · cases nd
    · rw [Ln.flatAny_runs h]
      exact flat_runs M A c xs lp cpu w (by omega) (by omega) hx hl hr
    · rw [Ln.flatAny_needs h]
      exact flat_needs M A c xs lp cpu w (by omega) (by omega) hx hl hr

theorem numsFrom_bound (l : List Run) : ∀ (i : Nat) (x : Int), x ∈ Ln.numsFrom i l → (i : Int) ≤ x ∧ x < ((i + l.length : Nat) : Int) := by
  induction l with
  | nil => intro i x h; simp [Ln.numsFrom] at h
  | cons r l ih =>
    intro i x h
    simp only [Ln.numsFrom, List.mem_append] at h
    rcases h with h | h
    · have := List.eq_of_mem_replicate h
      simp only [List.length_cons]
      omega
    · have := ih (i + 1) x h
      simp only [List.length_cons]
      omega

/-- The document's Ticks of a lane that is right. -/
theorem ticksR_any (M : Nat) (nd : Bool) (A : Option Addr) (c : Nat) (xs : List Run) (lp : Int) (cpu : Nat) (w : World) (hM : 1 ≤ M) (hM2 : M ≤ 65536) (hok : Ln.flatErr M nd 0 0 xs = none) (hr : RunsAt w A xs) :
    Calls Try.prog 52 #[.int .i64 M, .agg #[.int .i64 lp, .int .u64 cpu, .bool nd, .slice A xs.length c]] w fun e w' =>
      ∃ g nums, e = .returned (.slice (some ⟨g, 0, none⟩) M M) ∧ w'.ownsRow w.heap.size 3 1 (.slice (some ⟨g, 0, none⟩) M M) M (intCells nums) ∧ Below w.heap.size w w' ∧
        nums.map (Ln.subjAt xs) = Ln.names M nd xs ∧ ∀ x ∈ nums, 0 ≤ x → x.toNat < xs.length := by
  cases nd
  · have h1 := (Ln.flatErr_none hok).2 rfl (by omega)
    refine (ticksR_runs M A c xs lp cpu w hM2 (fun r hr => (Ln.right_ok ((Ln.flatErr_none hok).1 r hr)).1) (by omega) hr).mono ?_
    rintro e w' ⟨g, rfl, hown, hb⟩
    refine ⟨g, _, rfl, hown, hb, Ln.numsRuns_names M xs, fun x hx h0 => ?_⟩
    rcases List.mem_append.1 hx with h | h
    · have := numsFrom_bound xs 0 x h; omega
    · have := List.eq_of_mem_replicate h; omega
  · have h1 := Ln.needs_ok hok
    refine (ticksR_needs M xs.length A c xs lp cpu w hM2 rfl (by have := h1.len; omega) (fun r hr => by obtain ⟨a, b, c, d, e, f⟩ := h1.each r hr; exact ⟨a, by omega, d, by omega⟩) hr).mono ?_
    rintro e w' ⟨g, rfl, hown, hb⟩
    refine ⟨g, _, rfl, hown, hb, Ln.numsNeeds_names M xs, fun x hx h0 => ?_⟩
    obtain ⟨t, _, rfl⟩ := List.mem_map.1 hx
    rcases hq : Edf.who xs.length (Ln.nP xs) (Ln.nB xs) t with _ | k
    · rw [hq] at h0; simp [Ln.numOf] at h0
    · have := (Edf.who_lt hq).1
      simpa [Ln.numOf] using this
end Go.Proofs.Ytgilejknjdbneaa
