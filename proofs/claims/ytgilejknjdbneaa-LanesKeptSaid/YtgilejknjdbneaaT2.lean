/- The contract of lanes.Demand. -/
import Derived.Test.YtgilejknjdbneaaT1
namespace Go.Proofs.Ytgilejknjdbneaa
open Go.RowKit Go.IntWalk

def demandOut : Option Nat → Ending
  | none => .returned (.tuple #[.int .u64 0, .bool false])
  | some d => .returned (.tuple #[.int .u64 d, .bool true])

set_option maxHeartbeats 400000 in
theorem demand_in (M : Nat) (A : Option Addr) (c : Nat) (xs : List Run) (lp : Int) (cpu : Nat) (nd : Bool) (w : World) (hM : 1 ≤ M) (hM2 : M ≤ 65536)
    (hx : ∀ r ∈ xs, r.bud < 18446744073709551616 ∧ r.per < 18446744073709551616) (hl : xs.length ≤ 140737488351232) (hr : RunsAt w A xs) :
    Calls Try.prog 40 #[.int .u64 M, .agg #[.int .i64 lp, .int .u64 cpu, .bool nd, .slice A xs.length c]] w fun e w' =>
      e = demandOut (Ln.demand M nd 0 xs) ∧ Below w.heap.size w w' := by
  obtain ⟨W, hW⟩ : ∃ W, W = w.alloc (.cells #[.int .i64 lp, .int .u64 cpu, .bool nd, .slice A xs.length c] 31) := ⟨_, rfl⟩
  have hB : Below w.heap.size w W := by subst hW; exact (Below.refl _ _).alloc (Nat.le_refl _) _
  have hWs : W.heap.size = w.heap.size + 1 := by subst hW; simp
  have c2 : W.cell? ⟨w.heap.size, 2, none⟩ = some (.bool nd) := by subst hW; rw [World.cell?_alloc_at _ _ _ _ rfl]; rfl
  have hR : RunsAt W A xs := hr.below hB (Nat.le_refl _)
  have HS := Lib.hid hWs
  have HW := Lib.hid hW
  clear hWs
  go_enter Try.func40, Try.ntmps40
  have h0 : ¬ M < 1 := by omega
  have h1 : ¬ 65536 < M := by omega
  go_wp2
  rw [← hW]
  clear hW
  go_loopw [6, 18] (fun s i wr => ∃ k d : Nat, k ≤ xs.length ∧ i = .int .i64 k ∧ d ≤ k * 65536 ∧ s = .int .u64 d ∧ Ln.demand M nd d (xs.drop k) = Ln.demand M nd 0 xs ∧ Below W.heap.size W wr) (fun _ i _ => xs.length - (intOf i).toNat)
  case atStart => exact ⟨0, 0, by omega, rfl, by omega, rfl, rfl, Below.refl _ _⟩
  case round =>
    obtain ⟨k, d, hk, rfl, hd, rfl, hdem0, hbw⟩ := hrel
    have hdem := Lib.hid hdem0
    clear hdem0
    have hsz := hbw.size
    by_cases hlt : k < xs.length
    · obtain ⟨b, off, rfl, hbl, hcs⟩ := hR (by omega)
      obtain ⟨r, hrk⟩ : ∃ r, xs[k]? = some r := ⟨xs[k], List.getElem?_eq_getElem hlt⟩
      have hmem : r ∈ xs := List.mem_of_getElem? hrk
      obtain ⟨q0, q1, q2, q3⟩ := hcs k r hrk
      rw [← hbw.cell (p := ⟨b, _, none⟩) (by exact hbl)] at q0 q1 q2 q3
      have c2' : wr.cell? ⟨w.heap.size, 2, none⟩ = some (.bool nd) := by
        rw [hbw.cell (p := ⟨w.heap.size, 2, none⟩) (by simp [HS.out])]; exact c2
      have hbud := (hx r hmem).1
      have hper := (hx r hmem).2
      have hlt0 : w.heap.size < wr.heap.size := by have := HS.out; omega
      have hlt1 : b < wr.heap.size := by omega
      have Hrk := Lib.hid hrk
      clear hrk hcs c2 hr
      go_wp2_with fail
      refine (right_any _ r _ _ (by omega) hbud hper).mono ?_
      rintro e w1 ⟨rfl, hb1⟩
      have hz1 := hb1.size
      simp at hz1
      obtain ⟨hc1, hf1⟩ := bcell hb1
      have hbw1 : Below W.heap.size W w1 := (hbw.alloc hbw.size _).trans (hb1.mono (by simp; omega))
      clear hb1
      by_cases hr : Ln.right M r nd = 0
      · have hr' : (Ln.right M r nd != 0) = false := by simp [hr]
        have hw := Ln.wants_le hr
        obtain ⟨o1, o2, o3⟩ := Ln.right_ok hr
        have O3 : Hid (nd = true → r.bud ≤ r.per ∧ 1 ≤ r.per ∧ r.per ≤ M) := fun h => ⟨(o3 h).2.1, (o3 h).2.2.1, (o3 h).2.2.2.1⟩
        have Hr := Lib.hid hr
        clear hr o3
        go_wp2_with fail
        refine (wants_any _ r _ _ hM2 o2 O3.out).mono ?_
        rintro e w2 ⟨rfl, hb2⟩
        have hbw2 : Below W.heap.size W w2 := hbw1.trans (hb2.mono (by omega))
        clear hb2 hc1 hf1
        go_wp2
        go_roundw
        case rel =>
          refine ⟨k + 1, d + Ln.wants M r nd, by omega, by go_num, by omega, by go_num, ?_, hbw2⟩
          rw [← hdem.out]
          have := List.getElem?_eq_some_iff.1 Hrk.out
          obtain ⟨h1, h2⟩ := this
          rw [List.drop_eq_getElem_cons h1, h2]
          simp only [Ln.demand, Hr.out, if_true]
        case measure => simp [intOf]; omega
      · have hr' : (Ln.right M r nd != 0) = true := by simp [hr]
        go_wp2
        go_ret2
        have h : Ln.demand M nd 0 xs = none := by
          rw [← hdem.out]
          obtain ⟨h1, h2⟩ := List.getElem?_eq_some_iff.1 Hrk.out
          rw [List.drop_eq_getElem_cons h1, h2]
          simp only [Ln.demand, hr, if_false]
        rw [h]
        exact ⟨rfl, hB.trans (hbw1.mono (by simp [HS.out]))⟩
    · go_wp2
      go_ret2
      have hk' : k = xs.length := by omega
      have h := hdem.out
      subst hk'
      rw [List.drop_length] at h
      rw [← h]
      exact ⟨rfl, hB.trans (hbw.mono (by simp [HS.out]))⟩

end Go.Proofs.Ytgilejknjdbneaa
