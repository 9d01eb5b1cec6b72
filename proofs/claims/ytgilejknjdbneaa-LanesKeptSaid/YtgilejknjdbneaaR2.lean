/- The contract of the document's Demand. -/
import Derived.Test.YtgilejknjdbneaaR1
import Derived.Deep.CutRange
import Derived.Deep.RegionWith
import Derived.Deep.LoopGhost
namespace Go.Proofs.Ytgilejknjdbneaa
open Go.RowKit Go.IntWalk

set_option maxRecDepth 100000 in
set_option maxHeartbeats 400000 in
theorem demandR_in (M : Nat) (A : Option Addr) (c : Nat) (xs : List Run) (lp : Int) (cpu : Nat) (nd : Bool) (w : World) (hM : 1 ≤ M) (hM2 : M ≤ 65536)
    (hx : ∀ r ∈ xs, r.bud < 18446744073709551616 ∧ r.per < 18446744073709551616) (hl : xs.length ≤ 140737488351232) (hr : RunsAt w A xs) :
    Calls Try.prog 42 #[.int .u64 M, .agg #[.int .i64 lp, .int .u64 cpu, .bool nd, .slice A xs.length c]] w fun e w' =>
      e = demandOut (Ln.demand M nd 0 xs) ∧ Below w.heap.size w w' := by
  obtain ⟨W, hW⟩ : ∃ W, W = w.alloc (.cells #[.int .i64 lp, .int .u64 cpu, .bool nd, .slice A xs.length c] 31) := ⟨_, rfl⟩
  have hB : Below w.heap.size w W := by subst hW; exact (Below.refl _ _).alloc (Nat.le_refl _) _
  have hWs : W.heap.size = w.heap.size + 1 := by subst hW; simp
  have c2 : W.cell? ⟨w.heap.size, 2, none⟩ = some (.bool nd) := by subst hW; rw [World.cell?_alloc_at _ _ _ _ rfl]; rfl
  have c3 : W.cell? ⟨w.heap.size, 3, none⟩ = some (.slice A xs.length c) := by subst hW; rw [World.cell?_alloc_at _ _ _ _ rfl]; rfl
  have hR : RunsAt W A xs := hr.below hB (Nat.le_refl _)
  have HS := Lib.hid hWs
  have HW := Lib.hid hW
  clear hWs
  go_enter Try.func42, Try.ntmps42
  have h0 : ¬ M < 1 := by omega
  have h1 : ¬ 65536 < M := by omega
  go_wp2
  rw [← hW]
  clear hW
  go_loopg [6, 7] xs.length (fun g s i wr => ∃ k d : Nat, g + k = xs.length ∧ k ≤ xs.length ∧ i = .int .i64 k ∧ d ≤ k * 65536 ∧ s = .int .u64 d ∧ Hid (Ln.demand M nd d (xs.drop k) = Ln.demand M nd 0 xs) ∧ Below W.heap.size W wr)
  case atStart => exact ⟨0, 0, rfl, by omega, rfl, by omega, rfl, rfl, Below.refl _ _⟩
  case round =>
    obtain ⟨k, d, hgk, hk, rfl, hd, rfl, hdem, hbw⟩ := hrel
    have HGK := Lib.hid hgk
    clear hgk
    have hsz := hbw.size
    have c3' : wr.cell? ⟨w.heap.size, 3, none⟩ = some (.slice A xs.length c) := by
      rw [hbw.cell (p := ⟨w.heap.size, 3, none⟩) (by simp [HS.out])]; exact c3
    have hlt0 : w.heap.size < wr.heap.size := by have := HS.out; omega
    by_cases hlt : k < xs.length
    · obtain ⟨b, off, rfl, hbl, hcs⟩ := hR (by omega)
      obtain ⟨r, hrk⟩ : ∃ r, xs[k]? = some r := ⟨xs[k], List.getElem?_eq_getElem hlt⟩
      have hmem : r ∈ xs := List.mem_of_getElem? hrk
      obtain ⟨q0, q1, q2, q3⟩ := hcs k r hrk
      rw [← hbw.cell (p := ⟨b, _, none⟩) (by exact hbl)] at q0 q1 q2 q3
      have c2' : wr.cell? ⟨w.heap.size, 2, none⟩ = some (.bool nd) := by
        rw [hbw.cell (p := ⟨w.heap.size, 2, none⟩) (by simp [HS.out])]; exact c2
      have hbud := (hx r hmem).1
      have hper := (hx r hmem).2
      have hlt1 : b < wr.heap.size := by omega
      have Hrk := Lib.hid hrk
      clear hrk hcs c2 c3 hr
      go_upto_region 7 with fail
      go_still_tail 8, (by kernel_rfl)
      change wpList _ _ _ _ _ wr.drew
      obtain ⟨wy, hwy⟩ : ∃ wy, wy = wr.drew := ⟨_, rfl⟩
      have hyw : Below W.heap.size W wy := by rw [hwy]; exact hbw.drew
      have hys : wr.heap.size ≤ wy.heap.size := by rw [hwy]; exact Nat.le_refl _
      have hyc : ∀ b o, wy.cell? ⟨b, o, none⟩ = wr.cell? ⟨b, o, none⟩ := fun b o => by rw [hwy]; rfl
      rw [← hwy]
      rw [← hyc] at q0 q1 q2 q3 c2' c3'
      clear hwy hyc
      go_wp2_with fail
      refine (wrongR_any _ r _ _ (by omega) hbud hper).mono ?_
      rintro e w1 ⟨rfl, hb1⟩
      have hz1 := hb1.size
      obtain ⟨hc1, hf1⟩ := bcell hb1
      have hbw1 : Below W.heap.size W w1 := hyw.trans (hb1.mono hyw.size)
      clear hb1
      by_cases hr : Ln.right M r nd = 0
      · have hr' : (Ln.right M r nd != 0) = false := by simp [hr]
        have hw := Ln.wants_le hr
        obtain ⟨o1, o2, o3⟩ := Ln.right_ok hr
        have O3 : Hid (nd = true → r.bud ≤ r.per ∧ 1 ≤ r.per ∧ r.per ≤ M) := fun h => ⟨(o3 h).2.1, (o3 h).2.2.1, (o3 h).2.2.2.1⟩
        have Hr := Lib.hid hr
        clear hr o3
        have q0' := (hc1 b (off + k * 4) (by omega)).trans q0
        have q1' := (hc1 b (off + k * 4 + 1) (by omega)).trans q1
        have q2' := (hc1 b (off + k * 4 + 2) (by omega)).trans q2
        have q3' := (hc1 b (off + k * 4 + 3) (by omega)).trans q3
        have c2'' := (hc1 w.heap.size 2 (by omega)).trans c2'
        have c3'' := (hc1 w.heap.size 3 (by omega)).trans c3'
        have hlt3 : b < w1.heap.size := by omega
        have hlt4 : w.heap.size < w1.heap.size := by omega
        go_upto_region 9 with fail
        clear q0 q1 q2 q3 c2' c3' hc1 hf1
        have hfin : Ln.demand M nd (d + Ln.wants M r nd) (xs.drop (k + 1)) = Ln.demand M nd 0 xs := by
          rw [← hdem.out]
          have := List.getElem?_eq_some_iff.1 Hrk.out
          obtain ⟨h1, h2⟩ := this
          rw [List.drop_eq_getElem_cons h1, h2]
          simp only [Ln.demand, Hr.out, if_true]
        have HFin := Lib.hid hfin
        clear hfin
        go_region_with (go_at_call 51; refine (wantsR_any _ r _ _ hM2 o2 O3.out).mono ?_; rintro e w2 ⟨rfl, hb2⟩)
        all_goals (try go_wp2_with fail)
        all_goals go_roundg (xs.length - (k + 1))
        all_goals first
          | (have := HGK.out; omega)
          | exact ⟨k + 1, d + Ln.wants M r nd, by omega, by omega, by go_num, by omega, by go_num, HFin.out, hbw1.drew.trans (hb2.mono hbw1.size)⟩
      · have hr' : (Ln.right M r nd != 0) = true := by simp [hr]
        go_wp2
        go_ret2
        have h : Ln.demand M nd 0 xs = none := by
          rw [← hdem.out]
          obtain ⟨h1, h2⟩ := List.getElem?_eq_some_iff.1 Hrk.out
          rw [List.drop_eq_getElem_cons h1, h2]
          simp only [Ln.demand, hr, if_false]
        rw [h]
        exact ⟨rfl, hB.trans (hbw1.mono (by simp [HS.out]))⟩
    · go_wp2
      go_ret2
      have hk' : k = xs.length := by omega
      have h := hdem.out
      subst hk'
      rw [List.drop_length] at h
      rw [← h]
      exact ⟨rfl, hB.trans (hbw.mono (by simp [HS.out]))⟩

end Go.Proofs.Ytgilejknjdbneaa
