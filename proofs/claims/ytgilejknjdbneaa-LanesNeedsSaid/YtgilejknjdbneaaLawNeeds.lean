/- The walk of the law LanesNeeds. -/
import Derived.Test.YtgilejknjdbneaaM1
import Derived.Test.YtgilejknjdbneaaR1
import Derived.Test.YtgilejknjdbneaaR5
import Derived.Test.YtgilejknjdbneaaV1
import Derived.Test.YtgilejknjdbneaaPlain13
import Derived.Test.YtgilejknjdbneaaArr
import Derived.Test.YtgilejknjdbneaaPlain14
import Derived.Test.YtgilejknjdbneaaPlain12
import Derived.Deep.CutRange
import Derived.Deep.LoopGhost
namespace Go.Proofs.Ytgilejknjdbneaa
open Go.RowKit Go.IntWalk

theorem own_form5 {w : World} {base : Nat} {e : TypeId} {size : Nat} {v : Value} {n : Nat} {xs : List Value} (h : w.ownsRow base e size v n xs) : ∃ A c, v = .slice A n c := by
  rcases h.2 with ⟨h1, h2⟩ | ⟨g, cap, cur, h1, _⟩
  · exact ⟨none, 0, by rw [h1, h2]⟩
  · exact ⟨_, _, h1⟩
theorem slotsAt_own5 {w : World} {B : Nat} {A : Option Addr} {c : Nat} {l : List Slot} (hown : w.ownsRow B 33 3 (.slice A l.length c) l.length (slotCells l)) : SlotsAt w A l := by
  intro h0
  obtain ⟨g, cap, hv, hBg, hlt⟩ := hown.form h0
  injection hv with e1 e2 e3
  subst e1
  exact slotsAt_of_own hown hlt h0
namespace Edf
theorem pick_zero5 {p : Nat → Nat} {t j : Nat} {L : Nat → Nat} (h : L j = 0) : pick p t L (j + 1) = pick p t L j := by
  rcases hq : pick p t L j with _ | k <;> simp [pick, hq, h]
theorem pick_first5 {p : Nat → Nat} {t j : Nat} {L : Nat → Nat} (h : 0 < L j) (hq : pick p t L j = none) : pick p t L (j + 1) = some j := by
  simp [pick, hq, h]
theorem pick_next5 {p : Nat → Nat} {t j k : Nat} {L : Nat → Nat} (h : 0 < L j) (hq : pick p t L j = some k) : pick p t L (j + 1) = if due p t j < due p t k then some j else some k := by
  simp [pick, hq, h]
end Edf
theorem Try.info26n : (Try.prog.info? 26).map (fun i => (i.zero, i.size, i.bytes)) = some (some (.int .u64 0), 1, 8) := by kernel_rfl

set_option maxRecDepth 100000 in
set_option maxHeartbeats 4000000 in
theorem lawNeeds_in (M n : Nat) (A : Option Addr) (c : Nat) (xs : List Run) (lp : Int) (cpu : Nat) (nd : Bool) (w : World) (hM : M < 18446744073709551616)
    (hx : ∀ r ∈ xs, r.bud < 18446744073709551616 ∧ r.per < 18446744073709551616) (hxn : xs.length = n) (hl : n * 40 ≤ 140737488351232) (hr : RunsAt w A xs) :
    Calls Try.prog 7 #[.int .u64 M, .agg #[.int .i64 lp, .int .u64 cpu, .bool nd, .slice A n c]] w fun e w' => e = .returned (.bool true) ∧ Below w.heap.size w w' := by
  obtain ⟨W, hW⟩ : ∃ W, W = w.alloc (.cells #[.int .i64 lp, .int .u64 cpu, .bool nd, .slice A n c] 31) := ⟨_, rfl⟩
  obtain ⟨p, hp⟩ : ∃ p, p = w.heap.size := ⟨_, rfl⟩
  have hB : Below w.heap.size w W := by subst hW; exact (Below.refl _ _).alloc (Nat.le_refl _) _
  have hv0 : W.heap[p]? = some (.cells #[.int .i64 lp, .int .u64 cpu, .bool nd, .slice A n c] 31 (0, 0)) := by subst hW hp; exact heap_alloc_new _ _
  have hps : p < W.heap.size := (Array.getElem?_eq_some_iff.1 hv0).1
  have hnm := named_any n A c xs lp cpu nd W hxn (by omega) (hr.below hB (Nat.le_refl _))
  have HNm := Lib.hid hnm
  have HB := Lib.hid hB
  have HV0 := Lib.hid hv0
  have HPW : Hid (w.heap.size = p) := hp.symm
  have HX := Lib.hid hx
  have HXN := Lib.hid hxn
  clear hB hr hx hxn hp hnm hv0
  go_enter Try.func7, Try.ntmps7
  go_wp2_with fail
  rw [← hW, HPW.out]
  clear hW
  refine HNm.out.mono ?_
  rintro e w1 ⟨A', c', ys, rfl, hrs, hren, hab, hb1⟩
  have hv1 : w1.heap[p]? = some (.cells #[.int .i64 lp, .int .u64 cpu, .bool nd, .slice A n c] 31 (0, 0)) := (hb1.block p hps).trans HV0.out
  have hps1 : p < w1.heap.size := (Array.getElem?_eq_some_iff.1 hv1).1
  have z0 : w1.cell? ⟨p, 0, none⟩ = some (.int .i64 lp) := cell_of_row _ _ _ _ _ _ hv1
  have z1 : w1.cell? ⟨p, 1, none⟩ = some (.int .u64 cpu) := cell_of_row _ _ _ _ _ _ hv1
  have z2 : w1.cell? ⟨p, 2, none⟩ = some (.bool nd) := cell_of_row _ _ _ _ _ _ hv1
  have z3 : w1.cell? ⟨p, 3, none⟩ = some (.slice A n c) := cell_of_row _ _ _ _ _ _ hv1
  have f0 : w1.frozen? ⟨p, 0, none⟩ = false := by simp [World.frozen?, hv1]
  have f1 : w1.frozen? ⟨p, 1, none⟩ = false := by simp [World.frozen?, hv1]
  have f2 : w1.frozen? ⟨p, 2, none⟩ = false := by simp [World.frozen?, hv1]
  have f3 : w1.frozen? ⟨p, 3, none⟩ = false := by simp [World.frozen?, hv1]
  obtain ⟨w2, hw2⟩ : ∃ w2, w2 = (((w1.setCell ⟨p, 0, none⟩ (.int .i64 0)).setCell ⟨p, 1, none⟩ (.int .u64 0)).setCell ⟨p, 2, none⟩ (.bool true)).setCell ⟨p, 3, none⟩ (.slice A' n c') := ⟨_, rfl⟩
  have hk2 : Keep (fun k => k = p) w1 w2 := by
    rw [hw2]
    exact ((((Keep.refl (fun k => k = p) w1).setCell (fun _ => rfl) _).setCell (fun _ => rfl) _).setCell (fun _ => rfl) _).setCell (fun _ => rfl) _
  have hv2 : w2.heap[p]? = some (.cells #[.int .i64 0, .int .u64 0, .bool true, .slice A' n c'] 31 (0, 0)) := by rw [hw2]; simp [World.setCell, Array.getElem?_modify, hv1]
  have hb12 : Below p w w2 := ((HB.out.trans (hb1.mono HB.out.size)).mono (by rw [HPW.out]; exact Nat.le_refl _)).trans (hk2.below (by omega) (fun i hi h => by omega))
  have hys : ys.length = n := by rw [hren.len, HXN.out]
  have hrs2 : RunsAt w2 A' ys := by
    intro h0
    obtain ⟨b, off, rfl, hbl, hcs⟩ := hrs h0
    have hbp : b ≠ p := by have := hab _ rfl; simp only at this; omega
    refine ⟨b, off, rfl, by have := hk2.size; omega, fun i r hr => ?_⟩
    obtain ⟨q0, q1, q2, q3⟩ := hcs i r hr
    have hc : ∀ o, w2.cell? ⟨b, o, none⟩ = w1.cell? ⟨b, o, none⟩ := fun o => hk2.cell (p := ⟨b, o, none⟩) hbl hbp
    rw [hc, hc, hc, hc]
    exact ⟨q0, q1, q2, q3⟩
  have hxy : ∀ r ∈ ys, r.bud < 18446744073709551616 ∧ r.per < 18446744073709551616 ∧ r.subj.toList.isEmpty = false := fun r hr => by
    obtain ⟨i, hi⟩ := List.getElem?_of_mem hr
    have hil := (List.getElem?_eq_some_iff.1 hi).1
    have h1 : xs[i]? = some (xs[i]'(by rw [HXN.out]; omega)) := List.getElem?_eq_getElem (by rw [HXN.out]; omega)
    obtain ⟨s, h2, h3⟩ := hren.each i _ h1
    rw [hi] at h2
    injection h2 with h2
    have h4 := HX.out _ (List.mem_of_getElem? h1)
    rw [h2]
    exact ⟨h4.1, h4.2, h3⟩
  obtain ⟨Z, hZ⟩ : ∃ Z, Z = w2.heap.size := ⟨_, rfl⟩
  have hpz : p < Z := by rw [hZ]; exact (Array.getElem?_eq_some_iff.1 hv2).1
  have hBox : Hid (∀ wr, Below Z w2 wr → (wr.cell? ⟨p, 0, none⟩ = some (.int .i64 0) ∧ wr.cell? ⟨p, 1, none⟩ = some (.int .u64 0) ∧ wr.cell? ⟨p, 2, none⟩ = some (.bool true) ∧ wr.cell? ⟨p, 3, none⟩ = some (.slice A' n c')) ∧ p < wr.heap.size) := fun wr hb => by
    have e0 := (hb.block p hpz).trans hv2
    exact ⟨⟨cell_of_row _ _ _ _ _ _ e0, cell_of_row _ _ _ _ _ _ e0, cell_of_row _ _ _ _ _ _ e0, cell_of_row _ _ _ _ _ _ e0⟩, by have := hb.size; omega⟩
  have hRuns : Hid (∀ wr, Below Z w2 wr → RunsAt wr A' ys) := fun wr hb => hrs2.below hb (by rw [hZ]; exact Nat.le_refl _)
  have HZ := Lib.hid hZ
  have HB2 := Lib.hid hb12
  have HYS := Lib.hid hys
  have HXY := Lib.hid hxy
  have hwz : w.heap.size ≤ Z := by rw [HPW.out]; omega
  obtain ⟨⟨c0, c1, c2, c3⟩, hps2⟩ := hBox.out w2 (Below.refl _ _)
  clear hrs hren hab hb1 hv1 hk2 hv2 hb12 hys hrs2 hxy hZ
  go_upto_region 2 with fail
  rw [← hw2]
  clear hw2 z0 z1 z2 z3 f0 f1 f2 f3 hps1
  go_wp2_with fail
  refine (great_any M A' c' n 0 0 true w2 hM (by omega)).mono ?_
  rintro e w3 ⟨rfl, hb3⟩
  obtain ⟨gr, hgr⟩ : ∃ gr, gr = Ln.great M true n := ⟨_, rfl⟩
  rw [← hgr]
  have HG := Lib.hid hgr
  have hb3z : Below Z w2 w3 := by rw [HZ.out]; exact hb3
  have HB3 := Lib.hid hb3z
  clear hgr hb3 hb3z c0 c1 c2 c3 hps2
  obtain ⟨⟨c0, c1, c2, c3⟩, hps3⟩ := hBox.out w3 HB3.out
  have hbw : Below p w w3 := HB2.out.trans (HB3.out.mono (by omega))
  have HBw3 := Lib.hid hbw
  clear hbw
  cases gr
  rotate_left
  · go_wp2_with fail
    go_at_call 13
    refine (known_any w3).mono ?_
    rintro e wk ⟨rfl, hbk⟩
    have HBk := Lib.hid (HBw3.out.trans (hbk.mono (by have := HBw3.out.size; have := HPW.out; omega)))
    clear hbk
    go_wp2
    go_ret
    exact ⟨rfl, by first | exact HBk.out | (rw [HPW.out]; exact HBk.out)⟩
  by_cases hM1 : M < 1
  · go_wp2_with fail
    go_at_call 13
    refine (known_any w3).mono ?_
    rintro e wk ⟨rfl, hbk⟩
    have HBk := Lib.hid (HBw3.out.trans (hbk.mono (by have := HBw3.out.size; have := HPW.out; omega)))
    clear hbk
    go_wp2
    go_ret
    exact ⟨rfl, by first | exact HBk.out | (rw [HPW.out]; exact HBk.out)⟩
  by_cases hM2 : 65536 < M
  · go_wp2_with fail
    go_at_call 13
    refine (known_any w3).mono ?_
    rintro e wk ⟨rfl, hbk⟩
    have HBk := Lib.hid (HBw3.out.trans (hbk.mono (by have := HBw3.out.size; have := HPW.out; omega)))
    clear hbk
    go_wp2
    go_ret
    exact ⟨rfl, by first | exact HBk.out | (rw [HPW.out]; exact HBk.out)⟩
  by_cases hn2 : 2000 < n
  · go_wp2_with fail
    go_at_call 13
    refine (known_any w3).mono ?_
    rintro e wk ⟨rfl, hbk⟩
    have HBk := Lib.hid (HBw3.out.trans (hbk.mono (by have := HBw3.out.size; have := HPW.out; omega)))
    clear hbk
    go_wp2
    go_ret
    exact ⟨rfl, by first | exact HBk.out | (rw [HPW.out]; exact HBk.out)⟩
  have hz3 : Z ≤ w3.heap.size := by have := HB3.out.size; have := HZ.out; omega
  obtain ⟨P, hP⟩ : ∃ P, P = Ln.nP ys := ⟨_, rfl⟩
  obtain ⟨Bd, hBd⟩ : ∃ B, B = Ln.nB ys := ⟨_, rfl⟩
  obtain ⟨S, hS⟩ : ∃ S, S = Ln.nS ys := ⟨_, rfl⟩
  have hcell : ∀ wr, Below Z w2 wr → ∀ i, i < n → ∃ (b off : Nat) (pos : Int) (s : ByteArray) (bd pd : Nat), A' = some ⟨b, off, none⟩ ∧ b < wr.heap.size ∧ b < Z ∧ Hid (Bd i = bd ∧ P i = pd ∧ S i = s) ∧ bd < 18446744073709551616 ∧ pd < 18446744073709551616 ∧
      wr.cell? ⟨b, off + i * 4, none⟩ = some (.int .i64 pos) ∧ wr.cell? ⟨b, off + i * 4 + 1, none⟩ = some (.string s) ∧ wr.cell? ⟨b, off + i * 4 + 2, none⟩ = some (.int .u64 bd) ∧ wr.cell? ⟨b, off + i * 4 + 3, none⟩ = some (.int .u64 pd) := fun wr hb i hi => by
    obtain ⟨b, off, rfl, hbl, hcs⟩ := hRuns.out w2 (Below.refl _ _) (by rw [HYS.out]; omega)
    have h1 := List.getElem?_eq_getElem (l := ys) (i := i) (by rw [HYS.out]; omega)
    obtain ⟨b1, b2, b3⟩ := HXY.out _ (List.mem_of_getElem? h1)
    obtain ⟨q0, q1, q2, q3⟩ := hcs i _ h1
    have hbz : b < Z := by rw [HZ.out]; exact hbl
    rw [← hb.cell (p := ⟨b, _, none⟩) hbz] at q0 q1 q2 q3
    exact ⟨b, off, _, _, _, _, rfl, by have := hb.size; rw [HZ.out] at hbz; omega, hbz, ⟨by rw [hBd, Ln.nB_at h1], by rw [hP, Ln.nP_at h1], by rw [hS, Ln.nS_at h1]⟩, b1, b2, q0, q1, q2, q3⟩
  obtain ⟨SW, hSW⟩ : ∃ SW : Nat → Nat, SW = fun k => Ln.sumWants M (ys.take k) := ⟨_, rfl⟩
  have hSW0 : SW 0 = 0 := by rw [hSW]; rfl
  have hSWs : ∀ k, k < n → SW (k + 1) = SW k + M / P k * Bd k := fun k hk => by
    have h1 := List.getElem?_eq_getElem (l := ys) (i := k) (by rw [HYS.out]; omega)
    rw [hSW, hP, hBd, Ln.nP_at h1, Ln.nB_at h1]
    exact Ln.sumWants_take h1
  have hSWn : SW n = Ln.sumWants M ys := by rw [hSW]; simp only; rw [← HYS.out, List.take_length]
  have HCell := Lib.hid hcell
  have HP := Lib.hid hP
  have HBd := Lib.hid hBd
  have HS := Lib.hid hS
  have HSW0 := Lib.hid hSW0
  have HSWs := Lib.hid hSWs
  have HSWn := Lib.hid hSWn
  clear hcell hP hBd hS hSW hSW0 hSWs hSWn HBw3
  go_wp2
  go_loopg [5, 6] n (fun q s x wr => ∃ (k : Nat), q + k = n ∧ x = .int .i64 k ∧ s = .int .u64 (SW k) ∧ Hid (Below Z w2 wr) ∧ Hid (∀ i, i < k → 1 ≤ P i ∧ P i ≤ M ∧ M % P i = 0 ∧ 1 ≤ Bd i ∧ Bd i ≤ P i))
  case atStart => exact ⟨0, rfl, rfl, by rw [HSW0.out]; rfl, HB3.out, fun i hi => by omega⟩
  case round =>
    clear c0 c1 c2 c3 hps3
    obtain ⟨k, hqk, rfl, rfl, HBk0, HO⟩ := hrel
    have HQ := Lib.hid hqk
    have hkn : k ≤ n := by omega
    obtain ⟨⟨c0, c1, c2, c3⟩, hpsk⟩ := hBox.out wr HBk0.out
    have hSWb : SW k ≤ k * 65536 := by
      have key : ∀ j, j ≤ k → SW j ≤ j * 65536 := fun j => by
        induction j with
        | zero => intro _; rw [HSW0.out]; exact Nat.zero_le _
        | succ j ih =>
          intro hj
          have h1 := ih (by omega)
          obtain ⟨o1, o2, o3, o4, o5⟩ := HO.out j (by omega)
          rw [HSWs.out j (by omega)]
          have h2 : M / P j * Bd j ≤ M / P j * P j := Nat.mul_le_mul_left _ o5
          have h3 := Nat.div_mul_le_self M (P j)
          omega
      exact key k (Nat.le_refl _)
    clear hqk c0 c1 c2
    by_cases hlt : k < n
    · obtain ⟨b, off, pos, s, bd, pd, rfl, hbw, hbz, HC, hbd, hpd, q0, q1, q2, q3⟩ := HCell.out wr HBk0.out k hlt
      have hki : (k : Int) < n := by omega
      obtain ⟨px, hpx⟩ : ∃ px, px = wr.heap.size := ⟨_, rfl⟩
      obtain ⟨wx, hwx⟩ : ∃ wx, wx = wr.alloc (Obj.cells #[.int .i64 pos, .string s, .int .u64 bd, .int .u64 pd] 28) := ⟨_, rfl⟩
      have hxv : wx.heap[px]? = some (.cells #[.int .i64 pos, .string s, .int .u64 bd, .int .u64 pd] 28 (0, 0)) := by rw [hwx, hpx]; exact heap_alloc_new _ _
      have x2 : wx.cell? ⟨px, 2, none⟩ = some (.int .u64 bd) := cell_of_row _ _ _ _ _ _ hxv
      have x3 : wx.cell? ⟨px, 3, none⟩ = some (.int .u64 pd) := cell_of_row _ _ _ _ _ _ hxv
      have hpxx : px < wx.heap.size := (Array.getElem?_eq_some_iff.1 hxv).1
      have hkx : Keep (fun _ => False) wr wx := by rw [hwx]; exact (Keep.refl _ _).alloc _
      have hbx : Below Z w2 wx := by
        have h1 : Z ≤ wr.heap.size := by have := HBk0.out.size; have := HZ.out; omega
        exact HBk0.out.trans (hkx.below h1 (by simp))
      have hbpx : Below p w wx := HB2.out.trans (hbx.mono (by omega))
      have HBx := Lib.hid hbx
      have HBpx := Lib.hid hbpx
      have HPX := Lib.hid hpx
      clear hxv hkx hbx hbpx HBk0 hpx
      go_upto_region 9 with fail
      rw [← hwx, ← HPX.out]
      clear hwx q0 q1 q2 q3 c3
      by_cases hb1 : bd < 1
      · go_wp2_with fail
        go_at_call 13
        refine (known_any wx).mono ?_
        rintro e wk ⟨rfl, hbk⟩
        have HBk := Lib.hid (HBpx.out.trans (hbk.mono (by have := HBpx.out.size; have := HPW.out; omega)))
        clear hbk
        go_wp2
        go_ret
        exact ⟨rfl, by first | exact HBk.out | (rw [HPW.out]; exact HBk.out)⟩
      by_cases hb5 : pd < bd
      · go_wp2_with fail
        go_at_call 13
        refine (known_any wx).mono ?_
        rintro e wk ⟨rfl, hbk⟩
        have HBk := Lib.hid (HBpx.out.trans (hbk.mono (by have := HBpx.out.size; have := HPW.out; omega)))
        clear hbk
        go_wp2
        go_ret
        exact ⟨rfl, by first | exact HBk.out | (rw [HPW.out]; exact HBk.out)⟩
      by_cases hb2 : M < pd
      · go_wp2_with fail
        go_at_call 13
        refine (known_any wx).mono ?_
        rintro e wk ⟨rfl, hbk⟩
        have HBk := Lib.hid (HBpx.out.trans (hbk.mono (by have := HBpx.out.size; have := HPW.out; omega)))
        clear hbk
        go_wp2
        go_ret
        exact ⟨rfl, by first | exact HBk.out | (rw [HPW.out]; exact HBk.out)⟩
      by_cases hb3 : M % pd = 0
      rotate_left
      · have hmi : ((M : Int) % (pd : Int) != 0) = true := by simp; omega
        go_wp2_with fail
        go_at_call 13
        refine (known_any wx).mono ?_
        rintro e wk ⟨rfl, hbk⟩
        have HBk := Lib.hid (HBpx.out.trans (hbk.mono (by have := HBpx.out.size; have := HPW.out; omega)))
        clear hbk
        go_wp2
        go_ret
        exact ⟨rfl, by first | exact HBk.out | (rw [HPW.out]; exact HBk.out)⟩
      have hmi : ((M : Int) % (pd : Int) != 0) = false := by simp; omega
      have hq1 : M / pd * bd ≤ M / pd * pd := Nat.mul_le_mul_left _ (by omega)
      have hq2 := Nat.div_mul_le_self M pd
      have hq3 : ((M : Int) / (pd : Int)) * (bd : Int) = ((M / pd * bd : Nat) : Int) := by simp
      have hq4 : (0 : Int) ≤ ((M : Int) / (pd : Int)) * (bd : Int) := by rw [hq3]; omega
      have hq5 : ((M : Int) / (pd : Int)) * (bd : Int) ≤ 65536 := by rw [hq3]; omega
      have hq6 := tdiv_le M pd (by omega) (by omega)
      have HSk := Lib.hid (HSWs.out k hlt)
      have HQ3 := Lib.hid hq3
      clear hq1 hq2 hq3
      go_wp2_with fail
      go_quiet (fail)
      go_wp2
      go_roundg (n - (k + 1))
      case measure => have := HQ.out; omega
      case rel =>
        refine ⟨k + 1, by omega, by go_num, ?_, Lib.hid (below_drewN HBx.out _), fun i hi => ?_⟩
        · rw [HSk.out, HC.out.1, HC.out.2.1]
          first | rfl | (rw [u64_in (↑M / ↑pd) (by omega), u64_in _ (by omega), HQ3.out]; first | rfl | go_num | (rw [u64_in _ (by omega)]; go_num))
        · by_cases hik : i = k
          · subst hik
            rw [HC.out.1, HC.out.2.1]
            exact ⟨by omega, by omega, hb3, by omega, by omega⟩
          · exact HO.out i (by omega)
    · have hke : k = n := by omega
      have hok := HO.out
      rw [hke] at hok
      have hrn : ∀ r ∈ ys, Ln.right M r true = 0 := fun r hr => by
        obtain ⟨i, hi⟩ := List.getElem?_of_mem hr
        have hil := (List.getElem?_eq_some_iff.1 hi).1
        have h1 := hok i (by rw [← HYS.out]; exact hil)
        rw [HBd.out, HP.out, Ln.nP_at hi, Ln.nB_at hi] at h1
        exact Ln.right_needs h1.2.2.2.1 h1.2.2.2.2 h1.2.1 h1.2.2.1 (HXY.out r hr).2.2
      have hfe := Ln.flatErr_needs hrn 0 0 (by omega)
      rw [Nat.zero_add, ← HSWn.out] at hfe
      have hfl := flat_any M true A' c' ys 0 0 wr hM (fun r hr => ⟨(HXY.out r hr).1, (HXY.out r hr).2.1⟩) (by rw [HYS.out]; omega) (hRuns.out wr HBk0.out)
      rw [HYS.out] at hfl
      have hbw : Below p w wr := HB2.out.trans (HBk0.out.mono (by omega))
      obtain ⟨sw, hsw⟩ : ∃ sw, sw = SW n := ⟨_, rfl⟩
      rw [hke] at hSWb
      rw [← hsw] at hfe hSWb
      have HFe := Lib.hid hfe
      have HFl := Lib.hid hfl
      have HBw := Lib.hid hbw
      have HOk := Lib.hid hok
      have HSw := Lib.hid hsw
      have hswk : SW k = sw := by rw [hsw, hke]
      rw [hswk]
      clear hrn hfe hfl hbw hok hsw hswk HO hke c3 hpsk
      obtain ⟨⟨c0, c1, c2, c3⟩, hpsk⟩ := hBox.out wr HBk0.out
      by_cases hsum : M < sw
      · obtain ⟨j, hj1, hj2⟩ := HFe.out.2 hsum
        have hfa : Ln.flatAny M true ys = ([], (j : Int), 93) := by rw [Ln.flatAny, if_neg (by omega), hj2]
        have hjn : (j : Int) < n := by rw [Nat.zero_add, HYS.out] at hj1; omega
        have hfl := HFl.out
        rw [hfa] at hfl
        have HFl2 := Lib.hid hfl
        clear hj1 hj2 hfa hfl
        go_wp2_with fail
        go_at_call 12
        refine HFl2.out.mono ?_
        rintro e w5 ⟨v, rfl, hown, hb5⟩
        simp only at hown ⊢
        obtain ⟨A5, c5, rfl⟩ : ∃ A c, v = .slice A 0 c := own_form5 hown
        have hbw5 : Below p w w5 := HBw.out.trans (hb5.mono (by have := HBw.out.size; have := HPW.out; omega))
        have HBw5 := Lib.hid hbw5
        have hbz5 : Below Z w2 w5 := HBk0.out.trans (hb5.mono (by have := HBk0.out.size; have := HZ.out; omega))
        clear hown hb5 hbw5 c0 c1 c2 c3 hpsk
        obtain ⟨⟨c0, c1, c2, c3⟩, hps5⟩ := hBox.out w5 hbz5
        clear hbz5
        go_wp2_with fail
        go_at_call 13
        refine (known_any w5).mono ?_
        rintro e wk ⟨rfl, hbk⟩
        have HBk := Lib.hid (HBw5.out.trans (hbk.mono (by have := HBw5.out.size; have := HPW.out; omega)))
        clear hbk
        go_wp2
        go_ret
        exact ⟨rfl, by first | exact HBk.out | (rw [HPW.out]; exact HBk.out)⟩
      · have hfn := HFe.out.1 (by omega)
        have hfa : Ln.flatAny M true ys = Ln.capped (Ln.edf ys M) := by rw [Ln.flatAny, if_neg (by omega), hfn]; rfl
        have hgood := Ln.edf_good ys M
        have hlen := Ln.edf_len ys M
        have hto := Ln.edf_to (xs := ys) (M := M)
        have hname : ∀ t, t < M → (Edf.ticks ys.length (Ln.nP ys) (Ln.nB ys) (Ln.nS ys) M)[t]? = some (Edf.nameOf S (Edf.who n P Bd t)) := fun t ht => by
          rw [Ln.edf_name ht, HYS.out, HP.out, HBd.out, HS.out]
        obtain ⟨T, hT⟩ : ∃ T, T = Edf.ticks ys.length (Ln.nP ys) (Ln.nB ys) (Ln.nS ys) M := ⟨_, rfl⟩
        obtain ⟨rows, hrows⟩ : ∃ x, x = Ln.edf ys M := ⟨_, rfl⟩
        rw [← hT] at hgood hname
        rw [← hrows] at hfa hgood hlen hto
        have hokn := Ln.needs_ok hfn
        have hfits := hokn.fits (by omega)
        rw [HYS.out, ← HP.out, ← HBd.out] at hfits
        have hfl := HFl.out
        rw [hfa] at hfl
        have HFl2 := Lib.hid hfl
        have HGood := Lib.hid hgood
        have HTo := Lib.hid hto
        have HName := Lib.hid hname
        have HFits := Lib.hid hfits
        clear hfn hfa hgood hto hname hT hrows hokn hfits hfl
        go_wp2_with fail
        go_at_call 12
        refine HFl2.out.mono ?_
        rintro e w5 ⟨v, rfl, hown, hb5⟩
        have hbz5 : Below Z w2 w5 := HBk0.out.trans (hb5.mono (by have := HBk0.out.size; have := HZ.out; omega))
        have hbw5 : Below p w w5 := HB2.out.trans (hbz5.mono (by omega))
        have HBw5 := Lib.hid hbw5
        have HBz5 := Lib.hid hbz5
        obtain ⟨Z5, hZ5⟩ : ∃ Z5, Z5 = wr.heap.size := ⟨_, rfl⟩
        rw [← hZ5] at hown
        clear hb5 hbw5 hbz5 c0 c1 c2 c3 hpsk
        obtain ⟨⟨c0, c1, c2, c3⟩, hps5⟩ := hBox.out w5 HBz5.out
        unfold Ln.capped at hown ⊢
        by_cases hcap : 4096 < rows.length
        · rw [if_pos hcap] at hown ⊢
          simp only at hown ⊢
          obtain ⟨A5, c5, rfl⟩ : ∃ A c, v = .slice A 0 c := own_form5 hown
          clear hown
          go_wp2_with fail
          go_at_call 13
          refine (known_any w5).mono ?_
          rintro e wk ⟨rfl, hbk⟩
          have HBk := Lib.hid (HBw5.out.trans (hbk.mono (by have := HBw5.out.size; have := HPW.out; omega)))
          clear hbk
          go_wp2
          go_ret
          exact ⟨rfl, by first | exact HBk.out | (rw [HPW.out]; exact HBk.out)⟩
        · rw [if_neg hcap] at hown ⊢
          simp only at hown ⊢
          obtain ⟨A5, c5, rfl⟩ : ∃ A c, v = .slice A rows.length c := own_form5 hown
          have hsl := slotsAt_own5 hown
          obtain ⟨R, hR⟩ : ∃ R, R = rows.length := ⟨_, rfl⟩
          have hRM : 0 < R := by
            rw [hR]
            rcases Nat.eq_zero_or_pos rows.length with h0 | h0
            · have e := List.eq_nil_of_length_eq_zero h0
              exact (HGood.out.inside (HName.out 0 (by omega)) (fun j z hz => by rw [e] at hz; simp at hz)).elim
            · exact h0
          obtain ⟨b5, o5, rfl, hb5l, hsc⟩ := hsl (by omega)
          rw [← hR] at hown hlen hcap ⊢
          have HSc := Lib.hid hsc
          have HRl := Lib.hid hR
          have HOwn := Lib.hid hown
          obtain ⟨i0, hi, hz0, hz1, hz2⟩ := info_parts Try.info26n
          clear hsl hsc hR hown
          have hzz5 : Z ≤ w5.heap.size := by have := HBz5.out.size; have := HZ.out; omega
          have hRle : R ≤ 4096 := by omega
          have hswl : ¬ M < sw := hsum
          go_wp2_with (at_make; refine wpList_make_full _ rfl (.tmp 134) (.tmp 134) 53 rfl Z 26 i0 (.int .u64 0) 1 Try.underlying53 hi hz0 hz1 .i64 .i64 n n n rfl rfl rfl rfl ?k2 ?k3 ?k4 ?_)
          case k2 => rw [hz2]; omega
          case k3 => unfold maxLen; omega
          case k4 => omega
          intro w6 hown6 hgrow6
          obtain ⟨g, hg⟩ : ∃ g, g = w5.heap.size := ⟨_, rfl⟩
          rw [← hg] at hown6 ⊢
          obtain ⟨Z6, hZ6⟩ : ∃ Z6, Z6 = w5.heap.size := ⟨_, rfl⟩
          have hk6 : Keep (fun _ => False) w5 w6 := Keep.of_grown hgrow6 (by simp)
          have hA6 : Arr w6 Z 26 .u64 g n (fun _ => 0) := by unfold Arr; rw [← kCells_zero]; exact hown6
          have hb6 : Below Z6 w5 w6 := hk6.below (by omega) (by simp)
          have hg6 : Z6 ≤ g := by omega
          have hzz6 : Z ≤ Z6 := by omega
          have hbz6 : b5 < Z6 := by omega
          have HZ6 := Lib.hid hZ6
          have HB6 := Lib.hid hb6
          have HA6 := Lib.hid hA6
          have hbx6 : ∀ wr, Below Z6 w5 wr → Below Z w2 wr := fun wr hb => HBz5.out.trans (hb.mono hzz6)
          have hsz6 : ∀ wr, Below Z6 w5 wr → Z6 ≤ wr.heap.size := fun wr hb => by have := hb.size; omega
          have hsl6 : ∀ wr, Below Z6 w5 wr → ∀ (i : Nat) (s : Slot), rows[i]? = some s → wr.cell? ⟨b5, o5 + i * 3, none⟩ = some (.string s.subj) ∧ wr.cell? ⟨b5, o5 + i * 3 + 2, none⟩ = some (.int .i64 s.to) ∧ b5 < wr.heap.size := fun wr hb i s hs => by
            obtain ⟨q0, _, q2⟩ := HSc.out i s hs
            have e : ∀ o, wr.cell? ⟨b5, o, none⟩ = w5.cell? ⟨b5, o, none⟩ := fun o => hb.cell (p := ⟨b5, o, none⟩) hbz6
            rw [e, e]
            exact ⟨q0, q2, by have := hsz6 wr hb; omega⟩
          have HBX6 := Lib.hid hbx6
          have HSZ6 := Lib.hid hsz6
          have HSL6 := Lib.hid hsl6
          clear hown6 hgrow6 hg hZ6 hk6 hA6 hb6 hbx6 hsz6 hsl6 c0 c1 c2 c3 hps5 HSc HOwn hb5l hzz5 hlen hcap
          go_wp2
          go_loopg [12, 13] M (fun q kv tv wr => ∃ (k t : Nat) (C : Nat → Nat), q + t = M ∧ tv = .int .u64 t ∧ kv = .int .i64 k ∧ k ≤ R ∧ Hid (∀ (j : Nat) (z : Slot), j < k → rows[j]? = some z → z.to ≤ (t : Int)) ∧ Hid (Below Z6 w5 wr) ∧ Hid (Arr wr Z 26 .u64 g n C) ∧ Hid (Edf.DoneAt n P Bd t C))
          case atStart => exact ⟨0, 0, _, rfl, rfl, rfl, by omega, fun j z h => by omega, HB6.out, HA6.out, fun i _ => .inl ⟨rfl, rfl⟩⟩
          case round =>
            clear HB6 HA6
            obtain ⟨k0, t, C0, hqt, rfl, rfl, hkR0, HK0, HBt, HA0, HD0⟩ := hrel
            have HQt := Lib.hid hqt
            have htM : t ≤ M := by omega
            clear hqt
            by_cases htl : t < M
            · have hnm := HName.out t htl
              have HNmT := Lib.hid hnm
              clear hnm
              go_wp2
              go_loopg [12] (R - k0) (fun q kv wq => ∃ (k : Nat), q + k = R ∧ kv = .int .i64 k ∧ Hid (∀ (j : Nat) (z : Slot), j < k → rows[j]? = some z → z.to ≤ (t : Int)) ∧ Hid (wq = wr))
              case atStart => exact ⟨k0, by omega, rfl, HK0.out, rfl⟩
              case round =>
                obtain ⟨k, hqk, rfl, HK, HWq⟩ := hrel
                have hwq := HWq.out.symm
                subst hwq
                clear HWq
                have HQk := Lib.hid hqk
                have hkR : k ≤ R := by omega
                clear hqk
                by_cases hk : k < R
                · obtain ⟨y, hy⟩ : ∃ y, rows[k]? = some y := ⟨_, List.getElem?_eq_getElem (by rw [← HRl.out]; exact hk)⟩
                  obtain ⟨y1, y2⟩ := HTo.out y (List.mem_of_getElem? hy)
                  obtain ⟨s0, s2, hb5w⟩ := HSL6.out _ HBt.out k y hy
                  obtain ⟨yt, hyt⟩ : ∃ yt : Nat, y.to = (yt : Int) := ⟨y.to.toNat, by omega⟩
                  rw [hyt] at s2 y2
                  have hkRi : (k : Int) < R := by omega
                  have HY := Lib.hid hy
                  have HYT := Lib.hid hyt
                  have hyM : yt ≤ 65536 := by omega
                  clear hy hyt y1 y2
                  by_cases hle : yt ≤ t
                  · go_wp2
                    go_roundg (R - (k + 1))
                    case measure => have := HQk.out; omega
                    case rel =>
                      refine ⟨k + 1, by omega, by go_num, fun j z hj hz => ?_, Lib.hid rfl⟩
                      by_cases hjk : j = k
                      · subst hjk
                        have h1 := HY.out
                        rw [hz] at h1
                        injection h1 with h1
                        rw [h1, HYT.out]; omega
                      · exact HK.out j z (by omega) hz
                  · have hyn : ((k : Int) == (R : Int)) = false := by simp; omega
                    have hsub := HGood.out.cover HY.out (by rw [HYT.out]; omega) HK.out HNmT.out
                    have HSub := Lib.hid hsub
                    clear hsub
                    go_wp2
                    go_loopg [14, 15, 16] n (fun q f dv iv wq => ∃ (j dn : Nat) (C : Nat → Nat), q + j = n ∧ iv = .int .i64 j ∧ f = .int .i64 (Ln.numOf (Edf.pick P t (Edf.rel P Bd t (Edf.st n P Bd t)) j)) ∧ dv = .int .u64 dn ∧ dn ≤ 200000 ∧ Hid (∀ k, Edf.pick P t (Edf.rel P Bd t (Edf.st n P Bd t)) j = some k → dn = Edf.due P t k) ∧ Hid (Below Z6 w5 wq) ∧ Hid (Arr wq Z 26 .u64 g n C) ∧ Hid (∀ i, i < n → (i < j → C i + Edf.rel P Bd t (Edf.st n P Bd t) i = Bd i) ∧ (j ≤ i → C i = C0 i)))
                    case atStart => exact ⟨0, 0, C0, rfl, rfl, rfl, rfl, by omega, fun k h => by simp [Edf.pick] at h, HBt.out, HA0.out, fun i _ => ⟨fun h => by omega, fun _ => rfl⟩⟩
                    case round =>
                      obtain ⟨j, dn, C, hqj, rfl, rfl, rfl, hdn, HDn, HBj, HAj, HCj⟩ := hrel
                      have HQj := Lib.hid hqj
                      have hjn : j ≤ n := by omega
                      obtain ⟨⟨c0, c1, c2, c3⟩, hpsj⟩ := hBox.out wr (HBX6.out wr HBj.out)
                      clear hqj c0 c1 c2 s0 s2 hb5w
                      by_cases hj : j < n
                      · obtain ⟨b, off, pos, s, bd, pd, rfl, hbw, hbz, HC, hbd, hpd, q0, q1, q2, q3⟩ := HCell.out wr (HBX6.out wr HBj.out) j hj
                        have hji : (j : Int) < n := by omega
                        obtain ⟨o1, o2, o3, o4, o5⟩ := HOk.out j hj
                        rw [HC.out.1] at o4 o5
                        rw [HC.out.2.1] at o1 o2 o3 o5
                        obtain ⟨px, hpx⟩ : ∃ px, px = wr.heap.size := ⟨_, rfl⟩
                        obtain ⟨wx, hwx⟩ : ∃ wx, wx = wr.alloc (Obj.cells #[.int .i64 pos, .string s, .int .u64 bd, .int .u64 pd] 28) := ⟨_, rfl⟩
                        have hxv : wx.heap[px]? = some (.cells #[.int .i64 pos, .string s, .int .u64 bd, .int .u64 pd] 28 (0, 0)) := by rw [hwx, hpx]; exact heap_alloc_new _ _
                        have hkx : Keep (fun _ => False) wr wx := by rw [hwx]; exact (Keep.refl _ _).alloc _
                        have hgpx : g ≠ px := by have := HAj.out.lt; omega
                        have hZpx : Z6 ≤ px := by rw [hpx]; exact HSZ6.out wr HBj.out
                        have hbx : Below Z6 w5 wx := HBj.out.trans (hkx.below (HSZ6.out wr HBj.out) (by simp))
                        have hax := HAj.out.keep hkx (by simp)
                        have HBx := Lib.hid hbx
                        have HAx := Lib.hid hax
                        have HPX := Lib.hid hpx
                        have HXV := Lib.hid hxv
                        clear hkx hbx hax hpx HAj HBj
                        go_upto_region 32 with fail
                        rw [← hwx, ← HPX.out]
                        clear hwx q0 q1 q2 q3 c3
                        have x2 : wx.cell? ⟨px, 2, none⟩ = some (.int .u64 bd) := cell_of_row _ _ _ _ _ _ HXV.out
                        have x3 : wx.cell? ⟨px, 3, none⟩ = some (.int .u64 pd) := cell_of_row _ _ _ _ _ _ HXV.out
                        have hpxx : px < wx.heap.size := (Array.getElem?_eq_some_iff.1 HXV.out).1
                        go_upto_if 177 with fail
                        go_cut [] from 161 to 217 (fun wy => ∃ C' : Nat → Nat, Arr wy Z 26 .u64 g n C' ∧ Below Z6 w5 wy ∧ C' j + Edf.rel P Bd t (Edf.st n P Bd t) j = bd ∧ (∀ i, i ≠ j → C' i = C i) ∧ wy.heap[px]? = some (.cells #[.int .i64 pos, .string s, .int .u64 bd, .int .u64 pd] 28 (0, 0)))
                        case first =>
                          have lc := HAx.out.cell hj
                          have lf := HAx.out.frozen j
                          have hC0 := (HCj.out j hj).2 (Nat.le_refl _)
                          have hD := HD0.out j hj
                          rw [← hC0, HC.out.1] at hD
                          by_cases hm : t % pd = 0
                          · have hmi : ((t : Int) % (pd : Int) == 0) = true := by simp; omega
                            have hrel : Edf.rel P Bd t (Edf.st n P Bd t) j = bd := by unfold Edf.rel; rw [HC.out.2.1, if_pos hm, HC.out.1]
                            have hset := HAx.out.set j 0
                            have hbs : Below Z6 w5 (wx.setCell ⟨g, j, none⟩ (.int .u64 ((0 : Nat) : Int))) := HBx.out.setCell (by exact hg6) _
                            have hxs : (wx.setCell ⟨g, j, none⟩ (.int .u64 ((0 : Nat) : Int))).heap[px]? = some (.cells #[.int .i64 pos, .string s, .int .u64 bd, .int .u64 pd] 28 (0, 0)) := by
                              rw [Below.heap_setCell _ _ _ _ (by exact fun e => hgpx e.symm)]; exact HXV.out
                            have HRel := Lib.hid hrel
                            by_cases ht0 : t = 0
                            · have ht0i : decide ((0 : Int) < (t : Int)) = false := by simp; omega
                              have ht0n : decide (0 < t) = false := by simp; omega
                              have HT0 := Lib.hid ht0
                              clear hset hbs hxs hrel hD hC0 ht0
                              go_wp2_with fail
                              go_quiet (fail)
                              go_wp2
                              go_meet
                              exact ⟨_, (HAx.out.keep ((Keep.refl (fun _ => False) wx).drewN nq) (by simp)).set j 0, (below_drewN HBx.out nq).setCell (by exact hg6) _, by rw [HRel.out]; simp [Edf.set1], fun i hi => if_neg hi, by rw [Below.heap_setCell _ _ _ _ (by exact fun e => hgpx e.symm)]; exact HXV.out⟩
                            · have ht0i : decide ((0 : Int) < (t : Int)) = true := by simp; omega
                              have ht0n : decide (0 < t) = true := by simp; omega
                              have hst0 : Edf.st n P Bd t j = 0 := Edf.on_time HFits.out (fun i hi => (HOk.out i hi).1) hj (by rw [HC.out.2.1]; exact hm)
                              have hCb : C j = bd := by omega
                              have HCb := Lib.hid hCb
                              rw [hCb] at lc
                              clear hset hbs hxs hrel hD hC0 hst0 hCb
                              go_wp2_with fail
                              go_quiet (fail)
                              go_wp2
                              go_meet
                              exact ⟨_, (HAx.out.keep ((Keep.refl (fun _ => False) wx).drewN nq) (by simp)).set j 0, (below_drewN HBx.out nq).setCell (by exact hg6) _, by rw [HRel.out]; simp [Edf.set1], fun i hi => if_neg hi, by rw [Below.heap_setCell _ _ _ _ (by exact fun e => hgpx e.symm)]; exact HXV.out⟩
                          · have hmi : ((t : Int) % (pd : Int) == 0) = false := by simp; omega
                            have hrel : Edf.rel P Bd t (Edf.st n P Bd t) j = Edf.st n P Bd t j := by unfold Edf.rel; rw [HC.out.2.1, if_neg hm]
                            go_wp2
                            go_meet
                            refine ⟨C, HAx.out, HBx.out, ?_, fun _ _ => rfl, HXV.out⟩
                            rw [hrel]
                            rcases hD with ⟨h1, _⟩ | ⟨_, h2⟩
                            · exact absurd (by rw [h1]; exact Nat.zero_mod _) hm
                            · exact h2
                        case rest =>
                        obtain ⟨C', hA', hB', hCj', hCn', hxv'⟩ := hcut
                        have hlc := hA'.cell hj
                        have hrl : C' j = bd - Edf.rel P Bd t (Edf.st n P Bd t) j := by omega
                        obtain ⟨lv, hlv⟩ : ∃ lv, lv = Edf.rel P Bd t (Edf.st n P Bd t) j := ⟨_, rfl⟩
                        obtain ⟨dj, hdj⟩ : ∃ dj, dj = Edf.due P t j := ⟨_, rfl⟩
                        have hdj2 : dj = (t / pd + 1) * pd := by rw [hdj]; unfold Edf.due; rw [HC.out.2.1]
                        have hdj3 : dj ≤ 140000 := by
                          rw [hdj2, Nat.add_mul, Nat.one_mul]
                          have := Nat.div_mul_le_self t pd
                          omega
                        have hdi : ((t : Int) / (pd : Int) + 1) * (pd : Int) = (dj : Int) := by rw [hdj2]; simp
                        have hdi0 : (0 : Int) ≤ ((t : Int) / (pd : Int) + 1) * (pd : Int) := by rw [hdi]; omega
                        have hdi1 : ((t : Int) / (pd : Int) + 1) * (pd : Int) ≤ 140000 := by rw [hdi]; omega
                        have htd := tdiv_le t pd (by omega) (by omega)
                        have x2' : wc.cell? ⟨px, 2, none⟩ = some (.int .u64 bd) := cell_of_row _ _ _ _ _ _ hxv'
                        have x3' : wc.cell? ⟨px, 3, none⟩ = some (.int .u64 pd) := cell_of_row _ _ _ _ _ _ hxv'
                        have hpxc : px < wc.heap.size := (Array.getElem?_eq_some_iff.1 hxv').1
                        have hrlt : lv ≤ bd := by rw [hlv, ← HC.out.1]; exact Edf.rel_le t j
                        rw [← hlv] at hrl
                        have HA' := Lib.hid hA'
                        have HB' := Lib.hid hB'
                        have HCj' := Lib.hid hCj'
                        have HCn' := Lib.hid hCn'
                        have HLv := Lib.hid hlv
                        have HDj := Lib.hid hdj
                        have HDI := Lib.hid hdi
                        have HXV' := Lib.hid hxv'
                        have HRL := Lib.hid hrl
                        clear hA' hB' hCj' hCn' hlv hdj hdj2 hdi hxv' hrl x2 x3 hpxx
                        obtain ⟨best, hbest⟩ : ∃ x, x = Edf.pick P t (Edf.rel P Bd t (Edf.st n P Bd t)) j := ⟨_, rfl⟩
                        have hbk : ∀ k, best = some k → k < j := fun k hk => by rw [hbest] at hk; exact (Edf.pick_some hk).1
                        have hdbest : ∀ k, best = some k → dn = Edf.due P t k := fun k hk => HDn.out k (by rw [← hbest]; exact hk)
                        rw [← hbest]
                        have HBest := Lib.hid hbest
                        clear hbest
                        go_upto_region 36 with fail
                        go_cut [18] from 161 to 217 (fun v wy => v = .int .u64 dj ∧ Arr wy Z 26 .u64 g n C' ∧ Below Z6 w5 wy ∧ wy.heap[px]? = some (.cells #[.int .i64 pos, .string s, .int .u64 bd, .int .u64 pd] 28 (0, 0)))
                        case first =>
                          go_wp2_with fail
                          go_quiet (fail)
                          go_wp2
                          go_meet
                          exact ⟨by rw [HDI.out], HA'.out.keep ((Keep.refl (fun _ => False) wc).drewN nq) (by simp), below_drewN HB'.out nq, HXV'.out⟩
                        case rest =>
                        clear hlc x2' x3' hpxc HA' HB' HXV'
                        obtain ⟨rfl, hA2, hB2, hxv2⟩ := hcut
                        have hlc := hA2.cell hj
                        have x2 : wc.cell? ⟨px, 2, none⟩ = some (.int .u64 bd) := cell_of_row _ _ _ _ _ _ hxv2
                        have hpxc : px < wc.heap.size := (Array.getElem?_eq_some_iff.1 hxv2).1
                        have hcnew : ∀ i, i < n → (i < j + 1 → C' i + Edf.rel P Bd t (Edf.st n P Bd t) i = Bd i) ∧ (j + 1 ≤ i → C' i = C0 i) := fun i hi => by
                          by_cases hij : i = j
                          · subst hij
                            exact ⟨fun _ => by rw [HC.out.1]; exact HCj'.out, fun h => by omega⟩
                          · rw [HCn'.out i hij]
                            exact ⟨fun h => (HCj.out i hi).1 (by omega), fun h => (HCj.out i hi).2 (by omega)⟩
                        have HA2 := Lib.hid hA2
                        have HBB2 := Lib.hid hB2
                        have HCNew := Lib.hid hcnew
                        have hdj4 := hdj3
                        have hcb := HRL.out
                        clear hA2 hB2 hxv2 hcnew
                        by_cases hl0 : lv = 0
                        · have hd0 : decide ((C' j : Int) < (bd : Int)) = false := by simp; omega
                          have hd1 : decide (C' j < bd) = false := by simp; omega
                          clear hcb
                          have hp2 : Edf.pick P t (Edf.rel P Bd t (Edf.st n P Bd t)) (j + 1) = best := by
                            rw [Edf.pick_zero5 (by rw [← HLv.out]; exact hl0)]; exact HBest.out.symm
                          have HP2 := Lib.hid hp2
                          have HDB := Lib.hid hdbest
                          clear hl0 hp2 hdbest
                          go_wp2_with fail
                          go_quiet (fail)
                          go_wp2
                          go_roundg (n - (j + 1))
                          case measure => have := HQj.out; omega
                          case rel => exact ⟨j + 1, dn, C', by omega, by go_num, by rw [HP2.out], rfl, by omega, fun k hk => HDB.out k (by rw [← HP2.out]; exact hk), below_drewN HBB2.out _, HA2.out.keep ((Keep.refl (fun _ => False) wc).drewN _) (by simp), HCNew.out⟩
                        · have hd0 : decide ((C' j : Int) < (bd : Int)) = true := by simp; omega
                          have hd1 : decide (C' j < bd) = true := by simp; omega
                          clear hcb
                          have HDB := Lib.hid hdbest
                          have HBK := Lib.hid hbk
                          clear hdbest hbk
                          rcases best with _ | k
                          · have hp2 : Edf.pick P t (Edf.rel P Bd t (Edf.st n P Bd t)) (j + 1) = some j := Edf.pick_first5 (by rw [← HLv.out]; omega) HBest.out.symm
                            have HP2 := Lib.hid hp2
                            clear hl0 hp2
                            rw [show Ln.numOf none = -1 from rfl]
                            go_wp2_with fail
                            go_quiet (fail)
                            go_wp2
                            go_roundg (n - (j + 1))
                            case measure => have := HQj.out; omega
                            case rel => exact ⟨j + 1, dj, C', by omega, by go_num, by rw [HP2.out]; rfl, rfl, by omega, fun k hk => by rw [HP2.out] at hk; injection hk with hk; rw [← hk, HDj.out], below_drewN HBB2.out _, HA2.out.keep ((Keep.refl (fun _ => False) wc).drewN _) (by simp), HCNew.out⟩
                          · have hkj := HBK.out k rfl
                            have hdn2 := HDB.out k rfl
                            have hp2 : Edf.pick P t (Edf.rel P Bd t (Edf.st n P Bd t)) (j + 1) = if dj < dn then some j else some k := by
                              rw [HDj.out, hdn2]
                              exact Edf.pick_next5 (by rw [← HLv.out]; omega) HBest.out.symm
                            have HP2 := Lib.hid hp2
                            have HDn2 := Lib.hid hdn2
                            clear hl0 hp2 hdn2
                            rw [show Ln.numOf (some k) = (k : Int) from rfl]
                            have hk0 : decide ((k : Int) < 0) = false := by simp
                            go_wp2_with fail
                            go_quiet (fail)
                            by_cases hc : dj < dn
                            · have hci : decide ((dj : Int) < dn) = true := by simp; omega
                              go_wp2
                              go_roundg (n - (j + 1))
                              case measure => have := HQj.out; omega
                              case rel => exact ⟨j + 1, dj, C', by omega, by go_num, by rw [HP2.out, if_pos hc]; rfl, rfl, by omega, fun k' hk => by rw [HP2.out, if_pos hc] at hk; injection hk with hk; rw [← hk, HDj.out], below_drewN HBB2.out _, HA2.out.keep ((Keep.refl (fun _ => False) wc).drewN _) (by simp), HCNew.out⟩
                            · have hci : decide ((dj : Int) < dn) = false := by simp; omega
                              go_wp2
                              go_roundg (n - (j + 1))
                              case measure => have := HQj.out; omega
                              case rel => exact ⟨j + 1, dn, C', by omega, by go_num, by rw [HP2.out, if_neg hc]; rfl, rfl, by omega, fun k' hk => by rw [HP2.out, if_neg hc] at hk; injection hk with hk; rw [← hk]; exact HDn2.out, below_drewN HBB2.out _, HA2.out.keep ((Keep.refl (fun _ => False) wc).drewN _) (by simp), HCNew.out⟩
                      · have hje : j = n := by omega
                        have hcall : ∀ i, i < n → C i + Edf.rel P Bd t (Edf.st n P Bd t) i = Bd i := fun i hi => (HCj.out i hi).1 (by omega)
                        obtain ⟨o, ho⟩ : ∃ o, o = Edf.who n P Bd t := ⟨_, rfl⟩
                        have hpo : Edf.pick P t (Edf.rel P Bd t (Edf.st n P Bd t)) j = o := by rw [ho, hje]; rfl
                        rw [hpo]
                        have hdone := Edf.done_next hcall ho
                        have hKn : ∀ (j : Nat) (z : Slot), j < k → rows[j]? = some z → z.to ≤ ((t + 1 : Nat) : Int) := fun j z hj hz => by have := HK.out j z hj hz; omega
                        obtain ⟨s0, _, hb5w⟩ := HSL6.out wr HBj.out k y HY.out
                        have hsub := HSub.out
                        rw [← ho] at hsub
                        have HCall := Lib.hid hcall
                        have HDone := Lib.hid hdone
                        have HKn := Lib.hid hKn
                        have HWho := Lib.hid ho
                        clear hje hcall ho hpo hdone hKn
                        rcases o with _ | k1
                        · have hs1 : y.subj = ⟨#[]⟩ := hsub
                          rw [hs1] at s0
                          rw [show Ln.numOf none = -1 from rfl]
                          clear hs1 hsub
                          go_wp2
                          go_roundg (M - (t + 1))
                          case measure => have := HQt.out; omega
                          case rel => exact ⟨k, t + 1, C, by omega, by go_num, rfl, by omega, HKn.out, HBj.out, HAj.out, fun i hi => by have := HDone.out i hi; simpa using this⟩
                        · obtain ⟨hk1, hk2⟩ := Edf.pick_some (show Edf.pick P t (Edf.rel P Bd t (Edf.st n P Bd t)) n = some k1 from HWho.out.symm)
                          obtain ⟨b, off, pos, s, bd, pd, rfl, hbw, hbz, HC, hbd, hpd, q0, q1, q2, q3⟩ := HCell.out wr (HBX6.out wr HBj.out) k1 hk1
                          have hs1 : y.subj = s := by rw [hsub]; exact HC.out.2.2
                          rw [hs1] at s0
                          have hlc := HAj.out.cell hk1
                          have hlf := HAj.out.frozen k1
                          have hCb : C k1 ≤ 65536 := by
                            have h1 := HCall.out k1 hk1
                            obtain ⟨_, o2, _, _, o5⟩ := HOk.out k1 hk1
                            omega
                          have hk1i : (k1 : Int) < n := by omega
                          have hb := bytes_beq s s
                          rw [decide_eq_true rfl] at hb
                          rw [show Ln.numOf (some k1) = (k1 : Int) from rfl]
                          clear hs1 hsub hk2 q0 q2 q3
                          go_wp2_with fail
                          go_quiet (fail)
                          go_wp2
                          have hset := (HAj.out.keep ((Keep.refl (fun _ => False) wr).drewN nq) (by simp)).set k1 (C k1 + 1)
                          have hbs : Below Z6 w5 ((wr.drewN nq).setCell ⟨g, k1, none⟩ (.int .u64 ((C k1 + 1 : Nat) : Int))) := (below_drewN HBj.out nq).setCell (by exact hg6) _
                          rw [Int.natCast_add] at hset hbs
                          go_roundg (M - (t + 1))
                          case measure => have := HQt.out; omega
                          case rel =>
                            refine ⟨k, t + 1, _, by omega, by go_num, rfl, by omega, HKn.out, hbs, hset, fun i hi => ?_⟩
                            have h1 := HDone.out i hi
                            dsimp only at h1
                            unfold Edf.set1
                            by_cases hik : i = k1
                            · subst hik
                              rw [if_pos rfl]
                              rw [if_pos rfl] at h1
                              exact h1
                            · rw [if_neg hik]
                              rw [if_neg (fun e => hik (Option.some.inj e).symm)] at h1
                              exact h1
                · exfalso
                  have hkR2 : k = R := by omega
                  exact HGood.out.inside HNmT.out (fun j z hz => HK.out j z (by rw [hkR2, HRl.out]; exact (List.getElem?_eq_some_iff.1 hz).1) hz)
            · have hte : t = M := by omega
              have hfinC : ∀ i, i < n → C0 i = Bd i := fun i hi => by
                obtain ⟨o1, o2, o3, o4, o5⟩ := HOk.out i hi
                have h1 : Edf.st n P Bd t i = 0 := Edf.on_time HFits.out (fun i hi => (HOk.out i hi).1) hi (by rw [hte]; exact o3)
                rcases HD0.out i hi with ⟨h2, _⟩ | ⟨_, h2⟩
                · omega
                · omega
              have HFinC := Lib.hid hfinC
              clear hfinC hte
              go_wp2
              go_loopg [19] n (fun q iv wq => ∃ i : Nat, q + i = n ∧ iv = .int .i64 i ∧ Hid (Below Z6 w5 wq) ∧ Hid (Arr wq Z 26 .u64 g n C0))
              case atStart => exact ⟨0, rfl, rfl, HBt.out, HA0.out⟩
              case round =>
                clear HBt HA0
                obtain ⟨i, hqi, rfl, HBi, HAi⟩ := hrel
                have HQi := Lib.hid hqi
                have hin : i ≤ n := by omega
                obtain ⟨⟨c0, c1, c2, c3⟩, hpsi⟩ := hBox.out wr (HBX6.out wr HBi.out)
                clear hqi c0 c1 c2
                by_cases hil : i < n
                · obtain ⟨b, off, pos, s, bd, pd, rfl, hbw, hbz, HC, hbd, hpd, q0, q1, q2, q3⟩ := HCell.out wr (HBX6.out wr HBi.out) i hil
                  have hlc := HAi.out.cell hil
                  rw [HFinC.out i hil, HC.out.1] at hlc
                  have hii : (i : Int) < n := by omega
                  clear q0 q1 q3
                  go_wp2_with fail
                  go_quiet (fail)
                  go_wp2
                  go_roundg (n - (i + 1))
                  case measure => have := HQi.out; omega
                  case rel => exact ⟨i + 1, by omega, by go_num, below_drewN HBi.out _, HAi.out.keep ((Keep.refl (fun _ => False) wr).drewN _) (by simp)⟩
                · have hbw : Below p w wr := HB2.out.trans ((HBX6.out wr HBi.out).mono (by omega))
                  have HBwr := Lib.hid hbw
                  clear hbw c3
                  go_wp2_with fail
                  go_at_call 13
                  refine (known_any wr).mono ?_
                  rintro e wk ⟨rfl, hbk⟩
                  have HBk := Lib.hid (HBwr.out.trans (hbk.mono (by have := HBwr.out.size; have := HPW.out; omega)))
                  clear hbk
                  go_wp2
                  go_ret
                  exact ⟨rfl, by first | exact HBk.out | (rw [HPW.out]; exact HBk.out)⟩

theorem lawNeeds_any (M : Nat) (A : Option Addr) (c : Nat) (xs : List Run) (lp : Int) (cpu : Nat) (nd : Bool) (w : World) (hM : M < 18446744073709551616)
    (hx : ∀ r ∈ xs, r.bud < 18446744073709551616 ∧ r.per < 18446744073709551616) (hl : xs.length * 40 ≤ 140737488351232) (hr : RunsAt w A xs) :
    Calls Try.prog 7 #[.int .u64 M, .agg #[.int .i64 lp, .int .u64 cpu, .bool nd, .slice A xs.length c]] w fun e w' => e = .returned (.bool true) ∧ Below w.heap.size w w' :=
  lawNeeds_in M xs.length A c xs lp cpu nd w hM hx rfl hl hr
end Go.Proofs.Ytgilejknjdbneaa
