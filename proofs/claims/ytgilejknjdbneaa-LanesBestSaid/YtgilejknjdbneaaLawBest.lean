/- The walk of the law LanesBest. -/
import Derived.Test.YtgilejknjdbneaaM1
import Derived.Test.YtgilejknjdbneaaR1
import Derived.Test.YtgilejknjdbneaaR5
import Derived.Test.YtgilejknjdbneaaV1
import Derived.Test.YtgilejknjdbneaaPlain13
import Derived.Test.YtgilejknjdbneaaArr
import Derived.Deep.CutRange
import Derived.Deep.LoopGhost
namespace Go.Proofs.Ytgilejknjdbneaa
open Go.RowKit Go.IntWalk

theorem tick_mod (t pd : Nat) : ((t : Int) + 1) % (pd : Int) = (((t + 1) % pd : Nat) : Int) := by simp
theorem tick_eq {t pd : Nat} (h : (t + 1) % pd = 0) : (((t : Int) + 1) % (pd : Int) == 0) = true := by rw [tick_mod, h]; rfl
theorem tick_ne {t pd : Nat} (h : ¬ (t + 1) % pd = 0) : (((t : Int) + 1) % (pd : Int) == 0) = false := by
  rw [tick_mod]
  have : (((t + 1) % pd : Nat) : Int) ≠ 0 := by omega
  exact beq_eq_false_iff_ne.2 this
/-- The slice value at A reads as these numbers. -/
def IntsAt (w : World) (A : Option Addr) (xs : List Int) : Prop :=
  0 < xs.length → ∃ b off, A = some ⟨b, off, none⟩ ∧ b < w.heap.size ∧ ∀ (i : Nat) (x : Int), xs[i]? = some x → w.cell? ⟨b, off + i, none⟩ = some (.int .i64 x)
theorem Try.info26 : (Try.prog.info? 26).map (fun i => (i.zero, i.size, i.bytes)) = some (some (.int .u64 0), 1, 8) := by kernel_rfl

set_option maxRecDepth 100000 in
set_option maxHeartbeats 2000000 in
theorem lawBest_in (M n m : Nat) (A : Option Addr) (c : Nat) (xs : List Run) (lp : Int) (cpu : Nat) (nd : Bool) (A2 : Option Addr) (ca2 : Nat) (ws : List Int) (w : World) (hM : M < 18446744073709551616)
    (hx : ∀ r ∈ xs, r.bud < 18446744073709551616 ∧ r.per < 18446744073709551616) (hxn : xs.length = n) (hl : n * 40 ≤ 140737488351232) (hwn : ws.length = m) (hl2 : m ≤ 140737488351232) (hr : RunsAt w A xs) (hr2 : IntsAt w A2 ws) :
    Calls Try.prog 8 #[.int .u64 M, .agg #[.int .i64 lp, .int .u64 cpu, .bool nd, .slice A n c], .slice A2 m ca2] w fun e w' => e = .returned (.bool true) ∧ Below w.heap.size w w' := by
  have HWN := Lib.hid hwn
  have HR2 := Lib.hid hr2
  clear hwn hr2
  obtain ⟨W, hW⟩ : ∃ W, W = w.alloc (.cells #[.int .i64 lp, .int .u64 cpu, .bool nd, .slice A n c] 31) := ⟨_, rfl⟩
  obtain ⟨p, hp⟩ : ∃ p, p = w.heap.size := ⟨_, rfl⟩
  have hB : Below w.heap.size w W := by subst hW; exact (Below.refl _ _).alloc (Nat.le_refl _) _
  have hv0 : W.heap[p]? = some (.cells #[.int .i64 lp, .int .u64 cpu, .bool nd, .slice A n c] 31 (0, 0)) := by subst hW hp; exact heap_alloc_new _ _
  have hps : p < W.heap.size := (Array.getElem?_eq_some_iff.1 hv0).1
  have hnm := named_any n A c xs lp cpu nd W hxn (by omega) (hr.below hB (Nat.le_refl _))
  have HNm := Lib.hid hnm
  have HB := Lib.hid hB
  have HV0 := Lib.hid hv0
  have HPW : Hid (w.heap.size = p) := hp.symm
  have HX := Lib.hid hx
  have HXN := Lib.hid hxn
  clear hB hr hx hxn hp hnm hv0
  go_enter Try.func8, Try.ntmps8
  go_wp2_with fail
  rw [← hW, HPW.out]
  clear hW
  refine HNm.out.mono ?_
  rintro e w1 ⟨A', c', ys, rfl, hrs, hren, hab, hb1⟩
  have hv1 : w1.heap[p]? = some (.cells #[.int .i64 lp, .int .u64 cpu, .bool nd, .slice A n c] 31 (0, 0)) := (hb1.block p hps).trans HV0.out
  have hps1 : p < w1.heap.size := (Array.getElem?_eq_some_iff.1 hv1).1
  have z0 : w1.cell? ⟨p, 0, none⟩ = some (.int .i64 lp) := cell_of_row _ _ _ _ _ _ hv1
  have z1 : w1.cell? ⟨p, 1, none⟩ = some (.int .u64 cpu) := cell_of_row _ _ _ _ _ _ hv1
  have z2 : w1.cell? ⟨p, 2, none⟩ = some (.bool nd) := cell_of_row _ _ _ _ _ _ hv1
  have z3 : w1.cell? ⟨p, 3, none⟩ = some (.slice A n c) := cell_of_row _ _ _ _ _ _ hv1
  have f0 : w1.frozen? ⟨p, 0, none⟩ = false := by simp [World.frozen?, hv1]
  have f1 : w1.frozen? ⟨p, 1, none⟩ = false := by simp [World.frozen?, hv1]
  have f2 : w1.frozen? ⟨p, 2, none⟩ = false := by simp [World.frozen?, hv1]
  have f3 : w1.frozen? ⟨p, 3, none⟩ = false := by simp [World.frozen?, hv1]
  obtain ⟨w2, hw2⟩ : ∃ w2, w2 = (((w1.setCell ⟨p, 0, none⟩ (.int .i64 0)).setCell ⟨p, 1, none⟩ (.int .u64 0)).setCell ⟨p, 2, none⟩ (.bool true)).setCell ⟨p, 3, none⟩ (.slice A' n c') := ⟨_, rfl⟩
  have hk2 : Keep (fun k => k = p) w1 w2 := by
    rw [hw2]
    exact ((((Keep.refl (fun k => k = p) w1).setCell (fun _ => rfl) _).setCell (fun _ => rfl) _).setCell (fun _ => rfl) _).setCell (fun _ => rfl) _
  have hv2 : w2.heap[p]? = some (.cells #[.int .i64 0, .int .u64 0, .bool true, .slice A' n c'] 31 (0, 0)) := by rw [hw2]; simp [World.setCell, Array.getElem?_modify, hv1]
  have hb12 : Below p w w2 := ((HB.out.trans (hb1.mono HB.out.size)).mono (by rw [HPW.out]; exact Nat.le_refl _)).trans (hk2.below (by omega) (fun i hi h => by omega))
  have hys : ys.length = n := by rw [hren.len, HXN.out]
  have hrs2 : RunsAt w2 A' ys := by
    intro h0
    obtain ⟨b, off, rfl, hbl, hcs⟩ := hrs h0
    have hbp : b ≠ p := by have := hab _ rfl; simp only at this; omega
    refine ⟨b, off, rfl, by have := hk2.size; omega, fun i r hr => ?_⟩
    obtain ⟨q0, q1, q2, q3⟩ := hcs i r hr
    have hc : ∀ o, w2.cell? ⟨b, o, none⟩ = w1.cell? ⟨b, o, none⟩ := fun o => hk2.cell (p := ⟨b, o, none⟩) hbl hbp
    rw [hc, hc, hc, hc]
    exact ⟨q0, q1, q2, q3⟩
  have hxy : ∀ r ∈ ys, r.bud < 18446744073709551616 ∧ r.per < 18446744073709551616 ∧ r.subj.toList.isEmpty = false := fun r hr => by
    obtain ⟨i, hi⟩ := List.getElem?_of_mem hr
    have hil := (List.getElem?_eq_some_iff.1 hi).1
    have h1 : xs[i]? = some (xs[i]'(by rw [HXN.out]; omega)) := List.getElem?_eq_getElem (by rw [HXN.out]; omega)
    obtain ⟨s, h2, h3⟩ := hren.each i _ h1
    rw [hi] at h2
    injection h2 with h2
    have h4 := HX.out _ (List.mem_of_getElem? h1)
    rw [h2]
    exact ⟨h4.1, h4.2, h3⟩
  obtain ⟨Z, hZ⟩ : ∃ Z, Z = w2.heap.size := ⟨_, rfl⟩
  have hpz : p < Z := by rw [hZ]; exact (Array.getElem?_eq_some_iff.1 hv2).1
  have hBox : Hid (∀ wr, Below Z w2 wr → (wr.cell? ⟨p, 0, none⟩ = some (.int .i64 0) ∧ wr.cell? ⟨p, 1, none⟩ = some (.int .u64 0) ∧ wr.cell? ⟨p, 2, none⟩ = some (.bool true) ∧ wr.cell? ⟨p, 3, none⟩ = some (.slice A' n c')) ∧ p < wr.heap.size) := fun wr hb => by
    have e0 := (hb.block p hpz).trans hv2
    exact ⟨⟨cell_of_row _ _ _ _ _ _ e0, cell_of_row _ _ _ _ _ _ e0, cell_of_row _ _ _ _ _ _ e0, cell_of_row _ _ _ _ _ _ e0⟩, by have := hb.size; omega⟩
  have hRuns : Hid (∀ wr, Below Z w2 wr → RunsAt wr A' ys) := fun wr hb => hrs2.below hb (by rw [hZ]; exact Nat.le_refl _)
  have HZ := Lib.hid hZ
  have HB2 := Lib.hid hb12
  have HYS := Lib.hid hys
  have HXY := Lib.hid hxy
  have hwz : w.heap.size ≤ Z := by rw [HPW.out]; omega
  obtain ⟨⟨c0, c1, c2, c3⟩, hps2⟩ := hBox.out w2 (Below.refl _ _)
  clear hrs hren hab hb1 hv1 hk2 hv2 hb12 hys hrs2 hxy hZ
  go_upto_region 2 with fail
  rw [← hw2]
  clear hw2 z0 z1 z2 z3 f0 f1 f2 f3 hps1
  go_wp2_with fail
  refine (great_any M A' c' n 0 0 true w2 hM (by omega)).mono ?_
  rintro e w3 ⟨rfl, hb3⟩
  obtain ⟨gr, hgr⟩ : ∃ gr, gr = Ln.great M true n := ⟨_, rfl⟩
  rw [← hgr]
  have HG := Lib.hid hgr
  have hb3z : Below Z w2 w3 := by rw [HZ.out]; exact hb3
  have HB3 := Lib.hid hb3z
  clear hgr hb3 hb3z c0 c1 c2 c3 hps2
  obtain ⟨⟨c0, c1, c2, c3⟩, hps3⟩ := hBox.out w3 HB3.out
  have hbw : Below p w w3 := HB2.out.trans (HB3.out.mono (by omega))
  have HBw3 := Lib.hid hbw
  clear hbw
  cases gr
  rotate_left
  · go_wp2_with fail
    go_at_call 13
    refine (known_any w3).mono ?_
    rintro e wk ⟨rfl, hbk⟩
    have HBk := Lib.hid (HBw3.out.trans (hbk.mono (by have := HBw3.out.size; have := HPW.out; omega)))
    clear hbk
    go_wp2
    go_ret
    exact ⟨rfl, by first | exact HBk.out | (rw [HPW.out]; exact HBk.out)⟩
  by_cases hM1 : M < 1
  · go_wp2_with fail
    go_at_call 13
    refine (known_any w3).mono ?_
    rintro e wk ⟨rfl, hbk⟩
    have HBk := Lib.hid (HBw3.out.trans (hbk.mono (by have := HBw3.out.size; have := HPW.out; omega)))
    clear hbk
    go_wp2
    go_ret
    exact ⟨rfl, by first | exact HBk.out | (rw [HPW.out]; exact HBk.out)⟩
  by_cases hM2 : 65536 < M
  · go_wp2_with fail
    go_at_call 13
    refine (known_any w3).mono ?_
    rintro e wk ⟨rfl, hbk⟩
    have HBk := Lib.hid (HBw3.out.trans (hbk.mono (by have := HBw3.out.size; have := HPW.out; omega)))
    clear hbk
    go_wp2
    go_ret
    exact ⟨rfl, by first | exact HBk.out | (rw [HPW.out]; exact HBk.out)⟩
  by_cases hn2 : 2000 < n
  · go_wp2_with fail
    go_at_call 13
    refine (known_any w3).mono ?_
    rintro e wk ⟨rfl, hbk⟩
    have HBk := Lib.hid (HBw3.out.trans (hbk.mono (by have := HBw3.out.size; have := HPW.out; omega)))
    clear hbk
    go_wp2
    go_ret
    exact ⟨rfl, by first | exact HBk.out | (rw [HPW.out]; exact HBk.out)⟩
  by_cases hm2 : m < M
  · go_wp2_with fail
    go_at_call 13
    refine (known_any w3).mono ?_
    rintro e wk ⟨rfl, hbk⟩
    have HBk := Lib.hid (HBw3.out.trans (hbk.mono (by have := HBw3.out.size; have := HPW.out; omega)))
    clear hbk
    go_wp2
    go_ret
    exact ⟨rfl, by first | exact HBk.out | (rw [HPW.out]; exact HBk.out)⟩
  obtain ⟨i0, hi, hz0, hz1, hz2⟩ := info_parts Try.info26
  have hz3 : Z ≤ w3.heap.size := by have := HB3.out.size; have := HZ.out; omega
  go_wp2_with (at_make; refine wpList_make_full _ rfl (.tmp 43) (.tmp 43) 53 rfl Z 26 i0 (.int .u64 0) 1 Try.underlying53 hi hz0 hz1 .i64 .i64 n n n rfl rfl rfl rfl ?k2 ?k3 ?k4 ?_)
  case k2 => rw [hz2]; omega
  case k3 => unfold maxLen; omega
  case k4 => omega
  intro w4 hown4 hgrow4
  obtain ⟨g, hg⟩ : ∃ g, g = w3.heap.size := ⟨_, rfl⟩
  rw [← hg] at hown4 ⊢
  have hk4 : Keep (fun _ => False) w3 w4 := Keep.of_grown hgrow4 (by simp)
  have hA4 : Arr w4 Z 26 .u64 g n (fun _ => 0) := by unfold Arr; rw [← kCells_zero]; exact hown4
  have hb4 : Below Z w2 w4 := HB3.out.trans (hk4.below hz3 (by simp))
  have hzg : Z ≤ g := by omega
  have HB4 := Lib.hid hb4
  have HA4 := Lib.hid hA4
  obtain ⟨P, hP⟩ : ∃ P, P = Ln.nP ys := ⟨_, rfl⟩
  obtain ⟨Bd, hBd⟩ : ∃ B, B = Ln.nB ys := ⟨_, rfl⟩
  have hcell : ∀ wr, Below Z w2 wr → ∀ i, i < n → ∃ (b off : Nat) (pos : Int) (s : ByteArray) (bd pd : Nat), A' = some ⟨b, off, none⟩ ∧ b < wr.heap.size ∧ b < Z ∧ Hid (Bd i = bd ∧ P i = pd) ∧ bd < 18446744073709551616 ∧ pd < 18446744073709551616 ∧
      wr.cell? ⟨b, off + i * 4, none⟩ = some (.int .i64 pos) ∧ wr.cell? ⟨b, off + i * 4 + 1, none⟩ = some (.string s) ∧ wr.cell? ⟨b, off + i * 4 + 2, none⟩ = some (.int .u64 bd) ∧ wr.cell? ⟨b, off + i * 4 + 3, none⟩ = some (.int .u64 pd) := fun wr hb i hi => by
    obtain ⟨b, off, rfl, hbl, hcs⟩ := hRuns.out w2 (Below.refl _ _) (by rw [HYS.out]; omega)
    have h1 := List.getElem?_eq_getElem (l := ys) (i := i) (by rw [HYS.out]; omega)
    obtain ⟨b1, b2, b3⟩ := HXY.out _ (List.mem_of_getElem? h1)
    obtain ⟨q0, q1, q2, q3⟩ := hcs i _ h1
    have hbz : b < Z := by rw [HZ.out]; exact hbl
    rw [← hb.cell (p := ⟨b, _, none⟩) hbz] at q0 q1 q2 q3
    exact ⟨b, off, _, _, _, _, rfl, by have := hb.size; rw [HZ.out] at hbz; omega, hbz, ⟨by rw [hBd, Ln.nB_at h1], by rw [hP, Ln.nP_at h1]⟩, b1, b2, q0, q1, q2, q3⟩
  have hwc : ∀ wr, Below Z w2 wr → ∀ t, t < m → ∃ (b off : Nat) (x : Int), A2 = some ⟨b, off, none⟩ ∧ b < wr.heap.size ∧ Hid (ws[t]? = some x) ∧ wr.cell? ⟨b, off + t, none⟩ = some (.int .i64 x) := fun wr hb t ht => by
    obtain ⟨b, off, rfl, hbl, hcs⟩ := HR2.out (by rw [HWN.out]; omega)
    have h1 := List.getElem?_eq_getElem (l := ws) (i := t) (by rw [HWN.out]; omega)
    have hbw : Below p w wr := HB2.out.trans (hb.mono (by omega))
    refine ⟨b, off, _, rfl, by have := hbw.size; omega, h1, ?_⟩
    rw [hbw.cell (p := ⟨b, _, none⟩) (by simp only; rw [← HPW.out]; exact hbl)]
    exact hcs t _ h1
  have HCell := Lib.hid hcell
  have HWC := Lib.hid hwc
  have HP := Lib.hid hP
  have HBd := Lib.hid hBd
  clear hown4 hgrow4 hk4 hA4 hb4 hcell hwc hP hBd hg c0 c1 c2 c3 hps3 HB3 HBw3
  go_wp2
  go_loopg [8] M (fun q x wr => ∃ (t : Nat) (C : Nat → Nat), q + t = M ∧ x = .int .u64 t ∧ Hid (Below Z w2 wr) ∧ Hid (Arr wr Z 26 .u64 g n C) ∧ Hid (∀ i, i < n → Bd i * (t / P i) + C i ≤ Ln.seen ws t i) ∧ Hid (0 < t → ∀ i, i < n → 1 ≤ P i ∧ P i ≤ M ∧ M % P i = 0 ∧ 1 ≤ Bd i ∧ Bd i ≤ P i))
  case atStart => exact ⟨0, _, rfl, rfl, HB4.out, HA4.out, fun i _ => by simp, fun h => by omega⟩
  case round =>
    obtain ⟨t, C, hqt, rfl, HBt, HA, HI, HO⟩ := hrel
    have HQ := Lib.hid hqt
    have htM : t ≤ M := by omega
    clear hqt
    by_cases hlt : t < M
    · obtain ⟨b2, off2, x, rfl, hb2, HWx, hxc⟩ := HWC.out wr HBt.out t (by omega)
      have hti : (t : Int) < m := by omega
      have hCb : ∀ i, i < n → C i ≤ 65536 := fun i hi => by
        have h1 := HI.out i hi
        have h2 := Ln.seen_le ws i t
        have h3 : C i ≤ Bd i * (t / P i) + C i := Nat.le_add_left _ _
        omega
      have hseen : ∀ i, Ln.seen ws (t + 1) i = Ln.seen ws t i + if some x = some (i : Int) then 1 else 0 := fun i => by rw [Ln.seen_succ, HWx.out]
      have HCb := Lib.hid hCb
      have HSeen := Lib.hid hseen
      clear hCb hseen
      go_upto_region 8 with fail
      go_cut [63] from 45 to 130 (fun v wx => v = .bool (decide (0 ≤ x) && decide (x < (n : Int))) ∧ wx = wr)
      case first =>
        by_cases hx0 : 0 ≤ x
        · have hx0' : decide (0 ≤ x) = true := by simpa using hx0
          go_wp2
          go_meet
          exact ⟨by rw [hx0', Bool.true_and], rfl⟩
        · have hx0' : decide (0 ≤ x) = false := by simpa using hx0
          go_wp2
          go_meet
          exact ⟨by rw [hx0', Bool.false_and], rfl⟩
      case rest =>
      obtain ⟨rfl, hwc⟩ := hcut
      have hwc' := hwc.symm
      subst hwc'
      clear hwc
      go_upto_if 63 with fail
      go_cut [] from 45 to 130 (fun wx => ∃ C' : Nat → Nat, Arr wx Z 26 .u64 g n C' ∧ Below Z w2 wx ∧ ∀ i, i < n → Bd i * (t / P i) + C' i ≤ Ln.seen ws (t + 1) i)
      case first =>
        by_cases hx0 : 0 ≤ x
        · by_cases hxn : x < n
          · have hxb : (decide (0 ≤ x) && decide (x < (n : Int))) = true := by simp [hx0, hxn]
            rw [hxb]
            obtain ⟨k, rfl⟩ : ∃ k : Nat, x = (k : Int) := ⟨x.toNat, by omega⟩
            have hk : k < n := by omega
            have hck := HA.out.cell hk
            have hcf := HA.out.frozen k
            have hckb := HCb.out k hk
            have hset := HA.out.set k (C k + 1)
            have hbs : Below Z w2 (wr.setCell ⟨g, k, none⟩ (.int .u64 ((C k + 1 : Nat) : Int))) := HBt.out.setCell (by exact hzg) _
            rw [Int.natCast_add] at hset hbs
            have HSet := Lib.hid hset
            have HBs := Lib.hid hbs
            clear hset hbs
            go_wp2
            go_meet
            refine ⟨_, HSet.out, HBs.out, fun i hi => ?_⟩
            have h1 := HI.out i hi
            rw [HSeen.out]
            unfold Edf.set1
            by_cases hik : i = k
            · subst hik; rw [if_pos rfl, if_pos rfl]; omega
            · rw [if_neg hik, if_neg (fun e => hik (by injection e with e; omega))]; omega
          · have hxb : (decide (0 ≤ x) && decide (x < (n : Int))) = false := by simp [hxn]
            rw [hxb]
            go_wp2
            go_meet
            exact ⟨C, HA.out, HBt.out, fun i hi => by have h1 := HI.out i hi; rw [HSeen.out]; omega⟩
        · have hxb : (decide (0 ≤ x) && decide (x < (n : Int))) = false := by simp [hx0]
          rw [hxb]
          go_wp2
          go_meet
          exact ⟨C, HA.out, HBt.out, fun i hi => by have h1 := HI.out i hi; rw [HSeen.out]; omega⟩
      case rest =>
      obtain ⟨C', hA', hB', hI'⟩ := hcut
      have HA' := Lib.hid hA'
      have HB' := Lib.hid hB'
      have HI' := Lib.hid hI'
      clear hA' hB' hI' HA HI HBt hxc hb2 hti
      go_wp2
      go_loopg [9] n (fun q x wr => ∃ (j : Nat) (C : Nat → Nat), q + j = n ∧ x = .int .i64 j ∧ Hid (Below Z w2 wr) ∧ Hid (Arr wr Z 26 .u64 g n C) ∧ Hid (∀ i, i < n → i < j → Bd i * ((t + 1) / P i) + C i ≤ Ln.seen ws (t + 1) i ∧ 1 ≤ P i ∧ P i ≤ M ∧ M % P i = 0 ∧ 1 ≤ Bd i ∧ Bd i ≤ P i) ∧ Hid (∀ i, i < n → j ≤ i → Bd i * (t / P i) + C i ≤ Ln.seen ws (t + 1) i))
      case atStart => exact ⟨0, C', rfl, rfl, HB'.out, HA'.out, fun i _ h => by omega, fun i hi _ => HI'.out i hi⟩
      case round =>
        clear HA' HB' HI' C'
        obtain ⟨j, C, hqj, rfl, HBj, HA, HD, HU⟩ := hrel
        obtain ⟨⟨c0, c1, c2, c3⟩, hpsj⟩ := hBox.out wr HBj.out
        have HQJ := Lib.hid hqj
        have hjn : j ≤ n := by omega
        clear hqj c0 c1 c2
        by_cases hj : j < n
        · obtain ⟨b, off, pos, s, bd, pd, rfl, hbw, hbz, HC, hbd, hpd, q0, q1, q2, q3⟩ := HCell.out wr HBj.out j hj
          have hji : (j : Int) < n := by omega
          obtain ⟨px, hpx⟩ : ∃ px, px = wr.heap.size := ⟨_, rfl⟩
          obtain ⟨wx, hwx⟩ : ∃ wx, wx = wr.alloc (Obj.cells #[.int .i64 pos, .string s, .int .u64 bd, .int .u64 pd] 28) := ⟨_, rfl⟩
          have hxv : wx.heap[px]? = some (.cells #[.int .i64 pos, .string s, .int .u64 bd, .int .u64 pd] 28 (0, 0)) := by rw [hwx, hpx]; exact heap_alloc_new _ _
          have x2 : wx.cell? ⟨px, 2, none⟩ = some (.int .u64 bd) := cell_of_row _ _ _ _ _ _ hxv
          have x3 : wx.cell? ⟨px, 3, none⟩ = some (.int .u64 pd) := cell_of_row _ _ _ _ _ _ hxv
          have hpxx : px < wx.heap.size := (Array.getElem?_eq_some_iff.1 hxv).1
          have hkx : Keep (fun _ => False) wr wx := by rw [hwx]; exact (Keep.refl _ _).alloc _
          have hbx : Below Z w2 wx := by
            have h1 : Z ≤ wr.heap.size := by have := HBj.out.size; have := HZ.out; omega
            exact HBj.out.trans (hkx.below h1 (by simp))
          have hax := HA.out.keep hkx (by simp)
          have hlc := hax.cell hj
          have hlf := hax.frozen j
          have hbpx : Below p w wx := HB2.out.trans (hbx.mono (by omega))
          have HBx := Lib.hid hbx
          have HAx := Lib.hid hax
          have HBpx := Lib.hid hbpx
          have HPX := Lib.hid hpx
          clear hxv hkx hbx hax hbpx HBj HA hpx
          go_upto_region 14 with fail
          rw [← hwx, ← HPX.out]
          clear hwx q0 q1 q2 q3 c3
          by_cases hb1 : pd < 1
          · go_wp2_with fail
            go_at_call 13
            refine (known_any wx).mono ?_
            rintro e wk ⟨rfl, hbk⟩
            have HBk := Lib.hid (HBpx.out.trans (hbk.mono (by have := HBpx.out.size; have := HPW.out; omega)))
            clear hbk
            go_wp2
            go_ret
            exact ⟨rfl, by first | exact HBk.out | (rw [HPW.out]; exact HBk.out)⟩
          by_cases hb2 : M < pd
          · go_wp2_with fail
            go_at_call 13
            refine (known_any wx).mono ?_
            rintro e wk ⟨rfl, hbk⟩
            have HBk := Lib.hid (HBpx.out.trans (hbk.mono (by have := HBpx.out.size; have := HPW.out; omega)))
            clear hbk
            go_wp2
            go_ret
            exact ⟨rfl, by first | exact HBk.out | (rw [HPW.out]; exact HBk.out)⟩
          by_cases hb3 : M % pd = 0
          rotate_left
          · have hmi : ((M : Int) % (pd : Int) != 0) = true := by simp; omega
            go_wp2_with fail
            go_at_call 13
            refine (known_any wx).mono ?_
            rintro e wk ⟨rfl, hbk⟩
            have HBk := Lib.hid (HBpx.out.trans (hbk.mono (by have := HBpx.out.size; have := HPW.out; omega)))
            clear hbk
            go_wp2
            go_ret
            exact ⟨rfl, by first | exact HBk.out | (rw [HPW.out]; exact HBk.out)⟩
          by_cases hb4 : bd < 1
          · go_wp2_with fail
            go_at_call 13
            refine (known_any wx).mono ?_
            rintro e wk ⟨rfl, hbk⟩
            have HBk := Lib.hid (HBpx.out.trans (hbk.mono (by have := HBpx.out.size; have := HPW.out; omega)))
            clear hbk
            go_wp2
            go_ret
            exact ⟨rfl, by first | exact HBk.out | (rw [HPW.out]; exact HBk.out)⟩
          by_cases hb5 : pd < bd
          · go_wp2_with fail
            go_at_call 13
            refine (known_any wx).mono ?_
            rintro e wk ⟨rfl, hbk⟩
            have HBk := Lib.hid (HBpx.out.trans (hbk.mono (by have := HBpx.out.size; have := HPW.out; omega)))
            clear hbk
            go_wp2
            go_ret
            exact ⟨rfl, by first | exact HBk.out | (rw [HPW.out]; exact HBk.out)⟩
          have hmi : ((M : Int) % (pd : Int) != 0) = false := by simp; omega
          by_cases hm : (t + 1) % pd = 0
          · have hti : (((t : Int) + 1) % (pd : Int) == 0) = true := tick_eq hm
            by_cases hcc : C j < bd
            · have hci : decide ((C j : Int) < bd) = true := by simp; omega
              go_wp2_with fail
              go_quiet (fail)
              go_wp2_with fail
              go_at_call 13
              refine (known_any _).mono ?_
              rintro e wk ⟨rfl, hbk⟩
              have HBk := Lib.hid ((below_drewN HBpx.out nq).trans (hbk.mono (by have := (below_drewN HBpx.out nq).size; have := HPW.out; omega)))
              clear hbk
              go_wp2
              go_ret
              exact ⟨rfl, by first | exact HBk.out | (rw [HPW.out]; exact HBk.out)⟩
            · have hci : decide ((C j : Int) < bd) = false := by simp; omega
              go_wp2_with fail
              go_quiet (fail)
              go_wp2
              have hset2 := (HAx.out.keep ((Keep.refl (fun _ => False) wx).drewN nq) (by simp)).set j 0
              have hbs2 : Below Z w2 ((wx.drewN nq).setCell ⟨g, j, none⟩ (.int .u64 ((0 : Nat) : Int))) := (below_drewN HBx.out nq).setCell (by exact hzg) _
              have hcn : ¬ C j < bd := hcc
              go_roundg (n - (j + 1))
              case measure => have := HQJ.out; omega
              case rel =>
                refine ⟨j + 1, _, by omega, by go_num, hbs2, hset2, fun i hi hij => ?_, fun i hi hij => ?_⟩
                · have e1 : Edf.set1 C j 0 i = if i = j then 0 else C i := rfl
                  rw [e1]
                  by_cases hik : i = j
                  · subst hik
                    rw [if_pos rfl, HC.out.1, HC.out.2]
                    have h1 := HU.out i hi (Nat.le_refl _)
                    rw [HC.out.1, HC.out.2] at h1
                    have e2 : (t + 1) / pd = t / pd + 1 := by
                      have h2 := Nat.succ_div (a := t) (b := pd)
                      rw [if_pos (Nat.dvd_of_mod_eq_zero hm)] at h2
                      exact h2
                    rw [e2, Nat.mul_add]
                    exact ⟨by omega, by omega, by omega, hb3, by omega, by omega⟩
                  · rw [if_neg hik]
                    exact HD.out i hi (by omega)
                · have e1 : Edf.set1 C j 0 i = if i = j then 0 else C i := rfl
                  rw [e1, if_neg (by omega)]
                  exact HU.out i hi (by omega)
          · have hti : (((t : Int) + 1) % (pd : Int) == 0) = false := tick_ne hm
            go_wp2
            go_roundg (n - (j + 1))
            case measure => have := HQJ.out; omega
            case rel =>
              refine ⟨j + 1, C, by omega, by go_num, HBx.out, HAx.out, fun i hi hij => ?_, fun i hi hij => HU.out i hi (by omega)⟩
              by_cases hik : i = j
              · subst hik
                have h1 := HU.out i hi (Nat.le_refl _)
                rw [HC.out.1, HC.out.2] at h1 ⊢
                have e2 : (t + 1) / pd = t / pd := by
                  have h2 := Nat.succ_div (a := t) (b := pd)
                  rw [if_neg (fun hd => hm (Nat.mod_eq_zero_of_dvd hd))] at h2
                  exact h2
                rw [e2]
                exact ⟨h1, by omega, by omega, hb3, by omega, by omega⟩
              · exact HD.out i hi (by omega)
        · have hje : j = n := by omega
          have HJE := Lib.hid hje
          clear hje
          go_wp2
          go_roundg (M - (t + 1))
          case measure => have := HQ.out; omega
          case rel =>
            have hd := HD.out
            rw [HJE.out] at hd
            exact ⟨t + 1, C, by omega, by go_num, HBj.out, HA.out, fun i hi => (hd i hi hi).1, fun _ i hi => (hd i hi hi).2⟩
    · have hte : t = M := by omega
      obtain ⟨⟨c0, c1, c2, c3⟩, hpst⟩ := hBox.out wr HBt.out
      have hok := HO.out (by omega)
      have hrn : ∀ r ∈ ys, Ln.right M r true = 0 := fun r hr => by
        obtain ⟨i, hi⟩ := List.getElem?_of_mem hr
        have hil := (List.getElem?_eq_some_iff.1 hi).1
        have h1 := hok i (by rw [← HYS.out]; exact hil)
        rw [HBd.out, HP.out, Ln.nP_at hi, Ln.nB_at hi] at h1
        exact Ln.right_needs h1.2.2.2.1 h1.2.2.2.2 h1.2.1 h1.2.2.1 (HXY.out r hr).2.2
      have hsum : Ln.sumWants M ys ≤ M := by
        have h1 := Ln.sumTo_wants M ys n (by rw [HYS.out]; exact Nat.le_refl _)
        rw [← HYS.out, List.take_length, HYS.out] at h1
        rw [← h1]
        refine Nat.le_trans (Edf.sumTo_le fun i hi => ?_) (Ln.seen_sum ws n M)
        have h2 := HI.out i hi
        rw [hte, HBd.out, HP.out] at h2
        omega
      have hfe := (Ln.flatErr_needs hrn 0 0 (by omega)).1 (by omega)
      have hfa : Ln.flatAny M true ys = Ln.capped (Ln.rowFrom [] (Ln.names M true ys)) := by
        rw [Ln.flatAny, if_neg (by omega), hfe]
      have hne : Ln.rowFrom [] (Ln.names M true ys) ≠ [] := Ln.rowFrom_ne (fun e => by
        have := Ln.names_length hfe
        rw [e] at this
        simp at this
        omega)
      obtain ⟨rows, hrows⟩ : ∃ x, x = Ln.rowFrom [] (Ln.names M true ys) := ⟨_, rfl⟩
      rw [← hrows] at hfa hne
      have hfl := flat_any M true A' c' ys 0 0 wr hM (fun r hr => ⟨(HXY.out r hr).1, (HXY.out r hr).2.1⟩) (by rw [HYS.out]; omega) (hRuns.out wr HBt.out)
      rw [HYS.out, hfa] at hfl
      have hbw : Below p w wr := HB2.out.trans (HBt.out.mono (by omega))
      have HFl := Lib.hid hfl
      have HBw := Lib.hid hbw
      have hrl : 0 < rows.length := List.length_pos_iff.2 hne
      clear hte hok hrn hsum hfe hfa hne hrows hfl hbw HI HO HA
      go_wp2_with fail
      go_at_call 12
      refine HFl.out.mono ?_
      rintro e w5 ⟨v, rfl, hown, hb5⟩
      have hbw5 : Below p w w5 := HBw.out.trans (hb5.mono (by have := HBw.out.size; have := HPW.out; omega))
      have HBw5 := Lib.hid hbw5
      unfold Ln.capped at hown ⊢
      by_cases hcap : 4096 < rows.length
      · rw [if_pos hcap] at hown ⊢
        simp only at hown ⊢
        obtain ⟨A5, c5, rfl⟩ : ∃ A c, v = .slice A 0 c := by
          rcases hown.2 with ⟨h, _⟩ | ⟨g, cap, cur, h, _⟩
          · exact ⟨_, _, h⟩
          · exact ⟨_, _, h⟩
        clear hown hb5 hbw5 c0 c1 c2 c3
        go_wp2_with fail
        go_at_call 13
        refine (known_any w5).mono ?_
        rintro e wk ⟨rfl, hbk⟩
        have HBk := Lib.hid (HBw5.out.trans (hbk.mono (by have := HBw5.out.size; have := HPW.out; omega)))
        clear hbk
        go_wp2
        go_ret
        exact ⟨rfl, by first | exact HBk.out | (rw [HPW.out]; exact HBk.out)⟩
      · rw [if_neg hcap] at hown ⊢
        simp only at hown ⊢
        obtain ⟨A5, c5, rfl⟩ : ∃ A c, v = .slice A rows.length c := by
          rcases hown.2 with ⟨h, h2⟩ | ⟨g, cap, cur, h, _⟩
          · exact ⟨none, 0, by rw [h, h2]⟩
          · exact ⟨_, _, h⟩
        clear hown hb5 hbw5 c0 c1 c2 c3
        go_wp2_with fail
        go_at_call 13
        refine (known_any w5).mono ?_
        rintro e wk ⟨rfl, hbk⟩
        have HBk := Lib.hid (HBw5.out.trans (hbk.mono (by have := HBw5.out.size; have := HPW.out; omega)))
        clear hbk
        go_wp2
        go_ret
        exact ⟨rfl, by first | exact HBk.out | (rw [HPW.out]; exact HBk.out)⟩

theorem lawBest_any (M : Nat) (A : Option Addr) (c : Nat) (xs : List Run) (lp : Int) (cpu : Nat) (nd : Bool) (A2 : Option Addr) (ca2 : Nat) (ws : List Int) (w : World) (hM : M < 18446744073709551616)
    (hx : ∀ r ∈ xs, r.bud < 18446744073709551616 ∧ r.per < 18446744073709551616) (hl : xs.length * 40 ≤ 140737488351232) (hl2 : ws.length * 8 ≤ 140737488351232) (hr : RunsAt w A xs) (hr2 : IntsAt w A2 ws) :
    Calls Try.prog 8 #[.int .u64 M, .agg #[.int .i64 lp, .int .u64 cpu, .bool nd, .slice A xs.length c], .slice A2 ws.length ca2] w fun e w' => e = .returned (.bool true) ∧ Below w.heap.size w w' :=
  lawBest_in M xs.length ws.length A c xs lp cpu nd A2 ca2 ws w hM hx rfl hl rfl (by omega) hr hr2
end Go.Proofs.Ytgilejknjdbneaa
