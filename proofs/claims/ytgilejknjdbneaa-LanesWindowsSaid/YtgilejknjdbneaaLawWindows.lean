/- The walk of the law LanesWindows. -/
import Derived.Test.YtgilejknjdbneaaW1
import Derived.Test.YtgilejknjdbneaaR1
import Derived.Test.YtgilejknjdbneaaArr
import Derived.Test.YtgilejknjdbneaaLawTells
import Derived.Deep.CutRange
import Derived.Deep.LoopGhost
import Derived.Deep.RegionHeld3
namespace Go.Proofs.Ytgilejknjdbneaa
open Go.RowKit Go.IntWalk

theorem own_formW {w : World} {base : Nat} {e : TypeId} {size : Nat} {v : Value} {n : Nat} {xs : List Value} (h : w.ownsRow base e size v n xs) : ∃ A c, v = .slice A n c := by
  rcases h.2 with ⟨h1, h2⟩ | ⟨g, cap, cur, h1, _⟩
  · exact ⟨none, 0, by rw [h1, h2]⟩
  · exact ⟨_, _, h1⟩
theorem slotsAt_ownW {w : World} {B n c : Nat} {A : Option Addr} {l : List Slot} (hn : l.length = n) (hown : w.ownsRow B 33 3 (.slice A n c) n (slotCells l)) : SlotsAt w A l := by
  intro h0
  obtain ⟨g, cap, hv, hBg, hlt⟩ := hown.form (by omega)
  injection hv with e1 e2 e3
  subst e1
  exact slotsAt_of_own hown hlt h0
def strCells (l : List ByteArray) : List Value := l.map Value.string
theorem strCells_one (l : List ByteArray) : ∀ u ∈ strCells l, u.oneCell' = true := by
  intro u hu
  obtain ⟨x, _, rfl⟩ := List.mem_map.1 hu
  rfl
theorem Try.info9 : (Try.prog.info? 9).map (fun i => (i.zero, i.size, i.bytes)) = some (some (.string ByteArray.empty), 1, 16) := by kernel_rfl
theorem Try.info3w : (Try.prog.info? 3).map (fun i => (i.zero, i.size, i.bytes)) = some (some (.int .i64 0), 1, 8) := by kernel_rfl

set_option maxRecDepth 100000 in
set_option maxHeartbeats 4000000 in
theorem lawWindows_in (M n : Nat) (A : Option Addr) (c : Nat) (xs : List Run) (lp : Int) (cpu : Nat) (nd : Bool) (fr : Int) (w : World) (hM : M < 18446744073709551616)
    (hx : ∀ r ∈ xs, r.bud < 18446744073709551616 ∧ r.per < 18446744073709551616) (hxn : xs.length = n) (hl : n * 40 ≤ 140737488351232) (hfr : -9223372036854775808 ≤ fr ∧ fr ≤ 9223372036854775807) (hr : RunsAt w A xs) :
    Calls Try.prog 10 #[.int .u64 M, .agg #[.int .i64 lp, .int .u64 cpu, .bool nd, .slice A n c], .int .i64 fr] w fun e w' => e = .returned (.bool true) ∧ Below w.heap.size w w' := by
  obtain ⟨W, hW⟩ : ∃ W, W = w.alloc (.cells #[.int .i64 lp, .int .u64 cpu, .bool nd, .slice A n c] 31) := ⟨_, rfl⟩
  obtain ⟨p, hp⟩ : ∃ p, p = w.heap.size := ⟨_, rfl⟩
  have hB : Below w.heap.size w W := by subst hW; exact (Below.refl _ _).alloc (Nat.le_refl _) _
  have hv0 : W.heap[p]? = some (.cells #[.int .i64 lp, .int .u64 cpu, .bool nd, .slice A n c] 31 (0, 0)) := by subst hW hp; exact heap_alloc_new _ _
  have hps : p < W.heap.size := (Array.getElem?_eq_some_iff.1 hv0).1
  have hBox : Hid (∀ wr, Below W.heap.size W wr → (wr.cell? ⟨p, 0, none⟩ = some (.int .i64 lp) ∧ wr.cell? ⟨p, 1, none⟩ = some (.int .u64 cpu) ∧ wr.cell? ⟨p, 2, none⟩ = some (.bool nd) ∧ wr.cell? ⟨p, 3, none⟩ = some (.slice A n c)) ∧ p < wr.heap.size) := fun wr hb => by
    have e0 := (hb.block p hps).trans hv0
    exact ⟨⟨cell_of_row _ _ _ _ _ _ e0, cell_of_row _ _ _ _ _ _ e0, cell_of_row _ _ _ _ _ _ e0, cell_of_row _ _ _ _ _ _ e0⟩, by have := hb.size; omega⟩
  have hRuns : Hid (∀ wr, Below W.heap.size W wr → RunsAt wr A xs) := fun wr hb => hr.below (hB.trans (hb.mono hB.size)) (Nat.le_refl _)
  have hPre : Hid (∀ wr, Below W.heap.size W wr → Below p w wr) := fun wr hb => by rw [hp]; exact hB.trans (hb.mono hB.size)
  obtain ⟨⟨c0, c1, c2, c3⟩, _⟩ := hBox.out W (Below.refl _ _)
  have HPW : Hid (w.heap.size = p) := hp.symm
  have HX := Lib.hid hx
  have HXN := Lib.hid hxn
  obtain ⟨R1, R2, R3, hR3⟩ : ∃ R1 R2 R3, Ln.flatAny M nd xs = (R1, R2, R3) := ⟨_, _, _, rfl⟩
  have HR3 := Lib.hid hR3
  clear hB hv0 hr hx hxn hp hR3
  go_enter Try.func10, Try.ntmps10
  go_wp2_with fail
  rw [← hW, HPW.out]
  clear hW
  go_at_call 14
  refine (great_any M A c n lp cpu nd W hM (by omega)).mono ?_
  rintro e w1 ⟨rfl, hb1⟩
  have HB1 := Lib.hid hb1
  obtain ⟨gr, hgr⟩ : ∃ gr, gr = Ln.great M nd n := ⟨_, rfl⟩
  rw [← hgr]
  clear hb1 hgr c0 c1 c2 c3
  obtain ⟨⟨c0, c1, c2, c3⟩, hps1⟩ := hBox.out w1 HB1.out
  have HBp1 := Lib.hid (hPre.out w1 HB1.out)
  cases gr
  rotate_left
  · go_wp2_with fail
    go_at_call 13
    refine (known_any w1).mono ?_
    rintro e wk ⟨rfl, hbk⟩
    have HBk := Lib.hid (HBp1.out.trans (hbk.mono (by have := HBp1.out.size; have := HPW.out; omega)))
    clear hbk
    go_wp2
    go_ret
    exact ⟨rfl, by first | exact HBk.out | (rw [HPW.out]; exact HBk.out)⟩
  have hfl := flat_any M nd A c xs lp cpu w1 hM HX.out (by rw [HXN.out]; omega) (hRuns.out w1 HB1.out)
  rw [HXN.out, HR3.out] at hfl
  have HFl := Lib.hid hfl
  clear hfl
  go_wp2_with fail
  go_at_call 12
  refine HFl.out.mono ?_
  rintro e w2 ⟨v, rfl, hown, hb2⟩
  simp only at hown ⊢
  obtain ⟨A5, c5, rfl⟩ := own_formW hown
  have HB2 := Lib.hid (HB1.out.trans (hb2.mono HB1.out.size))
  have HBp2 := Lib.hid (hPre.out w2 HB2.out)
  have HSl := Lib.hid (slotsAt_ownW rfl hown)
  clear hown hb2 c0 c1 c2 c3 HFl HB1 HBp1 hps1
  obtain ⟨⟨c0, c1, c2, c3⟩, hps2⟩ := hBox.out w2 HB2.out
  obtain ⟨Rl, hRl⟩ : ∃ Rl, Rl = R1.length := ⟨_, rfl⟩
  rw [← hRl]
  have HRl := Lib.hid hRl
  clear hRl
  by_cases he0 : R3 = 0
  rotate_left
  · have he0' : (R3 != 0) = true := by simp [he0]
    go_wp2_with fail
    go_at_call 13
    refine (known_any w2).mono ?_
    rintro e wk ⟨rfl, hbk⟩
    have HBk := Lib.hid (HBp2.out.trans (hbk.mono (by have := HBp2.out.size; have := HPW.out; omega)))
    clear hbk
    go_wp2
    go_ret
    exact ⟨rfl, by first | exact HBk.out | (rw [HPW.out]; exact HBk.out)⟩
  have he0' : (R3 != 0) = false := by simp [he0]
  obtain ⟨hM1, hM2, hNl, hfa, hN4⟩ := Ln.flatAny_ok (M := M) (nd := nd) (xs := xs) (by rw [HR3.out]; exact he0)
  obtain ⟨N, hN⟩ : ∃ N, N = Ln.names M nd xs := ⟨_, rfl⟩
  rw [← hN] at hNl hfa hN4
  have hr1 : R1 = Ln.rowFrom [] N := by rw [HR3.out] at hfa; injection hfa
  rw [← hr1] at hN4
  have hmul : M * Rl ≤ 65536 * 4096 := Nat.mul_le_mul hM2 (by rw [HRl.out]; exact hN4)
  have hm1 : (M : Int) * (Rl : Int) = ((M * Rl : Nat) : Int) := by simp
  obtain ⟨mr, hmr⟩ : ∃ mr, mr = M * Rl := ⟨_, rfl⟩
  rw [← hmr] at hmul hm1
  have HN := Lib.hid hN
  have HNl := Lib.hid hNl
  have HR1 := Lib.hid hr1
  have HRle : Rl ≤ 4096 := by rw [HRl.out]; exact hN4
  have HE0 := Lib.hid he0
  clear hN hNl hfa hN4 hr1 hmr he0
  by_cases hbig : 3000000 < mr
  · go_wp2_with fail
    go_at_call 13
    refine (known_any w2).mono ?_
    rintro e wk ⟨rfl, hbk⟩
    have HBk := Lib.hid (HBp2.out.trans (hbk.mono (by have := HBp2.out.size; have := HPW.out; omega)))
    clear hbk
    go_wp2
    go_ret
    exact ⟨rfl, by first | exact HBk.out | (rw [HPW.out]; exact HBk.out)⟩
  have hbig' : mr ≤ 3000000 := by omega
  go_wp2_with fail
  go_at_call 29
  refine (within_any fr w2 hfr).mono ?_
  rintro e w3 ⟨⟨F, hF, rfl⟩, rfl⟩
  obtain ⟨i9, hi9, h90, h91, h92⟩ := info_parts Try.info9
  obtain ⟨i3, hi3, h30, h31, h32⟩ := info_parts Try.info3w
  go_wp2
  obtain ⟨Zn, hZn⟩ : ∃ Zn, Zn = w2.heap.size := ⟨_, rfl⟩
  obtain ⟨wo, hwo⟩ : ∃ wo, wo = w2.alloc (Obj.cells #[Value.string { data := #[] }] 9) := ⟨_, rfl⟩
  have hno : wo.ownsRow Zn 9 1 (.slice (some ⟨Zn, 0, none⟩) 1 1) 1 (strCells [⟨#[]⟩]) := by
    refine ⟨rfl, .inr ⟨Zn, 1, #[.string ⟨#[]⟩], rfl, Nat.le_refl _, ?_, by omega, by unfold maxLen; omega, rfl, rfl⟩⟩
    rw [hwo, hZn]; exact heap_alloc_new _ _
  have hbo : Below Zn w2 wo := by rw [hwo, hZn]; exact (Below.refl _ _).alloc (Nat.le_refl _) _
  have hWZ : W.heap.size ≤ Zn := by rw [hZn]; exact HB2.out.size
  have hB2z : ∀ wr, Below Zn w2 wr → Below W.heap.size W wr := fun wr hb => HB2.out.trans (hb.mono hWZ)
  have hslz : ∀ wr, Below Zn w2 wr → SlotsAt wr A5 R1 := fun wr hb => HSl.out.below hb (by rw [hZn]; exact Nat.le_refl _)
  have HNo := Lib.hid hno
  have HBo := Lib.hid hbo
  have HB2z := Lib.hid hB2z
  have HSlz := Lib.hid hslz
  have HZn := Lib.hid hZn
  rw [← hZn, ← hwo]
  clear hno hbo hB2z hslz hZn hwo HSl HB2 HBp2 c0 c1 c2 c3 hps2
  go_loopg [10, 11] 20 (fun q v i wr => ∃ (k : Nat) (NL : List ByteArray), q + k = 20 ∧ i = .int .i64 k ∧ Hid (NL.length = k + 1) ∧ Hid (wr.ownsRow Zn 9 1 v (k + 1) (strCells NL)) ∧ Hid (Below Zn w2 wr))
  case atStart => exact ⟨0, [⟨#[]⟩], rfl, rfl, rfl, HNo.out, HBo.out⟩
  case round =>
    obtain ⟨k, NL, hqk, rfl, HNL, HO, HBk0⟩ := hrel
    have HQ := Lib.hid hqk
    have hk20 : k ≤ 20 := by omega
    obtain ⟨⟨c0, c1, c2, c3⟩, hpsk⟩ := hBox.out wr (HB2z.out wr HBk0.out)
    have hzs : Zn ≤ wr.heap.size := by have := HBk0.out.size; have := HZn.out; omega
    clear hqk c0 c1 c2
    go_upto_region 9 with fail
    go_cut [51] from 43 to 62 (fun v wx => v = .bool (decide (k < n ∧ k < 20)) ∧ wx = wr)
    case first =>
      by_cases h1 : k < n
      · by_cases h2 : k < 20
        · go_wp2
          go_meet
          exact ⟨by simp [h1, h2] <;> omega, rfl⟩
        · go_wp2
          go_meet
          exact ⟨by simp [h1, h2] <;> omega, rfl⟩
      · go_wp2
        go_meet
        exact ⟨by simp [h1] <;> omega, rfl⟩
    case rest =>
    obtain ⟨rfl, hwc⟩ := hcut
    have hwc' := hwc.symm
    subst hwc'
    clear hwc
    by_cases hc : k < n ∧ k < 20
    · obtain ⟨h1, h2⟩ := hc
      have hdc : decide (k < n ∧ k < 20) = true := by simp [h1, h2]
      rw [hdc]
      obtain ⟨b, off, rfl, hbl, hcs⟩ := hRuns.out wr (HB2z.out wr HBk0.out) (by rw [HXN.out]; omega)
      obtain ⟨r, hrk⟩ : ∃ r, xs[k]? = some r := ⟨xs[k]'(by rw [HXN.out]; exact h1), List.getElem?_eq_getElem (by rw [HXN.out]; exact h1)⟩
      obtain ⟨_, q1, _, _⟩ := hcs k r hrk
      obtain ⟨sb, hsb⟩ : ∃ sb, sb = r.subj := ⟨_, rfl⟩
      rw [← hsb] at q1
      have hki : (k : Int) < n := by omega
      clear hcs hrk hsb hdc
      go_wp2_with (at_builtin; refine wpList_append_lies _ rfl (.tmp 54) (.tmp 61) 57 rfl Zn 9 i9 (.string ByteArray.empty) 1 16 Try.underlying57 hi9 h90 h91 h92 rfl (by omega) u10 (k + 1) (strCells NL) rfl (HO.out.alloc _) ⟨wr.heap.size, 0, none⟩ 1 1 [.string sb] rfl rfl (World.news_of_block (cs := #[.string sb]) (heap_alloc_new wr _)) (strCells_one [sb]) (by omega) (by unfold maxLen; omega) (by omega) ?c2 (wr.heap.size + 1) (by simp) ?_)
      case c2 => simp; omega
      intro g cap w5 hown5 hgrow5 _ _
      have hb5 : Below Zn w2 w5 := (HBk0.out.alloc (by exact hzs) _).trans ((Keep.of_grown hgrow5 (S := fun k => u10.ownBlock = some k) (fun k h => h)).below (by simp; omega) (fun i hi h => by have := (HO.out.lt i h).1; omega))
      have HO5 := Lib.hid hown5
      have HB5 := Lib.hid hb5
      clear hown5 hgrow5 hb5
      go_wp2
      go_roundg (20 - (k + 1))
      case measure => have := HQ.out; omega
      case rel => exact ⟨k + 1, NL ++ [sb], by omega, by go_num, by rw [List.length_append, HNL.out]; rfl, by have h := HO5.out; rw [show strCells NL ++ [.string sb] = strCells (NL ++ [sb]) by simp [strCells]] at h; exact h, HB5.out⟩
    · have hdc : decide (k < n ∧ k < 20) = false := by simpa using hc
      rw [hdc]
      obtain ⟨gn, cn, hv, hgn, hgns⟩ := HO.out.form (by omega)
      subst hv
      obtain ⟨L, hL⟩ : ∃ L, L = k + 1 := ⟨_, rfl⟩
      rw [← hL] at HNL HO ⊢
      have hL21 : L ≤ 21 := by omega
      have hL0 : 0 < L := by omega
      clear hdc hc hL c3
      go_wp2_with (at_make; refine wpList_make_full _ rfl (.tmp 64) (.tmp 64) 54 rfl Zn 3 i3 (.int .i64 0) 1 Try.underlying54 hi3 h30 h31 .i64 .i64 L L L rfl rfl rfl rfl ?k2 ?k3 ?k4 ?_)
      case k2 => rw [h32]; omega
      case k3 => unfold maxLen; omega
      case k4 => omega
      intro w5 hown5 hgrow5
      obtain ⟨g, hg⟩ : ∃ g, g = wr.heap.size := ⟨_, rfl⟩
      rw [← hg] at hown5 ⊢
      have hk5 : Keep (fun _ => False) wr w5 := Keep.of_grown hgrow5 (by simp)
      have hA5 : Arr w5 Zn 3 .i64 g L (fun _ => 0) := by unfold Arr; rw [← kCells_zero]; exact hown5
      have hno5 := own_keep HO.out hk5 (fun _ _ => by simp)
      have hb5 : Below Zn w2 w5 := HBk0.out.trans (hk5.below hzs (by simp))
      have hgg : gn ≠ g := by omega
      have hgz : Zn ≤ g := by omega
      have hgn5 : gn < w5.heap.size := by have := hk5.size; omega
      obtain ⟨NM, hNM⟩ : ∃ NM : Nat → ByteArray, NM = fun i => (NL[i]?).getD ByteArray.empty := ⟨_, rfl⟩
      have hnm5 : ∀ i, i < L → w5.cell? ⟨gn, i, none⟩ = some (.string (NM i)) := fun i hi => by
        have h1 : NL[i]? = some (NL[i]'(by rw [HNL.out]; exact hi)) := List.getElem?_eq_getElem (by rw [HNL.out]; exact hi)
        have h2 := hno5.cells (g := gn) rfl i (.string (NM i)) (by unfold strCells; rw [List.getElem?_map, h1, hNM]; simp [h1])
        have hadd : (⟨gn, 0, none⟩ : Addr).add i = ⟨gn, i, none⟩ := by unfold Addr.add; split <;> simp_all
        rwa [hadd] at h2
      have hnm : ∀ wr, Keep (fun k => k = g) w5 wr → ∀ i, i < L → wr.cell? ⟨gn, i, none⟩ = some (.string (NM i)) ∧ gn < wr.heap.size := fun wr hk i hi =>
        ⟨(hk.cell (p := ⟨gn, i, none⟩) hgn5 (by exact hgg)).trans (hnm5 i hi), by have := hk.size; omega⟩
      have hbz : ∀ wr, Keep (fun k => k = g) w5 wr → Below Zn w2 wr := fun wr hk => hb5.trans (hk.below (by omega) (fun i hi h => by omega))
      have hsch : ∀ s, (Ln.sched R1 ((F + s : Nat) : Int)).1 = (N[(F + s) % M]?).getD ByteArray.empty := fun s => by
        have hlt : (F + s) % M < N.length := by rw [HNl.out]; exact Nat.mod_lt _ (by omega)
        have h1 : N[(F + s) % M]? = some (N[(F + s) % M]) := List.getElem?_eq_getElem hlt
        have hg := Ln.good_rowFrom N
        rw [← HR1.out] at hg
        rw [hg.sched_mod (by rw [HNl.out]; omega) (F + s) (s := N[(F + s) % M]) (by rw [HNl.out]; exact h1), h1]
        rfl
      have hto : ∀ s ∈ R1, s.to ≤ 9223372036854775807 := fun s hs => by
        have h1 := (Ln.upTo_ticks N (Ln.upTo_nil (0 : Nat))).1 s (by rw [HR1.out] at hs; exact hs)
        rw [HNl.out] at h1
        omega
      obtain ⟨SN, hSN⟩ : ∃ SN : Nat → ByteArray, SN = fun s => (N[(F + s) % M]?).getD ByteArray.empty := ⟨_, rfl⟩
      have hsch2 : ∀ s, (Ln.sched R1 ((F + s : Nat) : Int)).1 = SN s := fun s => by rw [hSN]; exact hsch s
      have HSN := Lib.hid hSN
      have HSch := Lib.hid hsch2
      have HTo := Lib.hid hto
      have HNM := Lib.hid hNM
      have HNm := Lib.hid hnm
      have HBz := Lib.hid hbz
      have HA5 := Lib.hid hA5
      clear hown5 hgrow5 hk5 hA5 hno5 hb5 hnm5 hnm hbz hsch hsch2 hto hg hNM hSN HO HBk0 hpsk hgns
      go_wp2
      go_loopg [13] M (fun q x wr => ∃ (s : Nat) (C : Nat → Nat), q + s = M ∧ x = .int .i64 ((F + s : Nat) : Int) ∧ Hid (Keep (fun k => k = g) w5 wr) ∧ Hid (Arr wr Zn 3 .i64 g L C) ∧ Hid (∀ i, i < L → C i = Edf.sumTo s (fun r => if SN r = NM i then 1 else 0)))
      case atStart => exact ⟨0, _, rfl, by rw [Nat.add_zero], Keep.refl _ _, HA5.out, fun i _ => rfl⟩
      case round =>
        obtain ⟨s, C, hqs, rfl, HK, HA, HC⟩ := hrel
        have HQs := Lib.hid hqs
        have hsM : s ≤ M := by omega
        have hcb : ∀ i, i < L → C i ≤ s := fun i hi => by
          rw [HC.out i hi]
          have : ∀ s, Edf.sumTo s (fun r => if SN r = NM i then 1 else 0) ≤ s := fun s => by
            induction s with
            | zero => exact Nat.le_refl _
            | succ s ih => simp only [Edf.sumTo]; split <;> omega
          exact this s
        have HCb := Lib.hid hcb
        clear hqs hcb
        by_cases hs : s < M
        · have hsd := sched_any A5 c5 R1 ((F + s : Nat) : Int) wr (by rw [← HRl.out]; omega) (by omega) HTo.out (HSlz.out wr (HBz.out wr HK.out))
          rw [← HRl.out, HSch.out] at hsd
          have HSd := Lib.hid hsd
          have hFs : ((F + s : Nat) : Int) < (F : Int) + (M : Int) := by omega
          have hFs2 : ((F + s : Nat) : Int) ≤ 300000 := by omega
          obtain ⟨sn, hsn⟩ : ∃ sn, sn = SN s := ⟨_, rfl⟩
          obtain ⟨Fs, hFse⟩ : ∃ Fs : Nat, Fs = F + s := ⟨_, rfl⟩
          rw [← hsn] at HSd
          rw [← hFse] at HSd hFs hFs2 ⊢
          have HSnS := Lib.hid hsn
          have HFse := Lib.hid hFse
          clear hsd hsn hFse
          go_wp2_with fail
          go_at_call 17
          refine HSd.out.mono ?_
          rintro e w6 ⟨rfl, hb6⟩
          have hk6 : Keep (fun k => k = g) w5 w6 := HK.out.trans (Keep.of_below hb6 (S := fun k => k = g) (fun i hi h => by omega)) (fun _ _ h => h)
          have ha6 := HA.out.keep (S := fun _ => False) (Keep.of_below hb6 (fun i hi h => by omega)) (by simp)
          have HK6 := Lib.hid hk6
          have HA6 := Lib.hid ha6
          clear hb6 hk6 ha6 HK HA
          go_wp2
          go_loopg [16] L (fun q x wq => ∃ (j : Nat) (C' : Nat → Nat), q + j = L ∧ x = .int .i64 j ∧ Hid (Keep (fun k => k = g) w5 wq) ∧ Hid (Arr wq Zn 3 .i64 g L C') ∧ Hid (∀ i, i < L → C' i = C i + if i < j ∧ sn = NM i then 1 else 0))
          case atStart => exact ⟨0, C, rfl, rfl, HK6.out, HA6.out, fun i _ => by simp⟩
          case round =>
            clear HK6 HA6
            obtain ⟨j, C', hqj, rfl, HK, HA, HC'⟩ := hrel
            have HQj := Lib.hid hqj
            have hjL : j ≤ L := by omega
            clear hqj
            by_cases hj : j < L
            · obtain ⟨nc, hgnw⟩ := HNm.out wr HK.out j hj
              have hji : (j : Int) < L := by omega
              have hlc := HA.out.cell hj
              have hlf := HA.out.frozen j
              have hCj : C' j ≤ 65537 := by
                have h1 := HC'.out j hj
                have h2 := HCb.out j hj
                rw [if_neg (by omega)] at h1
                omega
              by_cases hnm : NM j = sn
              · have hb := bytes_beq (NM j) sn
                rw [decide_eq_true hnm] at hb
                have hset := HA.out.set j (C' j + 1)
                rw [Int.natCast_add] at hset
                have hks : Keep (fun k => k = g) w5 (wr.setCell ⟨g, j, none⟩ (.int .i64 ((C' j : Nat) + (1 : Nat) : Int))) := HK.out.setCell (fun _ => rfl) _
                have HSet := Lib.hid hset
                have HKs := Lib.hid hks
                have HNmj := Lib.hid hnm
                clear hset hks hnm
                go_wp2
                go_roundg (L - (j + 1))
                case measure => have := HQj.out; omega
                case rel =>
                  refine ⟨j + 1, _, by omega, by go_num, HKs.out, HSet.out, fun i hi => ?_⟩
                  unfold Edf.set1
                  have h1 := HC'.out i hi
                  by_cases hij : i = j
                  · subst hij
                    rw [if_neg (by omega)] at h1
                    rw [if_pos rfl, if_pos ⟨by omega, HNmj.out.symm⟩, h1]
                  · rw [if_neg hij, h1]
                    by_cases hc : i < j ∧ sn = NM i
                    · rw [if_pos hc, if_pos ⟨by omega, hc.2⟩]
                    · rw [if_neg hc, if_neg (fun h => hc ⟨by omega, h.2⟩)]
              · have hb := bytes_beq (NM j) sn
                rw [decide_eq_false hnm] at hb
                have HNmj := Lib.hid hnm
                clear hnm
                go_wp2
                go_roundg (L - (j + 1))
                case measure => have := HQj.out; omega
                case rel =>
                  refine ⟨j + 1, C', by omega, by go_num, HK.out, HA.out, fun i hi => ?_⟩
                  rw [HC'.out i hi]
                  by_cases hij : i = j
                  · subst hij
                    rw [if_neg (by omega), if_neg (fun h => HNmj.out h.2.symm)]
                  · by_cases hc : i < j ∧ sn = NM i
                    · rw [if_pos hc, if_pos ⟨by omega, hc.2⟩]
                    · rw [if_neg hc, if_neg (fun h => hc ⟨by omega, h.2⟩)]
            · have hje : j = L := by omega
              have HJe := Lib.hid hje
              clear hje
              go_wp2
              go_roundg (M - (s + 1))
              case measure => have := HQs.out; omega
              case rel =>
                refine ⟨s + 1, C', by omega, by have := HFse.out; go_num, HK.out, HA.out, fun i hi => ?_⟩
                have h1 := HC'.out i hi
                rw [HC.out i hi] at h1
                rw [h1]
                show _ = Edf.sumTo s _ + (if SN s = NM i then 1 else 0)
                rw [← HSnS.out]
                by_cases hc : sn = NM i
                · rw [if_pos ⟨by rw [HJe.out]; exact hi, hc⟩, if_pos hc]
                · rw [if_neg (fun h => hc h.2), if_neg hc]
        · have hse : s = M := by omega
          have hbud : ∀ i, i < L → Ln.budget (NM i) 0 R1 = (C i : Int) := fun i hi => by
            rw [HR1.out, Ln.budget_row (NM i) (by rw [HNl.out]; exact hM2), HNl.out, HC.out i hi, hse]
            unfold Ln.tally
            rw [← Ln.window (by omega) (fun o => if N[o]? = some (NM i) then 1 else 0) F]
            congr 1
            refine Ln.sumTo_congr fun r _ => ?_
            have hlt : (F + r) % M < N.length := by rw [HNl.out]; exact Nat.mod_lt _ (by omega)
            have h1 : N[(F + r) % M]? = some (N[(F + r) % M]) := List.getElem?_eq_getElem hlt
            rw [HSN.out]
            simp only [h1, Option.getD_some, Option.some.injEq]
          have hlen : Ln.lenFrom 0 none R1 = (M : Int) := by
            have hg := Ln.good_rowFrom N
            rw [← HR1.out] at hg
            rw [hg.len, HNl.out]
          have hshare : ∀ i, i < L → shareF (NM i) R1 = quoF (C i) (M : Int) := fun i hi => by
            unfold shareF
            rw [hlen, if_neg (by omega), hbud i hi]
          have hbudC : ∀ wq, Keep (fun k => k = g) w5 wq → ∀ i, i < L → Calls Try.prog 19 #[.slice A5 Rl c5, .string (NM i)] wq fun e w' => e = .returned (.int .i64 (C i)) ∧ Below wq.heap.size wq w' := fun wq hk i hi => by
            have h1 := budget_any A5 c5 R1 (NM i) wq (by rw [← HRl.out]; omega) (HSlz.out wq (HBz.out wq hk))
            rw [← HRl.out, hbud i hi] at h1
            exact h1
          have hshC : ∀ wq, Keep (fun k => k = g) w5 wq → ∀ i, i < L → Calls Try.prog 21 #[.slice A5 Rl c5, .string (NM i)] wq fun e w' => e = .returned (.float .f64 (quoF (C i) (M : Int))) ∧ Below wq.heap.size wq w' := fun wq hk i hi => by
            have h1 := share_any A5 c5 R1 (NM i) wq (by rw [← HRl.out]; omega) HTo.out (HSlz.out wq (HBz.out wq hk))
            rw [← HRl.out, hshare i hi] at h1
            exact h1
          have HBudC := Lib.hid hbudC
          have HShC := Lib.hid hshC
          have hMi : (0 : Int) < M := by omega
          have hnlt : ¬ ((F + s : Nat) : Int) < (F : Int) + (M : Int) := by omega
          clear hbud hlen hshare hbudC hshC hse
          go_wp2
          go_loopg [17] L (fun q x wq => ∃ i : Nat, q + i = L ∧ x = .int .i64 i ∧ Hid (Keep (fun k => k = g) w5 wq) ∧ Hid (Arr wq Zn 3 .i64 g L C))
          case atStart => exact ⟨0, rfl, rfl, HK.out, HA.out⟩
          case round =>
            clear HK HA
            obtain ⟨i, hqi, rfl, HK, HA⟩ := hrel
            have HQi := Lib.hid hqi
            have hiL : i ≤ L := by omega
            clear hqi
            by_cases hi : i < L
            · obtain ⟨nc, hgnw⟩ := HNm.out wr HK.out i hi
              have hii : (i : Int) < L := by omega
              have hlc := HA.out.cell hi
              have hci := HCb.out i hi
              have hq := fun W => run_quoF (P := Try.prog) 40 (a := (C i : Int)) (b := (M : Int)) (by omega) (by omega) hMi (by omega) W
              have hSS : (FloatKind.f64.format.order (quoF (C i) (M : Int)) (quoF (C i) (M : Int)) == some .eq) = true := by
                have := (div_num (a := (C i : Int)) (b := (M : Int)) (by omega) (by omega) hMi (by omega)).2
                show (Ieee.Format.order Ieee.double _ _ == some .eq) = true
                rw [this]; rfl
              have HStep : Hid (∀ w1 w2 : World, (w1.cell? ⟨gn, i, none⟩ = some (.string (NM i)) ∧ w1.cell? ⟨g, i, none⟩ = some (.int .i64 (C i)) ∧ Keep (fun k => k = g) w5 w1 ∧ Arr w1 Zn 3 .i64 g L C) → Below w1.heap.size w1 w2 →
                  (w2.cell? ⟨gn, i, none⟩ = some (.string (NM i)) ∧ w2.cell? ⟨g, i, none⟩ = some (.int .i64 (C i)) ∧ Keep (fun k => k = g) w5 w2 ∧ Arr w2 Zn 3 .i64 g L C)) := fun w1 w2 h hb => by
                obtain ⟨_, _, h3, h4⟩ := h
                have hk2 : Keep (fun k => k = g) w5 w2 := h3.trans (Keep.of_below hb (S := fun k => k = g) (fun i hi h => by omega)) (fun _ _ h => h)
                have ha2 : Arr w2 Zn 3 .i64 g L C := h4.keep (S := fun _ => False) (Keep.of_below hb (fun i hi h => by omega)) (by simp)
                exact ⟨(HNm.out w2 hk2 i hi).1, ha2.cell hi, hk2, ha2⟩
              have HSK : Hid (∀ w1 : World, (w1.cell? ⟨gn, i, none⟩ = some (.string (NM i)) ∧ w1.cell? ⟨g, i, none⟩ = some (.int .i64 (C i)) ∧ Keep (fun k => k = g) w5 w1 ∧ Arr w1 Zn 3 .i64 g L C) → Keep (fun k => k = g) w5 w1) := fun w1 h => h.2.2.1
              have HSA : Hid (∀ w1 : World, (w1.cell? ⟨gn, i, none⟩ = some (.string (NM i)) ∧ w1.cell? ⟨g, i, none⟩ = some (.int .i64 (C i)) ∧ Keep (fun k => k = g) w5 w1 ∧ Arr w1 Zn 3 .i64 g L C) → Arr w1 Zn 3 .i64 g L C) := fun w1 h => h.2.2.2
              have HS0 : Hid (wr.drew.cell? ⟨gn, i, none⟩ = some (.string (NM i)) ∧ wr.drew.cell? ⟨g, i, none⟩ = some (.int .i64 (C i)) ∧ Keep (fun k => k = g) w5 wr.drew ∧ Arr wr.drew Zn 3 .i64 g L C) :=
                ⟨nc, hlc, HK.out.drew, HA.out.keep ((Keep.refl (fun _ => False) wr).drew) (by simp)⟩
              go_upto_region 25 with fail
              go_cut [132] from 99 to 132 (fun v wx => v = .bool false ∧ Keep (fun k => k = g) w5 wx ∧ Arr wx Zn 3 .i64 g L C)
              case first =>
                go_region_held3 (fun w' => w'.cell? ⟨gn, i, none⟩ = some (.string (NM i)) ∧ w'.cell? ⟨g, i, none⟩ = some (.int .i64 (C i)) ∧ Keep (fun k => k = g) w5 w' ∧ Arr w' Zn 3 .i64 g L C)
                  (first | exact HS0.out | exact HStep.out _ _ (by assumption) (by assumption))
                  (first
                    | (go_at_call 19; refine (HBudC.out _ ?_ i hi).mono ?_; (first | assumption | exact HSK.out _ (by assumption)); rintro e w6 ⟨rfl, hb6⟩)
                    | (go_at_call 21; refine (HShC.out _ ?_ i hi).mono ?_; (first | assumption | exact HSK.out _ (by assumption)); rintro e w6 ⟨rfl, hb6⟩))
                all_goals (try go_wp2_with fail)
                all_goals go_meet
                all_goals refine ⟨?_, HSK.out _ (by assumption), HSA.out _ (by assumption)⟩
                all_goals first | rfl | (simp; simpa using hSS)
              case rest =>
              obtain ⟨rfl, hk9, ha9⟩ := hcut
              have HK9 := Lib.hid hk9
              have HA9 := Lib.hid ha9
              clear hk9 ha9 hq hSS hlc nc
              go_wp2
              go_roundg (L - (i + 1))
              case measure => have := HQi.out; omega
              case rel => exact ⟨i + 1, by omega, by go_num, HK9.out, HA9.out⟩
            · have hbw : Below p w wr := hPre.out wr (HB2z.out wr (HBz.out wr HK.out))
              have HBwr := Lib.hid hbw
              clear hbw
              go_wp2_with fail
              go_at_call 13
              refine (known_any wr).mono ?_
              rintro e wk ⟨rfl, hbk⟩
              have HBk := Lib.hid (HBwr.out.trans (hbk.mono (by have := HBwr.out.size; have := HPW.out; omega)))
              clear hbk
              go_wp2
              go_ret
              exact ⟨rfl, by first | exact HBk.out | (rw [HPW.out]; exact HBk.out)⟩

theorem lawWindows_any (M : Nat) (A : Option Addr) (c : Nat) (xs : List Run) (lp : Int) (cpu : Nat) (nd : Bool) (fr : Int) (w : World) (hM : M < 18446744073709551616)
    (hx : ∀ r ∈ xs, r.bud < 18446744073709551616 ∧ r.per < 18446744073709551616) (hl : xs.length * 40 ≤ 140737488351232) (hfr : -9223372036854775808 ≤ fr ∧ fr ≤ 9223372036854775807) (hr : RunsAt w A xs) :
    Calls Try.prog 10 #[.int .u64 M, .agg #[.int .i64 lp, .int .u64 cpu, .bool nd, .slice A xs.length c], .int .i64 fr] w fun e w' => e = .returned (.bool true) ∧ Below w.heap.size w w' :=
  lawWindows_in M xs.length A c xs lp cpu nd fr w hM hx rfl hl hfr hr
end Go.Proofs.Ytgilejknjdbneaa
