/- The contract of the document's Flatten. -/
import Derived.Test.YtgilejknjdbneaaR5
import Derived.Test.YtgilejknjdbneaaR2
namespace Go.Proofs.Ytgilejknjdbneaa
open Go.RowKit Go.IntWalk

namespace Ln
theorem rowFrom_take {ts : List ByteArray} {t : Nat} {s : ByteArray} (h : ts[t]? = some s) : rowFrom [] (ts.take (t + 1)) = run (rowFrom [] (ts.take t)) s 1 := by
  obtain ⟨h1, h2⟩ := List.getElem?_eq_some_iff.1 h
  rw [← List.take_append_getElem h1, h2, rowFrom_append]; rfl
theorem rowFrom_last {ts : List ByteArray} {t : Nat} (h : t ≤ ts.length) {m : List Slot} {x : Slot} (hm : rowFrom [] (ts.take t) = m ++ [x]) : x.to = t := by
  have := (good_rowFrom (ts.take t)).last
  rw [hm, lastTo_snoc, List.length_take, Nat.min_eq_left h] at this
  exact this
theorem rowFrom_nil {ts : List ByteArray} {t : Nat} (h : t ≤ ts.length) (hm : rowFrom [] (ts.take t) = []) : t = 0 := by
  have := (good_rowFrom (ts.take t)).last
  rw [hm, List.length_take, Nat.min_eq_left h] at this
  have h2 : (0 : Int) = t := this
  omega
theorem rowFrom_len (ts : List ByteArray) : (rowFrom [] ts).length ≤ ts.length := by
  simpa using (upTo_ticks ts (upTo_nil (0 : Nat))).2
end Ln

theorem own_form {w : World} {base : Nat} {e : TypeId} {size : Nat} {v : Value} {n : Nat} {xs : List Value} (h : w.ownsRow base e size v n xs) : ∃ A c, v = .slice A n c := by
  rcases h.2 with ⟨h1, h2⟩ | ⟨g, cap, cur, h1, _⟩
  · exact ⟨none, 0, by rw [h1, h2]⟩
  · exact ⟨_, _, h1⟩
theorem addr_add (g j : Nat) : (⟨g, 0, none⟩ : Addr).add j = ⟨g, j, none⟩ := by unfold Addr.add; split <;> simp_all
theorem own_bump {w : World} {B g n c : Nat} {m : List Slot} {x : Slot} (t : Int) (hn : n = m.length) (h : w.ownsRow B 33 3 (.slice (some ⟨g, 0, none⟩) (n + 1) c) (n + 1) (slotCells (m ++ [x]))) :
    (w.setCell ⟨g, n * 3 + 2, none⟩ (.int .i64 (x.to + t))).ownsRow B 33 3 (.slice (some ⟨g, 0, none⟩) (n + 1) c) (n + 1) (slotCells (m ++ [⟨x.subj, x.from_, x.to + t⟩])) := by
  have hst := (h.stored (n * 3 + 2) (.int .i64 (x.to + t))).1
  have hcs : slotCells (m ++ [Slot.mk x.subj x.from_ (x.to + t)]) = (slotCells (m ++ [x])).set (n * 3 + 2) (.int .i64 (x.to + t)) := by
    rw [slotCells_append, slotCells_append, List.set_append_right _ _ (by rw [slotCells_length, hn]; omega), slotCells_length, hn]
    have : m.length * 3 + 2 - m.length * 3 = 2 := by omega
    rw [this]
    rfl
  rw [hcs]
  exact hst
theorem own_slot {w : World} {B g n c : Nat} {m : List Slot} {x : Slot} (hn : n = m.length) (h : w.ownsRow B 33 3 (.slice (some ⟨g, 0, none⟩) (n + 1) c) (n + 1) (slotCells (m ++ [x]))) :
    w.cell? ⟨g, n * 3, none⟩ = some (.string x.subj) ∧ w.cell? ⟨g, n * 3 + 2, none⟩ = some (.int .i64 x.to) ∧ w.frozen? ⟨g, n * 3 + 2, none⟩ = false := by
  have hx : (m ++ [x])[n]? = some x := by rw [hn]; simp
  obtain ⟨q0, _, q2⟩ := slotCells_at hx
  have hcs := h.cells (g := g) rfl
  have c0 := hcs _ _ q0
  have c2 := hcs _ _ q2
  rw [addr_add] at c0 c2
  exact ⟨c0, c2, h.frozenAt _⟩
theorem flatR_bad (M : Nat) (w : World) (h : M < 1 ∨ 65536 < M) (hM : M < 18446744073709551616) (lp : Int) (cpu : Nat) (nd : Bool) (s : Value) (hs : s.cells = #[s]) :
    Calls Try.prog 30 #[.int .u64 M, .agg #[.int .i64 lp, .int .u64 cpu, .bool nd, s]] w (FlatPost w ([], -1, 92)) := by
  by_cases h0 : M < 1
  · clear h
    go_enter Try.func30, Try.ntmps30
    go_wp2
    go_ret3
    exact FlatPost.nil ((Below.refl _ _).alloc (Nat.le_refl _) _)
  · have h1 : 65536 < M := by omega
    clear h
    go_enter Try.func30, Try.ntmps30
    go_wp2
    go_ret3
    exact FlatPost.nil ((Below.refl _ _).alloc (Nat.le_refl _) _)

set_option maxRecDepth 100000 in
set_option maxHeartbeats 2000000 in
theorem flatR_in (M n : Nat) (nd : Bool) (A : Option Addr) (c : Nat) (xs : List Run) (lp : Int) (cpu : Nat) (w : World) (hM : 1 ≤ M) (hM2 : M ≤ 65536)
    (hx : ∀ r ∈ xs, r.bud < 18446744073709551616 ∧ r.per < 18446744073709551616) (hxn : xs.length = n) (hl : n ≤ 140737488351232) (hr : RunsAt w A xs) :
    Calls Try.prog 30 #[.int .u64 M, .agg #[.int .i64 lp, .int .u64 cpu, .bool nd, .slice A n c]] w (FlatPost w (Ln.flatAny M nd xs)) := by
  obtain ⟨W, hW⟩ : ∃ W, W = w.alloc (.cells #[.int .i64 lp, .int .u64 cpu, .bool nd, .slice A n c] 31) := ⟨_, rfl⟩
  have hB : Below w.heap.size w W := by subst hW; exact (Below.refl _ _).alloc (Nat.le_refl _) _
  have hWs : W.heap.size = w.heap.size + 1 := by subst hW; simp
  have c0 : W.cell? ⟨w.heap.size, 0, none⟩ = some (.int .i64 lp) := by subst hW; rw [World.cell?_alloc_at _ _ _ _ rfl]; rfl
  have c1 : W.cell? ⟨w.heap.size, 1, none⟩ = some (.int .u64 cpu) := by subst hW; rw [World.cell?_alloc_at _ _ _ _ rfl]; rfl
  have c2 : W.cell? ⟨w.heap.size, 2, none⟩ = some (.bool nd) := by subst hW; rw [World.cell?_alloc_at _ _ _ _ rfl]; rfl
  have c3 : W.cell? ⟨w.heap.size, 3, none⟩ = some (.slice A n c) := by subst hW; rw [World.cell?_alloc_at _ _ _ _ rfl]; rfl
  have hC : Hid (∀ wr, Below W.heap.size W wr → wr.cell? ⟨w.heap.size, 0, none⟩ = some (.int .i64 lp) ∧ wr.cell? ⟨w.heap.size, 1, none⟩ = some (.int .u64 cpu) ∧ wr.cell? ⟨w.heap.size, 2, none⟩ = some (.bool nd) ∧ wr.cell? ⟨w.heap.size, 3, none⟩ = some (.slice A n c) ∧ w.heap.size < wr.heap.size) := fun wr hb => by
    have hk : ∀ o, wr.cell? ⟨w.heap.size, o, none⟩ = W.cell? ⟨w.heap.size, o, none⟩ := fun o => hb.cell (p := ⟨w.heap.size, o, none⟩) (by simp only; omega)
    rw [hk, hk, hk, hk]
    exact ⟨c0, c1, c2, c3, by have := hb.size; omega⟩
  obtain ⟨R, hRes⟩ : ∃ R, R = Ln.flatAny M nd xs := ⟨_, rfl⟩
  rw [← hRes]
  have h0 : ¬ M < 1 := by omega
  have h1 : ¬ 65536 < M := by omega
  rw [Ln.flatAny, if_neg (by omega)] at hRes
  have HRes := Lib.hid hRes
  have HS := Lib.hid hWs
  have HR := Lib.hid hr
  have HB := Lib.hid hB
  have HX := Lib.hid hx
  have HXN := Lib.hid hxn
  clear hWs hRes hr hB hx hxn c0 c1 c2 c3
  go_enter Try.func30, Try.ntmps30
  go_wp2
  rw [← hW]
  clear hW
  go_loopg [7, 8] n (fun q s i wr => ∃ k d : Nat, q + k = n ∧ i = .int .i64 k ∧ d ≤ M ∧ s = .int .u64 d ∧ Hid (Ln.flatErr M nd k d (xs.drop k) = Ln.flatErr M nd 0 0 xs) ∧ Hid (Below W.heap.size W wr))
  case atStart => exact ⟨0, 0, rfl, rfl, by omega, rfl, rfl, Below.refl _ _⟩
  case round =>
    obtain ⟨k, d, hqk, rfl, hd, rfl, hdem, HBw⟩ := hrel
    obtain ⟨c0, c1, c2, c3, hlt0⟩ := hC.out wr HBw.out
    have HQ := Lib.hid hqk
    have hkn : k ≤ n := by omega
    clear hqk
    by_cases hlt : k < n
    · obtain ⟨b, off, rfl, hbl, hcs⟩ := HR.out (by rw [HXN.out]; omega)
      obtain ⟨r, hrk⟩ : ∃ r, xs[k]? = some r := ⟨xs[k]'(by rw [HXN.out]; exact hlt), List.getElem?_eq_getElem (by rw [HXN.out]; exact hlt)⟩
      have hmem : r ∈ xs := List.mem_of_getElem? hrk
      obtain ⟨q0, q1, q2, q3⟩ := hcs k r hrk
      have hBw : Below w.heap.size w wr := HB.out.trans (HBw.out.mono (by rw [HS.out]; omega))
      rw [← hBw.cell (p := ⟨b, _, none⟩) hbl] at q0 q1 q2 q3
      have hbud := (HX.out r hmem).1
      have hper := (HX.out r hmem).2
      have hlt1 : b < wr.heap.size := by omega
      have hki : (k : Int) < n := by omega
      have hz : Ln.flatErr M nd 0 0 xs = if Ln.right M r nd = 0 then (if M < d + Ln.wants M r nd then some ((k : Int), 93) else Ln.flatErr M nd (k + 1) (d + Ln.wants M r nd) (xs.drop (k + 1))) else some ((k : Int), Ln.right M r nd) := by
        obtain ⟨h1, h2⟩ := List.getElem?_eq_some_iff.1 hrk
        rw [← hdem.out, List.drop_eq_getElem_cons h1, h2]; rfl
      have HZ := Lib.hid hz
      clear hrk hcs hz hBw hmem hdem c0 c1
      go_upto_region 7 with fail
      go_still_tail 8, (by kernel_rfl)
      change wpList _ _ _ _ _ wr.drew
      obtain ⟨wy, hwy⟩ : ∃ wy, wy = wr.drew := ⟨_, rfl⟩
      have hyw : Below W.heap.size W wy := by rw [hwy]; exact HBw.out.drew
      have hys : wr.heap.size ≤ wy.heap.size := by rw [hwy]; exact Nat.le_refl _
      have hyc : ∀ b o, wy.cell? ⟨b, o, none⟩ = wr.cell? ⟨b, o, none⟩ := fun b o => by rw [hwy]; rfl
      rw [← hwy]
      rw [← hyc] at q0 q1 q2 q3 c2 c3
      have Hyw := Lib.hid hyw
      clear hwy hyc hyw
      go_wp2_with fail
      refine (wrongR_any _ r _ _ (by omega) hbud hper).mono ?_
      rintro e w1 ⟨rfl, hb1⟩
      have hz1 := hb1.size
      obtain ⟨hc1, hf1⟩ := bcell hb1
      have hbw1 : Below W.heap.size W w1 := Hyw.out.trans (hb1.mono Hyw.out.size)
      have q0' := (hc1 b (off + k * 4) (by omega)).trans q0
      have q1' := (hc1 b (off + k * 4 + 1) (by omega)).trans q1
      have q2' := (hc1 b (off + k * 4 + 2) (by omega)).trans q2
      have q3' := (hc1 b (off + k * 4 + 3) (by omega)).trans q3
      have c2'' := (hc1 w.heap.size 2 (by omega)).trans c2
      have c3'' := (hc1 w.heap.size 3 (by omega)).trans c3
      have hlt3 : b < w1.heap.size := by omega
      have hlt4 : w.heap.size < w1.heap.size := by omega
      have HBw1 := Lib.hid hbw1
      clear hb1 hc1 hf1 q0 q1 q2 q3 c2 c3 hbw1
      by_cases hr : Ln.right M r nd = 0
      · have hr' : (Ln.right M r nd != 0) = false := by simp [hr]
        have hw := Ln.wants_le hr
        obtain ⟨o1, o2, o3⟩ := Ln.right_ok hr
        have O3 : Hid (nd = true → r.bud ≤ r.per ∧ 1 ≤ r.per ∧ r.per ≤ M) := fun h => ⟨(o3 h).2.1, (o3 h).2.2.1, (o3 h).2.2.2.1⟩
        have Hr := Lib.hid hr
        clear hr o3
        go_upto_region 10 with fail
        go_cut [7] from 20 to 54 (fun s wx => s = .int .u64 ((d + Ln.wants M r nd : Nat) : Int) ∧ Below W.heap.size W wx)
        case first =>
          go_region_with (go_at_call 51; refine (wantsR_any _ r _ _ hM2 o2 O3.out).mono ?_; rintro e w2 ⟨rfl, hb2⟩)
          all_goals (try go_wp2_with fail)
          all_goals go_meet
          all_goals refine ⟨?_, HBw1.out.drew.trans (hb2.mono HBw1.out.size)⟩
          all_goals first | go_num | (rw [u64_in _ (by omega)]; go_num)
        case rest =>
        obtain ⟨rfl, hbw2⟩ := hcut
        have HBw2 := Lib.hid hbw2
        clear hbw2 q0' q1' q2' q3' c2'' c3''
        by_cases ho : M < d + Ln.wants M r nd
        · go_wp2
          go_ret3
          rw [HRes.out, HZ.out, if_pos Hr.out, if_pos ho]
          exact FlatPost.nil (HB.out.trans (HBw2.out.mono (by rw [HS.out]; omega)))
        · go_wp2
          go_roundg (n - (k + 1))
          case measure => have := HQ.out; omega
          case rel => exact ⟨k + 1, d + Ln.wants M r nd, by omega, by go_num, by omega, by go_num, by rw [HZ.out, if_pos Hr.out, if_neg ho]; exact Lib.hid rfl, HBw2.out⟩
      · have hr' : (Ln.right M r nd != 0) = true := by simp [hr]
        go_wp2
        go_ret3
        rw [HRes.out, HZ.out, if_neg hr]
        exact FlatPost.nil (HB.out.trans (HBw1.out.mono (by rw [HS.out]; omega)))
    · have hk' : k = n := by omega
      have hnone : Ln.flatErr M nd 0 0 xs = none := by rw [← hdem.out, hk', ← HXN.out, List.drop_length]; rfl
      have hB1 : Below w.heap.size w wr := HB.out.trans (HBw.out.mono (by rw [HS.out]; omega))
      have hR1 : RunsAt wr A xs := HR.out.below hB1 (Nat.le_refl _)
      have hnl := Ln.names_length hnone
      obtain ⟨N, hN⟩ : ∃ N, N = Ln.names M nd xs := ⟨_, rfl⟩
      rw [← hN] at hnl
      have hfin : R = Ln.capped (Ln.rowFrom [] N) := by rw [HRes.out, hnone, hN]
      have HFin := Lib.hid hfin
      have HNone := Lib.hid hnone
      have HB1 := Lib.hid hB1
      have HR1 := Lib.hid hR1
      have HN := Lib.hid hN
      have HNL := Lib.hid hnl
      clear hk' hnone hB1 hR1 hnl hfin hdem HRes hN
      go_wp2_with fail
      have htk := ticksR_any M nd A c xs lp cpu wr hM hM2 HNone.out HR1.out
      rw [HXN.out] at htk
      refine htk.mono ?_
      rintro e w2 ⟨g, nums, rfl, hown2, hb2, hnum, hnb⟩
      have hsz2 : wr.heap.size ≤ w2.heap.size := hb2.size
      have hglt : g < w2.heap.size := (hown2.lt g rfl).2
      have hlen2 : nums.length = M := by rw [← HNL.out, HN.out, ← hnum, List.length_map]
      have hB2 : Below w.heap.size w w2 := HB1.out.trans (hb2.mono HB1.out.size)
      have hBW2 : Below W.heap.size W w2 := HBw.out.trans (hb2.mono HBw.out.size)
      have hnat : ∀ t x, nums[t]? = some x → N[t]? = some (Ln.subjAt xs x) := fun t x h => by
        rw [HN.out, ← hnum, List.getElem?_map, h]; rfl
      have hnc : ∀ t x, nums[t]? = some x → w2.cell? ⟨g, t, none⟩ = some (.int .i64 x) := fun t x h => by
        have := hown2.cells (g := g) rfl t (.int .i64 x) (by unfold intCells; rw [List.getElem?_map, h]; rfl)
        rwa [addr_add] at this
      have HB2 := Lib.hid hB2
      have HBW2 := Lib.hid hBW2
      have HNat := Lib.hid hnat
      have HNC := Lib.hid hnc
      have HNB := Lib.hid hnb
      have HLen := Lib.hid hlen2
      obtain ⟨Z, hZ⟩ : ∃ Z, Z = w2.heap.size := ⟨_, rfl⟩
      have hzw : w.heap.size ≤ Z := by rw [hZ]; exact hB2.size
      have hzg : g < Z := by rw [hZ]; exact hglt
      have HZ := Lib.hid hZ
      obtain ⟨i0, hi, hz0, hz1, hz2⟩ := info_parts Try.info33
      clear hown2 hb2 hnum hnb hlen2 hB2 hBW2 hnat hnc c0 c1 c2 c3 hsz2 hglt hZ HBw HB1 HR1 hlt0 htk
      go_wp2
      go_loopg [11, 12] M (fun q v i wr => ∃ (t : Nat), q + t = M ∧ i = .int .i64 t ∧ Hid (wr.ownsRow Z 33 3 v (Ln.rowFrom [] (N.take t)).length (slotCells (Ln.rowFrom [] (N.take t)))) ∧ Hid (Below Z w2 wr))
      case atStart => exact ⟨0, rfl, rfl, World.ownsRow_nil _ _ _ _, Below.refl _ _⟩
      case round =>
        obtain ⟨t, hqt, rfl, HO, HBz⟩ := hrel
        have HQT := Lib.hid hqt
        have htM : t ≤ M := by omega
        clear hqt
        have hbW : Below W.heap.size W wr := HBW2.out.trans (HBz.out.mono (by have := HBW2.out.size; rw [HZ.out]; exact this))
        have hbw : Below w.heap.size w wr := HB.out.trans (hbW.mono (by rw [HS.out]; omega))
        obtain ⟨c0, c1, c2, c3, hlt0⟩ := hC.out wr hbW
        have hzs : Z ≤ wr.heap.size := by have := HBz.out.size; rw [HZ.out]; exact this
        have HBw := Lib.hid hbw
        clear hbW hbw c0 c1 c2
        by_cases hlt2 : t < M
        · obtain ⟨x, hx⟩ : ∃ x, nums[t]? = some x := ⟨_, List.getElem?_eq_getElem (by rw [HLen.out]; exact hlt2)⟩
          have hNt := HNat.out t x hx
          have xc : wr.cell? ⟨g, t, none⟩ = some (.int .i64 x) := (HBz.out.cell (p := ⟨g, t, none⟩) (by exact hzg)).trans (HNC.out t x hx)
          have hti : (t : Int) < M := by omega
          have hxb : 0 ≤ x → x.toNat < n := fun h0 => by have := HNB.out x (List.mem_of_getElem? hx) h0; first | exact this | (rw [HXN.out] at this; exact this)
          obtain ⟨s, hs⟩ : ∃ s, s = Ln.subjAt xs x := ⟨_, rfl⟩
          rw [← hs] at hNt
          have Hs := Lib.hid hs
          have HNt := Lib.hid hNt
          have HXB := Lib.hid hxb
          have hgw : g < wr.heap.size := by omega
          clear hx hNt hxb hs
          go_upto_if 69 with fail
          go_cut [13] from 59 to 110 (fun v wx => v = .string s ∧ ∃ n, wx = wr.drewN n)
          case first =>
            by_cases hx0 : 0 ≤ x
            · have hx1 := HXB.out hx0
              obtain ⟨b, off, rfl, hbl, hcs⟩ := HR.out (by rw [HXN.out]; omega)
              have hrk : xs[x.toNat]? = some (xs[x.toNat]'(by rw [HXN.out]; exact hx1)) := List.getElem?_eq_getElem (by rw [HXN.out]; exact hx1)
              obtain ⟨_, q1, _, _⟩ := hcs _ _ hrk
              rw [← HBw.out.cell (p := ⟨b, _, none⟩) hbl] at q1
              have hse : (xs[x.toNat]'(by rw [HXN.out]; exact hx1)).subj = s := by
                rw [Hs.out, Ln.subjAt, if_pos hx0, Ln.nS_at hrk]
              rw [hse] at q1
              obtain ⟨k, hk⟩ : ∃ k : Nat, x = (k : Int) := ⟨x.toNat, by omega⟩
              subst hk
              simp only [Int.toNat_natCast] at q1 hx1
              have hki : (k : Int) < n := by omega
              have hbw2 : b < wr.heap.size := by omega
              clear hcs hrk hse hx0
              go_wp2_with fail
              go_quiet (fail)
              go_wp2
              go_meet
              exact ⟨rfl, _, rfl⟩
            · have hse : s = ByteArray.empty := by rw [Hs.out, Ln.subjAt, if_neg hx0]
              have Hse := Lib.hid hse
              clear hse
              go_wp2
              go_meet
              exact ⟨by rw [Hse.out]; rfl, 0, rfl⟩
          case rest =>
          obtain ⟨rfl, nn, hwc⟩ := hcut
          have hkc : Keep (fun _ => False) wr wc := by rw [hwc]; exact (Keep.refl _ _).drewN _
          have hbc : Below Z w2 wc := HBz.out.trans (hkc.below (by omega) (by simp))
          have hoc := own_keep HO.out hkc (fun _ _ => by simp)
          have hsc : Z ≤ wc.heap.size := by have := hkc.size; omega
          have hrn := Ln.rowFrom_take HNt.out
          have hrl := Ln.rowFrom_len (N.take t)
          rw [List.length_take, HNL.out, Nat.min_eq_left htM] at hrl
          have hr0 : Ln.rowFrom [] (N.take t) = [] → t = 0 := Ln.rowFrom_nil (by rw [HNL.out]; exact htM)
          have hr1 : ∀ m x, Ln.rowFrom [] (N.take t) = m ++ [x] → x.to = (t : Int) := fun m x h => Ln.rowFrom_last (by rw [HNL.out]; exact htM) h
          obtain ⟨rows, hrows⟩ : ∃ x, x = Ln.rowFrom [] (N.take t) := ⟨_, rfl⟩
          rw [← hrows] at hoc hrn hrl hr0 hr1
          have HBc := Lib.hid hbc
          have HRn := Lib.hid hrn
          clear hwc hkc hbc hrows hrn HO HBz hzs xc HBw c3
          rcases Ln.snoc_of rows with hrw | ⟨m, y, hrw⟩
          · have ht0 := hr0 hrw
            have HT0 := Lib.hid ht0
            clear ht0
            subst hrw
            obtain ⟨A2, cc, rfl⟩ : ∃ A cc, u11 = .slice A 0 cc := own_form hoc
            have HOc := Lib.hid hoc
            clear hr0 hr1 hoc
            rw [Ln.run_nil] at HRn
            go_wp2_with (at_builtin; refine wpList_append_lies _ rfl (.tmp 103) (.tmp 109) 22 rfl Z 33 i0 (.agg #[.string ByteArray.empty, .int .i64 0, .int .i64 0]) 3 32 Try.underlying22 hi hz0 hz1 hz2 rfl (by omega) (.slice A2 0 cc) 0 [] rfl (HOc.out.alloc _) ⟨wc.heap.size, 0, none⟩ 1 1 [.string s, .int .i64 t, .int .i64 (t + 1)] rfl rfl (World.news_of_block (cs := #[.string s, .int .i64 t, .int .i64 (t + 1)]) (heap_alloc_new wc _)) slice_news (by omega) (by unfold maxLen; omega) (by omega) ?c2 (wc.heap.size + 1) (by simp) ?_)
            case c2 => simp; omega
            intro g2 cap2 w5 hown5 hgrow5 _ _
            have hb5 : Below Z w2 w5 := (HBc.out.alloc hsc _).trans ((Keep.of_grown hgrow5 (S := fun k => (Value.slice A2 0 cc).ownBlock = some k) (fun k h => h)).below (by simp; omega) (fun i hi h => by have := (HOc.out.lt i h).1; omega))
            have HO5 := Lib.hid hown5
            have HB5 := Lib.hid hb5
            clear hown5 hgrow5 hb5
            go_wp2
            go_roundg (M - (t + 1))
            case measure => have := HQT.out; omega
            case rel => exact ⟨t + 1, by omega, by go_num, by rw [HRn.out]; have h := HO5.out; rw [HT0.out] at h; exact h, HB5.out⟩
          · have hyt := hr1 m y hrw
            subst hrw
            obtain ⟨g2, cap2, hv2, hg2, hg2s⟩ := hoc.form (by simp)
            rw [List.length_append, List.length_singleton] at hv2 hoc hrl
            obtain ⟨n', hn'⟩ : ∃ n', n' = m.length := ⟨_, rfl⟩
            rw [← hn'] at hv2 hoc hrl
            subst hv2
            obtain ⟨y0, y2, yf⟩ := own_slot hn' hoc
            rw [hyt] at y2
            have HOc := Lib.hid hoc
            have Hn' := Lib.hid hn'
            have HYT := Lib.hid hyt
            clear hr0 hr1 hoc hn' hyt
            by_cases hys : y.subj = s
            · have hb := bytes_beq y.subj s
              rw [decide_eq_true hys] at hb
              have hbump := own_bump 1 Hn'.out HOc.out
              have hbs : Below Z w2 (wc.setCell ⟨g2, n' * 3 + 2, none⟩ (.int .i64 (y.to + 1))) := HBc.out.setCell (by exact hg2) _
              rw [HYT.out] at hbump hbs
              have HBump := Lib.hid hbump
              have HBs := Lib.hid hbs
              have hrr : Ln.run (m ++ [y]) s 1 = m ++ [⟨y.subj, y.from_, t + 1⟩] := by rw [Ln.run_snoc, if_pos hys, HYT.out]
              have HRR := Lib.hid hrr
              clear hys hbump hbs hrr
              go_wp2
              go_roundg (M - (t + 1))
              case measure => have := HQT.out; omega
              case rel =>
                refine ⟨t + 1, by omega, by go_num, ?_, HBs.out⟩
                rw [HRn.out, HRR.out, List.length_append, List.length_singleton, ← Hn'.out]
                exact HBump.out
            · have hb := bytes_beq y.subj s
              rw [decide_eq_false hys] at hb
              have hrr : Ln.run (m ++ [y]) s 1 = m ++ [y] ++ [⟨s, t, t + 1⟩] := by rw [Ln.run_snoc, if_neg hys, HYT.out]
              have HRR := Lib.hid hrr
              clear hys hrr y2 yf
              go_wp2_with (at_builtin; refine wpList_append_lies _ rfl (.tmp 103) (.tmp 109) 22 rfl Z 33 i0 (.agg #[.string ByteArray.empty, .int .i64 0, .int .i64 0]) 3 32 Try.underlying22 hi hz0 hz1 hz2 rfl (by omega) (.slice (some ⟨g2, 0, none⟩) (n' + 1) cap2) (n' + 1) (slotCells (m ++ [y])) rfl (HOc.out.alloc _) ⟨wc.heap.size, 0, none⟩ 1 1 [.string s, .int .i64 t, .int .i64 (t + 1)] rfl rfl (World.news_of_block (cs := #[.string s, .int .i64 t, .int .i64 (t + 1)]) (heap_alloc_new wc _)) slice_news (by omega) (by unfold maxLen; omega) (by omega) ?c2 (wc.heap.size + 1) (by simp) ?_)
              case c2 => simp; omega
              intro g3 cap3 w5 hown5 hgrow5 _ _
              have hb5 : Below Z w2 w5 := (HBc.out.alloc hsc _).trans ((Keep.of_grown hgrow5 (S := fun k => (Value.slice (some ⟨g2, 0, none⟩) (n' + 1) cap2).ownBlock = some k) (fun k h => h)).below (by simp; omega) (fun i hi h => by have := (HOc.out.lt i h).1; omega))
              have HO5 := Lib.hid hown5
              have HB5 := Lib.hid hb5
              clear hown5 hgrow5 hb5
              go_wp2
              go_roundg (M - (t + 1))
              case measure => have := HQT.out; omega
              case rel =>
                refine ⟨t + 1, by omega, by go_num, ?_, HB5.out⟩
                rw [HRn.out, HRR.out, slotCells_append, List.length_append, List.length_append, List.length_singleton, List.length_singleton, ← Hn'.out]
                exact HO5.out
        · have hte : t = M := by omega
          have hto : N.take t = N := by rw [hte, ← HNL.out, List.take_length]
          have ho := HO.out
          rw [hto] at ho
          have hB3 : Below w.heap.size w wr := HBw.out
          have hrl := Ln.rowFrom_len N
          rw [HNL.out] at hrl
          obtain ⟨rows, hrows⟩ : ∃ x, x = Ln.rowFrom [] N := ⟨_, rfl⟩
          rw [← hrows] at ho hrl
          have hff := HFin.out
          rw [← hrows] at hff
          have HFF := Lib.hid hff
          have HO2 := Lib.hid ho
          obtain ⟨A2, cc, hsl⟩ : ∃ A cc, u11 = .slice A rows.length cc := by
            rcases ho.2 with ⟨h, h2⟩ | ⟨g, cap, cur, h, _⟩
            · exact ⟨none, 0, by rw [h, h2]⟩
            · exact ⟨_, _, h⟩
          subst hsl
          clear hto ho hrows hff HO hte
          by_cases hcap : 4096 < rows.length
          · go_wp2
            go_ret3
            rw [HFF.out, Ln.capped, if_pos hcap]
            exact FlatPost.nil HBw.out
          · go_wp2
            go_ret3
            rw [HFF.out, Ln.capped, if_neg hcap]
            exact ⟨_, rfl, own_base_le HO2.out hzw, HBw.out⟩
end Go.Proofs.Ytgilejknjdbneaa
