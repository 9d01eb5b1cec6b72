/- The contract of lanes.Flatten for a lane with needs. -/
import Derived.Test.YtgilejknjdbneaaU4
import Derived.Test.YtgilejknjdbneaaE3
import Derived.Test.YtgilejknjdbneaaPlain11
import Derived.Deep.CutRange
namespace Go.Proofs.Ytgilejknjdbneaa
open Go.RowKit Go.IntWalk

set_option maxRecDepth 100000 in
set_option maxHeartbeats 2000000 in
theorem flat_needs (M : Nat) (A : Option Addr) (c : Nat) (xs : List Run) (lp : Int) (cpu : Nat) (w : World) (hM : 1 ≤ M) (hM2 : M ≤ 65536)
    (hx : ∀ r ∈ xs, r.bud < 18446744073709551616 ∧ r.per < 18446744073709551616) (hl : xs.length ≤ 140737488351232) (hr : RunsAt w A xs) :
    Calls Try.prog 12 #[.int .u64 M, .agg #[.int .i64 lp, .int .u64 cpu, .bool true, .slice A xs.length c]] w (FlatPost w (Ln.flatNeeds M xs)) := by
  obtain ⟨W, hW⟩ : ∃ W, W = w.alloc (.cells #[.int .i64 lp, .int .u64 cpu, .bool true, .slice A xs.length c] 31) := ⟨_, rfl⟩
  have hB : Below w.heap.size w W := by subst hW; exact (Below.refl _ _).alloc (Nat.le_refl _) _
  have hWs : W.heap.size = w.heap.size + 1 := by subst hW; simp
  have c2 : W.cell? ⟨w.heap.size, 2, none⟩ = some (.bool true) := by subst hW; rw [World.cell?_alloc_at _ _ _ _ rfl]; rfl
  have c3 : W.cell? ⟨w.heap.size, 3, none⟩ = some (.slice A xs.length c) := by subst hW; rw [World.cell?_alloc_at _ _ _ _ rfl]; rfl
  have hR : RunsAt W A xs := hr.below hB (Nat.le_refl _)
  obtain ⟨R, hRes⟩ : ∃ R, R = Ln.flatNeeds M xs := ⟨_, rfl⟩
  rw [← hRes]
  have HR := Lib.hid hRes
  have HS := Lib.hid hWs
  have HW := Lib.hid hW
  clear hWs hRes
  go_enter Try.func12, Try.ntmps12
  have h0 : ¬ M < 1 := by omega
  have h1 : ¬ 65536 < M := by omega
  go_wp2
  rw [← hW]
  clear hW
  go_loopw [7, 24] (fun s i wr => ∃ k d : Nat, k ≤ xs.length ∧ i = .int .i64 k ∧ d ≤ M ∧ s = .int .u64 d ∧ Ln.flatErr M true k d (xs.drop k) = Ln.flatErr M true 0 0 xs ∧ Below W.heap.size W wr) (fun _ i _ => xs.length - (intOf i).toNat)
  case atStart => exact ⟨0, 0, by omega, rfl, by omega, rfl, rfl, Below.refl _ _⟩
  case round =>
    obtain ⟨k, d, hk, rfl, hd, rfl, hdem0, hbw⟩ := hrel
    have hdem := Lib.hid hdem0
    clear hdem0
    have hsz := hbw.size
    have hlt0 : w.heap.size < wr.heap.size := by have := HS.out; omega
    have c2' : wr.cell? ⟨w.heap.size, 2, none⟩ = some (.bool true) := by
      rw [hbw.cell (p := ⟨w.heap.size, 2, none⟩) (by simp [HS.out])]; exact c2
    have c3' : wr.cell? ⟨w.heap.size, 3, none⟩ = some (.slice A xs.length c) := by
      rw [hbw.cell (p := ⟨w.heap.size, 3, none⟩) (by simp [HS.out])]; exact c3
    by_cases hlt : k < xs.length
    · obtain ⟨b, off, rfl, hbl, hcs⟩ := hR (by omega)
      obtain ⟨r, hrk⟩ : ∃ r, xs[k]? = some r := ⟨xs[k], List.getElem?_eq_getElem hlt⟩
      have hmem : r ∈ xs := List.mem_of_getElem? hrk
      obtain ⟨q0, q1, q2, q3⟩ := hcs k r hrk
      rw [← hbw.cell (p := ⟨b, _, none⟩) (by exact hbl)] at q0 q1 q2 q3
      have hbud := (hx r hmem).1
      have hper := (hx r hmem).2
      have hlt1 : b < wr.heap.size := by omega
      have hz : Ln.flatErr M true 0 0 xs = if Ln.right M r true = 0 then (if M < d + Ln.wants M r true then some ((k : Int), 93) else Ln.flatErr M true (k + 1) (d + Ln.wants M r true) (xs.drop (k + 1))) else some ((k : Int), Ln.right M r true) := by
        obtain ⟨h1, h2⟩ := List.getElem?_eq_some_iff.1 hrk
        rw [← hdem.out, List.drop_eq_getElem_cons h1, h2]; rfl
      have HZ := Lib.hid hz
      clear hrk hcs c2 c3 hz
      go_wp2_with fail
      refine (right_any _ r _ _ (by omega) hbud hper).mono ?_
      rintro e w1 ⟨rfl, hb1⟩
      have hz1 := hb1.size
      simp at hz1
      obtain ⟨hc1, hf1⟩ := bcell hb1
      have hbw1 : Below W.heap.size W w1 := (hbw.alloc hbw.size _).trans (hb1.mono (by simp; omega))
      clear hb1
      by_cases hr : Ln.right M r true = 0
      · have hr' : (Ln.right M r true != 0) = false := by simp [hr]
        have hw := Ln.wants_le hr
        obtain ⟨o1, o2, o3⟩ := Ln.right_ok hr
        have Hr := Lib.hid hr
        have hpn : true = true → r.bud ≤ r.per ∧ 1 ≤ r.per ∧ r.per ≤ M := fun h => by obtain ⟨_, b, c, d, _⟩ := o3 h; exact ⟨b, c, d⟩
        clear hr o3
        go_wp2_with fail
        refine (wants_any _ r true _ hM2 o2 (fun _ => hpn trivial)).mono ?_
        rintro e w2 ⟨rfl, hb2⟩
        have hbw2 : Below W.heap.size W w2 := hbw1.trans (hb2.mono (by omega))
        clear hb2 hc1 hf1
        by_cases ho : M < d + Ln.wants M r true
        · go_wp2
          go_ret3
          rw [HR.out, Ln.flatNeeds, HZ.out, if_pos Hr.out, if_pos ho]
          exact FlatPost.nil (hB.trans (hbw2.mono (by simp [HS.out])))
        · go_wp2
          go_roundw
          case rel =>
            exact ⟨k + 1, d + Ln.wants M r true, by omega, by go_num, by omega, by go_num, by rw [HZ.out, if_pos Hr.out, if_neg (by omega)], hbw2⟩
          case measure => simp [intOf]; omega
      · have hr' : (Ln.right M r true != 0) = true := by simp [hr]
        go_wp2
        go_ret3
        rw [HR.out, Ln.flatNeeds, HZ.out, if_neg hr]
        exact FlatPost.nil (hB.trans (hbw1.mono (by simp [HS.out])))
    · have hk' : k = xs.length := by omega
      have hnone : Ln.flatErr M true 0 0 xs = none := by rw [← hdem.out, hk', List.drop_length]; rfl
      have hok := Ln.needs_ok hnone
      have hfin : R = Ln.capped (Ln.edf xs M) := by rw [HR.out, Ln.flatNeeds, hnone]
      have hB1 : Below w.heap.size w wr := hB.trans (hbw.mono (by simp [HS.out]))
      have hR1 : RunsAt wr A xs := hR.below hbw (by omega)
      have HF := Lib.hid hfin
      have HB1 := Lib.hid hB1
      have HOk := Lib.hid hok
      have HR1 := Lib.hid hR1
      clear hnone hok hfin hB1 hR1 hk' hR hbw hsz hB c2 c3 hdem HR HW hr
      go_wp2_with fail
      obtain ⟨p, hp⟩ : ∃ p, p = wr.heap.size := ⟨_, rfl⟩
      obtain ⟨wo, hwo⟩ : ∃ wo, wo = wr.alloc (.cells #[.slice none 0 0] 74) := ⟨_, rfl⟩
      have hv0 : Var wo p 74 (.slice none 0 0) := by subst hwo hp; exact heap_alloc_new _ _
      have hBo : Below w.heap.size w wo := by subst hwo; exact HB1.out.alloc HB1.out.size _
      have hR2 : RunsAt wo A xs := by subst hwo; exact HR1.out.below ((Below.refl _ _).alloc (Nat.le_refl _) _) (Nat.le_refl _)
      have hwp : w.heap.size ≤ p := by rw [hp]; exact HB1.out.size
      rw [← hwo, ← hp]
      have HBo := Lib.hid hBo
      have hvlt := hv0.lt
      clear hwo hp hBo c2' c3'
      refine (earliest_any M A c xs wo hM hM2 HOk.out.len (fun r hr => by obtain ⟨a, b, c, d, e, f⟩ := HOk.out.each r hr; exact ⟨a, by omega, d, by omega⟩) (HOk.out.fits (by omega)) hR2).mono ?_
      rintro e w1 ⟨v, rfl, hown, hb1⟩
      have hl2 := Ln.edf_len xs M
      have he := Ln.edf_end xs M
      obtain ⟨rows, hrows⟩ : ∃ x, x = Ln.edf xs M := ⟨_, rfl⟩
      rw [← hrows] at hown hl2 he HF
      have hv1 : Var w1 p 74 (.slice none 0 0) := (hb1.block p hvlt).trans hv0
      have hBw1 : Below w.heap.size w w1 := HBo.out.trans (hb1.mono HBo.out.size)
      have hf1 := hv1.frozen
      have hc1 := hv1.cell
      have hp1 := hv1.lt
      have hsl : ∃ A cc, v = .slice A rows.length cc := by
        rcases hown.2 with ⟨h, h2⟩ | ⟨g, cap, cur, h, _⟩
        · exact ⟨none, 0, by rw [h, h2]⟩
        · exact ⟨_, _, h⟩
      obtain ⟨A2, cc, rfl⟩ := hsl
      have hvs := hv1.set_ (.slice A2 rows.length cc)
      have hown2 : (w1.setCell ⟨p, 0, none⟩ (.slice A2 rows.length cc)).ownsRow wo.heap.size 33 3 (.slice A2 rows.length cc) rows.length (slotCells rows) := ownsRow_setCell_below (a := ⟨p, 0, none⟩) hown (by exact hvlt) _
      have hB2 : Below w.heap.size w (w1.setCell ⟨p, 0, none⟩ (.slice A2 rows.length cc)) := hBw1.setCell (by exact hwp) _
      have HB2 := Lib.hid hB2
      have HE := Lib.hid he
      have hsz2 : w.heap.size ≤ wo.heap.size := HBo.out.size
      clear hrows he hb1 hBw1 hown hv1 hv0 hB2
      obtain ⟨w2, hw2⟩ : ∃ w2, w2 = w1.setCell ⟨p, 0, none⟩ (.slice A2 rows.length cc) := ⟨_, rfl⟩
      rw [← hw2] at hvs hown2 HB2
      have hvc2 := hvs.cell
      have hl3 : rows.length ≤ 1000000000 := by omega
      go_upto_region 22 with fail
      rw [← hw2]
      clear hw2 hc1 hf1 hp1
      go_wp2_with fail
      refine (end_own w2 wo.heap.size _ rows hl3 hown2).mono ?_
      rw [HE.out]
      rintro e w3 ⟨rfl, rfl⟩
      by_cases hcap : 4096 < rows.length
      · go_wp2
        go_ret3
        rw [HF.out, Ln.capped, if_pos hcap]
        exact FlatPost.nil HB2.out
      · go_wp2
        go_ret3
        rw [HF.out, Ln.capped, if_neg hcap]
        exact ⟨_, rfl, own_base_le hown2 hsz2, HB2.out⟩

end Go.Proofs.Ytgilejknjdbneaa
