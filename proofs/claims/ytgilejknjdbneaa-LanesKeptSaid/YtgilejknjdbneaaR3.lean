/- The contract of the document's Ticks of a lane without needs. -/
import Derived.Test.YtgilejknjdbneaaR1
import Derived.Test.YtgilejknjdbneaaPlain12
import Derived.Deep.LoopGhost
namespace Go.Proofs.Ytgilejknjdbneaa
open Go.RowKit Go.IntWalk

def intCells (l : List Int) : List Value := l.map (Value.int .i64)
theorem intCells_length (l : List Int) : (intCells l).length = l.length := by simp [intCells]
theorem intCells_append (l m : List Int) : intCells (l ++ m) = intCells l ++ intCells m := by simp [intCells]
theorem intCells_one (l : List Int) : ∀ u ∈ intCells l, u.oneCell' = true := by
  intro u hu
  obtain ⟨x, _, rfl⟩ := List.mem_map.1 hu
  rfl
theorem Try.info3 : (Try.prog.info? 3).map (fun i => (i.zero, i.size, i.bytes)) = some (some (.int .i64 0), 1, 8) := by kernel_rfl
theorem int_news {a : Int} : ∀ u ∈ [Value.int .i64 a], u.oneCell' = true := by
  intro u hu; simp at hu; subst hu; rfl
theorem own_snoc {w : World} {B g n cap : Nat} {l : List Int} {x : Int} (h : w.ownsRow B 3 1 (.slice (some ⟨g, 0, none⟩) (n + 1) cap) (n + 1) (intCells l ++ [.int .i64 x])) :
    w.ownsRow B 3 1 (.slice (some ⟨g, 0, none⟩) (n + 1) cap) (n + 1) (intCells (l ++ [x])) := by rw [intCells_append]; exact h

set_option maxRecDepth 100000 in
set_option maxHeartbeats 2000000 in
theorem ticksR_runs (M : Nat) (A : Option Addr) (c : Nat) (xs : List Run) (lp : Int) (cpu : Nat) (w : World) (hM2 : M ≤ 65536)
    (hb : ∀ r ∈ xs, 1 ≤ r.bud) (hsum : Ln.sumBud xs ≤ M) (hr : RunsAt w A xs) :
    Calls Try.prog 52 #[.int .i64 M, .agg #[.int .i64 lp, .int .u64 cpu, .bool false, .slice A xs.length c]] w fun e w' =>
      ∃ g, e = .returned (.slice (some ⟨g, 0, none⟩) M M) ∧ w'.ownsRow w.heap.size 3 1 (.slice (some ⟨g, 0, none⟩) M M) M (intCells (Ln.numsRuns M xs)) ∧ Below w.heap.size w w' := by
  obtain ⟨W, hW⟩ : ∃ W, W = w.alloc (.cells #[.int .i64 lp, .int .u64 cpu, .bool false, .slice A xs.length c] 31) := ⟨_, rfl⟩
  have hB : Below w.heap.size w W := by subst hW; exact (Below.refl _ _).alloc (Nat.le_refl _) _
  have hWs : W.heap.size = w.heap.size + 1 := by subst hW; simp
  have c2 : W.cell? ⟨w.heap.size, 2, none⟩ = some (.bool false) := by subst hW; rw [World.cell?_alloc_at _ _ _ _ rfl]; rfl
  have c3 : W.cell? ⟨w.heap.size, 3, none⟩ = some (.slice A xs.length c) := by subst hW; rw [World.cell?_alloc_at _ _ _ _ rfl]; rfl
  have hR : RunsAt W A xs := hr.below hB (Nat.le_refl _)
  obtain ⟨i0, hi, hz0, hz1, hz2⟩ := info_parts Try.info3
  have hlen : xs.length ≤ Ln.sumBud xs := Ln.sumBud_len hb
  have HS := Lib.hid hWs
  have HW := Lib.hid hW
  have HB := Lib.hid hB
  have HR := Lib.hid hr
  have HBud := Lib.hid hb
  clear hWs hB hR hr hb
  go_enter Try.func52, Try.ntmps52
  go_wp2_with (at_make; refine wpList_make_own _ rfl (.const (.int .i64 0)) (.tmp 14) 54 rfl w.heap.size 3 i0 (.int .i64 0) 1 Try.underlying54 hi hz0 hz1 .i64 .i64 M M rfl rfl rfl ?h2 ?h3 ?h4 ?_)
  case h2 => rw [hz2]; omega
  case h3 => unfold maxLen; omega
  case h4 => simp
  intro w1 hown1 hgrow1
  rw [← hW] at hgrow1
  have hk1 : Keep (fun _ => False) W w1 := Keep.of_grown hgrow1 (by simp)
  obtain ⟨g, hg⟩ : ∃ g, g = w.heap.size + 1 := ⟨_, rfl⟩
  rw [← hg] at hown1 ⊢
  have hwg : w.heap.size < g := by omega
  have c2' : w1.cell? ⟨w.heap.size, 2, none⟩ = some (.bool false) := (hk1.cell (p := ⟨w.heap.size, 2, none⟩) (by rw [HS.out]; simp) (by simp)).trans c2
  have c3' : w1.cell? ⟨w.heap.size, 3, none⟩ = some (.slice A xs.length c) := (hk1.cell (p := ⟨w.heap.size, 3, none⟩) (by rw [HS.out]; simp) (by simp)).trans c3
  have hB1 : Below w.heap.size w w1 := HB.out.trans (hk1.below HB.out.size (by simp))
  have hg1 : g < w1.heap.size := (hown1.lt g rfl).2
  have HG := Lib.hid hg
  have HB1 := Lib.hid hB1
  have HO1 := Lib.hid hown1
  clear hk1 hgrow1 hB1 hown1 hg c2 c3 HW hW
  go_wp2
  go_loopg [5, 6] xs.length (fun q s i wr => ∃ (k T : Nat) (l : List Int), q + k = xs.length ∧ i = .int .i64 k ∧ s = .slice (some ⟨g, 0, none⟩) T M ∧ Hid (wr.ownsRow w.heap.size 3 1 (.slice (some ⟨g, 0, none⟩) T M) T (intCells l)) ∧ T + Ln.sumBud (xs.drop k) = Ln.sumBud xs ∧ Hid (l ++ Ln.numsFrom k (xs.drop k) = Ln.numsFrom 0 xs) ∧ Hid (Keep (fun k => k = g) w1 wr))
  case atStart => exact ⟨0, 0, [], rfl, rfl, rfl, HO1.out, by simp, rfl, Keep.refl _ _⟩
  case round =>
    obtain ⟨k, T, l, hqk, rfl, rfl, HO, hT, HL, HK⟩ := hrel
    have hsz := HK.out.size
    have c3k : wr.cell? ⟨w.heap.size, 3, none⟩ = some (.slice A xs.length c) := (HK.out.cell (p := ⟨w.heap.size, 3, none⟩) (by simp only; omega) (by simp only; omega)).trans c3'
    have hwl : w.heap.size < wr.heap.size := by omega
    have HQ := Lib.hid hqk
    by_cases hlt : k < xs.length
    · obtain ⟨b, off, rfl, hbl, hcs⟩ := HR.out (by omega)
      obtain ⟨r, hrk⟩ : ∃ r, xs[k]? = some r := ⟨xs[k], List.getElem?_eq_getElem hlt⟩
      have hb1 := HBud.out r (List.mem_of_getElem? hrk)
      obtain ⟨_, _, q2, _⟩ := hcs k r hrk
      have hd2 : xs.drop k = r :: xs.drop (k + 1) := by
        obtain ⟨h1, h2⟩ := List.getElem?_eq_some_iff.1 hrk
        rw [List.drop_eq_getElem_cons h1, h2]
      have hsb : Ln.sumBud (xs.drop k) = r.bud + Ln.sumBud (xs.drop (k + 1)) := by rw [hd2]; rfl
      have hnf : Ln.numsFrom k (xs.drop k) = List.replicate r.bud (k : Int) ++ Ln.numsFrom (k + 1) (xs.drop (k + 1)) := by rw [hd2]; rfl
      have hl2 := HL.out
      rw [hnf, ← List.append_assoc] at hl2
      rw [hsb] at hT
      obtain ⟨bd, hbd⟩ : ∃ bd, bd = r.bud := ⟨_, rfl⟩
      rw [← hbd] at hl2 hT q2 hb1
      have HL2 := Lib.hid hl2
      have hki : (k : Int) < xs.length := by omega
      clear hqk hrk hcs hd2 hsb hnf hl2 hbd HL
      go_wp2
      go_loopg [5, 7] bd (fun q s i wr => ∃ (j : Nat), q + j = bd ∧ i = .int .i64 j ∧ s = .slice (some ⟨g, 0, none⟩) ((T + j : Nat)) M ∧ Hid (wr.ownsRow w.heap.size 3 1 (.slice (some ⟨g, 0, none⟩) (T + j) M) (T + j) (intCells (l ++ List.replicate j (k : Int)))) ∧ Hid (Keep (fun k => k = g) w1 wr))
      case atStart => exact ⟨0, rfl, rfl, rfl, Lib.hid (by simpa using HO.out), HK.out⟩
      case round =>
        clear HO HK hsz hwl c3k
        obtain ⟨j, hqj, rfl, rfl, HO, HK⟩ := hrel
        have hsz := HK.out.size
        have hBw : Below w.heap.size w wr := HB1.out.trans (HK.out.below (by have := HB1.out.size; exact this) (fun i hi h => by omega))
        have c3k : wr.cell? ⟨w.heap.size, 3, none⟩ = some (.slice (some ⟨b, off, none⟩) xs.length c) := (HK.out.cell (p := ⟨w.heap.size, 3, none⟩) (by simp only; omega) (by simp only; omega)).trans c3'
        have q2' : wr.cell? ⟨b, off + k * 4 + 2, none⟩ = some (.int .u64 bd) := (hBw.cell (p := ⟨b, _, none⟩) hbl).trans q2
        have hwl : w.heap.size < wr.heap.size := by omega
        have hbw : b < wr.heap.size := by omega
        have HQJ := Lib.hid hqj
        have hj2 : j ≤ bd := by omega
        clear hqj
        by_cases hjb : j < bd
        · go_wp2_with (at_builtin; refine wpList_append_fits _ rfl (.tmp 37) (.tmp 39) 54 rfl w.heap.size 3 i0 1 Try.underlying54 hi hz1 g (T + j) M (intCells (l ++ List.replicate j (k : Int))) rfl (HO.out.alloc _) ⟨wr.heap.size, 0, none⟩ 1 1 [.int .i64 k] rfl rfl (World.news_of_block (cs := #[.int .i64 k]) (heap_alloc_new wr _)) int_news (by omega) ?_)
          intro w2 hown2 hgrow2
          have hk2 : Keep (fun k => k = g) w1 w2 := (HK.out.alloc _).trans (Keep.of_grown hgrow2 (S := fun k => k = g) (fun k h => by injection h with h; exact h.symm)) (fun _ _ h => h)
          have HK2 := Lib.hid hk2
          have HO2 := Lib.hid hown2
          clear hk2 hown2 hgrow2
          go_wp2
          go_roundg (bd - (j + 1))
          case measure => have := HQJ.out; omega
          case rel =>
            refine ⟨j + 1, by omega, by go_num, rfl, ?_, HK2.out⟩
            refine Lib.hid ?_
            have h := HO2.out
            rw [List.replicate_succ', ← List.append_assoc, intCells_append]
            exact h
        · have hjb2 : j = bd := by omega
          subst hjb2
          go_wp2
          go_roundg (xs.length - (k + 1))
          case measure => have := HQ.out; omega
          case rel => exact ⟨k + 1, T + j, l ++ List.replicate j (k : Int), by omega, by go_num, rfl, HO.out, by omega, HL2.out, HK.out⟩
    · have hk2 : k = xs.length := by omega
      have hl2 := HL.out
      rw [hk2, List.drop_length] at hl2 hT
      simp only [Ln.numsFrom, List.append_nil, Ln.sumBud, List.foldr_nil] at hl2 hT
      have hTs : T = Ln.sumBud xs := by unfold Ln.sumBud; omega
      have hfin : l ++ List.replicate (M - T) (-1) = Ln.numsRuns M xs := by rw [hl2, hTs]; rfl
      have HFin := Lib.hid hfin
      have hTM : T ≤ M := by omega
      clear hk2 hl2 hTs hfin hT hqk HL
      go_wp2
      go_loopg [5] (M - T) (fun q s wr => ∃ (T : Nat) (l : List Int), q + T = M ∧ s = .slice (some ⟨g, 0, none⟩) T M ∧ Hid (wr.ownsRow w.heap.size 3 1 (.slice (some ⟨g, 0, none⟩) T M) T (intCells l)) ∧ Hid (l ++ List.replicate (M - T) (-1) = Ln.numsRuns M xs) ∧ Hid (Keep (fun k => k = g) w1 wr))
      case atStart => exact ⟨T, l, by omega, rfl, HO.out, HFin.out, HK.out⟩
      case round =>
        clear HO HK HFin hTM c3k hsz hwl
        obtain ⟨T, l, hq, rfl, HO, HF, HK⟩ := hrel
        have HQ2 := Lib.hid hq
        have hTM : T ≤ M := by omega
        clear hq
        by_cases hlt : T < M
        · go_wp2_with (at_builtin; refine wpList_append_fits _ rfl (.tmp 45) (.tmp 46) 54 rfl w.heap.size 3 i0 1 Try.underlying54 hi hz1 g T M (intCells l) rfl (HO.out.alloc _) ⟨wr.heap.size, 0, none⟩ 1 1 [.int .i64 (-1)] rfl rfl (World.news_of_block (cs := #[.int .i64 (-1)]) (heap_alloc_new wr _)) int_news (by omega) ?_)
          intro w2 hown2 hgrow2
          have hk2 : Keep (fun k => k = g) w1 w2 := (HK.out.alloc _).trans (Keep.of_grown hgrow2 (S := fun k => k = g) (fun k h => by injection h with h; exact h.symm)) (fun _ _ h => h)
          have HK2 := Lib.hid hk2
          have HO2 := Lib.hid hown2
          clear hk2 hown2 hgrow2
          go_wp2
          go_roundg (M - (T + 1))
          case measure => have := HQ2.out; omega
          case rel =>
            refine ⟨T + 1, l ++ [-1], by omega, rfl, ?_, ?_, HK2.out⟩
            · refine Lib.hid ?_
              have h := HO2.out
              rw [intCells_append]
              exact h
            · refine Lib.hid ?_
              have h := HF.out
              have e : M - T = M - (T + 1) + 1 := by omega
              rw [e, List.replicate_succ] at h
              rw [List.append_assoc]
              exact h
        · have hTe : T = M := by omega
          subst hTe
          have hf := HF.out
          rw [Nat.sub_self, List.replicate_zero, List.append_nil] at hf
          have HF2 := Lib.hid hf
          clear hf
          go_wp2
          go_ret
          exact ⟨g, rfl, by rw [← HF2.out]; exact HO.out, HB1.out.trans (HK.out.below HB1.out.size (fun i hi h => by omega))⟩
end Go.Proofs.Ytgilejknjdbneaa
