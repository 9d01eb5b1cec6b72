/- The contract of the law's named. -/
import Derived.Test.YtgilejknjdbneaaBkRun
import Derived.Test.YtgilejknjdbneaaH7
import Derived.Deep.LoopGhost
import Derived.Deep.CutRange
import Derived.Laws.BytesArg
namespace Go.Proofs.Ytgilejknjdbneaa
open Go.RowKit Go.IntWalk

/-- The same runs, each of a name of its own. -/
structure Renamed (xs ys : List Run) : Prop where
  len : ys.length = xs.length
  each : ∀ (i : Nat) (r : Run), xs[i]? = some r → ∃ s : ByteArray, ys[i]? = some (Run.mk r.pos s r.bud r.per) ∧ s.toList.isEmpty = false
/-- So many are renamed. -/
structure RenTo (xs ys : List Run) (k : Nat) : Prop where
  len : ys.length = k
  each : ∀ (i : Nat) (r : Run), i < k → xs[i]? = some r → ∃ s : ByteArray, ys[i]? = some (Run.mk r.pos s r.bud r.per) ∧ s.toList.isEmpty = false
theorem RenTo.snoc {xs ys : List Run} {k : Nat} {r : Run} {s : ByteArray} (h : RenTo xs ys k) (hr : xs[k]? = some r) (hs : s.toList.isEmpty = false) : RenTo xs (ys ++ [Run.mk r.pos s r.bud r.per]) (k + 1) := by
  refine ⟨by rw [List.length_append, h.len]; rfl, fun i r' hi hr' => ?_⟩
  rcases Nat.lt_or_ge i k with h1 | h1
  · obtain ⟨s', h2, h3⟩ := h.each i r' h1 hr'
    exact ⟨s', by rw [List.getElem?_append_left (by rw [h.len]; exact h1)]; exact h2, h3⟩
  · obtain rfl : i = k := by omega
    rw [hr] at hr'
    injection hr' with hr'
    subst hr'
    exact ⟨s, by rw [List.getElem?_append_right (by rw [h.len]; exact Nat.le_refl _), h.len, Nat.sub_self]; rfl, hs⟩

structure NSt (w wr : World) (p pm : Nat) (v : Value) (lv : Array Value) (ys : List Run) : Prop where
  lane : wr.heap[p]? = some (.cells lv 31 (0, 0))
  m : wr.heap[pm]? = some (.cells #[.int .i64 0, .int .u64 0, .bool true, v] 31 (0, 0))
  own : wr.ownsRow (pm + 1) 28 4 v ys.length (rowOfRun ys)
  below : Below p w wr
  res : wr.heap[p + 1]? = some (.cells #[.int .i64 0, .int .u64 0, .bool false, .slice none 0 0] 31 (0, 0))
  lt : p + 1 < pm
  size : pm + 1 ≤ wr.heap.size

theorem runsAt_own {w : World} {B n c : Nat} {A : Option Addr} {ys : List Run} (hn : ys.length = n) (h : w.ownsRow B 28 4 (.slice A n c) n (rowOfRun ys)) : RunsAt w A ys := by
  intro h0
  obtain ⟨g, cap, hv, _, hlt⟩ := h.form (by omega)
  injection hv with e1 e2 e3
  subst e1
  refine ⟨g, 0, rfl, hlt, fun i r hr => ?_⟩
  have hadd : ∀ j, (⟨g, 0, none⟩ : Addr).add j = ⟨g, j, none⟩ := fun j => by unfold Addr.add; split <;> simp_all
  obtain ⟨q0, q1, q2, q3⟩ := rowOfRun_at hr
  have hcs := h.cells (g := g) rfl
  have c0 := hcs _ _ q0
  have c1 := hcs _ _ q1
  have c2 := hcs _ _ q2
  have c3 := hcs _ _ q3
  rw [hadd] at c0 c1 c2 c3
  simp only [Nat.zero_add]
  exact ⟨c0, c1, c2, c3⟩

set_option maxRecDepth 100000 in
set_option maxHeartbeats 2000000 in
theorem named_any (n : Nat) (A : Option Addr) (c : Nat) (xs : List Run) (lp : Int) (cpu : Nat) (nd : Bool) (w : World) (hxn : xs.length = n) (hl : n * 40 ≤ 140737488351232) (hr : RunsAt w A xs) :
    Calls Try.prog 28 #[.agg #[.int .i64 lp, .int .u64 cpu, .bool nd, .slice A n c]] w fun e w' => ∃ A' c' ys, e = .returned (.agg #[.int .i64 0, .int .u64 0, .bool true, .slice A' n c']) ∧ RunsAt w' A' ys ∧ Renamed xs ys ∧ (∀ a, A' = some a → w.heap.size ≤ a.block) ∧ Below w.heap.size w w' := by
  obtain ⟨p, hp⟩ : ∃ p, p = w.heap.size := ⟨_, rfl⟩
  obtain ⟨W, hW⟩ : ∃ W, W = ((w.alloc (.cells #[.int .i64 lp, .int .u64 cpu, .bool nd, .slice A n c] 31)).alloc (.cells #[.int .i64 0, .int .u64 0, .bool false, .slice none 0 0] 31)).alloc (.cells #[.int .i64 0, .int .u64 0, .bool true, .slice none 0 0] 31) := ⟨_, rfl⟩
  obtain ⟨pm, hpm⟩ : ∃ pm, pm = p + 1 + 1 := ⟨_, rfl⟩
  have hst : NSt w W p pm (.slice none 0 0) #[.int .i64 lp, .int .u64 cpu, .bool nd, .slice A n c] [] := by
    subst hW hpm hp
    refine ⟨?_, ?_, World.ownsRow_nil _ _ _ _, (((Below.refl _ _).alloc (Nat.le_refl _) _).alloc (by simp) _).alloc (by simp; omega) _, ?_, by omega, by simp⟩
    · rw [Below.heap_alloc _ _ _ (by simp; omega), Below.heap_alloc _ _ _ (by simp)]; exact heap_alloc_new _ _
    · have := heap_alloc_new ((w.alloc (.cells #[.int .i64 lp, .int .u64 cpu, .bool nd, .slice A n c] 31)).alloc (.cells #[.int .i64 0, .int .u64 0, .bool false, .slice none 0 0] 31)) (.cells #[.int .i64 0, .int .u64 0, .bool true, .slice none 0 0] 31)
      simpa using this
    · rw [Below.heap_alloc _ _ _ (by simp)]
      have := heap_alloc_new (w.alloc (.cells #[.int .i64 lp, .int .u64 cpu, .bool nd, .slice A n c] 31)) (.cells #[.int .i64 0, .int .u64 0, .bool false, .slice none 0 0] 31)
      simpa using this
  obtain ⟨i0, hi, hz0, hz1, hz2⟩ := info_parts Try.info28
  have HSt := Lib.hid hst
  have HP : Hid (p = w.heap.size) := hp
  have HPW : Hid (w.heap.size = p) := hp.symm
  have HR := Lib.hid hr
  have HXN := Lib.hid hxn
  clear hst hp hr hxn
  go_enter Try.func28, Try.ntmps28
  go_wp2
  rw [← hW, HPW.out, ← hpm]
  clear hW hpm
  go_loopg [4] n (fun q i wr => ∃ (k : Nat) (v : Value) (ys : List Run), q + k = n ∧ i = .int .i64 k ∧ Hid (NSt w wr p pm v #[.int .i64 lp, .int .u64 cpu, .bool nd, .slice A n c] ys) ∧ Hid (RenTo xs ys k))
  case atStart => exact ⟨0, _, [], rfl, rfl, HSt.out, ⟨rfl, fun i r h => by omega⟩⟩
  case round =>
    obtain ⟨k, v, ys, hqk, rfl, HN, HT⟩ := hrel
    have HQ := Lib.hid hqk
    have hkn : k ≤ n := by omega
    have c3 : wr.cell? ⟨p, 3, none⟩ = some (.slice A n c) := cell_of_row _ _ _ _ _ _ HN.out.lane
    have hps : p < wr.heap.size := by have := HN.out.size; have := HN.out.lt; omega
    clear hqk
    by_cases hlt : k < n
    · obtain ⟨b, off, rfl, hbl, hcs⟩ := HR.out (by rw [HXN.out]; omega)
      obtain ⟨r, hrk⟩ : ∃ r, xs[k]? = some r := ⟨xs[k]'(by rw [HXN.out]; exact hlt), List.getElem?_eq_getElem (by rw [HXN.out]; exact hlt)⟩
      obtain ⟨q0, q1, q2, q3⟩ := hcs k r hrk
      have hbp : b < p := by rw [HP.out]; exact hbl
      rw [← HN.out.below.cell (p := ⟨b, _, none⟩) hbp] at q0 q1 q2 q3
      have hki : (k : Int) < n := by omega
      have hbw : b < wr.heap.size := by omega
      have hps2 : pm < wr.heap.size := by have := HN.out.size; omega
      have m3 : wr.cell? ⟨pm, 3, none⟩ = some v := cell_of_row _ _ _ _ _ _ HN.out.m
      have hf : wr.frozen? ⟨pm, 3, none⟩ = false := by simp [World.frozen?, HN.out.m]
      have Hrk := Lib.hid hrk
      clear hrk hcs
      obtain ⟨S, hSz, hS⟩ : ∃ S : ByteArray, S.size = 3 ∧ (convert 87 9 (.slice (some ⟨wr.heap.size + 1, 0, none⟩) 3 3)).run Try.prog ((wr.alloc (Obj.cells #[.int .i64 r.pos, .string r.subj, .int .u64 r.bud, .int .u64 r.per] 28)).alloc (Obj.cells #[.int .u8 (97 + (k : Int) % 26), .int .u8 (97 + (k : Int) / 26 % 26), .int .u8 (97 + (k : Int) / 676 % 26)] 5)) = .ok (.string S) ((wr.alloc (Obj.cells #[.int .i64 r.pos, .string r.subj, .int .u64 r.bud, .int .u64 r.per] 28)).alloc (Obj.cells #[.int .u8 (97 + (k : Int) % 26), .int .u8 (97 + (k : Int) / 26 % 26), .int .u8 (97 + (k : Int) / 676 % 26)] 5)) := by
        refine ⟨_, ?_, run_convert_bytes_arg _ 87 5 Try.underlying87 Try.underlying5 (wr.heap.size + 1) 0 3 3 [97 + (k : Int) % 26, 97 + (k : Int) / 26 % 26, 97 + (k : Int) / 676 % 26] rfl (fun i hi => ?_) 9 Try.underlying9⟩
        · rfl
        rw [World.cell?_alloc_at _ _ _ _ (by simp)]
        match i, hi with
        | 0, _ => rfl
        | 1, _ => rfl
        | 2, _ => rfl
      have hown := HN.out.own
      rw [HT.out.len] at hown
      have hnew := rowOfRun_one [Run.mk r.pos (⟨#[110]⟩ ++ S) r.bud r.per]
      have hrw := HN.out.own
      obtain ⟨w2, hw2⟩ : ∃ w2, w2 = ((wr.alloc (Obj.cells #[.int .i64 r.pos, .string (⟨#[110]⟩ ++ S), .int .u64 r.bud, .int .u64 r.per] 28)).alloc (Obj.cells #[.int .u8 (97 + (k : Int) % 26), .int .u8 (97 + (k : Int) / 26 % 26), .int .u8 (97 + (k : Int) / 676 % 26)] 5)) := ⟨_, rfl⟩
      have hk2 : Keep (fun _ => False) wr w2 := by rw [hw2]; exact ((Keep.refl _ _).alloc _).alloc _
      have hx2 : w2.heap[wr.heap.size]? = some (.cells #[.int .i64 r.pos, .string (⟨#[110]⟩ ++ S), .int .u64 r.bud, .int .u64 r.per] 28 (0, 0)) := by
        rw [hw2, Below.heap_alloc _ _ _ (by simp)]; exact heap_alloc_new _ _
      have hs2 : w2.heap.size = wr.heap.size + 2 := by rw [hw2]; simp
      obtain ⟨px, hpx⟩ : ∃ px, px = wr.heap.size := ⟨_, rfl⟩
      rw [← hpx] at hx2
      have x0 : w2.cell? ⟨px, 0, none⟩ = some (.int .i64 r.pos) := cell_of_row _ _ _ _ _ _ hx2
      have x1 : w2.cell? ⟨px, 1, none⟩ = some (.string (⟨#[110]⟩ ++ S)) := cell_of_row _ _ _ _ _ _ hx2
      have x2 : w2.cell? ⟨px, 2, none⟩ = some (.int .u64 r.bud) := cell_of_row _ _ _ _ _ _ hx2
      have x3 : w2.cell? ⟨px, 3, none⟩ = some (.int .u64 r.per) := cell_of_row _ _ _ _ _ _ hx2
      have m3' : w2.cell? ⟨pm, 3, none⟩ = some v := (hk2.cell (p := ⟨pm, 3, none⟩) hps2 (by simp)).trans m3
      have HPx := Lib.hid hpx
      have HOwn := Lib.hid (own_keep hown hk2 (fun _ _ => by simp))
      have HK2 := Lib.hid hk2
      clear hown hnew hrw hk2 hx2 hs2 hpx
      go_upto_region 7 with fail
      rw [← hw2, ← HPx.out]
      obtain ⟨N, hN⟩ : ∃ N : ByteArray, N = ⟨#[110]⟩ ++ S := ⟨_, rfl⟩
      rw [← hN] at x1 ⊢
      have hNe : N.toList.isEmpty = false := by
        rw [hN, ByteArray.toList_eq]
        simp
      have HNe := Lib.hid hNe
      clear hw2 hN hS hSz q0 q1 q2 q3 hNe m3 hf hps2 c3
      have hps3 : pm < w2.heap.size := by have := HK2.out.size; have := HN.out.size; omega
      have hpx2 : px < w2.heap.size := by
        rcases Nat.lt_or_ge px w2.heap.size with h | h
        · exact h
        · rw [World.cell?, Array.getElem?_eq_none h] at x0; simp at x0
      go_wp2_with (at_builtin; refine wpList_append_lies _ rfl (.tmp 38) (.tmp 40) 29 rfl (pm + 1) 28 i0 (.agg #[.int .i64 0, .string ByteArray.empty, .int .u64 0, .int .u64 0]) 4 40 Try.underlying29 hi hz0 hz1 hz2 rfl (by omega) v k (rowOfRun ys) rfl (HOwn.out.alloc _) ⟨w2.heap.size, 0, none⟩ 1 1 [.int .i64 r.pos, .string N, .int .u64 r.bud, .int .u64 r.per] rfl rfl (World.news_of_block (cs := #[.int .i64 r.pos, .string N, .int .u64 r.bud, .int .u64 r.per]) (heap_alloc_new w2 _)) (rowOfRun_one [Run.mk r.pos N r.bud r.per]) (by omega) (by unfold maxLen; omega) (by omega) ?c2 (w2.heap.size + 1) (by simp) ?_)
      case c2 => simp; omega
      intro g cap w5 hown5 hgrow5 hat5 hlt5
      have hk5 : Keep (fun k => v.ownBlock = some k) wr w5 := (HK2.out.alloc _).mono (T := fun k => v.ownBlock = some k) (fun _ _ h => h.elim) |>.trans (Keep.of_grown hgrow5 (S := fun k => v.ownBlock = some k) (fun k h => h)) (fun _ _ h => h)
      have hvo : ∀ j, v.ownBlock = some j → pm + 1 ≤ j := fun j hj => (HN.out.own.lt j hj).1
      have hl5 : w5.heap[p]? = some (.cells #[.int .i64 lp, .int .u64 cpu, .bool nd, .slice (some ⟨b, off, none⟩) n c] 31 (0, 0)) := (hk5.block p (by have := HN.out.size; have := HN.out.lt; omega) (fun h => by have := hvo p h; have := HN.out.lt; omega)).trans HN.out.lane
      have hm5 : w5.heap[pm]? = some (.cells #[.int .i64 0, .int .u64 0, .bool true, v] 31 (0, 0)) := (hk5.block pm (by have := HN.out.size; omega) (fun h => by have := hvo pm h; omega)).trans HN.out.m
      have hps5 : pm < w5.heap.size := (Array.getElem?_eq_some_iff.1 hm5).1
      have m5 : w5.cell? ⟨pm, 3, none⟩ = some v := cell_of_row _ _ _ _ _ _ hm5
      have f5 : w5.frozen? ⟨pm, 3, none⟩ = false := by simp [World.frozen?, hm5]
      obtain ⟨w6, hw6⟩ : ∃ w6, w6 = w5.setCell ⟨pm, 3, none⟩ (.slice (some ⟨g, 0, none⟩) (k + 1) cap) := ⟨_, rfl⟩
      have hn6 : NSt w w6 p pm (.slice (some ⟨g, 0, none⟩) (k + 1) cap) #[.int .i64 lp, .int .u64 cpu, .bool nd, .slice (some ⟨b, off, none⟩) n c] (ys ++ [Run.mk r.pos N r.bud r.per]) := by
        rw [hw6]
        refine ⟨?_, ?_, ?_, ?_, ?_, HN.out.lt, ?_⟩
        · rw [Below.heap_setCell _ _ _ _ (by have := HN.out.lt; simp only; omega)]; exact hl5
        · simp [World.setCell, Array.getElem?_modify, hm5]
        · rw [List.length_append, List.length_singleton, HT.out.len]
          have h := ownsRow_setCell_below (a := ⟨pm, 3, none⟩) hown5 (by simp only; omega) (.slice (some ⟨g, 0, none⟩) (k + 1) cap)
          have e : rowOfRun (ys ++ [Run.mk r.pos N r.bud r.per]) = rowOfRun ys ++ [.int .i64 r.pos, .string N, .int .u64 r.bud, .int .u64 r.per] := by simp [rowOfRun, Run.cellsL]
          rw [e]; exact h
        · exact (HN.out.below.trans (hk5.below (by have := HN.out.size; have := HN.out.lt; omega) (fun i hi h => by have := hvo i h; have := HN.out.lt; omega))).setCell (by have := HN.out.lt; simp only; omega) _
        · rw [Below.heap_setCell _ _ _ _ (by have := HN.out.lt; simp only; omega)]
          exact (hk5.block (p + 1) (by have := HN.out.size; have := HN.out.lt; omega) (fun h => by have := hvo (p + 1) h; have := HN.out.lt; omega)).trans HN.out.res
        · simp only [World.setCell, Array.size_modify]; omega
      have HN6 := Lib.hid hn6
      have HT6 := Lib.hid (HT.out.snoc Hrk.out HNe.out)
      clear hn6 hown5 hgrow5 hat5 hlt5 hk5 hvo hl5 hm5 x0 x1 x2 x3 m3'
      go_upto_region 4 with fail
      rw [← hw6]
      clear hw6 m5 f5
      go_wp2
      go_roundg (n - (k + 1))
      case measure => have := HQ.out; omega
      case rel => exact ⟨k + 1, _, _, by omega, by go_num, HN6.out, HT6.out⟩
    · have hke : k = n := by omega
      have hps2 : pm < wr.heap.size := by have := HN.out.size; omega
      obtain ⟨A2, c2, hv2⟩ : ∃ A c, v = .slice A n c := by
        have h := HN.out.own
        rw [HT.out.len, hke] at h
        rcases h.2 with ⟨h1, h2⟩ | ⟨g, cap, cur, h1, _⟩
        · exact ⟨none, 0, by rw [h1, h2]⟩
        · exact ⟨_, _, h1⟩
      subst hv2
      have m0 : wr.cell? ⟨pm, 0, none⟩ = some (.int .i64 0) := cell_of_row _ _ _ _ _ _ HN.out.m
      have m1 : wr.cell? ⟨pm, 1, none⟩ = some (.int .u64 0) := cell_of_row _ _ _ _ _ _ HN.out.m
      have m2 : wr.cell? ⟨pm, 2, none⟩ = some (.bool true) := cell_of_row _ _ _ _ _ _ HN.out.m
      have m3 : wr.cell? ⟨pm, 3, none⟩ = some (.slice A2 n c2) := cell_of_row _ _ _ _ _ _ HN.out.m
      have Hke := Lib.hid hke
      have hps1 : p + 1 < wr.heap.size := by have := HN.out.size; have := HN.out.lt; omega
      have r0 : wr.cell? ⟨p + 1, 0, none⟩ = some (.int .i64 0) := cell_of_row _ _ _ _ _ _ HN.out.res
      have r1 : wr.cell? ⟨p + 1, 1, none⟩ = some (.int .u64 0) := cell_of_row _ _ _ _ _ _ HN.out.res
      have r2 : wr.cell? ⟨p + 1, 2, none⟩ = some (.bool false) := cell_of_row _ _ _ _ _ _ HN.out.res
      have r3 : wr.cell? ⟨p + 1, 3, none⟩ = some (.slice none 0 0) := cell_of_row _ _ _ _ _ _ HN.out.res
      have f0 : wr.frozen? ⟨p + 1, 0, none⟩ = false := by simp [World.frozen?, HN.out.res]
      have f1 : wr.frozen? ⟨p + 1, 1, none⟩ = false := by simp [World.frozen?, HN.out.res]
      have f2 : wr.frozen? ⟨p + 1, 2, none⟩ = false := by simp [World.frozen?, HN.out.res]
      have f3 : wr.frozen? ⟨p + 1, 3, none⟩ = false := by simp [World.frozen?, HN.out.res]
      clear hke
      go_wp2
      refine bodyPost_ret (results_cell_row rfl _ _ (p + 1) 31 #[.int .i64 0, .int .u64 0, .bool true, .slice A2 n c2] (0, 0) _ rfl (by simp [World.setCell, Array.getElem?_modify, HN.out.res]) Try.underlying31 rfl (by kernel_rfl)) rfl ?_
      have hpm := HN.out.lt
      have ho := HN.out.own
      rw [HT.out.len, Hke.out] at ho
      have h1 := ownsRow_setCell_below (a := ⟨p + 1, 0, none⟩) ho (by simp only; omega) (.int .i64 0)
      have h2 := ownsRow_setCell_below (a := ⟨p + 1, 1, none⟩) h1 (by simp only; omega) (.int .u64 0)
      have h3 := ownsRow_setCell_below (a := ⟨p + 1, 2, none⟩) h2 (by simp only; omega) (.bool true)
      have h4 := ownsRow_setCell_below (a := ⟨p + 1, 3, none⟩) h3 (by simp only; omega) (.slice A2 n c2)
      have hb := (((HN.out.below.setCell (p := ⟨p + 1, 0, none⟩) (by simp only; omega) (.int .i64 0)).setCell (p := ⟨p + 1, 1, none⟩) (by simp only; omega) (.int .u64 0)).setCell (p := ⟨p + 1, 2, none⟩) (by simp only; omega) (.bool true)).setCell (p := ⟨p + 1, 3, none⟩) (by simp only; omega) (.slice A2 n c2)
      rw [HP.out] at hb h4 ⊢
      refine ⟨A2, c2, ys, rfl, runsAt_own (by rw [HT.out.len]; exact Hke.out) h4, ⟨by rw [HT.out.len, HXN.out]; exact Hke.out, fun i r hr => HT.out.each i r ?_ hr⟩, fun a ha => ?_, hb⟩
      rotate_left
      · have := (ho.lt a.block (by rw [ha]; rfl)).1
        have hpp := HP.out
        omega
      have := (List.getElem?_eq_some_iff.1 hr).1
      rw [HXN.out] at this
      rw [Hke.out]
      exact this
end Go.Proofs.Ytgilejknjdbneaa
