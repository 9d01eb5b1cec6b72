/- The book of slots: Apart. -/
import Derived.Test.YtgilejknjdbneaaK2
import Derived.Deep.RegionWith
namespace Go.Proofs.Ytgilejknjdbneaa
open Go.RowKit Go.IntWalk

/-- The mark of list i. -/
def Slot.mk_ (i : Nat) : Slot := ⟨ByteArray.empty, -1 - (i : Int), 0⟩

theorem BlkSlot.keep {S : Nat → Prop} {w w' : World} {g n : Nat} (h : BlkSlot w g n) (hk : Keep S w w') (hS : ¬ S g) : BlkSlot w' g n := by
  obtain ⟨cur, h1, h2⟩ := h
  exact ⟨cur, (hk.block g (Array.getElem?_eq_some_iff.1 h1).1 hS).trans h1, h2⟩
theorem BlkSlot.lt {w : World} {g n : Nat} (h : BlkSlot w g n) : g < w.heap.size := by
  obtain ⟨cur, h1, _⟩ := h
  exact (Array.getElem?_eq_some_iff.1 h1).1
theorem BlkSlot.ty {w : World} {g n : Nat} (h : BlkSlot w g n) : tyAt w g = some 33 := by
  obtain ⟨cur, h1, _⟩ := h
  unfold tyAt; rw [h1]
def RowIn (w : World) (B : Nat) (v : Value) : Prop := v = .slice none 0 0 ∨ ∃ g n cap, v = .slice (some ⟨g, 0, none⟩) n cap ∧ n ≤ cap ∧ cap ≤ 9223372036854775807 ∧ BlkSlot w g (cap * 3) ∧ B ≤ g
def Marked (w : World) (v : Value) (i : Nat) : Prop := v = .slice none 0 0 ∨ ∃ g n cap, v = .slice (some ⟨g, 0, none⟩) n cap ∧ SlotRow w g (List.replicate cap (Slot.mk_ i))
theorem RowIn.keep {S : Nat → Prop} {w w' : World} {B : Nat} {v : Value} (h : RowIn w B v) (hk : Keep S w w') (hS : ∀ k, v.ownBlock = some k → ¬ S k) : RowIn w' B v := by
  rcases h with h | ⟨g, n, cap, rfl, h1, h2, h3, h4⟩
  · exact .inl h
  · exact .inr ⟨g, n, cap, rfl, h1, h2, h3.keep hk (hS g rfl), h4⟩
theorem Marked.keep {S : Nat → Prop} {w w' : World} {B : Nat} {v : Value} {i : Nat} (h : Marked w v i) (hr : RowIn w B v) (hk : Keep S w w') (hS : ∀ k, v.ownBlock = some k → ¬ S k) : Marked w' v i := by
  rcases h with h | ⟨g, n, cap, rfl, h1⟩
  · exact .inl h
  · refine .inr ⟨g, n, cap, rfl, h1.keep (fun j => ?_)⟩
    rcases hr with h | ⟨g', n', cap', h, _, _, h3, _⟩
    · simp at h
    · simp only [Value.slice.injEq, Option.some.injEq, Addr.mk.injEq, and_true, true_and] at h
      obtain ⟨rfl, _⟩ := h
      exact hk.cell (p := ⟨g, j, none⟩) h3.lt (hS g rfl)
theorem RowIn.of_own {w : World} {B : Nat} {v : Value} {n : Nat} {xs : List Value} (h : w.ownsRow B 33 3 v n xs) : RowIn w B v := by
  rcases h.2 with ⟨h, _⟩ | ⟨g, cap, cur, rfl, hB, h2, h3, h4, h5, _⟩
  · exact .inl h
  · exact .inr ⟨g, n, cap, rfl, h3, by unfold maxLen at h4; omega, ⟨cur, h2, h5⟩, hB⟩

/-- The first i of the lists are written full with their marks. -/
structure MarkSt (w0 w : World) (B pb : Nat) (vL vW : Value) (held : Int) (vs : List Value) (i : Nat) : Prop where
  var : w.heap[pb]? = some (.cells #[vL, vW, .int .i64 held, .bool false] 62 (0, 0))
  lists : OwnsOff w B 22 vL vs.length vs
  rows : ∀ (k : Nat) (v : Value), vs[k]? = some v → RowIn w B v
  done : ∀ (k : Nat) (v : Value), k < i → vs[k]? = some v → Marked w v k
  lb : pb < B
  bel : Below pb w0 w
namespace MarkSt
variable {w0 w w' : World} {B pb : Nat} {vL vW : Value} {held : Int} {vs : List Value} {i : Nat}
theorem size (h : MarkSt w0 w B pb vL vW held vs i) : pb < w.heap.size := (Array.getElem?_eq_some_iff.1 h.var).1
theorem keepN (h : MarkSt w0 w B pb vL vW held vs i) (hk : Keep (fun _ => False) w w') : MarkSt w0 w' B pb vL vW held vs i :=
  ⟨(hk.block pb h.size (by simp)).trans h.var, h.lists.keep hk (fun _ _ h => h), fun k v hv => (h.rows k v hv).keep hk (fun _ _ h => h), fun k v hi hv => (h.done k v hi hv).keep (h.rows k v hv) hk (fun _ _ h => h), h.lb, h.bel.trans (hk.below (Nat.le_of_lt h.size) (fun _ _ h => h))⟩
/-- One list more is marked. -/
theorem step (h : MarkSt w0 w B pb vL vW held vs i) (hfar : vs.Pairwise fun a b => ∀ k, a.ownBlock = some k → b.ownBlock ≠ some k) {g n cap : Nat} (hi : vs[i]? = some (.slice (some ⟨g, 0, none⟩) n cap)) (hk : Keep (fun k => k = g) w w') (hm : SlotRow w' g (List.replicate cap (Slot.mk_ i))) (hb : BlkSlot w' g (cap * 3)) : MarkSt w0 w' B pb vL vW held vs (i + 1) := by
  have hg : BlkSlot w g (cap * 3) ∧ B ≤ g := by
    rcases h.rows i _ hi with h | ⟨g', n', cap', h, _, _, h3⟩
    · simp at h
    · simp only [Value.slice.injEq, Option.some.injEq, Addr.mk.injEq, and_true, true_and] at h
      obtain ⟨rfl, _, rfl⟩ := h
      exact h3
  have hne : ∀ (k : Nat) (v : Value), k ≠ i → vs[k]? = some v → ∀ j, v.ownBlock = some j → ¬ j = g := fun k v hki hv j hj e => by
    subst e
    obtain ⟨hk1, hk2⟩ := List.getElem?_eq_some_iff.1 hv
    obtain ⟨hi1, hi2⟩ := List.getElem?_eq_some_iff.1 hi
    rcases Nat.lt_or_gt_of_ne hki with hlt | hlt
    · have := List.pairwise_iff_getElem.1 hfar k i hk1 hi1 hlt j (by rw [hk2]; exact hj)
      rw [hi2] at this
      exact this rfl
    · have := List.pairwise_iff_getElem.1 hfar i k hi1 hk1 hlt j (by rw [hi2]; rfl)
      rw [hk2] at this
      exact this hj
  obtain ⟨hg, hBg⟩ := hg
  have hlb := h.lb
  refine ⟨(hk.block pb h.size (fun e => ?_)).trans h.var, h.lists.keep hk (fun k hk' e => ?_), fun k v hv => ?_, fun k v hki hv => ?_, hlb, h.bel.trans (hk.below (Nat.le_of_lt h.size) (fun i hi e => by omega))⟩
  · have h1 := hg.ty
    rw [← e] at h1
    unfold tyAt at h1
    rw [h.var] at h1
    simp at h1
  · have h1 := hg.ty
    rw [← e, (h.lists.lt k hk').2.2] at h1
    simp at h1
  · by_cases hki : k = i
    · subst hki
      rw [hi] at hv
      injection hv with hv
      subst hv
      rcases h.rows k _ hi with h | ⟨g', n', cap', h, h1, h2, _⟩
      · simp at h
      · simp only [Value.slice.injEq, Option.some.injEq, Addr.mk.injEq, and_true, true_and] at h
        obtain ⟨rfl, rfl, rfl⟩ := h
        exact .inr ⟨g, n, cap, rfl, h1, h2, hb, hBg⟩
    · exact (h.rows k v hv).keep hk (hne k v hki hv)
  · by_cases hke : k = i
    · subst hke
      rw [hi] at hv
      injection hv with hv
      subst hv
      exact .inr ⟨g, n, cap, rfl, hm⟩
    · exact (h.done k v (by omega) hv).keep (h.rows k v hv) hk (hne k v hke hv)
theorem stepNil (h : MarkSt w0 w B pb vL vW held vs i) {n cap : Nat} (hi : vs[i]? = some (.slice none n cap)) : MarkSt w0 w B pb vL vW held vs (i + 1) := by
  refine ⟨h.var, h.lists, h.rows, fun k v hki hv => ?_, h.lb, h.bel⟩
  by_cases hke : k = i
  · subst hke
    rw [hi] at hv
    injection hv with hv
    subst hv
    rcases h.rows k _ hi with h | ⟨g', n', cap', h, _⟩
    · exact .inl h
    · simp at h
  · exact h.done k v (by omega) hv
end MarkSt

set_option maxRecDepth 100000 in
set_option maxHeartbeats 4000000 in
theorem apart_any (w : World) (B pb m : Nat) (vL vW : Value) (held : Int) (ks : List Kept) (h : BookAt w B pb vL vW held ks) (hm : ks.length = m) (hl : ∀ k ∈ ks, k.xs.length ≤ 100000) (hm2 : m ≤ 1000000) :
    Calls Try.prog 33 #[.pointer (some ⟨pb, 0, none⟩), .func (.func 34) #[] #[]] w fun e w' => e = .returned (.bool true) ∧ Below pb w w' := by
  obtain ⟨AL, cL, hvL⟩ := h.lists.form
  rw [hm] at hvL
  subst hvL
  have hst := stays_any w B pb m _ vW held ks h hm hl hm2
  have hfar : (ks.map Kept.v).Pairwise fun a b => ∀ k, a.ownBlock = some k → b.ownBlock ≠ some k := by rw [List.pairwise_map]; exact h.far
  have hsz := h.size
  have HFar := Lib.hid hfar
  have HB := Lib.hid h
  have HM := Lib.hid hm
  clear h hm hl hfar
  go_enter Try.func33, Try.ntmps33
  go_wp2_with fail
  refine hst.mono ?_
  rintro e w1 ⟨rfl, hb1, hk1⟩
  have hM1 : MarkSt w w1 B pb (.slice AL m cL) vW held (ks.map Kept.v) 0 :=
    ⟨hb1.var, by have := hb1.lists; rwa [← List.length_map (f := Kept.v)] at this, fun k v hv => by
      rw [List.getElem?_map] at hv
      obtain ⟨kk, hkk, rfl⟩ := Option.map_eq_some_iff.1 hv
      exact RowIn.of_own (hb1.rows kk (List.mem_of_getElem? hkk)).1, fun k v hk _ => by omega, hb1.lb, hk1.below (Nat.le_of_lt hsz) (fun i hi e => by omega)⟩
  have HM1 := Lib.hid hM1
  clear hM1 hb1 hk1 hst
  go_wp2_with fail
  have HVlen : Hid ((ks.map Kept.v).length = m) := by rw [List.length_map]; exact HM.out
  obtain ⟨vs, hvs⟩ : ∃ vs, vs = ks.map Kept.v := ⟨_, rfl⟩
  rw [← hvs] at HFar HM1 HVlen
  clear hvs HB HM
  have HCell : Hid (∀ (wr : World) (i k : Nat), MarkSt w wr B pb (.slice AL m cL) vW held vs k → i < m → ∃ v g o, vs[i]? = some v ∧ AL = some ⟨g, o, none⟩ ∧ wr.cell? ⟨g, o + i, none⟩ = some v ∧ g < wr.heap.size ∧ tyAt wr g = some 22) := fun wr i k hM hi => by
    have hv : vs[i]? = some (vs[i]'(by rw [HVlen.out]; exact hi)) := List.getElem?_eq_getElem _
    obtain ⟨g, o, cap, hA, hg, hc⟩ := hM.lists.cell hv
    injection hA with hA _ _
    subst hA
    exact ⟨_, g, o, hv, rfl, hc, hg, (hM.lists.lt g rfl).2.2⟩
  go_loopg [5] m (fun q x wr => ∃ i : Nat, q + i = m ∧ x = .int .i64 i ∧ Hid (MarkSt w wr B pb (.slice AL m cL) vW held vs i))
  case atStart => exact ⟨0, rfl, rfl, HM1⟩
  case round =>
    obtain ⟨i, hqi, rfl, HMr⟩ := hrel
    have HQ := Lib.hid hqi
    have him : i ≤ m := by omega
    have b0 : wr.cell? ⟨pb, 0, none⟩ = some (.slice AL m cL) := cell_of_row _ _ _ _ _ _ HMr.out.var
    by_cases hi : i < m
    · obtain ⟨v, g, o, hvi, hA, hc, hg, hty⟩ := HCell.out wr i i HMr.out hi
      subst hA
      have hii : (i : Int) < m := by omega
      have hi0 : (0 : Int) ≤ i := by omega
      clear hqi
      rcases HMr.out.rows i v hvi with hv | ⟨gr, n, cap, hv, hnc, hcap, hblk, _⟩
      · subst hv
        have HNil := Lib.hid (HMr.out.stepNil hvi)
        go_wp2_with fail
        go_big_quiet (fail)
        go_wp2_with fail
        go_loopg [7] 0 (fun q x wq => x = .int .i64 0 ∧ ∃ nq, wq = wr.drewN nq)
        case atStart => exact ⟨rfl, _, rfl⟩
        case round =>
          obtain ⟨rfl, nq, rfl⟩ := hrel
          go_wp2
          go_roundg (m - (i + 1))
          all_goals first
            | (have := HQ.out; omega)
            | exact ⟨i + 1, by have := HQ.out; omega, by go_num, HNil.out.keepN ((Keep.refl _ _).drewN _)⟩
      · subst hv
        have hn0 : (n : Int) ≤ cap := by omega
        have hcc : (cap : Int) ≤ 9223372036854775807 := by omega
        go_wp2_with fail
        go_big_quiet (fail)
        go_wp2_with fail
        have HRow0 : Hid (∀ nq, SlotRow (wr.drewN nq) gr (List.replicate 0 (Slot.mk_ i))) := fun nq a b h => by simp at h
        go_loopg [7] cap (fun q x wq0 => ∃ (j : Nat) (wq : World), wq = wq0 ∧ q + j = cap ∧ x = .int .i64 j ∧ Hid (Keep (fun k => k = gr) wr wq) ∧ SlotRow wq gr (List.replicate j (Slot.mk_ i)) ∧ BlkSlot wq gr (cap * 3))
        case atStart => exact ⟨0, _, rfl, rfl, rfl, (Keep.refl (fun k => k = gr) wr).drewN _, HRow0.out _, hblk.keep ((Keep.refl (fun _ => False) wr).drewN _) (fun h => h)⟩
        case round =>
          obtain ⟨j, wq, rfl, hqj, rfl, HKw, hrow, hblk2⟩ := hrel
          have HQj := Lib.hid hqj
          have HRow := Lib.hid hrow
          have HBlk := Lib.hid hblk2
          have hjc : j ≤ cap := by omega
          clear hqj hrow hblk2
          by_cases hj : j < cap
          · have hjj : (j : Int) < cap := by omega
            have hj0 : (0 : Int) ≤ j := by omega
            go_wp2_with fail
            refine (mark_any i j wq ⟨by omega, by omega⟩).mono ?_
            rintro e wz ⟨rfl, hBel⟩
            have hkz : Keep (fun _ => False) wq wz := Keep.of_below hBel (fun i hi h => by omega)
            have hbz : BlkSlot wz gr (cap * 3) := HBlk.out.keep hkz (fun h => h)
            have hrz : SlotRow wz gr (List.replicate j (Slot.mk_ i)) := HRow.out.keep (fun x => hkz.cell (p := ⟨gr, x, none⟩) HBlk.out.lt (fun h => h))
            obtain ⟨⟨v0, q0⟩, f0⟩ := hbz.cell (j := j * 3 + 0) (by omega); obtain ⟨⟨v1, q1⟩, f1⟩ := hbz.cell (j := j * 3 + 1) (by omega); obtain ⟨⟨v2, q2⟩, f2⟩ := hbz.cell (j := j * 3 + 2) (by omega)
            rw [Nat.add_zero] at q0 f0
            have hpush := hrz.push hbz (Slot.mk_ i) (k := j) (by simp) (by omega)
            have hblk' := (((hbz.setCell ⟨gr, j * 3, none⟩ (.string ByteArray.empty)).setCell ⟨gr, j * 3 + 1, none⟩ (.int .i64 (-1 - (i : Int)))).setCell ⟨gr, j * 3 + 2, none⟩ (.int .i64 0))
            have hkk : Keep (fun k => k = gr) wr (((wz.setCell ⟨gr, j * 3, none⟩ (.string ByteArray.empty)).setCell ⟨gr, j * 3 + 1, none⟩ (.int .i64 (-1 - (i : Int)))).setCell ⟨gr, j * 3 + 2, none⟩ (.int .i64 0)) := (((HKw.out.trans (hkz.mono (T := fun k => k = gr) (fun _ _ h => h.elim)) (fun _ _ h => h)).setCell (fun _ => rfl) _).setCell (fun _ => rfl) _).setCell (fun _ => rfl) _
            have HP := Lib.hid hpush
            have HBk := Lib.hid hblk'
            have HKk := Lib.hid hkk
            clear hpush hblk' hkk hrz hbz hkz hBel
            go_wp2_with fail
            go_roundg (cap - (j + 1))
            all_goals first
              | (have := HQj.out; omega)
              | exact ⟨j + 1, _, rfl, by have := HQj.out; omega, by go_num, HKk, by rw [List.replicate_succ']; exact HP.out, HBk.out⟩
          · have hjj : ¬ (j : Int) < cap := by omega
            have hje : j = cap := by omega
            have HStep : Hid (MarkSt w wq B pb (.slice (some ⟨g, o, none⟩) m cL) vW held vs (i + 1)) := HMr.out.step HFar.out hvi HKw.out (by have := HRow.out; rwa [hje] at this) HBlk.out
            clear hje
            go_wp2_with fail
            go_roundg (m - (i + 1))
            all_goals first
              | (have := HQ.out; omega)
              | exact ⟨i + 1, by have := HQ.out; omega, by go_num, HStep⟩
    · have hii : ¬ (i : Int) < m := by omega
      have hie : i = m := by omega
      have HMm : Hid (MarkSt w wr B pb (.slice AL m cL) vW held vs m) := by rw [hie] at HMr; exact HMr
      clear hie
      go_wp2_with fail
      go_loopg [8] m (fun q x wq => ∃ i2 : Nat, q + i2 = m ∧ x = .int .i64 i2 ∧ Hid (MarkSt w wq B pb (.slice AL m cL) vW held vs m))
      case atStart => exact ⟨0, rfl, rfl, HMm⟩
      case round =>
        obtain ⟨i2, hqi2, rfl, HMr2⟩ := hrel
        have HQ2 := Lib.hid hqi2
        have him2 : i2 ≤ m := by omega
        clear HMr HMm b0 hii
        have hv2 := HMr2.out.var
        have b0 : wr.cell? ⟨pb, 0, none⟩ = some (.slice AL m cL) := cell_of_row _ _ _ _ _ _ hv2
        have b0f : wr.frozen? ⟨pb, 0, none⟩ = false := by simp [World.frozen?, hv2]
        have b1 : wr.cell? ⟨pb, 1, none⟩ = some vW := cell_of_row _ _ _ _ _ _ hv2
        have b1f : wr.frozen? ⟨pb, 1, none⟩ = false := by simp [World.frozen?, hv2]
        have b2 : wr.cell? ⟨pb, 2, none⟩ = some (.int .i64 held) := cell_of_row _ _ _ _ _ _ hv2
        have b2f : wr.frozen? ⟨pb, 2, none⟩ = false := by simp [World.frozen?, hv2]
        clear hv2
        by_cases hi2 : i2 < m
        · obtain ⟨v, g, o, hvi, hA, hc, hg, hty⟩ := HCell.out wr i2 m HMr2.out hi2
          subst hA
          have hii : (i2 : Int) < m := by omega
          have hi0 : (0 : Int) ≤ i2 := by omega
          clear hqi2
          rcases HMr2.out.rows i2 v hvi with hv | ⟨gr, n, cap, hv, hnc, hcap, hblk, _⟩
          · subst hv
            go_wp2_with fail
            go_big_quiet (fail)
            go_wp2_with fail
            go_loopg [10] 0 (fun q x wq => x = .int .i64 0 ∧ ∃ nq, wq = wr.drewN nq)
            case atStart => exact ⟨rfl, _, rfl⟩
            case round =>
              obtain ⟨rfl, nq, rfl⟩ := hrel
              go_wp2
              go_roundg (m - (i2 + 1))
              all_goals first
                | (have := HQ2.out; omega)
                | exact ⟨i2 + 1, by have := HQ2.out; omega, by go_num, HMr2.out.keepN ((Keep.refl _ _).drewN _)⟩
          · subst hv
            have hn0 : (n : Int) ≤ cap := by omega
            have hcc : (cap : Int) ≤ 9223372036854775807 := by omega
            have HSR : Hid (SlotRow wr gr (List.replicate cap (Slot.mk_ i2))) := by
              rcases HMr2.out.done i2 _ hi2 hvi with h | ⟨g', n', cap', h, h1⟩
              · simp at h
              · simp only [Value.slice.injEq, Option.some.injEq, Addr.mk.injEq, and_true, true_and] at h
                obtain ⟨rfl, rfl, rfl⟩ := h
                exact Lib.hid h1
            have HBlt : Hid (gr < wr.heap.size) := Lib.hid hblk.lt
            clear hblk
            go_wp2_with fail
            go_big_quiet (fail)
            go_wp2_with fail
            go_loopg [10] cap (fun q x wq0 => ∃ (j : Nat) (wq : World), wq = wq0 ∧ q + j = cap ∧ x = .int .i64 j ∧ Hid (Keep (fun _ => False) wr wq))
            case atStart => exact ⟨0, _, rfl, rfl, rfl, (Keep.refl (fun _ => False) wr).drewN _⟩
            case round =>
              obtain ⟨j, wq, rfl, hqj, rfl, HKw⟩ := hrel
              have HQj := Lib.hid hqj
              have hjc : j ≤ cap := by omega
              clear hqj
              by_cases hj : j < cap
              · have hjj : (j : Int) < cap := by omega
                have hj0 : (0 : Int) ≤ j := by omega
                have HCz : Hid (∀ wz, Keep (fun _ => False) wr wz → wz.cell? ⟨gr, j * 3, none⟩ = some (.string ByteArray.empty) ∧ wz.cell? ⟨gr, j * 3 + 1, none⟩ = some (.int .i64 (-1 - (i2 : Int))) ∧ wz.cell? ⟨gr, j * 3 + 2, none⟩ = some (.int .i64 0)) := fun wz hk => by
                  obtain ⟨h0, h1, h2⟩ := HSR.out j (Slot.mk_ i2) (by rw [List.getElem?_replicate, if_pos hj])
                  exact ⟨(hk.cell (p := ⟨gr, j * 3, none⟩) HBlt.out (fun h => h)).trans h0, (hk.cell (p := ⟨gr, j * 3 + 1, none⟩) HBlt.out (fun h => h)).trans h1, (hk.cell (p := ⟨gr, j * 3 + 2, none⟩) HBlt.out (fun h => h)).trans h2⟩
                have HKz : Hid (∀ wz, Below wq.drew.heap.size wq.drew wz → Keep (fun _ => False) wr wz) := fun wz hb => HKw.out.drew.trans (Keep.of_below (S := fun _ => False) hb (fun i hi h => by omega)) (fun _ _ h => h)
                obtain ⟨c0, c1, c2⟩ := HCz.out wq HKw.out
                go_upto_region 18 with fail
                go_region_with ((refine (mark_any i2 j wq.drew ⟨by omega, by omega⟩).mono ?_; rintro e wz ⟨rfl, hBel⟩; obtain ⟨z0, z1, z2⟩ := HCz.out wz (HKz.out wz hBel); have HKzz := Lib.hid (HKz.out wz hBel); clear hBel))
                all_goals (try go_wp2_with fail)
                all_goals go_roundg (cap - (j + 1))
                all_goals first
                  | (have := HQj.out; omega)
                  | exact ⟨j + 1, _, rfl, by have := HQj.out; omega, by go_num, HKzz⟩
              · have hjj : ¬ (j : Int) < cap := by omega
                go_wp2_with fail
                go_roundg (m - (i2 + 1))
                all_goals first
                  | (have := HQ2.out; omega)
                  | exact ⟨i2 + 1, by have := HQ2.out; omega, by go_num, HMr2.out.keepN HKw.out⟩
        · have hii : ¬ (i2 : Int) < m := by omega
          have HBel : Hid (∀ (w4 : World) j u, Hid (Below pb w w4) → Below pb w (w4.setCell ⟨pb, j, none⟩ u)) := Lib.hid fun w4 j u h => h.out.setCell (p := ⟨pb, j, none⟩) (Nat.le_refl _) _
          go_wp2
          go_ret
          exact ⟨rfl, HBel.out _ _ _ (Lib.hid (HBel.out _ _ _ (Lib.hid (HBel.out _ _ _ (Lib.hid HMr2.out.bel)))))⟩
end Go.Proofs.Ytgilejknjdbneaa
