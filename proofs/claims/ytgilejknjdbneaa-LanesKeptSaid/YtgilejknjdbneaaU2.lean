/- The contract of lanes.At. -/
import Derived.Test.YtgilejknjdbneaaU1
namespace Go.Proofs.Ytgilejknjdbneaa
open Go.RowKit Go.IntWalk

theorem drop_at' {α : Type} {l : List α} {k : Nat} {x : α} (h : l[k]? = some x) : l.drop k = x :: l.drop (k + 1) := by
  obtain ⟨h1, h2⟩ := List.getElem?_eq_some_iff.1 h
  rw [List.drop_eq_getElem_cons h1, h2]

/-- The slice value at A reads as these stints. -/
def StintsAt (w : World) (A : Option Addr) (xs : List Stint) : Prop :=
  0 < xs.length → ∃ b off, A = some ⟨b, off, none⟩ ∧ b < w.heap.size ∧ ∀ i s, xs[i]? = some s →
    w.cell? ⟨b, off + i * 2, none⟩ = some (.int .i64 s.subj) ∧ w.cell? ⟨b, off + i * 2 + 1, none⟩ = some (.int .i64 s.ticks)

theorem StintsAt.below {w w' : World} {A : Option Addr} {xs : List Stint} {B : Nat} (h : StintsAt w A xs) (hb : Below B w w') (hB : w.heap.size ≤ B) : StintsAt w' A xs := by
  intro hn
  obtain ⟨b, off, e, hlt, hc⟩ := h hn
  refine ⟨b, off, e, Nat.lt_of_lt_of_le hlt hb.size, fun i r hr => ?_⟩
  obtain ⟨c0, c1⟩ := hc i r hr
  have hk : ∀ o, w'.cell? ⟨b, o, none⟩ = w.cell? ⟨b, o, none⟩ := fun o => hb.cell (p := ⟨b, o, none⟩) (by simp; omega)
  exact ⟨(hk _).trans c0, (hk _).trans c1⟩

theorem AtVars.keep {S : Nat → Prop} {w w' : World} {B : Nat} {M o e who left : Int} (h : AtVars w B M o e who left) (hk : Keep S w w') (hS : ∀ i, i < B + 5 → ¬ S i) : AtVars w' B M o e who left :=
  ⟨h.M.keep hk (hS _ (by omega)), h.o.keep hk (hS _ (by omega)), h.who.keep hk (hS _ (by omega)), h.left.keep hk (hS _ (by omega)), h.e.keep hk (hS _ (by omega))⟩

/-- The five variables of At. -/
theorem atVars_new (w : World) (M o : Int) : AtVars ((((((w.alloc (.cells #[.int .i64 M] 3)).alloc (.cells #[.int .i64 o] 3)).alloc (.cells #[.int .i64 (-1)] 3)).alloc (.cells #[.int .i64 0] 3)).alloc (.cells #[.int .i64 0] 3))) w.heap.size M o 0 (-1) 0 := by
  have hn : ∀ (w : World) (v : Value) (b : Nat), w.heap.size = b → Var (w.alloc (.cells #[v] 3)) b 3 v := fun w v b h => by subst h; exact heap_alloc_new w _
  have hl : ∀ (w : World) (v u : Value) (b : Nat), Var w b 3 v → Var (w.alloc (.cells #[u] 3)) b 3 v := fun w v u b h => (Below.heap_alloc w _ b h.lt).trans h
  exact ⟨hl _ _ _ _ (hl _ _ _ _ (hl _ _ _ _ (hl _ _ _ _ (hn _ _ _ rfl)))), hl _ _ _ _ (hl _ _ _ _ (hl _ _ _ _ (hn _ _ _ (by simp)))), hl _ _ _ _ (hl _ _ _ _ (hn _ _ _ (by simp))), hl _ _ _ _ (hn _ _ _ (by simp)), hn _ _ _ (by simp)⟩

set_option maxHeartbeats 1000000 in
theorem at_in (A : Option Addr) (c : Nat) (l : List Stint) (M o : Int) (w : World) (hl : l.length ≤ 10000000000000) (hM : M ≤ 9223372036854775807) (ho : 0 ≤ o) (hoM : o < M)
    (hx : ∀ s ∈ l, (-9223372036854775808 ≤ s.subj ∧ s.subj ≤ 9223372036854775807) ∧ s.ticks ≤ 9223372036854775807) (hr : StintsAt w A l) :
    Calls Try.prog 25 #[.slice A l.length c, .int .i64 M, .int .i64 o] w fun e w' => e = .returned (.tuple #[.int .i64 (Ln.atGo M o 0 (-1) 0 l).1, .int .i64 (Ln.atGo M o 0 (-1) 0 l).2]) ∧ Below w.heap.size w w' := by
  obtain ⟨R, hR⟩ : ∃ R, R = Ln.atGo M o 0 (-1) 0 l := ⟨_, rfl⟩
  rw [← hR]
  have HR := Lib.hid hR
  clear hR
  go_enter Try.func25, Try.ntmps25
  go_wp2
  rw [show w.heap.size + 1 + 1 + 1 + 1 = w.heap.size + 4 from rfl, show w.heap.size + 1 + 1 + 1 = w.heap.size + 3 from rfl, show w.heap.size + 1 + 1 = w.heap.size + 2 from rfl]
  have hv0 := atVars_new w M o
  obtain ⟨W, hW⟩ : ∃ W, W = (((((w.alloc (.cells #[.int .i64 M] 3)).alloc (.cells #[.int .i64 o] 3)).alloc (.cells #[.int .i64 (-1)] 3)).alloc (.cells #[.int .i64 0] 3)).alloc (.cells #[.int .i64 0] 3)) := ⟨_, rfl⟩
  rw [← hW] at hv0 ⊢
  have hB : Below w.heap.size w W := by subst hW; exact (((((Below.refl _ _).alloc (Nat.le_refl _) _).alloc (by simp) _).alloc (by simp; omega) _).alloc (by simp; omega) _).alloc (by simp; omega) _
  have hWs : w.heap.size + 5 = W.heap.size := by subst hW; simp
  clear hW
  have HS := Lib.hid hWs
  have HB := Lib.hid hB
  clear hWs hB
  go_loopw [24] (fun i wr => ∃ (k : Nat) (e who left : Int), k ≤ l.length ∧ i = .int .i64 k ∧ AtVars wr w.heap.size M o e who left ∧ Ln.AtInv M o e left ∧ Ln.atGo M o e who left (l.drop k) = R ∧ Below w.heap.size w wr ∧ w.heap.size + 5 ≤ wr.heap.size) (fun i _ => l.length - (intOf i).toNat)
  case atStart => exact ⟨0, 0, -1, 0, by omega, rfl, hv0, ⟨by omega, by omega, by omega, by omega, by omega, by omega⟩, HR.out.symm, HB.out, by have := HS.out; omega⟩
  case round =>
    obtain ⟨k, e, who, left, hk, rfl, hv, hinv, hres, hbw, hsz⟩ := hrel
    have Hres := Lib.hid hres
    clear hres
    obtain ⟨i1, i2, i3, i4, i5, i6⟩ := id hinv
    have v1 := hv.who.cell
    have v2 := hv.left.cell
    have v3 := hv.M.cell
    by_cases hlt : k < l.length
    · obtain ⟨b, off, rfl, hbl, hcs⟩ := hr (by omega)
      obtain ⟨s, hs⟩ : ∃ s, l[k]? = some s := ⟨l[k], List.getElem?_eq_getElem hlt⟩
      obtain ⟨q0, q1⟩ := hcs k s hs
      rw [← hbw.cell (p := ⟨b, _, none⟩) (by exact hbl)] at q0 q1
      obtain ⟨x1, x2⟩ := hx s (List.mem_of_getElem? hs)
      have hd := drop_at' hs
      have hz : R = if s.ticks ≤ 0 then Ln.atGo M o e who left (l.drop (k + 1)) else (if (Ln.take M o e who left s.subj s.ticks).1 then Ln.atGo M o (Ln.take M o e who left s.subj s.ticks).2.1 (Ln.take M o e who left s.subj s.ticks).2.2.1 (Ln.take M o e who left s.subj s.ticks).2.2.2 (l.drop (k + 1)) else ((Ln.take M o e who left s.subj s.ticks).2.2.1, (Ln.take M o e who left s.subj s.ticks).2.2.2)) := by
        rw [← Hres.out, hd]; rfl
      have HZ := Lib.hid hz
      clear hz hd hs hcs hr
      have hlt1 : b < wr.heap.size := by omega
      by_cases ht : s.ticks ≤ 0
      · go_wp2
        go_roundw
        case rel => exact ⟨k + 1, e, who, left, by omega, by go_num, hv.keep ((Keep.refl (fun _ => False) _).alloc _) (by simp), hinv, by rw [HZ.out, if_pos ht], hbw.alloc (by omega) _, by simp; omega⟩
        case measure => simp [intOf]; omega
      · obtain ⟨T, hT⟩ : ∃ T, T = Ln.take M o e who left s.subj s.ticks := ⟨_, rfl⟩
        rw [← hT] at HZ
        have hT1 := Ln.take_inv (who := who) (s := s.subj) (t := s.ticks) hinv ho (by omega)
        rw [← hT] at hT1
        have HT := Lib.hid hT
        have HT1 := Lib.hid hT1
        clear hT hT1
        go_wp2_with fail
        refine (take_any _ w.heap.size M o e who left s.subj s.ticks (hv.keep ((Keep.refl (fun _ => False) _).alloc _) (by simp)) hM ho hoM i1 i2 i3 i4 ⟨by omega, x2⟩ x1).mono ?_
        rw [← HT.out]
        rintro en w1 ⟨rfl, hv1, hk1⟩
        have hbw1 : Below w.heap.size w w1 := (hbw.alloc (by omega) _).trans (hk1.below (by simp; omega) (by simp))
        have hsz1 := hk1.size
        simp at hsz1
        cases hT1 : T.1
        · have HTf := Lib.hid hT1
          clear hT1 hk1
          have y1 := hv1.who.cell
          have y2 := hv1.left.cell
          go_wp2
          go_big_quiet (fail)
          go_wp2
          go_ret2
          rw [HZ.out, if_neg (by omega), if_neg (by rw [HTf.out]; simp)]
          exact ⟨rfl, below_drewN hbw1 _⟩
        · have HTt := Lib.hid hT1
          clear hT1 hk1
          go_wp2
          go_roundw
          case rel => exact ⟨k + 1, T.2.1, T.2.2.1, T.2.2.2, by omega, by go_num, hv1, HT1.out HTt.out, by rw [HZ.out, if_neg (by omega), if_pos HTt.out], hbw1, by omega⟩
          case measure => simp [intOf]; omega
    · have hk' : k = l.length := by omega
      have hz : R = ((Ln.take M o e who left (-1) M).2.2.1, (Ln.take M o e who left (-1) M).2.2.2) := by
        rw [← Hres.out, hk', List.drop_length]; rfl
      have HZ := Lib.hid hz
      clear hz hk'
      go_wp2_with fail
      refine (take_any _ w.heap.size M o e who left (-1) M hv hM ho hoM i1 i2 i3 i4 ⟨by omega, hM⟩ (by omega)).mono ?_
      rintro en w1 ⟨rfl, hv1, hk1⟩
      have hbw1 : Below w.heap.size w w1 := hbw.trans (hk1.below (by omega) (by simp))
      have y1 := hv1.who.cell
      have y2 := hv1.left.cell
      clear hk1
      go_wp2
      go_big_quiet (fail)
      go_wp2
      go_ret2
      rw [HZ.out]
      exact ⟨rfl, below_drewN hbw1 _⟩

set_option maxHeartbeats 400000 in
theorem at_out (A : Option Addr) (n c : Nat) (M o : Int) (w : World) (ho : o < 0 ∨ M ≤ o) :
    Calls Try.prog 25 #[.slice A n c, .int .i64 M, .int .i64 o] w fun e w' => e = .returned (.tuple #[.int .i64 (-1), .int .i64 0]) ∧ Below w.heap.size w w' := by
  by_cases h : o < 0
  · clear ho
    go_enter Try.func25, Try.ntmps25
    go_wp2
    go_ret2
    exact ⟨rfl, ((Below.refl _ _).alloc (Nat.le_refl _) _).alloc (by simp) _⟩
  · have h2 : M ≤ o := by omega
    clear ho
    go_enter Try.func25, Try.ntmps25
    go_wp2
    go_ret2
    exact ⟨rfl, ((Below.refl _ _).alloc (Nat.le_refl _) _).alloc (by simp) _⟩

theorem at_any (A : Option Addr) (c : Nat) (l : List Stint) (M o : Int) (w : World) (hl : l.length ≤ 10000000000000) (hM : M ≤ 9223372036854775807)
    (hx : ∀ s ∈ l, (-9223372036854775808 ≤ s.subj ∧ s.subj ≤ 9223372036854775807) ∧ s.ticks ≤ 9223372036854775807) (hr : StintsAt w A l) :
    Calls Try.prog 25 #[.slice A l.length c, .int .i64 M, .int .i64 o] w fun e w' => e = .returned (.tuple #[.int .i64 (Ln.at_ l M o).1, .int .i64 (Ln.at_ l M o).2]) ∧ Below w.heap.size w w' := by
  unfold Ln.at_
  by_cases h : o < 0 ∨ M ≤ o
  · rw [if_pos h]; exact at_out A _ c M o w h
  · rw [if_neg h]; exact at_in A c l M o w hl hM (by omega) (by omega) hx hr

end Go.Proofs.Ytgilejknjdbneaa
