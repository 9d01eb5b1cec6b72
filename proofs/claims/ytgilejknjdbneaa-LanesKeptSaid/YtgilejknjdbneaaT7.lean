/- Contracts of sort.Search and lanes.Sched. -/
import Derived.Test.YtgilejknjdbneaaT6
import Derived.Test.YtgilejknjdbneaaPlain2
namespace Go.Proofs.Ytgilejknjdbneaa
open Go.RowKit Go.IntWalk

/-- The closure that Sched hands to Search: o < slots[i].To. -/
theorem sched1_any (po ps b off n c k : Nat) (o to : Int) (w : World) (ho : Var w po 3 (.int .i64 o)) (hs : Var w ps 22 (.slice (some ⟨b, off, none⟩) n c))
    (hk : k < n) (hn : n ≤ 10000000000000) (hc : w.cell? ⟨b, off + k * 3 + 2, none⟩ = some (.int .i64 to)) :
    Calls Try.prog 46 #[.int .i64 k, .pointer (some ⟨po, 0, none⟩), .pointer (some ⟨ps, 0, none⟩)] w fun e w' => e = .returned (.bool (decide (o < to))) ∧ ∃ n, w' = w.drewN n := by
  have c1 := ho.cell
  have c2 := hs.cell
  have hk' : (k : Int) < n := by omega
  clear ho hs
  go_enter Try.func46, Try.ntmps46
  go_wp2
  go_big_quiet (fail)
  go_wp2
  go_ret
  exact ⟨rfl, nq, rfl⟩

set_option maxHeartbeats 400000 in
/-- sort.Search over a test that turns once. -/
theorem search_any (n : Nat) (f : FuncId) (C : Array Value) (p : Nat → Bool) (w : World) (hn : n ≤ 10000000000000)
    (hf : Hid (∀ (k nq : Nat), k < n → Calls Try.prog 46 (#[.int .i64 k] ++ C) (w.drewN nq) fun e w' => e = .returned (.bool (p k)) ∧ ∃ m, w' = (w.drewN nq).drewN m))
    (hp : Hid (∀ a b, a ≤ b → b < n → p a = true → p b = true)) :
    Calls Try.prog 45 #[.int .i64 n, .func (.func 46) #[] C] w fun e w' => (∃ k : Nat, k ≤ n ∧ e = .returned (.int .i64 k) ∧ (∀ j, j < k → p j = false) ∧ (k < n → p k = true)) ∧ ∃ m, w' = w.drewN m := by
  go_enter Try.func45, Try.ntmps45
  go_wp2
  go_loopw [5, 6] (fun x y wr => ∃ i j nq : Nat, x = .int .i64 i ∧ y = .int .i64 j ∧ i ≤ j ∧ j ≤ n ∧ (∀ a, a < i → p a = false) ∧ (j < n → p j = true) ∧ wr = w.drewN nq) (fun x y _ => (intOf y).toNat - (intOf x).toNat)
  case atStart => exact ⟨0, n, 0, rfl, rfl, by omega, by omega, by omega, by omega, rfl⟩
  case round =>
    obtain ⟨i, j, nq, rfl, rfl, hij, hjn, h1, h2, rfl⟩ := hrel
    have H1 := Lib.hid h1
    have H2 := Lib.hid h2
    clear h1 h2
    by_cases hlt : i < j
    · go_wp2_with fail
      obtain ⟨h, hh, hh1, hh2⟩ : ∃ h : Nat, (((i : Int) + (j : Int)) / 2) = (h : Int) ∧ i ≤ h ∧ h < j := ⟨(i + j) / 2, by omega, by omega, by omega⟩
      rw [hh]
      clear hh
      refine (hf.out h nq (by omega)).mono ?_
      rintro e w' ⟨rfl, m, rfl⟩
      cases hph : p h
      · have Hph := Lib.hid hph
        clear hph
        go_wp2
        go_roundw
        case rel =>
          refine ⟨h + 1, j, nq + m, by go_num, rfl, by omega, hjn, fun a ha => ?_, H2.out, rfl⟩
          cases hpa : p a
          · rfl
          · have := hp.out a h (by omega) (by omega) hpa
            rw [Hph.out] at this
            exact absurd this (by simp)
        case measure => simp [intOf]; omega
      · have Hph := Lib.hid hph
        clear hph
        go_wp2
        go_roundw
        case rel => exact ⟨i, h, nq + m, rfl, rfl, by omega, by omega, H1.out, fun _ => Hph.out, rfl⟩
        case measure => simp [intOf]; omega
    · go_wp2
      go_ret
      have he : i = j := by omega
      subst he
      exact ⟨⟨i, by omega, rfl, H1.out, H2.out⟩, nq, rfl⟩

set_option maxHeartbeats 400000 in
theorem sched_none (A : Option Addr) (c : Nat) (l : List Slot) (o : Int) (w : World) (hl : l.length ≤ 10000000000000) (hr : SlotsAt w A l) (h0 : Ln.lenFrom 0 none l = 0) :
    Calls Try.prog 17 #[.slice A l.length c, .int .i64 o] w fun e w' => e = .returned (.tuple #[.string ByteArray.empty, .int .i64 0]) ∧ Below w.heap.size w w' := by
  obtain ⟨W, hW⟩ : ∃ W, W = (w.alloc (.cells #[.slice A l.length c] 22)).alloc (.cells #[.int .i64 o] 3) := ⟨_, rfl⟩
  have hB : Below w.heap.size w W := by subst hW; exact ((Below.refl _ _).alloc (Nat.le_refl _) _).alloc (by simp) _
  have hR : SlotsAt W A l := hr.below hB (Nat.le_refl _)
  have H0 := Lib.hid h0
  have HB := Lib.hid hB
  have HW := Lib.hid hW
  clear h0 hB
  go_enter Try.func17, Try.ntmps17
  go_wp2_with fail
  rw [← hW]
  clear hW
  refine (length_any A c l W (by omega) hR).mono ?_
  rw [H0.out]
  rintro e w1 ⟨rfl, hb⟩
  go_wp2
  go_ret2
  exact ⟨rfl, HB.out.trans (hb.mono HB.out.size)⟩

set_option maxHeartbeats 400000 in
theorem sched_pos (A : Option Addr) (c : Nat) (l : List Slot) (o : Int) (w : World) (hl : l.length ≤ 10000000000000) (ho : 0 ≤ o ∧ o ≤ 9223372036854775807) (hb : ∀ s ∈ l, s.to ≤ 9223372036854775807) (hr : SlotsAt w A l) (h0 : Ln.lenFrom 0 none l ≠ 0) :
    Calls Try.prog 17 #[.slice A l.length c, .int .i64 o] w fun e w' => e = .returned (.tuple #[.string (Ln.schedOf l ((max o 0) % Ln.lenFrom 0 none l)).1, .int .i64 (Ln.schedOf l ((max o 0) % Ln.lenFrom 0 none l)).2]) ∧ Below w.heap.size w w' := by
  obtain ⟨hch, hlast⟩ := Ln.lenFrom_chain h0
  obtain ⟨M, hM⟩ : ∃ M, M = Ln.lenFrom 0 none l := ⟨_, rfl⟩
  rw [← hM] at h0 hlast ⊢
  have hM0 : 0 < M := by have := hch.last; omega
  have hne : 0 < l.length := by
    cases l with
    | nil => simp [Ln.lastTo] at hlast; omega
    | cons _ _ => simp
  have hmax : (max o 0) % M = o % M := by congr 1; omega
  rw [hmax]
  have hq0 : 0 ≤ o % M ∧ o % M < M := by rw [← hmax]; exact ⟨Int.emod_nonneg _ (by omega), Int.emod_lt_of_pos _ hM0⟩
  obtain ⟨lst, hlst⟩ : ∃ s, l[l.length - 1]? = some s := ⟨l[l.length - 1], List.getElem?_eq_getElem (by omega)⟩
  have hlto : lst.to = M := by rw [hch.last_at hlst, hlast]
  have hM1 : M ≤ 9223372036854775807 := by have := hb lst (List.mem_of_getElem? hlst); omega
  obtain ⟨b, off, rfl, hbl, hcs⟩ := hr hne
  obtain ⟨W, hW⟩ : ∃ W, W = (w.alloc (.cells #[.slice (some ⟨b, off, none⟩) l.length c] 22)).alloc (.cells #[.int .i64 o] 3) := ⟨_, rfl⟩
  have hB : Below w.heap.size w W := by subst hW; exact ((Below.refl _ _).alloc (Nat.le_refl _) _).alloc (by simp) _
  have hR : SlotsAt W (some ⟨b, off, none⟩) l := hr.below hB (Nat.le_refl _)
  have hv1 : Var W w.heap.size 22 (.slice (some ⟨b, off, none⟩) l.length c) := by subst hW; exact (Below.heap_alloc _ _ _ (by simp)).trans (heap_alloc_new _ _)
  have hv2 : Var W (w.heap.size + 1) 3 (.int .i64 o) := by subst hW; have := heap_alloc_new (w.alloc (.cells #[.slice (some ⟨b, off, none⟩) l.length c] 22)) (.cells #[.int .i64 o] 3); simpa [Var] using this
  have hWs : W.heap.size = w.heap.size + 2 := by subst hW; simp
  have HS := Lib.hid hWs
  have HB := Lib.hid hB
  have HW := Lib.hid hW
  have HM := Lib.hid hM
  have Hl := Lib.hid hlast
  have Ht := Lib.hid hlto
  have Hlst := Lib.hid hlst
  clear hB hWs hM hmax hlast hlto hlst
  go_enter Try.func17, Try.ntmps17
  go_wp2_with fail
  rw [← hW]
  clear hW
  refine (length_any (some ⟨b, off, none⟩) c l W (by omega) hR).mono ?_
  rw [← HM.out]
  rintro e w1 ⟨rfl, hb1⟩
  have hz1 := hb1.size
  have e1 : Var w1 w.heap.size 22 (.slice (some ⟨b, off, none⟩) l.length c) := (hb1.block _ hv1.lt).trans hv1
  have e2 : Var w1 (w.heap.size + 1) 3 (.int .i64 o) := (hb1.block _ hv2.lt).trans hv2
  have c1 := e1.cell
  have c2 := e2.cell
  have f2 := e2.frozen
  have hM' : (M == 0) = false := by simp; omega
  have hB1 : Below w.heap.size w w1 := HB.out.trans (hb1.mono HB.out.size)
  clear hb1
  go_wp2_with fail
  obtain ⟨w2, hw2⟩ : ∃ w2, w2 = w1.setCell ⟨w.heap.size + 1, 0, none⟩ (.int .i64 (o % M)) := ⟨_, rfl⟩
  rw [← hw2]
  have d1 : Var w2 w.heap.size 22 (.slice (some ⟨b, off, none⟩) l.length c) := by subst hw2; exact (Below.heap_setCell _ _ _ _ (by simp)).trans e1
  have d2 : Var w2 (w.heap.size + 1) 3 (.int .i64 (o % M)) := by subst hw2; exact e2.set_ _
  have hB2 : Below w.heap.size w w2 := by subst hw2; exact hB1.setCell (by simp) _
  have HB2 := Lib.hid hB2
  have hcell2 : ∀ i s, l[i]? = some s → w2.cell? ⟨b, off + i * 3, none⟩ = some (.string s.subj) ∧ w2.cell? ⟨b, off + i * 3 + 2, none⟩ = some (.int .i64 s.to) := fun i s hs => by
    obtain ⟨x0, _, x2⟩ := hcs i s hs
    exact ⟨(hB2.cell (p := ⟨b, _, none⟩) hbl).trans x0, (hB2.cell (p := ⟨b, _, none⟩) hbl).trans x2⟩
  have Hcell := Lib.hid hcell2
  clear hw2 c1 c2 f2 e1 e2 hB1 hv1 hv2 hcs hcell2 hB2 hz1 hr hR
  refine (search_any l.length 45 _ (fun i => decide (o % M < (l[i]?.getD ⟨.empty, 0, 0⟩).to)) w2 hl ?hf ?hp).mono ?_
  case hf =>
    intro k nq hk
    obtain ⟨s, hs⟩ : ∃ s, l[k]? = some s := ⟨l[k], List.getElem?_eq_getElem hk⟩
    have := sched1_any (w.heap.size + 1) w.heap.size b off l.length c k (o % M) s.to (w2.drewN nq) d2 d1 hk hl (Hcell.out k s hs).2
    rw [hs]
    exact this
  case hp =>
    intro a b' hab hb' h
    obtain ⟨s, hs⟩ : ∃ s, l[a]? = some s := ⟨l[a], List.getElem?_eq_getElem (by omega)⟩
    obtain ⟨t, ht⟩ : ∃ s, l[b']? = some s := ⟨l[b'], List.getElem?_eq_getElem hb'⟩
    simp only [hs, ht, Option.getD_some, decide_eq_true_eq] at h ⊢
    rcases Nat.lt_or_ge a b' with hlt | hge
    · have := hch.mono hlt hs ht
      have := hch.at_ ht
      omega
    · have : a = b' := by omega
      subst this
      rw [hs] at ht
      injection ht with ht
      subst ht
      exact h
  rintro e w3 ⟨⟨k, hk, rfl, hbef, hat⟩, m, rfl⟩
  have hkl : k < l.length := by
    rcases Nat.lt_or_ge k l.length with h | h
    · exact h
    · exfalso
      have := hbef (l.length - 1) (by omega)
      simp only [Hlst.out, Option.getD_some, decide_eq_false_iff_not] at this
      have := Ht.out
      omega
  obtain ⟨s, hs⟩ : ∃ s, l[k]? = some s := ⟨l[k], List.getElem?_eq_getElem hkl⟩
  have hps := hat hkl
  simp only [hs, Option.getD_some, decide_eq_true_eq] at hps
  have hres : Ln.schedOf l (o % M) = (s.subj, s.to - (o % M)) := by
    unfold Ln.schedOf
    rw [Ln.find_at (k := k) (y := s) (fun j x hj hx => by have := hbef j hj; simpa [hx] using this) hs (by simpa using hps)]
  obtain ⟨x0, x2⟩ := Hcell.out k s hs
  have hto := hb s (List.mem_of_getElem? hs)
  have y1 := d1.cell
  have y2 := d2.cell
  have hkl' : (k : Int) < l.length := by omega
  have Hres := Lib.hid hres
  have hsub : IntKind.i64.wrap (s.to - (o % M)) = s.to - (o % M) := i64_in _ (by omega)
  clear hres hbef hat d1 d2 hs
  go_wp2
  go_big_quiet (fail)
  go_wp2
  go_ret2
  rw [Hres.out]
  first | exact ⟨rfl, below_drewN (below_drewN HB2.out _) _⟩ | exact ⟨by rw [Int.sub_zero]; rfl, below_drewN (below_drewN HB2.out _) _⟩

set_option maxHeartbeats 400000 in
theorem sched_neg (A : Option Addr) (c : Nat) (l : List Slot) (o : Int) (w : World) (hl : l.length ≤ 10000000000000) (ho : -9223372036854775808 ≤ o ∧ o < 0) (hb : ∀ s ∈ l, s.to ≤ 9223372036854775807) (hr : SlotsAt w A l) (h0 : Ln.lenFrom 0 none l ≠ 0) :
    Calls Try.prog 17 #[.slice A l.length c, .int .i64 o] w fun e w' => e = .returned (.tuple #[.string (Ln.schedOf l ((max o 0) % Ln.lenFrom 0 none l)).1, .int .i64 (Ln.schedOf l ((max o 0) % Ln.lenFrom 0 none l)).2]) ∧ Below w.heap.size w w' := by
  obtain ⟨hch, hlast⟩ := Ln.lenFrom_chain h0
  obtain ⟨M, hM⟩ : ∃ M, M = Ln.lenFrom 0 none l := ⟨_, rfl⟩
  rw [← hM] at h0 hlast ⊢
  have hM0 : 0 < M := by have := hch.last; omega
  have hne : 0 < l.length := by
    cases l with
    | nil => simp [Ln.lastTo] at hlast; omega
    | cons _ _ => simp
  have hmax : (max o 0) % M = 0 := by rw [show max o 0 = 0 by omega]; simp
  rw [hmax]
  have hq0 : (0 : Int) ≤ 0 ∧ 0 < M := ⟨Int.le_refl _, hM0⟩
  obtain ⟨lst, hlst⟩ : ∃ s, l[l.length - 1]? = some s := ⟨l[l.length - 1], List.getElem?_eq_getElem (by omega)⟩
  have hlto : lst.to = M := by rw [hch.last_at hlst, hlast]
  have hM1 : M ≤ 9223372036854775807 := by have := hb lst (List.mem_of_getElem? hlst); omega
  obtain ⟨b, off, rfl, hbl, hcs⟩ := hr hne
  obtain ⟨W, hW⟩ : ∃ W, W = (w.alloc (.cells #[.slice (some ⟨b, off, none⟩) l.length c] 22)).alloc (.cells #[.int .i64 o] 3) := ⟨_, rfl⟩
  have hB : Below w.heap.size w W := by subst hW; exact ((Below.refl _ _).alloc (Nat.le_refl _) _).alloc (by simp) _
  have hR : SlotsAt W (some ⟨b, off, none⟩) l := hr.below hB (Nat.le_refl _)
  have hv1 : Var W w.heap.size 22 (.slice (some ⟨b, off, none⟩) l.length c) := by subst hW; exact (Below.heap_alloc _ _ _ (by simp)).trans (heap_alloc_new _ _)
  have hv2 : Var W (w.heap.size + 1) 3 (.int .i64 o) := by subst hW; have := heap_alloc_new (w.alloc (.cells #[.slice (some ⟨b, off, none⟩) l.length c] 22)) (.cells #[.int .i64 o] 3); simpa [Var] using this
  have hWs : W.heap.size = w.heap.size + 2 := by subst hW; simp
  have HS := Lib.hid hWs
  have HB := Lib.hid hB
  have HW := Lib.hid hW
  have HM := Lib.hid hM
  have Hl := Lib.hid hlast
  have Ht := Lib.hid hlto
  have Hlst := Lib.hid hlst
  clear hB hWs hM hmax hlast hlto hlst
  go_enter Try.func17, Try.ntmps17
  go_wp2_with fail
  rw [← hW]
  clear hW
  refine (length_any (some ⟨b, off, none⟩) c l W (by omega) hR).mono ?_
  rw [← HM.out]
  rintro e w1 ⟨rfl, hb1⟩
  have hz1 := hb1.size
  have e1 : Var w1 w.heap.size 22 (.slice (some ⟨b, off, none⟩) l.length c) := (hb1.block _ hv1.lt).trans hv1
  have e2 : Var w1 (w.heap.size + 1) 3 (.int .i64 o) := (hb1.block _ hv2.lt).trans hv2
  have c1 := e1.cell
  have c2 := e2.cell
  have f2 := e2.frozen
  have hM' : (M == 0) = false := by simp; omega
  have hB1 : Below w.heap.size w w1 := HB.out.trans (hb1.mono HB.out.size)
  clear hb1
  go_wp2_with fail
  obtain ⟨w2, hw2⟩ : ∃ w2, w2 = w1.setCell ⟨w.heap.size + 1, 0, none⟩ (.int .i64 (0)) := ⟨_, rfl⟩
  rw [← hw2]
  have d1 : Var w2 w.heap.size 22 (.slice (some ⟨b, off, none⟩) l.length c) := by subst hw2; exact (Below.heap_setCell _ _ _ _ (by simp)).trans e1
  have d2 : Var w2 (w.heap.size + 1) 3 (.int .i64 (0)) := by subst hw2; exact e2.set_ _
  have hB2 : Below w.heap.size w w2 := by subst hw2; exact hB1.setCell (by simp) _
  have HB2 := Lib.hid hB2
  have hcell2 : ∀ i s, l[i]? = some s → w2.cell? ⟨b, off + i * 3, none⟩ = some (.string s.subj) ∧ w2.cell? ⟨b, off + i * 3 + 2, none⟩ = some (.int .i64 s.to) := fun i s hs => by
    obtain ⟨x0, _, x2⟩ := hcs i s hs
    exact ⟨(hB2.cell (p := ⟨b, _, none⟩) hbl).trans x0, (hB2.cell (p := ⟨b, _, none⟩) hbl).trans x2⟩
  have Hcell := Lib.hid hcell2
  clear hw2 c1 c2 f2 e1 e2 hB1 hv1 hv2 hcs hcell2 hB2 hz1 hr hR
  refine (search_any l.length 45 _ (fun i => decide (0 < (l[i]?.getD ⟨.empty, 0, 0⟩).to)) w2 hl ?hf ?hp).mono ?_
  case hf =>
    intro k nq hk
    obtain ⟨s, hs⟩ : ∃ s, l[k]? = some s := ⟨l[k], List.getElem?_eq_getElem hk⟩
    have := sched1_any (w.heap.size + 1) w.heap.size b off l.length c k (0) s.to (w2.drewN nq) d2 d1 hk hl (Hcell.out k s hs).2
    rw [hs]
    exact this
  case hp =>
    intro a b' hab hb' h
    obtain ⟨s, hs⟩ : ∃ s, l[a]? = some s := ⟨l[a], List.getElem?_eq_getElem (by omega)⟩
    obtain ⟨t, ht⟩ : ∃ s, l[b']? = some s := ⟨l[b'], List.getElem?_eq_getElem hb'⟩
    simp only [hs, ht, Option.getD_some, decide_eq_true_eq] at h ⊢
    rcases Nat.lt_or_ge a b' with hlt | hge
    · have := hch.mono hlt hs ht
      have := hch.at_ ht
      omega
    · have : a = b' := by omega
      subst this
      rw [hs] at ht
      injection ht with ht
      subst ht
      exact h
  rintro e w3 ⟨⟨k, hk, rfl, hbef, hat⟩, m, rfl⟩
  have hkl : k < l.length := by
    rcases Nat.lt_or_ge k l.length with h | h
    · exact h
    · exfalso
      have := hbef (l.length - 1) (by omega)
      simp only [Hlst.out, Option.getD_some, decide_eq_false_iff_not] at this
      have := Ht.out
      omega
  obtain ⟨s, hs⟩ : ∃ s, l[k]? = some s := ⟨l[k], List.getElem?_eq_getElem hkl⟩
  have hps := hat hkl
  simp only [hs, Option.getD_some, decide_eq_true_eq] at hps
  have hres : Ln.schedOf l (0) = (s.subj, s.to - (0)) := by
    unfold Ln.schedOf
    rw [Ln.find_at (k := k) (y := s) (fun j x hj hx => by have := hbef j hj; simpa [hx] using this) hs (by simpa using hps)]
  obtain ⟨x0, x2⟩ := Hcell.out k s hs
  have hto := hb s (List.mem_of_getElem? hs)
  have y1 := d1.cell
  have y2 := d2.cell
  have hkl' : (k : Int) < l.length := by omega
  have Hres := Lib.hid hres
  have hsub : IntKind.i64.wrap (s.to - (0)) = s.to - (0) := i64_in _ (by omega)
  clear hres hbef hat d1 d2 hs
  go_wp2
  go_big_quiet (fail)
  go_wp2
  go_ret2
  rw [Hres.out]
  first | exact ⟨rfl, below_drewN (below_drewN HB2.out _) _⟩ | exact ⟨by rw [Int.sub_zero]; rfl, below_drewN (below_drewN HB2.out _) _⟩

theorem sched_any (A : Option Addr) (c : Nat) (l : List Slot) (o : Int) (w : World) (hl : l.length ≤ 10000000000000) (ho : -9223372036854775808 ≤ o ∧ o ≤ 9223372036854775807) (hb : ∀ s ∈ l, s.to ≤ 9223372036854775807) (hr : SlotsAt w A l) :
    Calls Try.prog 17 #[.slice A l.length c, .int .i64 o] w fun e w' => e = .returned (.tuple #[.string (Ln.sched l o).1, .int .i64 (Ln.sched l o).2]) ∧ Below w.heap.size w w' := by
  unfold Ln.sched
  by_cases h0 : Ln.lenFrom 0 none l = 0
  · rw [if_pos h0]; exact sched_none A c l o w hl hr h0
  · rw [if_neg h0]
    by_cases h1 : 0 ≤ o
    · exact sched_pos A c l o w hl ⟨h1, ho.2⟩ hb hr h0
    · exact sched_neg A c l o w hl ⟨ho.1, by omega⟩ hb hr h0

end Go.Proofs.Ytgilejknjdbneaa
