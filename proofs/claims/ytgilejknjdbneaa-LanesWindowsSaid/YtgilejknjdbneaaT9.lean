/- The contract of the references Sched. -/
import Derived.Test.YtgilejknjdbneaaT7
namespace Go.Proofs.Ytgilejknjdbneaa
open Go.RowKit Go.IntWalk

theorem find_from {α : Type} {p : α → Bool} {l : List α} {k : Nat} (h : ∀ j x, j < k → l[j]? = some x → p x = false) : l.find? p = (l.drop k).find? p := by
  conv => lhs; rw [← List.take_append_drop k l]
  rw [List.find?_append]
  have : (l.take k).find? p = none := by
    rw [List.find?_eq_none]
    intro x hx
    obtain ⟨j, hj⟩ := List.getElem?_of_mem hx
    rw [List.getElem?_take] at hj
    split at hj
    · simp [h j x (by assumption) hj]
    · simp at hj
  rw [this]; rfl

set_option maxHeartbeats 800000 in
theorem refSched_any (A : Option Addr) (c : Nat) (l : List Slot) (o : Int) (w : World) (hl : l.length ≤ 10000000000000) (ho : -9223372036854775808 ≤ o ∧ o ≤ 9223372036854775807) (hb : ∀ s ∈ l, s.to ≤ 9223372036854775807) (hr : SlotsAt w A l)
    (hq0 : Ln.lenFrom 0 none l ≠ 0 → 0 < Ln.lenFrom 0 none l) :
    Calls Try.prog 18 #[.slice A l.length c, .int .i64 o] w fun e w' => e = .returned (.tuple #[.string (Ln.sched l o).1, .int .i64 (Ln.sched l o).2]) ∧ Below w.heap.size w w' := by
  obtain ⟨M, hM⟩ : ∃ M, M = Ln.lenFrom 0 none l := ⟨_, rfl⟩
  obtain ⟨R, hR⟩ : ∃ R, R = Ln.sched l o := ⟨_, rfl⟩
  rw [← hR]
  rw [← hM] at hq0
  have HM := Lib.hid hM
  have HR := Lib.hid hR
  clear hM hR
  go_enter Try.func18, Try.ntmps18
  go_wp2_with fail
  refine (refRow_any A c l w (by omega) hr).mono ?_
  rw [← HM.out]
  rintro e w1 ⟨rfl, hbw⟩
  by_cases h0 : M = 0
  · have h0' : (M == 0) = true := by simp [h0]
    have h1 : R = (ByteArray.empty, 0) := by rw [HR.out, Ln.sched, ← HM.out, if_pos h0]
    have H1 := Lib.hid h1
    clear h0 h1 hq0
    go_wp2
    go_ret2
    rw [H1.out]
    exact ⟨rfl, hbw⟩
  · have h0' : (M == 0) = false := by simp [h0]
    have hM0 : 0 < M := hq0 h0
    have h1 : R = Ln.schedOf l ((max o 0) % M) := by rw [HR.out, Ln.sched, ← HM.out, if_neg h0]
    have H1 := Lib.hid h1
    clear h0 h1 hq0
    have hr1 := hr.below hbw (Nat.le_refl _)
    by_cases hneg : o < 0
    · have hmax : (max o 0) % M = 0 := by rw [show max o 0 = 0 by omega]; simp
      have Hx := Lib.hid hmax
      have hq : (0 : Int) ≤ 0 := Int.le_refl _
      have Hx0 := hmax
      clear hmax
      clear Hx0
      go_wp2
      go_loop [7] (fun i => ∃ k : Nat, k ≤ l.length ∧ i = .int .i64 k ∧ (∀ j x, j < k → l[j]? = some x → decide (0 < x.to) = false)) (fun i => l.length - (intOf i).toNat)
      case atStart => exact ⟨0, by omega, rfl, fun j x h => by omega⟩
      case round =>
        obtain ⟨k, hk, rfl, hbef⟩ := hrel
        have Hbef := Lib.hid hbef
        clear hbef
        by_cases hlt : k < l.length
        · obtain ⟨b, off, rfl, hbl, hcs⟩ := hr1 (by omega)
          obtain ⟨s, hs⟩ : ∃ s, l[k]? = some s := ⟨l[k], List.getElem?_eq_getElem hlt⟩
          obtain ⟨q0, q1, q2⟩ := hcs k s hs
          have hto := hb s (List.mem_of_getElem? hs)
          have Hs := Lib.hid hs
          clear hs hcs hr
          by_cases hp : 0 < s.to
          · have hlt' : (k : Int) < l.length := by omega
            have hsub : IntKind.i64.wrap (s.to - (0)) = s.to - (0) := i64_in _ (by omega)
            have hres : R = (s.subj, s.to - (0)) := by
              rw [H1.out, Hx.out]
              unfold Ln.schedOf
              rw [Ln.find_at (k := k) (y := s) Hbef.out Hs.out (by simpa using hp)]
            have Hres := Lib.hid hres
            clear hres
            go_wp2
            go_big_quiet (fail)
            go_wp2
            go_ret2
            rw [Hres.out]
            first | exact ⟨rfl, below_drewN hbw _⟩ | exact ⟨by rw [Int.sub_zero]; rfl, below_drewN hbw _⟩
          · go_wp2
            go_round
            case rel =>
              refine ⟨k + 1, by omega, by go_num, fun j x hj hx => ?_⟩
              rcases Nat.lt_or_ge j k with h | h
              · exact Hbef.out j x h hx
              · have : j = k := by omega
                subst this
                have := Hs.out
                rw [hx] at this
                injection this with this
                subst this
                simp; omega
            case measure => simp [intOf]; omega
        · go_wp2
          go_ret2
          have hk' : k = l.length := by omega
          have hn : R = (ByteArray.empty, 0) := by
            rw [H1.out, Hx.out]
            unfold Ln.schedOf
            rw [List.find?_eq_none.2 (fun x hx => by
              obtain ⟨j, hj⟩ := List.getElem?_of_mem hx
              have := Hbef.out j x (by have := (List.getElem?_eq_some_iff.1 hj).1; omega) hj
              simpa using this)]
          rw [hn]
          exact ⟨rfl, hbw⟩
    · have hmax : (max o 0) % M = o % M := by congr 1; omega
      have Hx := Lib.hid hmax
      have hq : 0 ≤ o % M := Int.emod_nonneg _ (by omega)
      have Hx0 := hmax
      clear hmax
      clear Hx0
      go_wp2
      go_loop [7] (fun i => ∃ k : Nat, k ≤ l.length ∧ i = .int .i64 k ∧ (∀ j x, j < k → l[j]? = some x → decide (o % M < x.to) = false)) (fun i => l.length - (intOf i).toNat)
      case atStart => exact ⟨0, by omega, rfl, fun j x h => by omega⟩
      case round =>
        obtain ⟨k, hk, rfl, hbef⟩ := hrel
        have Hbef := Lib.hid hbef
        clear hbef
        by_cases hlt : k < l.length
        · obtain ⟨b, off, rfl, hbl, hcs⟩ := hr1 (by omega)
          obtain ⟨s, hs⟩ : ∃ s, l[k]? = some s := ⟨l[k], List.getElem?_eq_getElem hlt⟩
          obtain ⟨q0, q1, q2⟩ := hcs k s hs
          have hto := hb s (List.mem_of_getElem? hs)
          have Hs := Lib.hid hs
          clear hs hcs hr
          by_cases hp : o % M < s.to
          · have hlt' : (k : Int) < l.length := by omega
            have hsub : IntKind.i64.wrap (s.to - (o % M)) = s.to - (o % M) := i64_in _ (by omega)
            have hres : R = (s.subj, s.to - (o % M)) := by
              rw [H1.out, Hx.out]
              unfold Ln.schedOf
              rw [Ln.find_at (k := k) (y := s) Hbef.out Hs.out (by simpa using hp)]
            have Hres := Lib.hid hres
            clear hres
            go_wp2
            go_big_quiet (fail)
            go_wp2
            go_ret2
            rw [Hres.out]
            first | exact ⟨rfl, below_drewN hbw _⟩ | exact ⟨by rw [Int.sub_zero]; rfl, below_drewN hbw _⟩
          · go_wp2
            go_round
            case rel =>
              refine ⟨k + 1, by omega, by go_num, fun j x hj hx => ?_⟩
              rcases Nat.lt_or_ge j k with h | h
              · exact Hbef.out j x h hx
              · have : j = k := by omega
                subst this
                have := Hs.out
                rw [hx] at this
                injection this with this
                subst this
                simp; omega
            case measure => simp [intOf]; omega
        · go_wp2
          go_ret2
          have hk' : k = l.length := by omega
          have hn : R = (ByteArray.empty, 0) := by
            rw [H1.out, Hx.out]
            unfold Ln.schedOf
            rw [List.find?_eq_none.2 (fun x hx => by
              obtain ⟨j, hj⟩ := List.getElem?_of_mem hx
              have := Hbef.out j x (by have := (List.getElem?_eq_some_iff.1 hj).1; omega) hj
              simpa using this)]
          rw [hn]
          exact ⟨rfl, hbw⟩

end Go.Proofs.Ytgilejknjdbneaa
