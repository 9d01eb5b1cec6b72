/- The contract of the references At. -/
import Derived.Test.YtgilejknjdbneaaU2
namespace Go.Proofs.Ytgilejknjdbneaa
open Go.RowKit Go.IntWalk

set_option maxRecDepth 100000 in
set_option maxHeartbeats 4000000 in
theorem refAt_in (A : Option Addr) (c : Nat) (l : List Stint) (M o : Int) (w : World) (hl0 : l.length ≤ 10000000000000) (hM : M ≤ 9223372036854775807) (ho : 0 ≤ o) (hoM : o < M)
    (hx : ∀ s ∈ l, (-9223372036854775808 ≤ s.subj ∧ s.subj ≤ 9223372036854775807) ∧ s.ticks ≤ 9223372036854775807) (hr : StintsAt w A l) :
    Calls Try.prog 26 #[.slice A l.length c, .int .i64 M, .int .i64 o] w fun e w' => e = .returned (.tuple #[.int .i64 (Ln.atGo M o 0 (-1) 0 l).1, .int .i64 (Ln.atGo M o 0 (-1) 0 l).2]) ∧ w' = w := by
  obtain ⟨R, hR⟩ : ∃ R, R = Ln.atGo M o 0 (-1) 0 l := ⟨_, rfl⟩
  rw [← hR]
  have HR := Lib.hid hR
  clear hR
  go_enter Try.func26, Try.ntmps26
  go_wp2
  go_loop [8, 9, 10, 11] (fun sw sl se si => ∃ (k : Nat) (e who left : Int), k ≤ l.length + 1 ∧ si = .int .i64 k ∧ sw = .int .i64 who ∧ sl = .int .i64 left ∧ se = .int .i64 e ∧
      ((e < M ∧ k ≤ l.length ∧ Ln.AtInv M o e left ∧ Ln.atGo M o e who left (l.drop k) = R) ∨ (e = M ∧ R = (who, left)))) (fun _ _ _ i => l.length + 1 - (intOf i).toNat)
  case atStart => exact ⟨0, 0, -1, 0, by omega, rfl, rfl, rfl, rfl, .inl ⟨by omega, by omega, ⟨by omega, by omega, by omega, by omega, by omega, by omega⟩, HR.out.symm⟩⟩
  case round =>
    obtain ⟨k, e, who, left, hk, rfl, rfl, rfl, rfl, hcase⟩ := hrel
    rcases hcase with ⟨heM, hk2, hinv, hres⟩ | ⟨heM, hres⟩
    · have Hres := Lib.hid hres
      clear hres hk
      obtain ⟨i1, i2, i3, i4, i5, i6⟩ := id hinv
      by_cases hlt : k < l.length
      · obtain ⟨b, off, rfl, hbl, hcs⟩ := hr (by omega)
        obtain ⟨s, hs⟩ : ∃ s, l[k]? = some s := ⟨l[k], List.getElem?_eq_getElem hlt⟩
        obtain ⟨q0, q1⟩ := hcs k s hs
        obtain ⟨x1, x2⟩ := hx s (List.mem_of_getElem? hs)
        have hd := drop_at' hs
        have hz0 : R = if s.ticks ≤ 0 then Ln.atGo M o e who left (l.drop (k + 1)) else (if (Ln.take M o e who left s.subj s.ticks).1 then Ln.atGo M o (Ln.take M o e who left s.subj s.ticks).2.1 (Ln.take M o e who left s.subj s.ticks).2.2.1 (Ln.take M o e who left s.subj s.ticks).2.2.2 (l.drop (k + 1)) else ((Ln.take M o e who left s.subj s.ticks).2.2.1, (Ln.take M o e who left s.subj s.ticks).2.2.2)) := by
          rw [← Hres.out, hd]; rfl
        clear hd hs hcs hr
        obtain ⟨sj, hsj⟩ : ∃ x, x = s.subj := ⟨_, rfl⟩
        obtain ⟨tk, htk⟩ : ∃ x, x = s.ticks := ⟨_, rfl⟩
        rw [← hsj] at q0 x1 hz0
        rw [← htk] at q1 x2 hz0
        clear hsj htk
        by_cases ht : tk ≤ 0
        · have hz : R = Ln.atGo M o e who left (l.drop (k + 1)) := by rw [hz0, if_pos ht]
          have HZ := Lib.hid hz
          have HV := Lib.hid hinv
          clear hz hz0 hinv
          go_wp2
          go_round
          case rel => exact ⟨k + 1, e, who, left, by omega, by go_num, rfl, rfl, rfl, .inl ⟨by omega, by omega, HV.out, HZ.out.symm⟩⟩
          case measure => simp [intOf]; omega
        · have ht0 : 0 < tk := by omega
          have hz := hz0
          rw [if_neg ht] at hz
          have HZ := Lib.hid hz
          have HI := Lib.hid (Ln.take_inv (who := who) (s := sj) (t := tk) hinv ho ht0)
          clear hz hz0 ht
          by_cases hs0 : 0 ≤ sj
          · by_cases ht1 : tk < M - e
            · have hS : max (sj) (-1) = sj := by omega
              have hN : min (tk) (M - e) = tk := by omega
              by_cases hl : left = 0
              · subst hl
                by_cases hp : o < e + (tk)
                · have hT := Ln.take_new (who := who) (s := sj) (t := tk) hinv (by omega) (by rw [hN]; exact hp)
                  rw [hS, hN] at hT
                  have HT := Lib.hid hT
                  clear hT hS hN hinv
                  go_wp2
                  go_round
                  case rel => exact ⟨k + 1, e + (tk), sj, e + (tk) - o, by omega, by go_num, rfl, rfl, rfl, .inl ⟨by omega, by omega, by have := HI.out (by rw [HT.out]; simp; omega); rw [HT.out] at this; exact this, by rw [HZ.out, HT.out, if_pos (by simp; omega)]⟩⟩
                  case measure => simp [intOf]; omega
                · have hT := Ln.take_skip (M := M) (o := o) (e := e) (who := who) (s := sj) (t := tk) (by rw [hN]; exact hp)
                  rw [hN] at hT
                  have HT := Lib.hid hT
                  have hem : ¬ o < e + (tk) := hp
                  clear hT hS hN hinv
                  go_wp2
                  go_round
                  case rel => exact ⟨k + 1, e + (tk), who, 0, by omega, by go_num, rfl, rfl, rfl, .inl ⟨by omega, by omega, by have := HI.out (by rw [HT.out]; simp; omega); rw [HT.out] at this; exact this, by rw [HZ.out, HT.out, if_pos (by simp; omega)]⟩⟩
                  case measure => simp [intOf]; omega
              · by_cases hw : sj = who
                · have hT := Ln.take_on (who := who) (s := sj) (t := tk) hinv hl (by rw [hS]; exact hw) (by omega)
                  rw [hN] at hT
                  have HT := Lib.hid hT
                  have hw' : ((sj : Int) == who) = true := by rw [hw]; simp
                  clear hT hS hN hw hinv
                  go_wp2
                  go_round
                  case rel => exact ⟨k + 1, e + (tk), who, left + (tk), by omega, by go_num, rfl, rfl, rfl, .inl ⟨by omega, by omega, by have := HI.out (by rw [HT.out]; simp; omega); rw [HT.out] at this; exact this, by rw [HZ.out, HT.out, if_pos (by simp; omega)]⟩⟩
                  case measure => simp [intOf]; omega
                · have hT := Ln.take_off (who := who) (s := sj) (t := tk) hinv hl (by rw [hS]; exact hw) (by omega)
                  have HT := Lib.hid hT
                  have hw' : ((sj : Int) == who) = false := by simp [hw]
                  clear hT hS hN hw hinv
                  go_wp2
                  go_ret2
                  rw [HZ.out, HT.out]
                  exact ⟨rfl, rfl⟩
            · have hS : max (sj) (-1) = sj := by omega
              have hN : min (tk) (M - e) = M - e := by omega
              by_cases hl : left = 0
              · subst hl
                by_cases hp : o < e + (M - e)
                · have hT := Ln.take_new (who := who) (s := sj) (t := tk) hinv (by omega) (by rw [hN]; exact hp)
                  rw [hS, hN] at hT
                  have HT := Lib.hid hT
                  clear hT hS hN hinv
                  go_wp2
                  go_round
                  case rel => exact ⟨k + 1, e + (M - e), sj, e + (M - e) - o, by omega, by go_num, rfl, rfl, rfl, .inr ⟨by omega, by rw [HZ.out, HT.out, if_neg (by simp; omega)]⟩⟩
                  case measure => simp [intOf]; omega
                · exfalso; omega
              · by_cases hw : sj = who
                · have hT := Ln.take_on (who := who) (s := sj) (t := tk) hinv hl (by rw [hS]; exact hw) (by omega)
                  rw [hN] at hT
                  have HT := Lib.hid hT
                  have hw' : ((sj : Int) == who) = true := by rw [hw]; simp
                  clear hT hS hN hw hinv
                  go_wp2
                  go_round
                  case rel => exact ⟨k + 1, e + (M - e), who, left + (M - e), by omega, by go_num, rfl, rfl, rfl, .inr ⟨by omega, by rw [HZ.out, HT.out, if_neg (by simp; omega)]⟩⟩
                  case measure => simp [intOf]; omega
                · have hT := Ln.take_off (who := who) (s := sj) (t := tk) hinv hl (by rw [hS]; exact hw) (by omega)
                  have HT := Lib.hid hT
                  have hw' : ((sj : Int) == who) = false := by simp [hw]
                  clear hT hS hN hw hinv
                  go_wp2
                  go_ret2
                  rw [HZ.out, HT.out]
                  exact ⟨rfl, rfl⟩
          · by_cases ht1 : tk < M - e
            · have hS : max (sj) (-1) = -1 := by omega
              have hN : min (tk) (M - e) = tk := by omega
              by_cases hl : left = 0
              · subst hl
                by_cases hp : o < e + (tk)
                · have hT := Ln.take_new (who := who) (s := sj) (t := tk) hinv (by omega) (by rw [hN]; exact hp)
                  rw [hS, hN] at hT
                  have HT := Lib.hid hT
                  clear hT hS hN hinv
                  go_wp2
                  go_round
                  case rel => exact ⟨k + 1, e + (tk), -1, e + (tk) - o, by omega, by go_num, rfl, rfl, rfl, .inl ⟨by omega, by omega, by have := HI.out (by rw [HT.out]; simp; omega); rw [HT.out] at this; exact this, by rw [HZ.out, HT.out, if_pos (by simp; omega)]⟩⟩
                  case measure => simp [intOf]; omega
                · have hT := Ln.take_skip (M := M) (o := o) (e := e) (who := who) (s := sj) (t := tk) (by rw [hN]; exact hp)
                  rw [hN] at hT
                  have HT := Lib.hid hT
                  have hem : ¬ o < e + (tk) := hp
                  clear hT hS hN hinv
                  go_wp2
                  go_round
                  case rel => exact ⟨k + 1, e + (tk), who, 0, by omega, by go_num, rfl, rfl, rfl, .inl ⟨by omega, by omega, by have := HI.out (by rw [HT.out]; simp; omega); rw [HT.out] at this; exact this, by rw [HZ.out, HT.out, if_pos (by simp; omega)]⟩⟩
                  case measure => simp [intOf]; omega
              · by_cases hw : -1 = who
                · have hT := Ln.take_on (who := who) (s := sj) (t := tk) hinv hl (by rw [hS]; exact hw) (by omega)
                  rw [hN] at hT
                  have HT := Lib.hid hT
                  have hw' : ((-1 : Int) == who) = true := by rw [hw]; simp
                  clear hT hS hN hw hinv
                  go_wp2
                  go_round
                  case rel => exact ⟨k + 1, e + (tk), who, left + (tk), by omega, by go_num, rfl, rfl, rfl, .inl ⟨by omega, by omega, by have := HI.out (by rw [HT.out]; simp; omega); rw [HT.out] at this; exact this, by rw [HZ.out, HT.out, if_pos (by simp; omega)]⟩⟩
                  case measure => simp [intOf]; omega
                · have hT := Ln.take_off (who := who) (s := sj) (t := tk) hinv hl (by rw [hS]; exact hw) (by omega)
                  have HT := Lib.hid hT
                  have hw' : ((-1 : Int) == who) = false := by simp [hw]
                  clear hT hS hN hw hinv
                  go_wp2
                  go_ret2
                  rw [HZ.out, HT.out]
                  exact ⟨rfl, rfl⟩
            · have hS : max (sj) (-1) = -1 := by omega
              have hN : min (tk) (M - e) = M - e := by omega
              by_cases hl : left = 0
              · subst hl
                by_cases hp : o < e + (M - e)
                · have hT := Ln.take_new (who := who) (s := sj) (t := tk) hinv (by omega) (by rw [hN]; exact hp)
                  rw [hS, hN] at hT
                  have HT := Lib.hid hT
                  clear hT hS hN hinv
                  go_wp2
                  go_round
                  case rel => exact ⟨k + 1, e + (M - e), -1, e + (M - e) - o, by omega, by go_num, rfl, rfl, rfl, .inr ⟨by omega, by rw [HZ.out, HT.out, if_neg (by simp; omega)]⟩⟩
                  case measure => simp [intOf]; omega
                · exfalso; omega
              · by_cases hw : -1 = who
                · have hT := Ln.take_on (who := who) (s := sj) (t := tk) hinv hl (by rw [hS]; exact hw) (by omega)
                  rw [hN] at hT
                  have HT := Lib.hid hT
                  have hw' : ((-1 : Int) == who) = true := by rw [hw]; simp
                  clear hT hS hN hw hinv
                  go_wp2
                  go_round
                  case rel => exact ⟨k + 1, e + (M - e), who, left + (M - e), by omega, by go_num, rfl, rfl, rfl, .inr ⟨by omega, by rw [HZ.out, HT.out, if_neg (by simp; omega)]⟩⟩
                  case measure => simp [intOf]; omega
                · have hT := Ln.take_off (who := who) (s := sj) (t := tk) hinv hl (by rw [hS]; exact hw) (by omega)
                  have HT := Lib.hid hT
                  have hw' : ((-1 : Int) == who) = false := by simp [hw]
                  clear hT hS hN hw hinv
                  go_wp2
                  go_ret2
                  rw [HZ.out, HT.out]
                  exact ⟨rfl, rfl⟩
      · have hk' : k = l.length := by omega
        have hz : R = ((Ln.take M o e who left (-1) M).2.2.1, (Ln.take M o e who left (-1) M).2.2.2) := by
          rw [← Hres.out, hk', List.drop_length]; rfl
        have HZ := Lib.hid hz
        clear hz hk'
        have hS : max (-1) (-1) = -1 := by omega
        have hN : min (M) (M - e) = M - e := by omega
        by_cases hl : left = 0
        · subst hl
          by_cases hp : o < e + (M - e)
          · have hT := Ln.take_new (who := who) (s := -1) (t := M) hinv (by omega) (by rw [hN]; exact hp)
            rw [hS, hN] at hT
            have HT := Lib.hid hT
            clear hT hS hN hinv
            go_wp2
            go_round
            case rel => exact ⟨k + 1, e + (M - e), -1, e + (M - e) - o, by omega, by go_num, rfl, rfl, rfl, .inr ⟨by omega, by rw [HZ.out, HT.out]⟩⟩
            case measure => simp [intOf]; omega
          · exfalso; omega
        · by_cases hw : -1 = who
          · have hT := Ln.take_on (who := who) (s := -1) (t := M) hinv hl (by rw [hS]; exact hw) (by omega)
            rw [hN] at hT
            have HT := Lib.hid hT
            have hw' : ((-1 : Int) == who) = true := by rw [hw]; simp
            clear hT hS hN hw hinv
            go_wp2
            go_round
            case rel => exact ⟨k + 1, e + (M - e), who, left + (M - e), by omega, by go_num, rfl, rfl, rfl, .inr ⟨by omega, by rw [HZ.out, HT.out]⟩⟩
            case measure => simp [intOf]; omega
          · have hT := Ln.take_off (who := who) (s := -1) (t := M) hinv hl (by rw [hS]; exact hw) (by omega)
            have HT := Lib.hid hT
            have hw' : ((-1 : Int) == who) = false := by simp [hw]
            clear hT hS hN hw hinv
            go_wp2
            go_ret2
            rw [HZ.out, HT.out]
            exact ⟨rfl, rfl⟩
    · have Hres := Lib.hid hres
      clear hres
      have hem : ¬ e < M := by omega
      clear heM
      by_cases hk1 : k ≤ l.length
      all_goals
        go_wp2
        go_ret2
        rw [Hres.out]
        exact ⟨rfl, rfl⟩

theorem refAt_out (A : Option Addr) (n c : Nat) (M o : Int) (w : World) (ho : o < 0 ∨ M ≤ o) :
    Calls Try.prog 26 #[.slice A n c, .int .i64 M, .int .i64 o] w fun e w' => e = .returned (.tuple #[.int .i64 (-1), .int .i64 0]) ∧ w' = w := by
  by_cases h : o < 0
  · clear ho
    go_enter Try.func26, Try.ntmps26
    go_wp2
    go_ret2
    exact ⟨rfl, rfl⟩
  · have h2 : M ≤ o := by omega
    clear ho
    go_enter Try.func26, Try.ntmps26
    go_wp2
    go_ret2
    exact ⟨rfl, rfl⟩

theorem refAt_any (A : Option Addr) (c : Nat) (l : List Stint) (M o : Int) (w : World) (hl : l.length ≤ 10000000000000) (hM : M ≤ 9223372036854775807)
    (hx : ∀ s ∈ l, (-9223372036854775808 ≤ s.subj ∧ s.subj ≤ 9223372036854775807) ∧ s.ticks ≤ 9223372036854775807) (hr : StintsAt w A l) :
    Calls Try.prog 26 #[.slice A l.length c, .int .i64 M, .int .i64 o] w fun e w' => e = .returned (.tuple #[.int .i64 (Ln.at_ l M o).1, .int .i64 (Ln.at_ l M o).2]) ∧ w' = w := by
  unfold Ln.at_
  by_cases h : o < 0 ∨ M ≤ o
  · rw [if_pos h]; exact refAt_out A _ c M o w h
  · rw [if_neg h]; exact refAt_in A c l M o w hl hM (by omega) (by omega) hx hr

end Go.Proofs.Ytgilejknjdbneaa
