/- The heap of jobs: container/heap's down. Printed by mkH5.py. -/
import Derived.Test.YtgilejknjdbneaaH4
namespace Go.Proofs.Ytgilejknjdbneaa
open Go.RowKit Go.IntWalk

theorem min_one {m : List Job} {n k j1 : Nat} {b1 : Job} (h1 : m[j1]? = some b1) (hj : j1 = 2 * k + 1) (hn : ¬ j1 + 1 < n) : ∀ q x, 0 < q → q < n → (q - 1) / 2 = k → m[q]? = some x → ¬ Ln.jlt x b1 := by
  intro q x q0 q1 q2 hx
  obtain rfl : q = j1 := by omega
  rw [h1] at hx; injection hx with hx; subst hx; exact Ln.jlt_irrefl _
theorem min_two {m : List Job} {n k j1 j2 : Nat} {b b1 b2 : Job} (h1 : m[j1]? = some b1) (h2 : m[j2]? = some b2) (hj : j1 = 2 * k + 1) (hj2 : j2 = j1 + 1) (l1 : ¬ Ln.jlt b1 b) (l2 : ¬ Ln.jlt b2 b) : ∀ q x, 0 < q → q < n → (q - 1) / 2 = k → m[q]? = some x → ¬ Ln.jlt x b := by
  intro q x q0 q1 q2 hx
  rcases (by omega : q = j1 ∨ q = j2) with rfl | rfl
  · rw [h1] at hx; injection hx with hx; subst hx; exact l1
  · rw [h2] at hx; injection hx with hx; subst hx; exact l2

set_option maxRecDepth 100000 in
set_option maxHeartbeats 2000000 in
theorem down_any (w : World) (P : Nat) (g c N : Nat) (l : List Job) (j n : Nat) (hN : l.length = N) (hN2 : N ≤ 1000000000) (hn : n ≤ N) (hj : j = 0 ∨ j < n) (h : HeapAt w P (.slice (some ⟨g, 0, none⟩) N c) l) (h1 : Ln.HeapUnder l n j) :
    Calls Try.prog 60 #[.iface 91 (.pointer (some ⟨P, 0, none⟩)), .int .i64 j, .int .i64 n] w fun e w' => ∃ b l', e = .returned (.bool b) ∧ l'.Perm l ∧ Ln.IsHeap l' n ∧ (∀ q, n ≤ q → l'[q]? = l[q]?) ∧ HeapAt w' P (.slice (some ⟨g, 0, none⟩) N c) l' ∧ Keep (fun k => k = g) w w' := by
  have hne := h.ne
  have HNE := Lib.hid hne
  have H1 := Lib.hid h1
  have HN := Lib.hid hN
  have HH := Lib.hid h
  clear hne h1 hN h
  go_enter Try.func60, Try.ntmps60
  go_wp2
  go_loopw [7] (fun x wr => ∃ (k : Nat) (m : List Job), (k = j ∨ k < n) ∧ x = .int .i64 k ∧ Hid (m.Perm l) ∧ Hid (m.length = N) ∧ Hid (Ln.HeapUnder m n k) ∧ Hid (∀ q, n ≤ q → m[q]? = l[q]?) ∧ HeapAt wr P (.slice (some ⟨g, 0, none⟩) N c) m ∧ Hid (Keep (fun k => k = g) w wr)) (fun x _ => N + j - (intOf x).toNat)
  case atStart => exact ⟨j, l, .inl rfl, rfl, List.Perm.refl _, HN.out, H1.out, Lib.hid (fun _ _ => rfl), HH.out, Keep.refl _ _⟩
  case round =>
    obtain ⟨k, m, hk, rfl, HP, HL, HU, HF, hat, HK⟩ := hrel
    have hc := hat.var.cell
    have e1 := m_less hc
    have e2 := m_swap hc
    have HAT := Lib.hid hat
    clear hc hat
    obtain ⟨j1, hj1⟩ : ∃ j1, j1 = 2 * k + 1 := ⟨_, rfl⟩
    have hi1 : 2 * (k : Int) + 1 = (j1 : Int) := by omega
    have hk1 : k < j1 := by omega
    have hj1b : j1 ≤ 2 * N + 1 := by omega
    have HJ1 := Lib.hid hj1
    by_cases hc1 : n ≤ j1
    · clear hj1
      go_wp2
      go_ret
      refine ⟨_, m, rfl, HP.out, fun q x y q0 q1 hx hy => HU.out.1 q x y q0 q1 (by have := HJ1.out; omega) hx hy, HF.out, HAT.out, HK.out⟩
    · obtain ⟨a, ha⟩ : ∃ a, m[k]? = some a := ⟨_, List.getElem?_eq_getElem (by rw [HL.out]; omega)⟩
      obtain ⟨b1, hb1⟩ : ∃ b, m[j1]? = some b := ⟨_, List.getElem?_eq_getElem (by rw [HL.out]; omega)⟩
      have HA := Lib.hid ha
      have HB1 := Lib.hid hb1
      obtain ⟨j2, hj2⟩ : ∃ j2, j2 = j1 + 1 := ⟨_, rfl⟩
      have hi2 : (j1 : Int) + 1 = (j2 : Int) := by omega
      have HJ2 := Lib.hid hj2
      clear ha hb1
      by_cases hc2 : j2 < n
      · obtain ⟨b2, hb2⟩ : ∃ b, m[j2]? = some b := ⟨_, List.getElem?_eq_getElem (by rw [HL.out]; omega)⟩
        have HB2 := Lib.hid hb2
        have hown := HAT.out.own
        rw [HL.out] at hown
        have HOwn := Lib.hid hown
        clear hown hb2 hj1 hj2
        go_wp2_with fail
        refine (less_any wr g N c j2 j1 b2 b1 m HL.out HB2.out HB1.out HOwn.out).mono ?_
        rintro e w1 ⟨rfl, nd, hw1⟩
        have hat1 : HeapAt w1 P (.slice (some ⟨g, 0, none⟩) N c) m := by rw [hw1]; exact HAT.out.drewN nd
        have HK1 : Hid (Keep (fun k => k = g) w w1) := by rw [hw1]; exact HK.out.drewN nd
        clear hw1
        have hc3 := hat1.var.cell
        have e3 := m_swap hc3
        have e4 := m_less hc3
        have HAT1 := Lib.hid hat1
        have hj1 := HJ1.out
        have hj2 := HJ2.out
        clear hc3 hat1
        by_cases hlt2 : Ln.jlt b2 b1
        · have hd2 : decide (Ln.jlt b2 b1) = true := decide_eq_true hlt2
          rw [hd2]
          have HN2 := Lib.hid hlt2
          clear hd2 hlt2 hj1 hj2
          have hown1 := HAT1.out.own
          rw [HL.out] at hown1
          have HOwn1 := Lib.hid hown1
          clear hown1
          go_wp2_with fail
          refine (less_any w1 g N c j2 k b2 a m HL.out HB2.out HA.out HOwn1.out).mono ?_
          rintro e w9 ⟨rfl, nd2, hw9⟩
          have hat9 : HeapAt w9 P (.slice (some ⟨g, 0, none⟩) N c) m := by rw [hw9]; exact HAT1.out.drewN nd2
          have HK9 : Hid (Keep (fun k => k = g) w w9) := by rw [hw9]; exact HK1.out.drewN nd2
          clear hw9
          have hc9 := hat9.var.cell
          have e9 := m_swap hc9
          have HAT9 := Lib.hid hat9
          clear hc9 hat9
          by_cases hlt : Ln.jlt b2 a
          · have hd : decide (Ln.jlt b2 a) = true := decide_eq_true hlt
            rw [hd]
            have hstep := Ln.down_step (j := j2) (i := k) (by have := HJ1.out; have := HJ2.out; omega) (by omega) (by omega) (by rw [HL.out]; omega) HU.out HA.out HB2.out (min_two HB1.out HB2.out HJ1.out HJ2.out (Ln.jlt_asymm HN2.out) (Ln.jlt_irrefl _)) hlt
            have HS := Lib.hid hstep
            have hown9 := HAT9.out.own
            rw [HL.out] at hown9
            have HOwn9 := Lib.hid hown9
            clear hown9 hd hlt hstep
            go_wp2_with fail
            refine (swap_any w9 g N c k j2 a b2 m HL.out HA.out HB2.out HOwn9.out).mono ?_
            rintro e w2 ⟨rfl, hown2, hk2⟩
            have hlen : (Ln.swapped m k j2 a b2).length = N := by rw [Ln.swapped_length, HL.out]
            have hvar2 := HAT9.out.var.keep hk2 (by have := HNE.out; simp [Value.ownBlock] at this; exact fun e => this e.symm)
            go_wp2
            go_roundw
            case rel => exact ⟨j2, Ln.swapped m k j2 a b2, .inr (by omega), rfl, (Ln.swapped_perm HA.out HB2.out).trans HP.out, hlen, HS.out, Lib.hid (fun q hq => by rw [Ln.swapped_at HA.out HB2.out, if_neg (by have := HJ1.out; have := HJ2.out; omega), if_neg (by have := HJ1.out; have := HJ2.out; omega)]; exact HF.out q hq), ⟨hvar2, by rw [hlen]; exact hown2⟩, HK9.out.trans hk2 (fun i _ hi => hi)⟩
            case measure => simp [intOf]; omega
          · have hd : decide (Ln.jlt b2 a) = false := decide_eq_false hlt
            rw [hd]
            have HNL := Lib.hid hlt
            clear hd hlt
            go_wp2
            go_ret
            exact ⟨_, m, rfl, HP.out, Ln.down_done HU.out HA.out (fun q x q0 q1 q2 hx => Ln.jle_trans HNL.out ((min_two HB1.out HB2.out HJ1.out HJ2.out (Ln.jlt_asymm HN2.out) (Ln.jlt_irrefl _)) q x q0 q1 q2 hx)), HF.out, HAT9.out, HK9.out⟩
        · have hd2 : decide (Ln.jlt b2 b1) = false := decide_eq_false hlt2
          rw [hd2]
          have HN2 := Lib.hid hlt2
          clear hd2 hlt2 hj1 hj2
          have hown1 := HAT1.out.own
          rw [HL.out] at hown1
          have HOwn1 := Lib.hid hown1
          clear hown1
          go_wp2_with fail
          refine (less_any w1 g N c j1 k b1 a m HL.out HB1.out HA.out HOwn1.out).mono ?_
          rintro e w9 ⟨rfl, nd2, hw9⟩
          have hat9 : HeapAt w9 P (.slice (some ⟨g, 0, none⟩) N c) m := by rw [hw9]; exact HAT1.out.drewN nd2
          have HK9 : Hid (Keep (fun k => k = g) w w9) := by rw [hw9]; exact HK1.out.drewN nd2
          clear hw9
          have hc9 := hat9.var.cell
          have e9 := m_swap hc9
          have HAT9 := Lib.hid hat9
          clear hc9 hat9
          by_cases hlt : Ln.jlt b1 a
          · have hd : decide (Ln.jlt b1 a) = true := decide_eq_true hlt
            rw [hd]
            have hstep := Ln.down_step (j := j1) (i := k) (by have := HJ1.out; have := HJ2.out; omega) (by omega) (by omega) (by rw [HL.out]; omega) HU.out HA.out HB1.out (min_two HB1.out HB2.out HJ1.out HJ2.out (Ln.jlt_irrefl _) HN2.out) hlt
            have HS := Lib.hid hstep
            have hown9 := HAT9.out.own
            rw [HL.out] at hown9
            have HOwn9 := Lib.hid hown9
            clear hown9 hd hlt hstep
            go_wp2_with fail
            refine (swap_any w9 g N c k j1 a b1 m HL.out HA.out HB1.out HOwn9.out).mono ?_
            rintro e w2 ⟨rfl, hown2, hk2⟩
            have hlen : (Ln.swapped m k j1 a b1).length = N := by rw [Ln.swapped_length, HL.out]
            have hvar2 := HAT9.out.var.keep hk2 (by have := HNE.out; simp [Value.ownBlock] at this; exact fun e => this e.symm)
            go_wp2
            go_roundw
            case rel => exact ⟨j1, Ln.swapped m k j1 a b1, .inr (by omega), rfl, (Ln.swapped_perm HA.out HB1.out).trans HP.out, hlen, HS.out, Lib.hid (fun q hq => by rw [Ln.swapped_at HA.out HB1.out, if_neg (by have := HJ1.out; have := HJ2.out; omega), if_neg (by have := HJ1.out; have := HJ2.out; omega)]; exact HF.out q hq), ⟨hvar2, by rw [hlen]; exact hown2⟩, HK9.out.trans hk2 (fun i _ hi => hi)⟩
            case measure => simp [intOf]; omega
          · have hd : decide (Ln.jlt b1 a) = false := decide_eq_false hlt
            rw [hd]
            have HNL := Lib.hid hlt
            clear hd hlt
            go_wp2
            go_ret
            exact ⟨_, m, rfl, HP.out, Ln.down_done HU.out HA.out (fun q x q0 q1 q2 hx => Ln.jle_trans HNL.out ((min_two HB1.out HB2.out HJ1.out HJ2.out (Ln.jlt_irrefl _) HN2.out) q x q0 q1 q2 hx)), HF.out, HAT9.out, HK9.out⟩
      · clear hj1 hj2
        have HC2 := Lib.hid hc2
        have hown := HAT.out.own
        rw [HL.out] at hown
        have HOwn := Lib.hid hown
        clear hown
        go_wp2_with fail
        refine (less_any wr g N c j1 k b1 a m HL.out HB1.out HA.out HOwn.out).mono ?_
        rintro e w9 ⟨rfl, nd2, hw9⟩
        have hat9 : HeapAt w9 P (.slice (some ⟨g, 0, none⟩) N c) m := by rw [hw9]; exact HAT.out.drewN nd2
        have HK9 : Hid (Keep (fun k => k = g) w w9) := by rw [hw9]; exact HK.out.drewN nd2
        clear hw9
        have hc9 := hat9.var.cell
        have e9 := m_swap hc9
        have HAT9 := Lib.hid hat9
        clear hc9 hat9
        by_cases hlt : Ln.jlt b1 a
        · have hd : decide (Ln.jlt b1 a) = true := decide_eq_true hlt
          rw [hd]
          have hstep := Ln.down_step (j := j1) (i := k) (by have := HJ1.out; have := HJ2.out; omega) (by omega) (by omega) (by rw [HL.out]; omega) HU.out HA.out HB1.out (min_one HB1.out HJ1.out (by have := HC2.out; have := HJ2.out; omega)) hlt
          have HS := Lib.hid hstep
          have hown9 := HAT9.out.own
          rw [HL.out] at hown9
          have HOwn9 := Lib.hid hown9
          clear hown9 hd hlt hstep
          go_wp2_with fail
          refine (swap_any w9 g N c k j1 a b1 m HL.out HA.out HB1.out HOwn9.out).mono ?_
          rintro e w2 ⟨rfl, hown2, hk2⟩
          have hlen : (Ln.swapped m k j1 a b1).length = N := by rw [Ln.swapped_length, HL.out]
          have hvar2 := HAT9.out.var.keep hk2 (by have := HNE.out; simp [Value.ownBlock] at this; exact fun e => this e.symm)
          go_wp2
          go_roundw
          case rel => exact ⟨j1, Ln.swapped m k j1 a b1, .inr (by omega), rfl, (Ln.swapped_perm HA.out HB1.out).trans HP.out, hlen, HS.out, Lib.hid (fun q hq => by rw [Ln.swapped_at HA.out HB1.out, if_neg (by have := HJ1.out; have := HJ2.out; omega), if_neg (by have := HJ1.out; have := HJ2.out; omega)]; exact HF.out q hq), ⟨hvar2, by rw [hlen]; exact hown2⟩, HK9.out.trans hk2 (fun i _ hi => hi)⟩
          case measure => simp [intOf]; omega
        · have hd : decide (Ln.jlt b1 a) = false := decide_eq_false hlt
          rw [hd]
          have HNL := Lib.hid hlt
          clear hd hlt
          go_wp2
          go_ret
          exact ⟨_, m, rfl, HP.out, Ln.down_done HU.out HA.out (fun q x q0 q1 q2 hx => Ln.jle_trans HNL.out ((min_one HB1.out HJ1.out (by have := HC2.out; have := HJ2.out; omega)) q x q0 q1 q2 hx)), HF.out, HAT9.out, HK9.out⟩

end Go.Proofs.Ytgilejknjdbneaa
