/- The heap of jobs: container/heap's up. -/
import Derived.Test.YtgilejknjdbneaaH3
namespace Go.Proofs.Ytgilejknjdbneaa
open Go.RowKit Go.IntWalk

theorem HeapAt.drewN {w : World} {P : Nat} {v : Value} {l : List Job} (h : HeapAt w P v l) (n : Nat) : HeapAt (w.drewN n) P v l :=
  ⟨h.var.keep ((Keep.refl (fun _ => False) w).drewN n) (by simp), h.own⟩
theorem HeapAt.form {w : World} {P : Nat} {v : Value} {l : List Job} (h : HeapAt w P v l) (hl : 0 < l.length) : ∃ g c, v = .slice (some ⟨g, 0, none⟩) l.length c ∧ v.ownBlock = some g ∧ g < w.heap.size := by
  obtain ⟨g, cap, hv, _, hg⟩ := h.own.form hl
  exact ⟨g, cap, hv, by rw [hv]; rfl, hg⟩

set_option maxRecDepth 100000 in
set_option maxHeartbeats 1000000 in
theorem up_any (w : World) (P : Nat) (v : Value) (l : List Job) (j : Nat) (hn : l.length ≤ 1000000000) (hj : j < l.length) (h : HeapAt w P v l) (h1 : Ln.HeapBut l l.length j) (h2 : Ln.Over l l.length j) :
    Calls Try.prog 59 #[.iface 91 (.pointer (some ⟨P, 0, none⟩)), .int .i64 j] w fun e w' => e = .returned (.tuple #[]) ∧ ∃ l', l'.Perm l ∧ Ln.IsHeap l' l'.length ∧ HeapAt w' P v l' ∧ Keep (fun k => v.ownBlock = some k) w w' := by
  obtain ⟨g, c, hv, hob, hg⟩ := h.form (by omega)
  have hne := h.ne
  obtain ⟨N, hN⟩ : ∃ N, N = l.length := ⟨_, rfl⟩
  rw [← hN] at hv hn hj h1 h2
  subst hv
  have HNE := Lib.hid hne
  have H1 := Lib.hid h1
  have H2 := Lib.hid h2
  have HN := Lib.hid hN
  have HH := Lib.hid h
  have HOB := Lib.hid hob
  clear hne h1 h2 hN h hob
  go_enter Try.func59, Try.ntmps59
  go_wp2
  go_loopw [1] (fun x wr => ∃ (k : Nat) (m : List Job), k < N ∧ x = .int .i64 k ∧ Hid (m.Perm l) ∧ Hid (m.length = N) ∧ Hid (Ln.HeapBut m N k) ∧ Hid (Ln.Over m N k) ∧ HeapAt wr P (.slice (some ⟨g, 0, none⟩) N c) m ∧ Hid (Keep (fun k => (Value.slice (some ⟨g, 0, none⟩) N c).ownBlock = some k) w wr)) (fun x _ => (intOf x).toNat)
  case atStart => exact ⟨j, l, hj, rfl, List.Perm.refl _, HN.out.symm, H1.out, H2.out, HH.out, Keep.refl _ _⟩
  case round =>
    obtain ⟨k, m, hk, rfl, HP, HL, HB, HO, hat, HK⟩ := hrel
    have hc := hat.var.cell
    have e1 := m_less hc
    have e2 := m_swap hc
    have HAT := Lib.hid hat
    clear hc hat
    by_cases hk0 : k = 0
    · subst hk0
      go_wp2
      go_end0
      exact ⟨rfl, m, HP.out, by rw [HL.out]; exact Ln.up_done HB.out (.inl rfl), HAT.out, HK.out⟩
    · obtain ⟨p, hp⟩ : ∃ p, p = (k - 1) / 2 := ⟨_, rfl⟩
      have hpk : p < k := by omega
      have hpi : ((k : Int) - 1) / 2 = (p : Int) := by omega
      obtain ⟨a, ha⟩ : ∃ a, m[p]? = some a := ⟨_, List.getElem?_eq_getElem (by rw [HL.out]; omega)⟩
      obtain ⟨b, hb⟩ : ∃ b, m[k]? = some b := ⟨_, List.getElem?_eq_getElem (by rw [HL.out]; omega)⟩
      have HPP := Lib.hid hp
      have HA := Lib.hid ha
      have HBB := Lib.hid hb
      clear hp ha hb
      have hown := HAT.out.own
      rw [HL.out] at hown
      have HOwn := Lib.hid hown
      clear hown
      go_wp2_with fail
      refine (less_any wr g N c k p b a m HL.out HBB.out HA.out HOwn.out).mono ?_
      rintro e w1 ⟨rfl, nd, rfl⟩
      have hat1 := HAT.out.drewN nd
      have hc1 := hat1.var.cell
      have e2 := m_swap hc1
      have HAT1 := Lib.hid hat1
      clear hc1 hat1
      by_cases hlt : Ln.jlt b a
      · have hd : decide (Ln.jlt b a) = true := decide_eq_true hlt
        rw [hd]
        have HLT := Lib.hid hlt
        clear hd hlt
        have hown1 := HAT1.out.own
        rw [HL.out] at hown1
        have HOwn1 := Lib.hid hown1
        clear hown1
        go_wp2_with fail
        refine (swap_any (wr.drewN nd) g N c p k a b m HL.out HA.out HBB.out HOwn1.out).mono ?_
        rintro e w2 ⟨rfl, hown2, hk2⟩
        have hstep := Ln.up_step (by omega) hk (by rw [HL.out]; exact Nat.le_refl _) HB.out HO.out (by rw [← HPP.out]; exact HA.out) HBB.out HLT.out
        rw [← HPP.out] at hstep
        have HS := Lib.hid hstep
        have hlen : (Ln.swapped m p k a b).length = N := by rw [Ln.swapped_length, HL.out]
        have hvar2 := HAT1.out.var.keep hk2 (by have := HNE.out; simp [Value.ownBlock] at this; exact fun e => this e.symm)
        clear hstep
        go_wp2
        go_roundw
        case rel => exact ⟨p, Ln.swapped m p k a b, by omega, rfl, (Ln.swapped_perm HA.out HBB.out).trans HP.out, hlen, HS.out.1, HS.out.2, ⟨hvar2, by rw [hlen]; exact hown2⟩, (HK.out.drewN nd).trans hk2 (fun i _ hi => by rw [hi]; rfl)⟩
        case measure => simp [intOf]; omega
      · have hd : decide (Ln.jlt b a) = false := decide_eq_false hlt
        rw [hd]
        go_wp2
        go_end0
        exact ⟨rfl, m, HP.out, by rw [HL.out]; exact Ln.up_done HB.out (.inr ⟨a, b, by rw [← HPP.out]; exact HA.out, HBB.out, hlt⟩), HAT1.out, HK.out.drewN nd⟩

end Go.Proofs.Ytgilejknjdbneaa
