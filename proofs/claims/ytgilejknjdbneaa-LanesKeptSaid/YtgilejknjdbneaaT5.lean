/- The contract of lanes.Budget. -/
import Derived.Test.YtgilejknjdbneaaBase
namespace Go.Proofs.Ytgilejknjdbneaa
open Go.RowKit Go.IntWalk

theorem drop_at {α : Type} {l : List α} {k : Nat} {x : α} (h : l[k]? = some x) : l.drop k = x :: l.drop (k + 1) := by
  obtain ⟨h1, h2⟩ := List.getElem?_eq_some_iff.1 h
  rw [List.drop_eq_getElem_cons h1, h2]

set_option maxHeartbeats 400000 in
theorem budget_any (A : Option Addr) (c : Nat) (l : List Slot) (t : ByteArray) (w : World) (hl : l.length ≤ 10000000000000) (hr : SlotsAt w A l) :
    Calls Try.prog 19 #[.slice A l.length c, .string t] w fun e w' => e = .returned (.int .i64 (Ln.budget t 0 l)) ∧ Below w.heap.size w w' := by
  go_enter Try.func19, Try.ntmps19
  go_wp2
  go_loopw [5, 10] (fun s i wr => ∃ (k : Nat) (e : Int), k ≤ l.length ∧ 0 ≤ e ∧ e ≤ k * 65536 ∧ i = .int .i64 k ∧ s = .int .i64 e ∧ Ln.budget t e (l.drop k) = Ln.budget t 0 l ∧ Below w.heap.size w wr) (fun _ i _ => l.length - (intOf i).toNat)
  case atStart => exact ⟨0, 0, by omega, by omega, by omega, rfl, rfl, rfl, Below.refl _ _⟩
  case round =>
    obtain ⟨k, en, hk, he0, he1, rfl, rfl, hinv, hbw⟩ := hrel
    have Hinv := Lib.hid hinv
    clear hinv
    have hsz := hbw.size
    by_cases hlt : k < l.length
    · obtain ⟨b, off, rfl, hbl, hcs⟩ := hr (by omega)
      obtain ⟨s, hs⟩ : ∃ s, l[k]? = some s := ⟨l[k], List.getElem?_eq_getElem hlt⟩
      obtain ⟨q0, q1, q2⟩ := hcs k s hs
      rw [← hbw.cell (p := ⟨b, _, none⟩) (by exact hbl)] at q0 q1 q2
      have hlt1 : b < wr.heap.size := by omega
      have Hd := Lib.hid (drop_at hs)
      have hz : Ln.budget t (en + Ln.part t s) (l.drop (k + 1)) = Ln.budget t 0 l := by rw [← Hinv.out, Hd.out]; rfl
      have HZ := Lib.hid hz
      have hp := Ln.part_le t s
      clear hs hz hcs hr
      by_cases g : s.subj = t ∧ 0 ≤ s.from_ ∧ s.from_ < s.to ∧ s.to ≤ 65536
      · have hpe : Ln.part t s = s.to - s.from_ := by unfold Ln.part; rw [if_pos g]
        have Hp := Lib.hid hpe
        obtain ⟨g1, g2, g3, g4⟩ := g
        have g1' : (s.subj.toList == t.toList) = true := by rw [g1]; simp
        clear g1 hpe
        go_wp2
        go_roundw
        case rel => exact ⟨k + 1, en + Ln.part t s, by omega, by omega, by omega, by go_num, by rw [Hp.out], HZ.out, hbw.alloc hsz _⟩
        case measure => simp [intOf]; omega
      · have hpe : Ln.part t s = 0 := by unfold Ln.part; rw [if_neg g]
        have Hp := Lib.hid hpe
        clear hpe
        by_cases g1 : s.subj = t
        · have g1' : (s.subj.toList == t.toList) = true := by rw [g1]; simp
          have g2 : ¬ (0 ≤ s.from_ ∧ s.from_ < s.to ∧ s.to ≤ 65536) := fun h => g ⟨g1, h⟩
          clear g g1
          go_wp2
          all_goals first | (exfalso; omega) | skip
          all_goals go_roundw
          all_goals first
            | (case rel => exact ⟨k + 1, en + Ln.part t s, by omega, by omega, by omega, by go_num, by rw [Hp.out]; simp, HZ.out, hbw.alloc hsz _⟩)
            | (case measure => simp [intOf]; omega)
        · have g1' := bytes_ne g1
          clear g g1
          go_wp2
          go_roundw
          case rel => exact ⟨k + 1, en + Ln.part t s, by omega, by omega, by omega, by go_num, by rw [Hp.out]; simp, HZ.out, hbw.alloc hsz _⟩
          case measure => simp [intOf]; omega
    · go_wp2
      go_ret
      have hk' : k = l.length := by omega
      have h := Hinv.out
      subst hk'
      rw [List.drop_length] at h
      exact ⟨ret_int h, hbw⟩

end Go.Proofs.Ytgilejknjdbneaa
