/- The contract of lanes.length. -/
import Derived.Test.YtgilejknjdbneaaBase
namespace Go.Proofs.Ytgilejknjdbneaa
open Go.RowKit Go.IntWalk

def prev (l : List Slot) (k : Nat) : Option ByteArray := if k = 0 then none else (l[k - 1]?).map (·.subj)

set_option maxHeartbeats 400000 in
theorem length_any (A : Option Addr) (c : Nat) (l : List Slot) (w : World) (hl : l.length ≤ 140737488351232) (hr : SlotsAt w A l) :
    Calls Try.prog 44 #[.slice A l.length c] w fun e w' => e = .returned (.int .i64 (Ln.lenFrom 0 none l)) ∧ Below w.heap.size w w' := by
  go_enter Try.func44, Try.ntmps44
  go_wp2
  go_loopw [3, 8] (fun s i wr => ∃ (k : Nat) (e : Int), k ≤ l.length ∧ i = .int .i64 k ∧ s = .int .i64 e ∧ Ln.lenFrom e (prev l k) (l.drop k) = Ln.lenFrom 0 none l ∧ Below w.heap.size w wr) (fun _ i _ => l.length - (intOf i).toNat)
  case atStart => exact ⟨0, 0, by omega, rfl, rfl, rfl, Below.refl _ _⟩
  case round =>
    obtain ⟨k, en, hk, rfl, rfl, hinv, hbw⟩ := hrel
    have Hinv := Lib.hid hinv
    clear hinv
    have hsz := hbw.size
    by_cases hlt : k < l.length
    · obtain ⟨b, off, rfl, hbl, hcs⟩ := hr (by omega)
      obtain ⟨s, hs⟩ : ∃ s, l[k]? = some s := ⟨l[k], List.getElem?_eq_getElem hlt⟩
      obtain ⟨q0, q1, q2⟩ := hcs k s hs
      rw [← hbw.cell (p := ⟨b, _, none⟩) (by exact hbl)] at q0 q1 q2
      have hlt1 : b < wr.heap.size := by omega
      have hdrop : l.drop k = s :: l.drop (k + 1) := by
        obtain ⟨h1, h2⟩ := List.getElem?_eq_some_iff.1 hs
        rw [List.drop_eq_getElem_cons h1, h2]
      have Hs := Lib.hid hs
      have Hd := Lib.hid hdrop
      clear hs hdrop
      have hz : Ln.lenFrom 0 none l = if s.from_ ≠ en ∨ s.to ≤ s.from_ ∨ prev l k = some s.subj then 0 else Ln.lenFrom s.to (some s.subj) (l.drop (k + 1)) := by
        rw [← Hinv.out, Hd.out]; rfl
      have HZ := Lib.hid hz
      clear hz
      by_cases g1 : s.from_ = en
      · subst g1
        have g1' : (s.from_ != s.from_) = false := by simp
        by_cases g2 : s.to ≤ s.from_
        · go_wp2
          go_big_quiet (fail)
          go_wp2
          go_ret
          exact ⟨ret_int (by rw [HZ.out, if_pos (.inr (.inl g2))]), below_drewN (hbw.alloc hsz _) _⟩
        · have g2' : decide (s.to ≤ s.from_) = false := by simpa using g2
          by_cases g3 : k = 0
          · have hp : prev l k = none := by simp [prev, g3]
            have Hp := Lib.hid hp
            have g3' : decide ((0 : Int) < (k : Int)) = false := by simp; omega
            have g3'' : decide (0 < k) = false := by simp; omega
            have G3 := Lib.hid g3
            clear hp g3
            go_wp2
            go_big_quiet (fail)
            go_wp2
            go_roundw
            case rel => exact ⟨k + 1, s.to, by omega, by go_num, rfl, by rw [HZ.out, if_neg (by rw [Hp.out]; simp; omega), show prev l (k + 1) = some s.subj by simp [prev, Hs.out]], below_drewN (hbw.alloc hsz _) _⟩
            case measure => simp [intOf]; omega
          · obtain ⟨m, hm⟩ : ∃ m, k = m + 1 := ⟨k - 1, by omega⟩
            obtain ⟨x, hx⟩ : ∃ x, l[m]? = some x := ⟨l[m], List.getElem?_eq_getElem (by omega)⟩
            obtain ⟨y0, _, _⟩ := hcs m x hx
            rw [← hbw.cell (p := ⟨b, _, none⟩) (by exact hbl)] at y0
            have hp : prev l k = some x.subj := by simp [prev, hm, hx]
            have Hp := Lib.hid hp
            clear hp hcs hr hx
            have hmw : IntKind.i64.wrap ((k : Int) - 1) = (m : Int) := by rw [i64_in _ (by omega)]; omega
            have hm1 : (m : Int) < l.length := by omega
            have Hm := Lib.hid hm
            have g3' : decide ((0 : Int) < (k : Int)) = true := by simp; omega
            have g3'' : decide (0 < k) = true := by simp; omega
            clear hm
            by_cases g4 : s.subj = x.subj
            · have g4' : (s.subj.toList == x.subj.toList) = true := by rw [g4]; simp
              go_wp2
              go_big_quiet (fail)
              go_wp2
              go_ret
              exact ⟨ret_int (by rw [HZ.out, if_pos (.inr (.inr (by rw [Hp.out, g4])))]), below_drewN (hbw.alloc hsz _) _⟩
            · have g4' := bytes_ne g4
              go_wp2
              go_big_quiet (fail)
              go_wp2
              go_roundw
              case rel => exact ⟨k + 1, s.to, by omega, by go_num, rfl, by rw [HZ.out, if_neg (by rw [Hp.out]; simp; exact ⟨by omega, fun h => g4 h.symm⟩), show prev l (k + 1) = some s.subj by simp [prev, Hs.out]], below_drewN (hbw.alloc hsz _) _⟩
              case measure => simp [intOf]; omega
      · have g1' : (s.from_ != en) = true := by simp [g1]
        go_wp2
        go_big_quiet (fail)
        go_wp2
        go_ret
        exact ⟨ret_int (by rw [HZ.out, if_pos (.inl g1)]), below_drewN (hbw.alloc hsz _) _⟩
    · go_wp2
      go_ret
      have hk' : k = l.length := by omega
      have h := Hinv.out
      subst hk'
      rw [List.drop_length] at h
      exact ⟨ret_int h, hbw⟩

end Go.Proofs.Ytgilejknjdbneaa
