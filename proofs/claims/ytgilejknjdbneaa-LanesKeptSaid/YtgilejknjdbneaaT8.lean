/- Contracts of lanes.Share and the laws share. -/
import Derived.Test.YtgilejknjdbneaaT7
import Derived.Test.YtgilejknjdbneaaFlo
namespace Go.Proofs.Ytgilejknjdbneaa
open Go.RowKit Go.IntWalk

theorem Ln.budget_bd (t : ByteArray) (l : List Slot) : ∀ n : Int, n ≤ Ln.budget t n l ∧ Ln.budget t n l ≤ n + l.length * 65536 := by
  induction l with
  | nil => intro n; simp [Ln.budget]
  | cons x l ih =>
    intro n
    have h := Ln.part_le t x
    have := ih (n + Ln.part t x)
    simp only [Ln.budget, List.length_cons]
    omega
/-- Share's answer. -/
def shareF (t : ByteArray) (l : List Slot) : Nat := if Ln.lenFrom 0 none l = 0 then 0 else quoF (Ln.budget t 0 l) (Ln.lenFrom 0 none l)

theorem lenFrom_bd {l : List Slot} (hb : ∀ s ∈ l, s.to ≤ 9223372036854775807) : 0 ≤ Ln.lenFrom 0 none l ∧ Ln.lenFrom 0 none l ≤ 9223372036854775807 := by
  by_cases h0 : Ln.lenFrom 0 none l = 0
  · omega
  · obtain ⟨hch, hlast⟩ := Ln.lenFrom_chain h0
    have := hch.last
    refine ⟨by omega, ?_⟩
    rw [hlast]
    rcases Nat.eq_zero_or_pos l.length with h | h
    · obtain rfl := List.eq_nil_of_length_eq_zero h
      simp [Ln.lastTo]
    · have hl : l[l.length - 1]? = some l[l.length - 1] := List.getElem?_eq_getElem (by omega)
      rw [← hch.last_at hl]
      exact hb _ (List.mem_of_getElem? hl)

set_option maxHeartbeats 400000 in
theorem share_any (A : Option Addr) (c : Nat) (l : List Slot) (t : ByteArray) (w : World) (hl : l.length ≤ 10000000000000) (hb : ∀ s ∈ l, s.to ≤ 9223372036854775807) (hr : SlotsAt w A l) :
    Calls Try.prog 21 #[.slice A l.length c, .string t] w fun e w' => e = .returned (.float .f64 (shareF t l)) ∧ Below w.heap.size w w' := by
  obtain ⟨hb0, hb1⟩ := lenFrom_bd hb
  obtain ⟨hu0, hu1⟩ := Ln.budget_bd t l 0
  obtain ⟨M, hM⟩ : ∃ M, M = Ln.lenFrom 0 none l := ⟨_, rfl⟩
  obtain ⟨S, hS⟩ : ∃ S, S = shareF t l := ⟨_, rfl⟩
  rw [← hS]
  rw [← hM] at hb0 hb1
  have HS := Lib.hid hS
  have HM := Lib.hid hM
  clear hS hM
  go_enter Try.func21, Try.ntmps21
  go_wp2_with fail
  refine (length_any A c l w (by omega) hr).mono ?_
  rw [← HM.out]
  rintro e w1 ⟨rfl, hbw⟩
  by_cases h0 : M = 0
  · have h0' : (M == 0) = true := by simp [h0]
    have h1 : S = 0 := by rw [HS.out, shareF, ← HM.out, if_pos h0]
    have H1 := Lib.hid h1
    clear h0 h1
    go_wp2
    go_ret
    rw [H1.out]
    exact ⟨rfl, hbw⟩
  · have h0' : (M == 0) = false := by simp [h0]
    have h1 : S = quoF (Ln.budget t 0 l) M := by rw [HS.out, shareF, ← HM.out, if_neg h0]
    have H1 := Lib.hid h1
    have hM0 : 0 < M := by omega
    clear h0 h1
    go_wp2_with fail
    refine (budget_any A c l t w1 (by omega) (hr.below hbw (Nat.le_refl _))).mono ?_
    obtain ⟨U, hU⟩ : ∃ U, U = Ln.budget t 0 l := ⟨_, rfl⟩
    rw [← hU] at H1 hu0 hu1 ⊢
    rintro e w2 ⟨rfl, hb2⟩
    have hq := fun W => run_quoF (P := Try.prog) 40 (a := U) (b := M) hu0 (by omega) hM0 (by omega) W
    clear hU
    go_wp2
    go_ret
    rw [H1.out]
    exact ⟨rfl, hbw.trans (hb2.mono hbw.size)⟩

set_option maxHeartbeats 400000 in
theorem lawShare_any (A : Option Addr) (c : Nat) (l : List Slot) (t : ByteArray) (w : World) (hl : l.length ≤ 10000000000000) (hb : ∀ s ∈ l, s.to ≤ 9223372036854775807) (hr : SlotsAt w A l) :
    Calls Try.prog 22 #[.slice A l.length c, .string t] w fun e w' => e = .returned (.float .f64 (shareF t l)) ∧ Below w.heap.size w w' := by
  obtain ⟨hb0, hb1⟩ := lenFrom_bd hb
  obtain ⟨hu0, hu1⟩ := Ln.budget_bd t l 0
  obtain ⟨M, hM⟩ : ∃ M, M = Ln.lenFrom 0 none l := ⟨_, rfl⟩
  obtain ⟨S, hS⟩ : ∃ S, S = shareF t l := ⟨_, rfl⟩
  rw [← hS]
  rw [← hM] at hb0 hb1
  have HS := Lib.hid hS
  have HM := Lib.hid hM
  clear hS hM
  go_enter Try.func22, Try.ntmps22
  go_wp2_with fail
  refine (refRow_any A c l w (by omega) hr).mono ?_
  rw [← HM.out]
  rintro e w1 ⟨rfl, hbw⟩
  by_cases h0 : M = 0
  · have h0' : (M == 0) = true := by simp [h0]
    have h1 : S = 0 := by rw [HS.out, shareF, ← HM.out, if_pos h0]
    have H1 := Lib.hid h1
    clear h0 h1
    go_wp2
    go_ret
    rw [H1.out]
    exact ⟨rfl, hbw⟩
  · have h0' : (M == 0) = false := by simp [h0]
    have h1 : S = quoF (Ln.budget t 0 l) M := by rw [HS.out, shareF, ← HM.out, if_neg h0]
    have H1 := Lib.hid h1
    have hM0 : 0 < M := by omega
    clear h0 h1
    go_wp2_with fail
    refine (refBudget_any A c l t w1 (by omega) (hr.below hbw (Nat.le_refl _))).mono ?_
    obtain ⟨U, hU⟩ : ∃ U, U = Ln.budget t 0 l := ⟨_, rfl⟩
    rw [← hU] at H1 hu0 hu1 ⊢
    rintro e w2 ⟨rfl, hb2⟩
    have hq := fun W => run_quoF (P := Try.prog) 40 (a := U) (b := M) hu0 (by omega) hM0 (by omega) W
    clear hU
    go_wp2
    go_ret
    rw [H1.out]
    exact ⟨rfl, hbw.trans (hb2.mono hbw.size)⟩

end Go.Proofs.Ytgilejknjdbneaa
