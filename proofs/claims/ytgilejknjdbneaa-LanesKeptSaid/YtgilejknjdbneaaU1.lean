/- The contract of the closure in lanes.At. -/
import Derived.Test.YtgilejknjdbneaaBase
import Derived.Test.YtgilejknjdbneaaPlain3
namespace Go.Proofs.Ytgilejknjdbneaa
open Go.RowKit Go.IntWalk

structure AtVars (w : World) (B : Nat) (M o e who left : Int) : Prop where
  M : Var w B 3 (.int .i64 M)
  o : Var w (B + 1) 3 (.int .i64 o)
  who : Var w (B + 2) 3 (.int .i64 who)
  left : Var w (B + 3) 3 (.int .i64 left)
  e : Var w (B + 4) 3 (.int .i64 e)

theorem Var.far {w : World} {b : Nat} {t : TypeId} {v : Value} (h : Var w b t v) {p : Addr} (hp : b ≠ p.block) (u : Value) : Var (w.setCell p u) b t v := (Below.heap_setCell w p u b hp).trans h
theorem AtVars.setE {w : World} {B : Nat} {M o e who left : Int} (h : AtVars w B M o e who left) (x : Int) : AtVars (w.setCell ⟨B + 4, 0, none⟩ (.int .i64 x)) B M o x who left :=
  ⟨h.M.far (by simp) _, h.o.far (by simp) _, h.who.far (by simp) _, h.left.far (by simp) _, h.e.set_ _⟩
theorem AtVars.setL {w : World} {B : Nat} {M o e who left : Int} (h : AtVars w B M o e who left) (x : Int) : AtVars (w.setCell ⟨B + 3, 0, none⟩ (.int .i64 x)) B M o e who x :=
  ⟨h.M.far (by simp) _, h.o.far (by simp) _, h.who.far (by simp) _, h.left.set_ _, h.e.far (by simp) _⟩
theorem AtVars.setW {w : World} {B : Nat} {M o e who left : Int} (h : AtVars w B M o e who left) (x : Int) : AtVars (w.setCell ⟨B + 2, 0, none⟩ (.int .i64 x)) B M o e x left :=
  ⟨h.M.far (by simp) _, h.o.far (by simp) _, h.who.set_ _, h.left.far (by simp) _, h.e.far (by simp) _⟩
theorem AtVars.drew {w : World} {B : Nat} {M o e who left : Int} (h : AtVars w B M o e who left) : AtVars w.drew B M o e who left := ⟨h.M, h.o, h.who, h.left, h.e⟩

set_option maxHeartbeats 1000000 in
theorem take_any (w : World) (B : Nat) (M o e who left s t : Int) (hv : AtVars w B M o e who left) (hM : M ≤ 9223372036854775807) (ho : 0 ≤ o) (hoM : o < M) (he0 : 0 ≤ e) (heM : e < M) (hl0 : 0 ≤ left) (hlM : left ≤ e) (ht : 0 < t ∧ t ≤ 9223372036854775807) (hs : -9223372036854775808 ≤ s ∧ s ≤ 9223372036854775807) :
    Calls Try.prog 48 #[.int .i64 s, .int .i64 t, .pointer (some ⟨B + 4, 0, none⟩), .pointer (some ⟨B, 0, none⟩), .pointer (some ⟨B + 1, 0, none⟩), .pointer (some ⟨B + 3, 0, none⟩), .pointer (some ⟨B + 2, 0, none⟩)] w fun en w' =>
      en = .returned (.bool (Ln.take M o e who left s t).1) ∧ AtVars w' B M o (Ln.take M o e who left s t).2.1 (Ln.take M o e who left s t).2.2.1 (Ln.take M o e who left s t).2.2.2 ∧ Keep (fun k => B ≤ k) w w' := by
  obtain ⟨v0, v1, v2, v3, v4⟩ := id hv
  have c0 := v0.cell
  have c1 := v1.cell
  have c2 := v2.cell
  have c3 := v3.cell
  have c4 := v4.cell
  have f2 := v2.frozen
  have f3 := v3.frozen
  have f4 := v4.frozen
  obtain ⟨T, hT⟩ : ∃ T, T = Ln.take M o e who left s t := ⟨_, rfl⟩
  rw [← hT]
  have HT := Lib.hid hT
  clear hT v0 v1 v2 v3 v4
  by_cases g0 : t ≤ M - e
  · have hm : min t (M - e) = t := Int.min_eq_left g0
    go_enter Try.func48, Try.ntmps48
    go_wp2
    all_goals try (go_region; all_goals go_wp2)
    all_goals go_ret
    all_goals
      rw [HT.out]
      simp only [Ln.take, hm]
    all_goals first
      | rw [show max s (-1) = -1 by omega]
      | rw [show max s (-1) = s by omega]
    all_goals first
      | rw [if_pos (by omega)]
      | rw [if_neg (by omega), if_pos (by first | omega | (simp at *; omega))]
      | rw [if_neg (by omega), if_neg (by first | omega | (simp at *; omega)), if_pos (by first | omega | (simp at *; omega))]
      | rw [if_neg (by omega), if_neg (by first | omega | (simp at *; omega)), if_neg (by first | omega | (simp at *; omega))]
    all_goals first
      | rw [show max e o = o by omega]
      | rw [show max e o = e by omega]
      | skip
    all_goals first
      | exact ⟨rfl, hv.setE _, (Keep.refl _ w).setCell (fun _ => by simp) _⟩
      | exact ⟨rfl, (((hv.setE _).setW _).setL _).drew, ((((Keep.refl _ w).setCell (fun _ => by simp) _).setCell (fun _ => by simp) _).setCell (fun _ => by simp) _).drew⟩
      | exact ⟨rfl, (hv.setE _).setL _, ((Keep.refl _ w).setCell (fun _ => by simp) _).setCell (fun _ => by simp) _⟩
      | trace_state
  · have hm : min t (M - e) = M - e := Int.min_eq_right (by omega)
    go_enter Try.func48, Try.ntmps48
    go_wp2
    all_goals try (go_region; all_goals go_wp2)
    all_goals go_ret
    all_goals
      rw [HT.out]
      simp only [Ln.take, hm]
    all_goals first
      | rw [show max s (-1) = -1 by omega]
      | rw [show max s (-1) = s by omega]
    all_goals first
      | rw [if_pos (by omega)]
      | rw [if_neg (by omega), if_pos (by first | omega | (simp at *; omega))]
      | rw [if_neg (by omega), if_neg (by first | omega | (simp at *; omega)), if_pos (by first | omega | (simp at *; omega))]
      | rw [if_neg (by omega), if_neg (by first | omega | (simp at *; omega)), if_neg (by first | omega | (simp at *; omega))]
    all_goals first
      | rw [show max e o = o by omega]
      | rw [show max e o = e by omega]
      | skip
    all_goals first
      | exact ⟨rfl, hv.setE _, (Keep.refl _ w).setCell (fun _ => by simp) _⟩
      | exact ⟨rfl, (((hv.setE _).setW _).setL _).drew, ((((Keep.refl _ w).setCell (fun _ => by simp) _).setCell (fun _ => by simp) _).setCell (fun _ => by simp) _).drew⟩
      | exact ⟨rfl, (hv.setE _).setL _, ((Keep.refl _ w).setCell (fun _ => by simp) _).setCell (fun _ => by simp) _⟩
      | trace_state

end Go.Proofs.Ytgilejknjdbneaa
