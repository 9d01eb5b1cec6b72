/- Parse -/
import Derived.Test.YtpblcjipmoblnaaGreatDoorNamesB
import Derived.Test.YtpblcjipmoblnaaGreatDoorShelfL
import Derived.Lib.SmallJoins
import Derived.Lib.ParseIntBCases
set_option maxRecDepth 100000
set_option maxHeartbeats 4000000
set_option linter.unusedVariables false
set_option linter.unusedSimpArgs false
namespace Go.Proofs.YtpblcjipmoblnaaGreatDoor
open Go.RowKit Go.IntWalk Go.Lib
theorem parse_any (p : ByteArray) (hp : p.size ≤ 281474976710656) (w : World) {e3 e4 : Value} (h3 : w.cell? ⟨3, 0, none⟩ = some e3) (h3v : ErrV e3) (h4 : w.cell? ⟨4, 0, none⟩ = some e4) (h4v : ErrV e4) :
 Calls Tryz.prog 142 #[.string p, .int .i64 10, .int .i64 64] w fun e w' => ∃ (u : Nat) (er : Value), e = .returned (.tuple #[.int .u64 u, er]) ∧ u < 18446744073709551616 ∧
  ((er = .nilIface ∧ parseUintB 64 p.data.toList = .ok u) ∨ ((∃ N, er = .iface 293 (.pointer (some ⟨N, 0, none⟩))) ∧ ∀ u, parseUintB 64 p.data.toList ≠ .ok u)) ∧ Below w.heap.size w w' := by
 cases hu : parseUintB 64 p.data.toList with
 | ok u =>
  have hul : u < 18446744073709551616 := by have := parseUintB_le hu; omega
  refine (Tryz.strconv_ParseUint_10_at64_ok p (by omega) u hu w).mono ?_
  rintro e w' ⟨rfl, h | h⟩
  · exact ⟨u, _, rfl, hul, .inl ⟨rfl, rfl⟩, by rw [h]; exact Below.refl _ _⟩
  · exact ⟨u, _, rfl, hul, .inl ⟨rfl, rfl⟩, by rw [h]; exact Go.Joins.below_bytesWorld _ _ _ _ (Nat.le_refl _)⟩
 | range =>
  refine (Tryz.strconv_ParseUint_10_at64_range p hp hu e4 w h4 h4v).mono ?_
  rintro e w' ⟨N, rfl, _, _, hb⟩
  exact ⟨18446744073709551615, _, rfl, by omega, .inr ⟨⟨N, rfl⟩, by simp⟩, hb⟩
 | _ =>
  refine (Any.strconv_ParseUint_10_at64_syntax Tryz.laysPu14 p hp hu e3 w h3 h3v).mono ?_
  rintro e w' ⟨N, rfl, _, _, hb⟩
  exact ⟨0, _, rfl, by omega, .inr ⟨⟨N, rfl⟩, by simp⟩, hb⟩
end Go.Proofs.YtpblcjipmoblnaaGreatDoor
