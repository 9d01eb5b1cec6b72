/- The heap of jobs. -/
import Derived.Test.YtgilejknjdbneaaBase
namespace Go.Proofs.Ytgilejknjdbneaa
open Go.RowKit Go.IntWalk

theorem m_push (a : Addr) (w : World) : (method 225 91 (.pointer (some a)) "Push").run Try.prog w = .ok (80, .pointer (some a)) w := by kernel_rfl
theorem m_pop (a : Addr) (w : World) : (method 225 91 (.pointer (some a)) "Pop").run Try.prog w = .ok (79, .pointer (some a)) w := by kernel_rfl
theorem m_len0 (a : Addr) (w : World) : (method 225 91 (.pointer (some a)) "Len").run Try.prog w = (match w.cell? a with | some v => .ok (55, v) w | none => (match w.farLoad Try.prog a (Mode.plain == Mode.atomic) with | .ok (v, _) => .ok (55, v) w | .error h => .halt h w)) := by kernel_rfl
theorem m_len {a : Addr} {w : World} {v : Value} (h : w.cell? a = some v) : (method 225 91 (.pointer (some a)) "Len").run Try.prog w = .ok (55, v) w := by rw [m_len0, h]
theorem m_less0 (a : Addr) (w : World) : (method 225 91 (.pointer (some a)) "Less").run Try.prog w = (match w.cell? a with | some v => .ok (78, v) w | none => (match w.farLoad Try.prog a (Mode.plain == Mode.atomic) with | .ok (v, _) => .ok (78, v) w | .error h => .halt h w)) := by kernel_rfl
theorem m_less {a : Addr} {w : World} {v : Value} (h : w.cell? a = some v) : (method 225 91 (.pointer (some a)) "Less").run Try.prog w = .ok (78, v) w := by rw [m_less0, h]
theorem m_swap0 (a : Addr) (w : World) : (method 225 91 (.pointer (some a)) "Swap").run Try.prog w = (match w.cell? a with | some v => .ok (81, v) w | none => (match w.farLoad Try.prog a (Mode.plain == Mode.atomic) with | .ok (v, _) => .ok (81, v) w | .error h => .halt h w)) := by kernel_rfl
theorem m_swap {a : Addr} {w : World} {v : Value} (h : w.cell? a = some v) : (method 225 91 (.pointer (some a)) "Swap").run Try.prog w = .ok (81, v) w := by rw [m_swap0, h]

end Go.Proofs.Ytgilejknjdbneaa
