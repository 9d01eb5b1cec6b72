import Derived.Test.YtpblcjipmoblnaaGreatDoorSmap
import Derived.Test.YtpblcjipmoblnaaGreatDoorShelfL
import Derived.Lib.SmallJoins
import Derived.Lib.ParseIntBCases
set_option maxRecDepth 100000
set_option maxHeartbeats 4000000
set_option linter.unusedVariables false
set_option linter.unusedSimpArgs false
set_option linter.unnecessarySimpa false
namespace Go.Proofs.YtpblcjipmoblnaaGreatDoor
open Go.RowKit Go.IntWalk Go.Lib
theorem td(p:ByteArray)(j:p.size≤281474976710656)(w:World){e3 e4:Value}(l:w.cell? ⟨3,0,none⟩=some e3)(d:sK e3)(n:w.cell? ⟨4,0,none⟩=some e4)(g:sK e4):
 Calls Tryz.prog 142 #[.string p,.int .i64 10,.int .i64 64] w fun e w'=>∃(u:Nat) (b:Value),e=.returned (.tuple #[.int .u64 u,b])∧u<18446744073709551616 ∧
  ((b=.nilIface∧parseUintB 64 p.data.toList=.ok u)∨((∃N,b=.iface 293 (.pointer (some ⟨N,0,none⟩)))∧∀u,parseUintB 64 p.data.toList ≠ .ok u))∧Below w.heap.size w w':=by
 cases hu:parseUintB 64 p.data.toList with
 | ok u =>
  have a:u<18446744073709551616:=by have:=parseUintB_le hu;omega
  refine(Tryz.strconv_ParseUint_10_at64_ok p (by omega) u hu w).mono ?_;rintro e w' ⟨rfl,h|h⟩
  ·exact⟨u,_,rfl,a,.inl ⟨rfl,rfl⟩,by rw[h];exact Below.refl _ _⟩
  ·exact⟨u,_,rfl,a,.inl ⟨rfl,rfl⟩,by rw[h];exact Go.Joins.below_bytesWorld _ _ _ _ (Nat.le_refl _)⟩
 | range =>
  refine(Tryz.strconv_ParseUint_10_at64_range p j hu e4 w n g).mono ?_;rintro e w' ⟨N,rfl,_,_,i⟩;exact⟨18446744073709551615,_,rfl,by omega,.inr ⟨⟨N,rfl⟩,by simp⟩,i⟩
 | _ =>
  refine(Any.strconv_ParseUint_10_at64_syntax Tryz.laysPu14 p j hu e3 w l d).mono ?_;rintro e w' ⟨N,rfl,_,_,i⟩;exact⟨0,_,rfl,by omega,.inr ⟨⟨N,rfl⟩,by simp⟩,i⟩
end Go.Proofs.YtpblcjipmoblnaaGreatDoor
