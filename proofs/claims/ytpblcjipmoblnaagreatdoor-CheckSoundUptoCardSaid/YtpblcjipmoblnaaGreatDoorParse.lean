import Derived.Test.YtpblcjipmoblnaaGreatDoorTheirs3
import Derived.Test.YtpblcjipmoblnaaGreatDoorShelfL
import Derived.Lib.SmallJoins
set_option maxRecDepth 100000
set_option linter.all false
set_option maxHeartbeats 4000000
namespace Go.Proofs.YtpblcjipmoblnaaGreatDoor
open Go.RowKit Go.IntWalk Go.Lib
theorem wI(p:ByteArray)(r:p.size≤281474976710656)(w:World){e3 e4:Value}(v:w.cell? ⟨3,0,none⟩=some e3)(j:uX e3)(x:w.cell? ⟨4,0,none⟩=some e4)(l:uX e4):
 Calls Tryz.prog 142 #[.string p,.int .i64 10,.int .i64 64] w fun e w'=>∃(u:Nat) (g:Value),e=.returned (.tuple #[.int .u64 u,g])∧u<18446744073709551616 ∧
  ((g=.nilIface∧parseUintB 64 p.data.toList=.ok u)∨((∃N,g=.iface 293 (.pointer (some ⟨N,0,none⟩)))∧∀u,parseUintB 64 p.data.toList ≠ .ok u))∧Below w.heap.size w w':=by
 cases hu:parseUintB 64 p.data.toList with
 | ok u =>
  have d:u<18446744073709551616:=by have:=parseUintB_le hu;omega
  refine(Tryz.strconv_ParseUint_10_at64_ok p χ u hu w).mono ?_;rintro e w' ⟨rfl,h|h⟩
  ·exact⟨u,_,rfl,d,.inl ⟨rfl,rfl⟩,by rw[h];exact Below.refl _ _⟩
  ·exact⟨u,_,rfl,d,.inl ⟨rfl,rfl⟩,by rw[h];exact Go.Joins.below_bytesWorld _ _ _ _ (Nat.le_refl _)⟩
 | range =>
  refine(Tryz.strconv_ParseUint_10_at64_range p r hu e4 w x l).mono ?_;rintro e w' ⟨N,rfl,_,_,q⟩;exact⟨18446744073709551615,_,rfl,χ,.inr ⟨⟨N,rfl⟩,ξ⟩,q⟩
 | _ =>
  refine(Any.strconv_ParseUint_10_at64_syntax Tryz.laysPu14 p r hu e3 w v j).mono ?_;rintro e w' ⟨N,rfl,_,_,q⟩;exact⟨0,_,rfl,χ,.inr ⟨⟨N,rfl⟩,ξ⟩,q⟩
