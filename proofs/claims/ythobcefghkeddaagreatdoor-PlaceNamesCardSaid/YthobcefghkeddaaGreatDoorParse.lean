import Derived.Test.YthobcefghkeddaaGreatDoorScan2
import Derived.Test.YthobcefghkeddaaGreatDoorShelfL
import Derived.Lib.SmallJoins
set_option maxRecDepth 100000
set_option linter.all false
set_option maxHeartbeats 4000000
namespace Go.Proofs.YthobcefghkeddaaGreatDoor
open Go.RowKit Go.IntWalk Go.Lib
theorem xC(p:ByteArray)(v:p.size≤281474976710656)(w:World){e3 e4:Value}(x:w.cell? ⟨3,0,none⟩=some e3)(j:vD e3)(y:w.cell? ⟨4,0,none⟩=some e4)(l:vD e4):
 Calls Tryz.prog 147 #[.string p,.int .i64 10,.int .i64 64] w fun e w'=>∃(u:Nat) (g:Value),e=.returned (.tuple #[.int .u64 u,g])∧u<18446744073709551616 ∧
  ((g=.nilIface∧parseUintB 64 p.data.toList=.ok u)∨((∃N,g=.iface 314 (.pointer (some ⟨N,0,none⟩)))∧∀u,parseUintB 64 p.data.toList ≠ .ok u))∧Below w.heap.size w w':=by
 cases hu:parseUintB 64 p.data.toList with
 | ok u =>
  have d:u<18446744073709551616:=by have:=parseUintB_le hu;omega
  refine(Tryz.strconv_ParseUint_10_at64_ok p χ u hu w).mono ?_;rintro e w' ⟨rfl,h|h⟩
  ·exact⟨u,_,rfl,d,.inl ⟨rfl,rfl⟩,by rw[h];exact Below.refl _ _⟩
  ·exact⟨u,_,rfl,d,.inl ⟨rfl,rfl⟩,by rw[h];exact Go.Joins.below_bytesWorld _ _ _ _ (Nat.le_refl _)⟩
 | range =>
  refine(Tryz.strconv_ParseUint_10_at64_range p v hu e4 w y l).mono ?_;rintro e w' ⟨N,rfl,_,_,q⟩;exact⟨18446744073709551615,_,rfl,χ,.inr ⟨⟨N,rfl⟩,ξ⟩,q⟩
 | _ =>
  refine(Any.strconv_ParseUint_10_at64_syntax Tryz.laysPu14 p v hu e3 w x j).mono ?_;rintro e w' ⟨N,rfl,_,_,q⟩;exact⟨0,_,rfl,χ,.inr ⟨⟨N,rfl⟩,ξ⟩,q⟩
