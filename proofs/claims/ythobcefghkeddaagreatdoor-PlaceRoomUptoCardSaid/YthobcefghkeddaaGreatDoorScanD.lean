import Derived.Test.YthobcefghkeddaaGreatDoorRows
import Derived.Test.YthobcefghkeddaaGreatDoorMem
import Derived.Lib.LaidTab
import Derived.Lib.Space
import Derived.Lib.ItoaNum
import Derived.Lib.SpaceR
set_option maxRecDepth 100000
set_option linter.all false
set_option maxHeartbeats 4000000
namespace Go.Proofs.YthobcefghkeddaaGreatDoor
open Go.RowKit Go.IntWalk Go.Lib
def pa(QT:Nat→Nat)(w:World):Prop:=∀i,i<128→w.cell? ⟨1,i,none⟩=some (.int .u8 (QT i))
def wG(v:Value):Prop:=v=.nilIface∨∃te pe,v=.iface te pe
def BI(w:World):Prop:=∃p q:Nat×Nat,w.cell? ⟨7,0,none⟩=some (.pointer (some ⟨p.1,p.2,none⟩))∧aL w p.1 p.2 [.slice (some ⟨q.1,q.2,none⟩) 7 7,.slice none 0 0,.int .i64 2] ∧
 ∀i,i<21→w.cell? ⟨q.1,q.2+i,none⟩=some (.int .u16 (whiteT.getD i 0))
structure jm (QT:Nat→Nat) (w:World):Prop where
 QT:pa QT w
 space:TabIs Tryz.prog w "strings.asciiSpace" .u8 asciiSpaceTab
 white:BI w
 pow:TabIs Tryz.prog w "internal/strconv.uint64pow10" .u64 pow10Tab
 max:∃m:Int,w.cell? ⟨6,0,none⟩=some (.int .i64 m)
 e3:∃v,w.cell? ⟨3,0,none⟩=some v∧wG v
 e4:∃v,w.cell? ⟨4,0,none⟩=some v∧wG v
def jg(i:Nat):Nat:=match(Go.Proofs.YthobcefghkeddaaGreatDoor.Rows.laid_bulkhead_scan_classes:DataW Unit)with
 | .agg l=>(match l[i]? with|some (.lit (.int _ n))=>n.toNat|_=>0)
 | _=>0
