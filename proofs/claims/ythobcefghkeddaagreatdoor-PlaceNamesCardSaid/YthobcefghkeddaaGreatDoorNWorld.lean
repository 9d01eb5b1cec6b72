import Derived.Test.YthobcefghkeddaaGreatDoorMask
import Derived.Test.YthobcefghkeddaaGreatDoorStart
import Derived.ProofKit
import Derived.Deep.DeepWitnessRowRef
set_option maxRecDepth 100000
set_option linter.all false
set_option maxHeartbeats 4000000
namespace Go.Proofs.YthobcefghkeddaaGreatDoor.qB
open Go.ChangeShapes Go.WideShapes Go.ChangeAt Go.RowKit
def put(h:Array Obj)(g:Nat)(cs:Array Value):Array Obj:=h.modify g fun
 | .cells _ t frozen =>.cells cs t frozen
 | o=>o
def tab:DataW Unit→List Value
 | .agg l=>l.map fun d=>match d with|.lit (.int k n)=>Value.int k n|_ =>.nilIface
 | _=>[]
noncomputable def qL(os:Os):World:=
 let N:=(World.settled Tryz.prog os).heap.size
 let w0:=World.holding Tryz.prog os ⟨#[.cells (Lib.whiteT.map fun(z:Nat)=>Value.int .u16 (z:Int)).toArray (Tryz.lays199_ren.t 198),.cells #[.slice (some ⟨N,0,none⟩) 7 7,.slice none 0 0,.int .i64 2] (Tryz.lays199_ren.t 196),
  .cells #[.string ⟨#[105,110,118,97,108,105,100,32,115,121,110,116,97,120]⟩] 354,.cells #[.string ⟨#[118,97,108,117,101,32,111,117,116,32,111,102,32,114,97,110,103,101]⟩] 354], #[],[]⟩
 let h0:=put w0.heap 0 #[.iface 231 (.agg #[.pointer (some ⟨13,75,none⟩)])]
 let h1:=put h0 1 ((List.range 128).map fun i=>Value.int .u8 (gK i)).toArray
 let h2:=put h1 2 (Lib.asciiSpaceTab.map fun z=>Value.int .u8 z).toArray
 let h3:=put h2 3 #[.iface 352 (.pointer (some ⟨N+2,0,none⟩))]
 let h4:=put h3 4 #[.iface 352 (.pointer (some ⟨N+3,0,none⟩))]
 let h5:=put h4 5 (Lib.pow10Tab.map fun z=>Value.int .u64 z).toArray
 let h7:=put h5 7 #[.pointer (some ⟨N+1,0,none⟩)]
 let h8:=put h7 8 (Lib.firstTab.map fun z=>Value.int .u8 z).toArray
 let h9:=put h8 9 ((List.range 16).flatMap fun i=>[Value.int .u8 (Lib.accLo i),Value.int .u8 (Lib.accHi i)]).toArray
 let h10:=put h9 10 (tab Rows.laid_math_bits_deBruijn32tab).toArray
 let h11:=put h10 11 (tab Rows.laid_math_bits_deBruijn64tab).toArray
 { w0 with heap:=h11 }
noncomputable abbrev wl (os:Os):World:=(qL os).forCall (fun _ _=>0) ⟨#[], #[],[]⟩
theorem wl1(os:Os):(DataW.laidRun Tryz.prog (wl os).memory 10 ((Rows.placeNamesRow.laid.filter fun x=>x.2.handleName?.isNone).map (·.1))).map (·.1)=some (Rows.placeNamesRow.laid.filter fun x=>x.2.handleName?.isNone):=δ
theorem wl2(os:Os):(DataW.laidRun Tryz.prog (wl os).memory 10 ((Rows.placeNamesRow.laid.filter fun x=>x.2.handleName?.isNone).map (·.1))).map (fun x=>laidRowsB Tryz.prog (wl os).memory x.2)=some true:=δ
theorem wl3(os:Os):(DataW.laidRun Tryz.prog (wl os).memory 10 ((Rows.placeNamesRow.laid.filter fun x=>x.2.handleName?.isNone).map (·.1))).map (fun x=>sF x.2 0)=some true:=δ
theorem wl4(os:Os):(Rows.placeNamesRow.laid.filter fun x=>x.2.handleName?.isSome).all (handleAtB Tryz.prog (wl os).memory)=true:=δ
theorem zR(os:Os):laidMetH Tryz.prog Rows.placeNamesRow.laid (wl os).memory:=
 laidMetH_of_parts (mi 10 (wl1 os) (wl2 os) (wl3 os)) (wl4 os)
theorem AX(os:Os):(wl os).variablesRefB Tryz.checked.prog=true:=δ
theorem AY(os:Os):((wl os).heap.toList.drop Tryz.checked.prog.globals.size).take ((begin Tryz.checked.prog (fun _ _=>0) default).world.heap.size-Tryz.checked.prog.globals.size)=(begin Tryz.checked.prog (fun _ _=>0) default).world.heap.toList.drop Tryz.checked.prog.globals.size:=δ
