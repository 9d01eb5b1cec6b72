import Derived.Test.YtpblcjipmoblnaaGreatDoorSmap
import Derived.Test.YtpblcjipmoblnaaGreatDoorShelfL
import Derived.Lib.AppendIntMem
set_option maxRecDepth 100000
set_option maxHeartbeats 4000000
set_option linter.unusedVariables false
set_option linter.unusedSimpArgs false
set_option linter.unnecessarySimpa false
namespace Go.Proofs.YtpblcjipmoblnaaGreatDoor
open Go.RowKit Go.IntWalk Go.Sort Go.Lib Go.Proofs
theorem qa(u:Nat)(a:u<18446744073709551616)(w:World)(g:Lib.TabIs Tryz.prog w "internal/strconv.uint64pow10" .u64 Lib.pow10Tab):
 Calls Tryz.prog 159 #[.int .u64 u,.int .i64 10] w fun e w'=>e=.returned (.string ⟨(Lib.decDigits u).toArray⟩)∧∃k os,w'=grow (w.drewN k) os:=by
 by_cases hs:u<100
 ·have A:=Tryz.internal_strconv_small u hs
  have G:IntKind.i64.wrap (u:Int)=(u:Int):=i64_in _ (by omega);have D:(u:Int)<100:=by omega
  go_enter Tryz.func159,Tryz.ntmps159
  go_wp2_with (go_at_call 174;refine(A _).mono ?_;rintro e w' ⟨rfl,rfl⟩)
  go_ret
  exact⟨rfl,0, #[],by simp[World.drewN_zero]⟩
 ·have p:1≤u:=by omega
  have D:¬ (u:Int)<100:=by omega
  have y:Lib.nDigits u≤20:=by have:=Lib.numDigits_eq u p a;split at this<;>omega
  have n:Tryz.prog.arrayLen 297=24:=by simp[Program.arrayLen,Tryz.underlying297]
  have B:∀W,(Instr.sliceAt 297 (.pointer (some ⟨w.heap.size,0,none⟩)) none (some (.int .i64 (Lib.nDigits u:Int))) none).run Tryz.prog W=.ok (.slice (some ⟨w.heap.size,0,none⟩) (Lib.nDigits u) 24) W:=fun W=>by
   rw[run_sliceAt_array_h W 297 ⟨w.heap.size,0,none⟩ (by simp[Program.arrayLen,Program.elem,Tryz.underlying297]) .i64 (Lib.nDigits u:Int) (by omega) (by rw[n];omega)];go_simp
   try omega
  have i:=Lib.holds_zero0 w 297 (Lib.nDigits u) (by omega);have d:=Tryz.internal_strconv_formatBase10 w.heap.size 0 24 u (Array.replicate (Lib.nDigits u) 0) (w.alloc (.cells Lib.zeros24 297)) i (by rw[Array.size_replicate];exact Lib.lt_pow_nDigits u) a (by rw[Array.size_replicate];omega);rw[Array.size_replicate]at d;have q:=hh i;have r:=hh (Tryz.internal_strconv_numDigits u p a _ (Lib.tabIs_alloc g (.cells Lib.zeros24 297)));clear i n g
  go_enter Tryz.func159,Tryz.ntmps159
  go_wp2_with (first
   | (go_at_call 175;refine r.out.mono ?_;rintro e w' ⟨rfl,rfl⟩))
  go_at_call 176
  refine d.mono ?_;rintro e w' ⟨rfl,k,H,l,rfl,v⟩;have E:(convert 292 9 (.slice (some ⟨w.heap.size,0,none⟩) (Lib.nDigits u) 24)).run Tryz.prog ((putRow (fun(b:UInt8)=>Value.int .u8 (b.toNat:Int)) (w.alloc (.cells Lib.zeros24 297)) w.heap.size 0 l).drewN k)=.ok (.string ⟨(Lib.decDigits u).toArray⟩) ((putRow (fun(b:UInt8)=>Value.int .u8 (b.toNat:Int)) (w.alloc (.cells Lib.zeros24 297)) w.heap.size 0 l).drewN k):=by
   have h:=run_convert_bytes_back (P:=Tryz.prog) ((putRow (fun(b:UInt8)=>Value.int .u8 (b.toNat:Int)) (w.alloc (.cells Lib.zeros24 297)) w.heap.size 0 l).drewN k) 292 9 5 ⟨w.heap.size,0,none⟩ 24 (Lib.decDigits u) Tryz.underlying292 Tryz.underlying5 Tryz.underlying9 (fun j x=>by
    rw[Lib.row_is_numeral v j x,Lib.add_plain,World.cell?_drewN];exact cell?_putRow (fun(b:UInt8)=>Value.int .u8 (b.toNat:Int)) _ w.heap.size 0 _ l q.out (by rw[v.size,Array.size_replicate]) j (by rw[v.size];rw[Lib.decDigits_length]at x;exact x))
   rw[Lib.decDigits_length]at h;exact h
  go_wp2
  go_ret
  obtain⟨os,C⟩:=Lib.fin_at w (.cells Lib.zeros24 297) l k 0;exact⟨rfl,k,os,C⟩
theorem mV(u:Nat)(d:u<18446744073709551616)(w:World)(b:Lib.TabIs Tryz.prog w "internal/strconv.uint64pow10" .u64 Lib.pow10Tab):
 Calls Tryz.prog 143 #[.int .u64 u,.int .i64 10] w fun e w'=>e=.returned (.string ⟨(Lib.decDigits u).toArray⟩)∧∃k os,w'=grow (w.drewN k) os:=by
 have a:=qa u d w b
 generalize (Lib.decDigits u).toArray=ds at a⊢
 clear b
 go_enter Tryz.func143,Tryz.ntmps143
 go_wp2_with (go_at_call 159;refine a.mono ?_;rintro e w' ⟨rfl,k,os,rfl⟩)
 go_ret
 exact⟨rfl,k,os,rfl⟩
end Go.Proofs.YtpblcjipmoblnaaGreatDoor
