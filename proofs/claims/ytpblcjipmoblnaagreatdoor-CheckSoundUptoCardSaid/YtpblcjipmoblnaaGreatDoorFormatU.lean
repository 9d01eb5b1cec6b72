import Derived.Test.YtpblcjipmoblnaaGreatDoorTheirs3
import Derived.Test.YtpblcjipmoblnaaGreatDoorShelfL
import Derived.Lib.AppendIntMem
set_option maxRecDepth 100000
set_option linter.all false
set_option maxHeartbeats 4000000
namespace Go.Proofs.YtpblcjipmoblnaaGreatDoor
open Go.RowKit Go.IntWalk Go.Sort Go.Lib Go.Proofs
theorem sL(u:Nat)(d:u<18446744073709551616)(w:World)(l:Lib.TabIs Tryz.prog w "internal/strconv.uint64pow10" .u64 Lib.pow10Tab):
 Calls Tryz.prog 159 #[.int .u64 u,.int .i64 10] w fun e w'=>e=.returned (.string ⟨(Lib.decDigits u).toArray⟩)∧∃k os,w'=grow (w.drewN k) os:=by
 by_cases hs:u<100
 ·have D:=Tryz.internal_strconv_small u hs
  have K:IntKind.i64.wrap (u:Int)=(u:Int):=i64_in _ χ;have I:(u:Int)<100:=χ
  go_enter Tryz.func159,Tryz.ntmps159
  go_wp2_with (go_at_call 174;refine(D _).mono ?_;rintro e w' ⟨rfl,rfl⟩)
  go_ret
  exact⟨rfl,0, #[],by simp[World.drewN_zero]⟩
 ·have v:1≤u:=χ
  have I:¬ (u:Int)<100:=χ
  have C:Lib.nDigits u≤20:=by have:=Lib.numDigits_eq u v d;split at this<;>omega
  have r:Tryz.prog.arrayLen 297=24:=by simp[Program.arrayLen,Tryz.underlying297]
  have E:∀W,(Instr.sliceAt 297 (.pointer (some ⟨w.heap.size,0,none⟩)) none (some (.int .i64 (Lib.nDigits u:Int))) none).run Tryz.prog W=.ok (.slice (some ⟨w.heap.size,0,none⟩) (Lib.nDigits u) 24) W:=fun W=>by
   rw[run_sliceAt_array_h W 297 ⟨w.heap.size,0,none⟩ (by simp[Program.arrayLen,Program.elem,Tryz.underlying297]) .i64 (Lib.nDigits u:Int) χ (by rw[r];omega)];go_simp
   try omega
  have p:=Lib.holds_zero0 w 297 (Lib.nDigits u) χ;have g:=Tryz.internal_strconv_formatBase10 w.heap.size 0 24 u (Array.replicate (Lib.nDigits u) 0) (w.alloc (.cells Lib.zeros24 297)) p (by rw[Array.size_replicate];exact Lib.lt_pow_nDigits u) d (by rw[Array.size_replicate];omega);rw[Array.size_replicate]at g;have x:=hh p;have y:=hh (Tryz.internal_strconv_numDigits u v d _ (Lib.tabIs_alloc l (.cells Lib.zeros24 297)));clear p r l
  go_enter Tryz.func159,Tryz.ntmps159
  go_wp2_with (first
   | (go_at_call 175;refine y.out.mono ?_;rintro e w' ⟨rfl,rfl⟩))
  go_at_call 176
  refine g.mono ?_;rintro e w' ⟨rfl,k,L,q,rfl,A⟩;have J:(convert 292 9 (.slice (some ⟨w.heap.size,0,none⟩) (Lib.nDigits u) 24)).run Tryz.prog ((putRow (fun(b:UInt8)=>Value.int .u8 (b.toNat:Int)) (w.alloc (.cells Lib.zeros24 297)) w.heap.size 0 q).drewN k)=.ok (.string ⟨(Lib.decDigits u).toArray⟩) ((putRow (fun(b:UInt8)=>Value.int .u8 (b.toNat:Int)) (w.alloc (.cells Lib.zeros24 297)) w.heap.size 0 q).drewN k):=by
   have h:=run_convert_bytes_back (P:=Tryz.prog) ((putRow (fun(b:UInt8)=>Value.int .u8 (b.toNat:Int)) (w.alloc (.cells Lib.zeros24 297)) w.heap.size 0 q).drewN k) 292 9 5 ⟨w.heap.size,0,none⟩ 24 (Lib.decDigits u) Tryz.underlying292 Tryz.underlying5 Tryz.underlying9 (fun j B=>by
    rw[Lib.row_is_numeral A j B,Lib.add_plain,World.cell?_drewN];exact cell?_putRow (fun(b:UInt8)=>Value.int .u8 (b.toNat:Int)) _ w.heap.size 0 _ q x.out (by rw[A.size,Array.size_replicate]) j (by rw[A.size];rw[Lib.decDigits_length]at B;exact B))
   rw[Lib.decDigits_length]at h;exact h
  go_wp2
  go_ret
  obtain⟨os,H⟩:=Lib.fin_at w (.cells Lib.zeros24 297) q k 0;exact⟨rfl,k,os,H⟩
theorem oJ(u:Nat)(h:u<18446744073709551616)(w:World)(g:Lib.TabIs Tryz.prog w "internal/strconv.uint64pow10" .u64 Lib.pow10Tab):
 Calls Tryz.prog 143 #[.int .u64 u,.int .i64 10] w fun e w'=>e=.returned (.string ⟨(Lib.decDigits u).toArray⟩)∧∃k os,w'=grow (w.drewN k) os:=by
 have d:=sL u h w g
 generalize (Lib.decDigits u).toArray=ds at d⊢
 clear g
 go_enter Tryz.func143,Tryz.ntmps143
 go_wp2_with (go_at_call 159;refine d.mono ?_;rintro e w' ⟨rfl,k,os,rfl⟩)
 go_ret
 exact⟨rfl,k,os,rfl⟩
