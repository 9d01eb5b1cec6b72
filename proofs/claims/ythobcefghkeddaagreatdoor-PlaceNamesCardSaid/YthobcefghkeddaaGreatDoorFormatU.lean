import Derived.Test.YthobcefghkeddaaGreatDoorScan2
import Derived.Test.YthobcefghkeddaaGreatDoorShelfL
import Derived.Lib.AppendIntMem
set_option maxRecDepth 100000
set_option linter.all false
set_option maxHeartbeats 4000000
namespace Go.Proofs.YthobcefghkeddaaGreatDoor
open Go.RowKit Go.IntWalk Go.Sort Go.Lib Go.Proofs
theorem sX(u:Nat)(d:u<18446744073709551616)(w:World)(l:Lib.TabIs Tryz.prog w "internal/strconv.uint64pow10" .u64 Lib.pow10Tab):
 Calls Tryz.prog 167 #[.int .u64 u,.int .i64 10] w fun e w'=>e=.returned (.string ⟨(Lib.decDigits u).toArray⟩)∧∃k os,w'=grow (w.drewN k) os:=by
 by_cases hs:u<100
 ·have I:=Tryz.internal_strconv_small u hs
  have O:IntKind.i64.wrap (u:Int)=(u:Int):=i64_in _ χ;have L:(u:Int)<100:=χ
  go_enter Tryz.func167,Tryz.ntmps167
  go_wp2_with (go_at_call 192;refine(I _).mono ?_;rintro e w' ⟨rfl,rfl⟩)
  go_ret
  exact⟨rfl,0, #[],by simp[World.drewN_zero]⟩
 ·have y:1≤u:=χ
  have L:¬ (u:Int)<100:=χ
  have H:Lib.nDigits u≤20:=by have:=Lib.numDigits_eq u y d;split at this<;>omega
  have x:Tryz.prog.arrayLen 318=24:=by simp[Program.arrayLen,Tryz.underlying318]
  have J:∀W,(Instr.sliceAt 318 (.pointer (some ⟨w.heap.size,0,none⟩)) none (some (.int .i64 (Lib.nDigits u:Int))) none).run Tryz.prog W=.ok (.slice (some ⟨w.heap.size,0,none⟩) (Lib.nDigits u) 24) W:=fun W=>by
   rw[run_sliceAt_array_h W 318 ⟨w.heap.size,0,none⟩ (by simp[Program.arrayLen,Program.elem,Tryz.underlying318]) .i64 (Lib.nDigits u:Int) χ (by rw[x];omega)];go_simp
   try omega
  have q:=Lib.holds_zero0 w 318 (Lib.nDigits u) χ;have g:=Tryz.internal_strconv_formatBase10 w.heap.size 0 24 u (Array.replicate (Lib.nDigits u) 0) (w.alloc (.cells Lib.zeros24 318)) q (by rw[Array.size_replicate];exact Lib.lt_pow_nDigits u) d (by rw[Array.size_replicate];omega);rw[Array.size_replicate]at g;have B:=hh q;have C:=hh (Tryz.internal_strconv_numDigits u y d _ (Lib.tabIs_alloc l (.cells Lib.zeros24 318)));clear q x l
  go_enter Tryz.func167,Tryz.ntmps167
  go_wp2_with (first
   | (go_at_call 193;refine C.out.mono ?_;rintro e w' ⟨rfl,rfl⟩))
  go_at_call 194
  refine g.mono ?_;rintro e w' ⟨rfl,k,Q,v,rfl,D⟩;have N:(convert 313 9 (.slice (some ⟨w.heap.size,0,none⟩) (Lib.nDigits u) 24)).run Tryz.prog ((putRow (fun(b:UInt8)=>Value.int .u8 (b.toNat:Int)) (w.alloc (.cells Lib.zeros24 318)) w.heap.size 0 v).drewN k)=.ok (.string ⟨(Lib.decDigits u).toArray⟩) ((putRow (fun(b:UInt8)=>Value.int .u8 (b.toNat:Int)) (w.alloc (.cells Lib.zeros24 318)) w.heap.size 0 v).drewN k):=by
   have h:=run_convert_bytes_back (P:=Tryz.prog) ((putRow (fun(b:UInt8)=>Value.int .u8 (b.toNat:Int)) (w.alloc (.cells Lib.zeros24 318)) w.heap.size 0 v).drewN k) 313 9 5 ⟨w.heap.size,0,none⟩ 24 (Lib.decDigits u) Tryz.underlying313 Tryz.underlying5 Tryz.underlying9 (fun j E=>by
    rw[Lib.row_is_numeral D j E,Lib.add_plain,World.cell?_drewN];exact cell?_putRow (fun(b:UInt8)=>Value.int .u8 (b.toNat:Int)) _ w.heap.size 0 _ v B.out (by rw[D.size,Array.size_replicate]) j (by rw[D.size];rw[Lib.decDigits_length]at E;exact E))
   rw[Lib.decDigits_length]at h;exact h
  go_wp2
  go_ret
  obtain⟨os,K⟩:=Lib.fin_at w (.cells Lib.zeros24 318) v k 0;exact⟨rfl,k,os,K⟩
theorem oK(u:Nat)(h:u<18446744073709551616)(w:World)(g:Lib.TabIs Tryz.prog w "internal/strconv.uint64pow10" .u64 Lib.pow10Tab):
 Calls Tryz.prog 148 #[.int .u64 u,.int .i64 10] w fun e w'=>e=.returned (.string ⟨(Lib.decDigits u).toArray⟩)∧∃k os,w'=grow (w.drewN k) os:=by
 have d:=sX u h w g
 generalize (Lib.decDigits u).toArray=ds at d⊢
 clear g
 go_enter Tryz.func148,Tryz.ntmps148
 go_wp2_with (go_at_call 167;refine d.mono ?_;rintro e w' ⟨rfl,k,os,rfl⟩)
 go_ret
 exact⟨rfl,k,os,rfl⟩
