import Derived.Test.YthobcefghkeddaaGreatDoorLH2
import Derived.RangeFuncNested
import Derived.RangeFuncBound
import Derived.Shelf.RegionOpen
import Derived.OwnWalkIn
import Derived.LoopNIn
import Derived.LoopIn
set_option maxRecDepth 100000
set_option linter.all false
set_option maxHeartbeats 4000000
namespace Go.Proofs.YthobcefghkeddaaGreatDoor
open Go.RowKit Go.Shelf
variable {mb n₀:Nat}
attribute [local go_sem] Oper.semAt_some
def bI(len r:Nat):List (Fin len):=((List.finRange len).reverse).take r
theorem jk{len r:Nat}(h:r<len):bI len (r+1)=bI len r++[⟨len-1-r,χ⟩]:=by
 unfold bI;rw[List.take_succ_eq_append_getElem (by simpa using h)]
 congr 2
 rw[List.getElem_reverse];simp
theorem io{len r:Nat}(h:r≤len):(bI len r).length=r:=by simp[bI];omega
def KpM(mb n₀:Nat)(W W':World):Prop:=aD (fun k=>k=mb∨n₀≤k) W W'
theorem lI{A B C:World}(h:KpM mb n₀ A B)(k:KpM mb n₀ B C):KpM mb n₀ A C:=h.trans k fun _ _ h=>h
theorem wZ{w:World}(u:n₀≤w.heap.size)(W:World)(l:Nat)(o d:Obj)(q:w.heap.size≤l)(h:W.heap[l]?=some o)(g:o.isCells=false)(j:o.isWalk=false):KpM mb n₀ W (W.putObj l d):=
 aD.of_below (belowK_b u W l o d q h g j) fun _ _ h =>.inr h
theorem av{A B:World}(h:KpM mb n₀ A B){b o:Nat}(d:b<A.heap.size)(g:b<n₀∧b≠mb):B.cell? ⟨b,o,none⟩=A.cell? ⟨b,o,none⟩:=aD.cell h (p:=⟨b,o,none⟩) d (by show ¬ (b=mb∨n₀≤b);omega)
theorem ai{W:World}{b o:Nat}{v:Value}(h:W.cell? ⟨b,o,none⟩=some v):b<W.heap.size:=World.block_lt_of_cell? W ⟨b,o,none⟩ h
theorem vo(F:Fence)(n:Nat)(h8:F.fn 138)(hro:F.round=none)(hn:1≤n)(l Bs mb n₀ b off len cap:Nat)(vs:Nat→Nat→Value)(hlen:len≤4194304)(hcap:len≤cap)(hb:b<n₀∧b≠mb)(hB:Bs<n₀∧Bs≠mb)(J Jx:List (Fin len)→World→Prop)
 (hY:∀pre (x:Fin len) W,J pre W→pre.length<len→YieldAt F (n-1) Tryz.prog l #[.int .i64 (x.val:Int),.agg #[vs x.val 0,vs x.val 1,vs x.val 2,vs x.val 3,vs x.val 4]] W fun e W' =>
  (e=.returned (.bool true)∧J (pre++[x]) W'∧KpM mb n₀ W W')∨(e=.returned (.bool false)∧Jx (pre++[x]) W'))
 (W:World)(hBs:W.cell? ⟨Bs,0,none⟩=some (.slice (some ⟨b,off,none⟩) len cap))(hc:∀j c,j<len→c<5→W.cell? ⟨b,off+j*5+c,none⟩=some (vs j c))(h0:J [] W):
 CallsIn F n Tryz.prog 138 #[.func (.yield l) #[] #[],.pointer (some ⟨Bs,0,none⟩)] W fun e W'=>(∃v,e=.returned v) ∧
  ((∃ys,ys=bI len len∧J ys W')∨(∃pre,(∃k,k≤len∧pre=bI len k)∧Jx pre W')):=by
 have hBl:=ai hBs;refine callsIn_of_wp Tryz.func138 rfl h8 ?_ hro;simp only[Tryz.ntmps138,List.size_toArray,List.length_cons,List.length_nil,Nat.reduceAdd,Nat.reduceSub,Array.replicate_succ,Array.replicate_zero,List.push_toArray,List.append_toArray,List.nil_append,List.cons_append];have hw0:IntKind.i64.wrap ((len:Int)-1)=(len:Int)-1:=IntWalk.i64_in _ χ
 gi_wp2
 gi_loopw [3] (fun i wr=>∃r m:Nat,len=m+r∧i=.int .i64 ((m:Int)-1)∧J (bI len r) wr∧KpM mb n₀ W wr)
  (fun i _=>(intOf i+1).toNat)
 case atStart=>exact⟨0,len,rfl,rfl,by simpa[bI]using h0,aD.refl _ _⟩
 case round =>
  obtain⟨r,m,hm,rfl,hJs,hnx⟩:=hrel;have hBs':=(av hnx hBl hB).trans hBs
  rcases m with _|m
  ·gi_wp2
   go_end0
   exact⟨⟨_,rfl⟩,.inl ⟨_,by rw[hm];simp,hJs⟩⟩
  ·have e0:(((m+1:Nat):Int)-1)=(m:Int):=χ
   rw[e0];have hlt:m<len:=χ
   have hlt':(m:Int)<(len:Int):=χ
   have q0:wr.cell? ⟨b,off+m*5,none⟩=some (vs m 0):=(av hnx (ai (hc m 0 hlt χ)) hb).trans (hc m 0 hlt χ);have q1:wr.cell? ⟨b,off+m*5+1,none⟩=some (vs m 1):=(av hnx (ai (hc m 1 hlt χ)) hb).trans (hc m 1 hlt χ);have q2:wr.cell? ⟨b,off+m*5+2,none⟩=some (vs m 2):=(av hnx (ai (hc m 2 hlt χ)) hb).trans (hc m 2 hlt χ);have q3:wr.cell? ⟨b,off+m*5+3,none⟩=some (vs m 3):=(av hnx (ai (hc m 3 hlt χ)) hb).trans (hc m 3 hlt χ);have q4:wr.cell? ⟨b,off+m*5+4,none⟩=some (vs m 4):=(av hnx (ai (hc m 4 hlt χ)) hb).trans (hc m 4 hlt χ);have hpl:(bI len r).length<len:=by rw[io χ];omega
   obtain⟨fn,tmps,assign,body,hy,hR⟩:=hY _ ⟨m,hlt⟩ wr hJs hpl
   dsimp only at hy
   have hw1:IntKind.i64.wrap ((m:Int)-1)=(m:Int)-1:=IntWalk.i64_in _ χ;have hsn:bI len r++[⟨m,hlt⟩]=bI len (r+1):=by
    rw[jk χ]
    congr 3
    omega
   have HS:=ν hsn;have HM:=ν hm;clear hsn hm hpl
   gi_wp2
   refine hR.mono ?_;rintro e W3 (⟨rfl,hJ3,hk3⟩|⟨rfl,hJx3⟩)
   ·gi_wp2
    go_roundw
    case rel=>exact⟨r+1,m,by have:=HM.out;omega,rfl,by rw[←HS.out];exact hJ3,lI hnx hk3⟩
    case measure=>simp[intOf]
   ·gi_wp2
    refine bodyPost_ret (results_none rfl _ _ _) rfl ?_;exact⟨⟨_,rfl⟩,.inr ⟨_,⟨r+1,by have:=HM.out;omega,HS.out⟩,hJx3⟩⟩
theorem uC(F:Fence)(n:Nat)(q:F.fn 138)(h:F.round=none)(l Bs d:Nat)(A:Option Addr)(J:List (Fin 0)→World→Prop)(W:World)(u:W.cell? ⟨Bs,0,none⟩=some (.slice A 0 d))(j:J [] W):
 CallsIn F n Tryz.prog 138 #[.func (.yield l) #[] #[],.pointer (some ⟨Bs,0,none⟩)] W fun e W'=>(∃v,e=.returned v)∧J [] W':=by
 refine callsIn_of_wp Tryz.func138 rfl q ?_ h;simp only[Tryz.ntmps138,List.size_toArray,List.length_cons,List.length_nil,Nat.reduceAdd,Nat.reduceSub,Array.replicate_succ,Array.replicate_zero,List.push_toArray,List.append_toArray,List.nil_append,List.cons_append]
 gi_wp2
 gi_loopw [3] (fun i wr=>i=.int .i64 (-1)∧J [] wr) (fun _ _=>0)
 case atStart=>exact⟨rfl,j⟩
 case round =>
  obtain⟨rfl,g⟩:=hrel
  gi_wp2
  go_end0
  exact⟨⟨_,rfl⟩,g⟩
theorem pO(F:Fence)(n:Nat)(h:F.fn 116)(g:F.round=none)(a:Option Addr)(len d:Nat)(w:World):
 CallsIn F n Tryz.prog 116 #[.slice a len d] w fun e w'=>e=.returned (.func (.func 138) #[] #[.pointer (some ⟨w.heap.size,0,none⟩)])∧w'=w.alloc (.cells #[.slice a len d] 23):=by
 refine callsIn_of_wp Tryz.func116 rfl h ?_ g;simp only[Tryz.ntmps116,List.size_toArray,List.length_cons,List.length_nil,Nat.reduceAdd,Nat.reduceSub,Array.replicate_succ,Array.replicate_zero,List.push_toArray,List.append_toArray,List.nil_append,List.cons_append]
 gi_wp2
 go_ret
 exact⟨rfl,rfl⟩
theorem qE(F:Fence)(n:Nat)(I:F.fn 138)(v:F.round=none)(V:1≤n)(Bs mb n₀ len d:Nat)(A:Option Addr)(vs:Nat→Nat→Value)(q:len≤4194304)(h:len≤d)(N:Bs<n₀∧Bs≠mb)(w:World)(X:n₀≤w.heap.size)
 (y:w.cell? ⟨Bs,0,none⟩=some (.slice A len d))(L:0<len→∃b off,A=some ⟨b,off,none⟩∧b<n₀∧b≠mb∧∀j c,j<len→c<5→w.cell? ⟨b,off+j*5+c,none⟩=some (vs j c)):
 SeqStopsK F n Tryz.prog 138 #[.pointer (some ⟨Bs,0,none⟩)] (fun x:Fin len =>#[.int .i64 (x.val:Int),.agg #[vs x.val 0,vs x.val 1,vs x.val 2,vs x.val 3,vs x.val 4]]) (KpM mb n₀) (fun ys=>ys=bI len len) (fun E=>∃k,k≤len∧E=bI len k) len w:=fun l J Jx W K _ _ O H=>by
 have g:=(K.cell (p:=⟨Bs,0,none⟩) (by show Bs<_;omega)).trans y
 rcases ϑ len with rfl|u
 ·exact(uC F n I v l Bs d A J W g H).mono fun e W' ⟨R,D⟩=>⟨R,.inl ⟨_,rfl,D⟩⟩
 ·obtain⟨b,off,rfl,Q,U,C⟩:=L u
  exact vo F n I v V l Bs mb n₀ b off len d vs q h ⟨Q,U⟩ N J Jx O W g (fun j c D B=>(K.cell (p:=⟨b,off+j*5+c,none⟩) (by show b<_;omega)).trans (C j c D B)) H
theorem vm(F:Fence)(n:Nat)(h8:F.fn 139)(hro:F.round=none)(hn:1≤n)(l Bs mb n₀ b off len cap:Nat)(vs:Nat→Nat→Value)(hlen:len≤4194304)(hcap:len≤cap)(hb:b<n₀∧b≠mb)(hB:Bs<n₀∧Bs≠mb)(J Jx:List (Fin len)→World→Prop)
 (hY:∀pre (x:Fin len) W,J pre W→pre.length<len→YieldAt F (n-1) Tryz.prog l #[.int .i64 (x.val:Int),.agg #[vs x.val 0,vs x.val 1,vs x.val 2,vs x.val 3,vs x.val 4,vs x.val 5,vs x.val 6,vs x.val 7,vs x.val 8,vs x.val 9]] W fun e W' =>
  (e=.returned (.bool true)∧J (pre++[x]) W'∧KpM mb n₀ W W')∨(e=.returned (.bool false)∧Jx (pre++[x]) W'))
 (W:World)(hBs:W.cell? ⟨Bs,0,none⟩=some (.slice (some ⟨b,off,none⟩) len cap))(hc:∀j c,j<len→c<10→W.cell? ⟨b,off+j*10+c,none⟩=some (vs j c))(h0:J [] W):
 CallsIn F n Tryz.prog 139 #[.func (.yield l) #[] #[],.pointer (some ⟨Bs,0,none⟩)] W fun e W'=>(∃v,e=.returned v) ∧
  ((∃ys,ys=bI len len∧J ys W')∨(∃pre,(∃k,k≤len∧pre=bI len k)∧Jx pre W')):=by
 have hBl:=ai hBs;refine callsIn_of_wp Tryz.func139 rfl h8 ?_ hro;simp only[Tryz.ntmps139,List.size_toArray,List.length_cons,List.length_nil,Nat.reduceAdd,Nat.reduceSub,Array.replicate_succ,Array.replicate_zero,List.push_toArray,List.append_toArray,List.nil_append,List.cons_append];have hw0:IntKind.i64.wrap ((len:Int)-1)=(len:Int)-1:=IntWalk.i64_in _ χ
 gi_wp2
 gi_loopw [3] (fun i wr=>∃r m:Nat,len=m+r∧i=.int .i64 ((m:Int)-1)∧J (bI len r) wr∧KpM mb n₀ W wr)
  (fun i _=>(intOf i+1).toNat)
 case atStart=>exact⟨0,len,rfl,rfl,by simpa[bI]using h0,aD.refl _ _⟩
 case round =>
  obtain⟨r,m,hm,rfl,hJs,hnx⟩:=hrel;have hBs':=(av hnx hBl hB).trans hBs
  rcases m with _|m
  ·gi_wp2
   go_end0
   exact⟨⟨_,rfl⟩,.inl ⟨_,by rw[hm];simp,hJs⟩⟩
  ·have e0:(((m+1:Nat):Int)-1)=(m:Int):=χ
   rw[e0];have hlt:m<len:=χ
   have hlt':(m:Int)<(len:Int):=χ
   have q0:wr.cell? ⟨b,off+m*10,none⟩=some (vs m 0):=(av hnx (ai (hc m 0 hlt χ)) hb).trans (hc m 0 hlt χ);have q1:wr.cell? ⟨b,off+m*10+1,none⟩=some (vs m 1):=(av hnx (ai (hc m 1 hlt χ)) hb).trans (hc m 1 hlt χ);have q2:wr.cell? ⟨b,off+m*10+2,none⟩=some (vs m 2):=(av hnx (ai (hc m 2 hlt χ)) hb).trans (hc m 2 hlt χ);have q3:wr.cell? ⟨b,off+m*10+3,none⟩=some (vs m 3):=(av hnx (ai (hc m 3 hlt χ)) hb).trans (hc m 3 hlt χ);have q4:wr.cell? ⟨b,off+m*10+4,none⟩=some (vs m 4):=(av hnx (ai (hc m 4 hlt χ)) hb).trans (hc m 4 hlt χ);have q5:wr.cell? ⟨b,off+m*10+5,none⟩=some (vs m 5):=(av hnx (ai (hc m 5 hlt χ)) hb).trans (hc m 5 hlt χ);have q6:wr.cell? ⟨b,off+m*10+6,none⟩=some (vs m 6):=(av hnx (ai (hc m 6 hlt χ)) hb).trans (hc m 6 hlt χ);have q7:wr.cell? ⟨b,off+m*10+7,none⟩=some (vs m 7):=(av hnx (ai (hc m 7 hlt χ)) hb).trans (hc m 7 hlt χ);have q8:wr.cell? ⟨b,off+m*10+8,none⟩=some (vs m 8):=(av hnx (ai (hc m 8 hlt χ)) hb).trans (hc m 8 hlt χ);have q9:wr.cell? ⟨b,off+m*10+9,none⟩=some (vs m 9):=(av hnx (ai (hc m 9 hlt χ)) hb).trans (hc m 9 hlt χ);have hpl:(bI len r).length<len:=by rw[io χ];omega
   obtain⟨fn,tmps,assign,body,hy,hR⟩:=hY _ ⟨m,hlt⟩ wr hJs hpl
   dsimp only at hy
   have hw1:IntKind.i64.wrap ((m:Int)-1)=(m:Int)-1:=IntWalk.i64_in _ χ;have hsn:bI len r++[⟨m,hlt⟩]=bI len (r+1):=by
    rw[jk χ]
    congr 3
    omega
   have HS:=ν hsn;have HM:=ν hm;clear hsn hm hpl
   gi_wp2
   refine hR.mono ?_;rintro e W3 (⟨rfl,hJ3,hk3⟩|⟨rfl,hJx3⟩)
   ·gi_wp2
    go_roundw
    case rel=>exact⟨r+1,m,by have:=HM.out;omega,rfl,by rw[←HS.out];exact hJ3,lI hnx hk3⟩
    case measure=>simp[intOf]
   ·gi_wp2
    refine bodyPost_ret (results_none rfl _ _ _) rfl ?_;exact⟨⟨_,rfl⟩,.inr ⟨_,⟨r+1,by have:=HM.out;omega,HS.out⟩,hJx3⟩⟩
theorem u0(F:Fence)(n:Nat)(q:F.fn 139)(h:F.round=none)(l Bs d:Nat)(A:Option Addr)(J:List (Fin 0)→World→Prop)(W:World)(u:W.cell? ⟨Bs,0,none⟩=some (.slice A 0 d))(j:J [] W):
 CallsIn F n Tryz.prog 139 #[.func (.yield l) #[] #[],.pointer (some ⟨Bs,0,none⟩)] W fun e W'=>(∃v,e=.returned v)∧J [] W':=by
 refine callsIn_of_wp Tryz.func139 rfl q ?_ h;simp only[Tryz.ntmps139,List.size_toArray,List.length_cons,List.length_nil,Nat.reduceAdd,Nat.reduceSub,Array.replicate_succ,Array.replicate_zero,List.push_toArray,List.append_toArray,List.nil_append,List.cons_append]
 gi_wp2
 gi_loopw [3] (fun i wr=>i=.int .i64 (-1)∧J [] wr) (fun _ _=>0)
 case atStart=>exact⟨rfl,j⟩
 case round =>
  obtain⟨rfl,g⟩:=hrel
  gi_wp2
  go_end0
  exact⟨⟨_,rfl⟩,g⟩
theorem pN(F:Fence)(n:Nat)(h:F.fn 117)(g:F.round=none)(a:Option Addr)(len d:Nat)(w:World):
 CallsIn F n Tryz.prog 117 #[.slice a len d] w fun e w'=>e=.returned (.func (.func 139) #[] #[.pointer (some ⟨w.heap.size,0,none⟩)])∧w'=w.alloc (.cells #[.slice a len d] 24):=by
 refine callsIn_of_wp Tryz.func117 rfl h ?_ g;simp only[Tryz.ntmps117,List.size_toArray,List.length_cons,List.length_nil,Nat.reduceAdd,Nat.reduceSub,Array.replicate_succ,Array.replicate_zero,List.push_toArray,List.append_toArray,List.nil_append,List.cons_append]
 gi_wp2
 go_ret
 exact⟨rfl,rfl⟩
theorem qD(F:Fence)(n:Nat)(I:F.fn 139)(v:F.round=none)(V:1≤n)(Bs mb n₀ len d:Nat)(A:Option Addr)(vs:Nat→Nat→Value)(q:len≤4194304)(h:len≤d)(N:Bs<n₀∧Bs≠mb)(w:World)(X:n₀≤w.heap.size)
 (y:w.cell? ⟨Bs,0,none⟩=some (.slice A len d))(L:0<len→∃b off,A=some ⟨b,off,none⟩∧b<n₀∧b≠mb∧∀j c,j<len→c<10→w.cell? ⟨b,off+j*10+c,none⟩=some (vs j c)):
 SeqStopsK F n Tryz.prog 139 #[.pointer (some ⟨Bs,0,none⟩)] (fun x:Fin len =>#[.int .i64 (x.val:Int),.agg #[vs x.val 0,vs x.val 1,vs x.val 2,vs x.val 3,vs x.val 4,vs x.val 5,vs x.val 6,vs x.val 7,vs x.val 8,vs x.val 9]]) (KpM mb n₀) (fun ys=>ys=bI len len) (fun E=>∃k,k≤len∧E=bI len k) len w:=fun l J Jx W K _ _ O H=>by
 have g:=(K.cell (p:=⟨Bs,0,none⟩) (by show Bs<_;omega)).trans y
 rcases ϑ len with rfl|u
 ·exact(u0 F n I v l Bs d A J W g H).mono fun e W' ⟨R,D⟩=>⟨R,.inl ⟨_,rfl,D⟩⟩
 ·obtain⟨b,off,rfl,Q,U,C⟩:=L u
  exact vm F n I v V l Bs mb n₀ b off len d vs q h ⟨Q,U⟩ N J Jx O W g (fun j c D B=>(K.cell (p:=⟨b,off+j*10+c,none⟩) (by show b<_;omega)).trans (C j c D B)) H
theorem vq(F:Fence)(n:Nat)(h8:F.fn 127)(hro:F.round=none)(hn:1≤n)(l Bs mb n₀ b off len cap:Nat)(vs:Nat→Nat→Value)(hlen:len≤4194304)(hcap:len≤cap)(hb:b<n₀∧b≠mb)(hB:Bs<n₀∧Bs≠mb)(J Jx:List (Fin len)→World→Prop)
 (hY:∀pre (x:Fin len) W,J pre W→pre.length<len→YieldAt F (n-1) Tryz.prog l #[.int .i64 (x.val:Int),.agg #[vs x.val 0,vs x.val 1,vs x.val 2,vs x.val 3,vs x.val 4,vs x.val 5]] W fun e W' =>
  (e=.returned (.bool true)∧J (pre++[x]) W'∧KpM mb n₀ W W')∨(e=.returned (.bool false)∧Jx (pre++[x]) W'))
 (W:World)(hBs:W.cell? ⟨Bs,0,none⟩=some (.slice (some ⟨b,off,none⟩) len cap))(hc:∀j c,j<len→c<6→W.cell? ⟨b,off+j*6+c,none⟩=some (vs j c))(h0:J [] W):
 CallsIn F n Tryz.prog 127 #[.func (.yield l) #[] #[],.pointer (some ⟨Bs,0,none⟩)] W fun e W'=>(∃v,e=.returned v) ∧
  ((∃ys,ys=bI len len∧J ys W')∨(∃pre,(∃k,k≤len∧pre=bI len k)∧Jx pre W')):=by
 have hBl:=ai hBs;refine callsIn_of_wp Tryz.func127 rfl h8 ?_ hro;simp only[Tryz.ntmps127,List.size_toArray,List.length_cons,List.length_nil,Nat.reduceAdd,Nat.reduceSub,Array.replicate_succ,Array.replicate_zero,List.push_toArray,List.append_toArray,List.nil_append,List.cons_append];have hw0:IntKind.i64.wrap ((len:Int)-1)=(len:Int)-1:=IntWalk.i64_in _ χ
 gi_wp2
 gi_loopw [3] (fun i wr=>∃r m:Nat,len=m+r∧i=.int .i64 ((m:Int)-1)∧J (bI len r) wr∧KpM mb n₀ W wr)
  (fun i _=>(intOf i+1).toNat)
 case atStart=>exact⟨0,len,rfl,rfl,by simpa[bI]using h0,aD.refl _ _⟩
 case round =>
  obtain⟨r,m,hm,rfl,hJs,hnx⟩:=hrel;have hBs':=(av hnx hBl hB).trans hBs
  rcases m with _|m
  ·gi_wp2
   go_end0
   exact⟨⟨_,rfl⟩,.inl ⟨_,by rw[hm];simp,hJs⟩⟩
  ·have e0:(((m+1:Nat):Int)-1)=(m:Int):=χ
   rw[e0];have hlt:m<len:=χ
   have hlt':(m:Int)<(len:Int):=χ
   have q0:wr.cell? ⟨b,off+m*6,none⟩=some (vs m 0):=(av hnx (ai (hc m 0 hlt χ)) hb).trans (hc m 0 hlt χ);have q1:wr.cell? ⟨b,off+m*6+1,none⟩=some (vs m 1):=(av hnx (ai (hc m 1 hlt χ)) hb).trans (hc m 1 hlt χ);have q2:wr.cell? ⟨b,off+m*6+2,none⟩=some (vs m 2):=(av hnx (ai (hc m 2 hlt χ)) hb).trans (hc m 2 hlt χ);have q3:wr.cell? ⟨b,off+m*6+3,none⟩=some (vs m 3):=(av hnx (ai (hc m 3 hlt χ)) hb).trans (hc m 3 hlt χ);have q4:wr.cell? ⟨b,off+m*6+4,none⟩=some (vs m 4):=(av hnx (ai (hc m 4 hlt χ)) hb).trans (hc m 4 hlt χ);have q5:wr.cell? ⟨b,off+m*6+5,none⟩=some (vs m 5):=(av hnx (ai (hc m 5 hlt χ)) hb).trans (hc m 5 hlt χ);have hpl:(bI len r).length<len:=by rw[io χ];omega
   obtain⟨fn,tmps,assign,body,hy,hR⟩:=hY _ ⟨m,hlt⟩ wr hJs hpl
   dsimp only at hy
   have hw1:IntKind.i64.wrap ((m:Int)-1)=(m:Int)-1:=IntWalk.i64_in _ χ;have hsn:bI len r++[⟨m,hlt⟩]=bI len (r+1):=by
    rw[jk χ]
    congr 3
    omega
   have HS:=ν hsn;have HM:=ν hm;clear hsn hm hpl
   gi_wp2
   refine hR.mono ?_;rintro e W3 (⟨rfl,hJ3,hk3⟩|⟨rfl,hJx3⟩)
   ·gi_wp2
    go_roundw
    case rel=>exact⟨r+1,m,by have:=HM.out;omega,rfl,by rw[←HS.out];exact hJ3,lI hnx hk3⟩
    case measure=>simp[intOf]
   ·gi_wp2
    refine bodyPost_ret (results_none rfl _ _ _) rfl ?_;exact⟨⟨_,rfl⟩,.inr ⟨_,⟨r+1,by have:=HM.out;omega,HS.out⟩,hJx3⟩⟩
theorem uD(F:Fence)(n:Nat)(q:F.fn 127)(h:F.round=none)(l Bs d:Nat)(A:Option Addr)(J:List (Fin 0)→World→Prop)(W:World)(u:W.cell? ⟨Bs,0,none⟩=some (.slice A 0 d))(j:J [] W):
 CallsIn F n Tryz.prog 127 #[.func (.yield l) #[] #[],.pointer (some ⟨Bs,0,none⟩)] W fun e W'=>(∃v,e=.returned v)∧J [] W':=by
 refine callsIn_of_wp Tryz.func127 rfl q ?_ h;simp only[Tryz.ntmps127,List.size_toArray,List.length_cons,List.length_nil,Nat.reduceAdd,Nat.reduceSub,Array.replicate_succ,Array.replicate_zero,List.push_toArray,List.append_toArray,List.nil_append,List.cons_append]
 gi_wp2
 gi_loopw [3] (fun i wr=>i=.int .i64 (-1)∧J [] wr) (fun _ _=>0)
 case atStart=>exact⟨rfl,j⟩
 case round =>
  obtain⟨rfl,g⟩:=hrel
  gi_wp2
  go_end0
  exact⟨⟨_,rfl⟩,g⟩
theorem pP(F:Fence)(n:Nat)(h:F.fn 101)(g:F.round=none)(a:Option Addr)(len d:Nat)(w:World):
 CallsIn F n Tryz.prog 101 #[.slice a len d] w fun e w'=>e=.returned (.func (.func 127) #[] #[.pointer (some ⟨w.heap.size,0,none⟩)])∧w'=w.alloc (.cells #[.slice a len d] 25):=by
 refine callsIn_of_wp Tryz.func101 rfl h ?_ g;simp only[Tryz.ntmps101,List.size_toArray,List.length_cons,List.length_nil,Nat.reduceAdd,Nat.reduceSub,Array.replicate_succ,Array.replicate_zero,List.push_toArray,List.append_toArray,List.nil_append,List.cons_append]
 gi_wp2
 go_ret
 exact⟨rfl,rfl⟩
theorem qG(F:Fence)(n:Nat)(I:F.fn 127)(v:F.round=none)(V:1≤n)(Bs mb n₀ len d:Nat)(A:Option Addr)(vs:Nat→Nat→Value)(q:len≤4194304)(h:len≤d)(N:Bs<n₀∧Bs≠mb)(w:World)(X:n₀≤w.heap.size)
 (y:w.cell? ⟨Bs,0,none⟩=some (.slice A len d))(L:0<len→∃b off,A=some ⟨b,off,none⟩∧b<n₀∧b≠mb∧∀j c,j<len→c<6→w.cell? ⟨b,off+j*6+c,none⟩=some (vs j c)):
 SeqStopsK F n Tryz.prog 127 #[.pointer (some ⟨Bs,0,none⟩)] (fun x:Fin len =>#[.int .i64 (x.val:Int),.agg #[vs x.val 0,vs x.val 1,vs x.val 2,vs x.val 3,vs x.val 4,vs x.val 5]]) (KpM mb n₀) (fun ys=>ys=bI len len) (fun E=>∃k,k≤len∧E=bI len k) len w:=fun l J Jx W K _ _ O H=>by
 have g:=(K.cell (p:=⟨Bs,0,none⟩) (by show Bs<_;omega)).trans y
 rcases ϑ len with rfl|u
 ·exact(uD F n I v l Bs d A J W g H).mono fun e W' ⟨R,D⟩=>⟨R,.inl ⟨_,rfl,D⟩⟩
 ·obtain⟨b,off,rfl,Q,U,C⟩:=L u
  exact vq F n I v V l Bs mb n₀ b off len d vs q h ⟨Q,U⟩ N J Jx O W g (fun j c D B=>(K.cell (p:=⟨b,off+j*6+c,none⟩) (by show b<_;omega)).trans (C j c D B)) H
