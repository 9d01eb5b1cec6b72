import Derived.Test.YtpblcjipmoblnaaGreatDoorLH2
import Derived.RangeFuncNested
import Derived.RangeFuncBound
import Derived.Shelf.RegionOpen
import Derived.OwnWalkIn
import Derived.LoopNIn
import Derived.LoopIn
set_option maxRecDepth 100000
set_option linter.all false
set_option maxHeartbeats 4000000
namespace Go.Proofs.YtpblcjipmoblnaaGreatDoor
open Go.RowKit Go.Shelf
variable {mb n₀:Nat}
attribute [local go_sem] Oper.semAt_some
def bi(len r:Nat):List (Fin len):=((List.finRange len).reverse).take r
theorem ji{len r:Nat}(h:r<len):bi len (r+1)=bi len r++[⟨len-1-r,χ⟩]:=by
 unfold bi;rw[List.take_succ_eq_append_getElem (by simpa using h)]
 congr 2
 rw[List.getElem_reverse];simp
theorem iw{len r:Nat}(h:r≤len):(bi len r).length=r:=by simp[bi];omega
def KpM(mb n₀:Nat)(W W':World):Prop:=aD (fun k=>k=mb∨n₀≤k) W W'
theorem qG{A B C:World}(h:KpM mb n₀ A B)(k:KpM mb n₀ B C):KpM mb n₀ A C:=h.trans k fun _ _ h=>h
theorem yp{w:World}(q:n₀≤w.heap.size)(W:World)(l:Nat)(o d:Obj)(p:w.heap.size≤l)(h:W.heap[l]?=some o)(g:o.isCells=false)(j:o.isWalk=false):KpM mb n₀ W (W.putObj l d):=
 aD.of_below (belowK_b q W l o d p h g j) fun _ _ h =>.inr h
theorem bM{A B:World}(h:KpM mb n₀ A B){b o:Nat}(d:b<A.heap.size)(g:b<n₀∧b≠mb):B.cell? ⟨b,o,none⟩=A.cell? ⟨b,o,none⟩:=aD.cell h (p:=⟨b,o,none⟩) d (by show ¬ (b=mb∨n₀≤b);omega)
theorem bO{W:World}{b o:Nat}{v:Value}(h:W.cell? ⟨b,o,none⟩=some v):b<W.heap.size:=World.block_lt_of_cell? W ⟨b,o,none⟩ h
theorem uO(F:Fence)(n:Nat)(h8:F.fn 134)(hro:F.round=none)(hn:1≤n)(l Bs mb n₀ b off len cap:Nat)(vs:Nat→Nat→Value)(hlen:len≤4194304)(hcap:len≤cap)(hb:b<n₀∧b≠mb)(hB:Bs<n₀∧Bs≠mb)(J Jx:List (Fin len)→World→Prop)
 (hY:∀pre (x:Fin len) W,J pre W→pre.length<len→YieldAt F (n-1) Tryz.prog l #[.int .i64 (x.val:Int),.agg #[vs x.val 0,vs x.val 1,vs x.val 2,vs x.val 3,vs x.val 4]] W fun e W' =>
  (e=.returned (.bool true)∧J (pre++[x]) W'∧KpM mb n₀ W W')∨(e=.returned (.bool false)∧Jx (pre++[x]) W'))
 (W:World)(hBs:W.cell? ⟨Bs,0,none⟩=some (.slice (some ⟨b,off,none⟩) len cap))(hc:∀j c,j<len→c<5→W.cell? ⟨b,off+j*5+c,none⟩=some (vs j c))(h0:J [] W):
 CallsIn F n Tryz.prog 134 #[.func (.yield l) #[] #[],.pointer (some ⟨Bs,0,none⟩)] W fun e W'=>(∃v,e=.returned v) ∧
  ((∃ys,ys=bi len len∧J ys W')∨(∃pre,(∃k,k≤len∧pre=bi len k)∧Jx pre W')):=by
 have hBl:=bO hBs;refine callsIn_of_wp Tryz.func134 rfl h8 ?_ hro;simp only[Tryz.ntmps134,List.size_toArray,List.length_cons,List.length_nil,Nat.reduceAdd,Nat.reduceSub,Array.replicate_succ,Array.replicate_zero,List.push_toArray,List.append_toArray,List.nil_append,List.cons_append];have hw0:IntKind.i64.wrap ((len:Int)-1)=(len:Int)-1:=IntWalk.i64_in _ χ
 gi_wp2
 gi_loopw [3] (fun i wr=>∃r m:Nat,len=m+r∧i=.int .i64 ((m:Int)-1)∧J (bi len r) wr∧KpM mb n₀ W wr)
  (fun i _=>(intOf i+1).toNat)
 case atStart=>exact⟨0,len,rfl,rfl,by simpa[bi]using h0,aD.refl _ _⟩
 case round =>
  obtain⟨r,m,hm,rfl,hJs,hnx⟩:=hrel;have hBs':=(bM hnx hBl hB).trans hBs
  rcases m with _|m
  ·gi_wp2
   go_end0
   exact⟨⟨_,rfl⟩,.inl ⟨_,by rw[hm];simp,hJs⟩⟩
  ·have e0:(((m+1:Nat):Int)-1)=(m:Int):=χ
   rw[e0];have hlt:m<len:=χ
   have hlt':(m:Int)<(len:Int):=χ
   have q0:wr.cell? ⟨b,off+m*5,none⟩=some (vs m 0):=(bM hnx (bO (hc m 0 hlt χ)) hb).trans (hc m 0 hlt χ);have q1:wr.cell? ⟨b,off+m*5+1,none⟩=some (vs m 1):=(bM hnx (bO (hc m 1 hlt χ)) hb).trans (hc m 1 hlt χ);have q2:wr.cell? ⟨b,off+m*5+2,none⟩=some (vs m 2):=(bM hnx (bO (hc m 2 hlt χ)) hb).trans (hc m 2 hlt χ);have q3:wr.cell? ⟨b,off+m*5+3,none⟩=some (vs m 3):=(bM hnx (bO (hc m 3 hlt χ)) hb).trans (hc m 3 hlt χ);have q4:wr.cell? ⟨b,off+m*5+4,none⟩=some (vs m 4):=(bM hnx (bO (hc m 4 hlt χ)) hb).trans (hc m 4 hlt χ);have hpl:(bi len r).length<len:=by rw[iw χ];omega
   obtain⟨fn,tmps,assign,body,hy,hR⟩:=hY _ ⟨m,hlt⟩ wr hJs hpl
   dsimp only at hy
   have hw1:IntKind.i64.wrap ((m:Int)-1)=(m:Int)-1:=IntWalk.i64_in _ χ;have hsn:bi len r++[⟨m,hlt⟩]=bi len (r+1):=by
    rw[ji χ]
    congr 3
    omega
   have HS:=Lib.hid hsn;have HM:=Lib.hid hm;clear hsn hm hpl
   gi_wp2
   refine hR.mono ?_;rintro e W3 (⟨rfl,hJ3,hk3⟩|⟨rfl,hJx3⟩)
   ·gi_wp2
    go_roundw
    case rel=>exact⟨r+1,m,by have:=HM.out;omega,rfl,by rw[←HS.out];exact hJ3,qG hnx hk3⟩
    case measure=>simp[intOf]
   ·gi_wp2
    refine bodyPost_ret (results_none rfl _ _ _) rfl ?_;exact⟨⟨_,rfl⟩,.inr ⟨_,⟨r+1,by have:=HM.out;omega,HS.out⟩,hJx3⟩⟩
theorem sb(F:Fence)(n:Nat)(p:F.fn 134)(h:F.round=none)(l Bs d:Nat)(A:Option Addr)(J:List (Fin 0)→World→Prop)(W:World)(q:W.cell? ⟨Bs,0,none⟩=some (.slice A 0 d))(j:J [] W):
 CallsIn F n Tryz.prog 134 #[.func (.yield l) #[] #[],.pointer (some ⟨Bs,0,none⟩)] W fun e W'=>(∃v,e=.returned v)∧J [] W':=by
 refine callsIn_of_wp Tryz.func134 rfl p ?_ h;simp only[Tryz.ntmps134,List.size_toArray,List.length_cons,List.length_nil,Nat.reduceAdd,Nat.reduceSub,Array.replicate_succ,Array.replicate_zero,List.push_toArray,List.append_toArray,List.nil_append,List.cons_append]
 gi_wp2
 gi_loopw [3] (fun i wr=>i=.int .i64 (-1)∧J [] wr) (fun _ _=>0)
 case atStart=>exact⟨rfl,j⟩
 case round =>
  obtain⟨rfl,g⟩:=hrel
  gi_wp2
  go_end0
  exact⟨⟨_,rfl⟩,g⟩
theorem og(F:Fence)(n:Nat)(h:F.fn 110)(g:F.round=none)(a:Option Addr)(len d:Nat)(w:World):
 CallsIn F n Tryz.prog 110 #[.slice a len d] w fun e w'=>e=.returned (.func (.func 134) #[] #[.pointer (some ⟨w.heap.size,0,none⟩)])∧w'=w.alloc (.cells #[.slice a len d] 24):=by
 refine callsIn_of_wp Tryz.func110 rfl h ?_ g;simp only[Tryz.ntmps110,List.size_toArray,List.length_cons,List.length_nil,Nat.reduceAdd,Nat.reduceSub,Array.replicate_succ,Array.replicate_zero,List.push_toArray,List.append_toArray,List.nil_append,List.cons_append]
 gi_wp2
 go_ret
 exact⟨rfl,rfl⟩
theorem pU(F:Fence)(n:Nat)(H:F.fn 134)(u:F.round=none)(S:1≤n)(Bs mb n₀ len d:Nat)(A:Option Addr)(vs:Nat→Nat→Value)(q:len≤4194304)(h:len≤d)(L:Bs<n₀∧Bs≠mb)(w:World)(U:n₀≤w.heap.size)
 (v:w.cell? ⟨Bs,0,none⟩=some (.slice A len d))(K:0<len→∃b off,A=some ⟨b,off,none⟩∧b<n₀∧b≠mb∧∀j c,j<len→c<5→w.cell? ⟨b,off+j*5+c,none⟩=some (vs j c)):
 SeqStopsK F n Tryz.prog 134 #[.pointer (some ⟨Bs,0,none⟩)] (fun x:Fin len =>#[.int .i64 (x.val:Int),.agg #[vs x.val 0,vs x.val 1,vs x.val 2,vs x.val 3,vs x.val 4]]) (KpM mb n₀) (fun ys=>ys=bi len len) (fun D=>∃k,k≤len∧D=bi len k) len w:=fun l J Jx W I _ _ N E=>by
 have g:=(I.cell (p:=⟨Bs,0,none⟩) (by show Bs<_;omega)).trans v
 rcases Nat.eq_zero_or_pos len with rfl|r
 ·exact(sb F n H u l Bs d A J W g E).mono fun e W' ⟨Q,C⟩=>⟨Q,.inl ⟨_,rfl,C⟩⟩
 ·obtain⟨b,off,rfl,O,R,B⟩:=K r
  exact uO F n H u S l Bs mb n₀ b off len d vs q h ⟨O,R⟩ L J Jx N W g (fun j c C y=>(I.cell (p:=⟨b,off+j*5+c,none⟩) (by show b<_;omega)).trans (B j c C y)) E
theorem uN(F:Fence)(n:Nat)(h8:F.fn 135)(hro:F.round=none)(hn:1≤n)(l Bs mb n₀ b off len cap:Nat)(vs:Nat→Nat→Value)(hlen:len≤4194304)(hcap:len≤cap)(hb:b<n₀∧b≠mb)(hB:Bs<n₀∧Bs≠mb)(J Jx:List (Fin len)→World→Prop)
 (hY:∀pre (x:Fin len) W,J pre W→pre.length<len→YieldAt F (n-1) Tryz.prog l #[.int .i64 (x.val:Int),.agg #[vs x.val 0,vs x.val 1,vs x.val 2,vs x.val 3,vs x.val 4,vs x.val 5,vs x.val 6,vs x.val 7,vs x.val 8,vs x.val 9]] W fun e W' =>
  (e=.returned (.bool true)∧J (pre++[x]) W'∧KpM mb n₀ W W')∨(e=.returned (.bool false)∧Jx (pre++[x]) W'))
 (W:World)(hBs:W.cell? ⟨Bs,0,none⟩=some (.slice (some ⟨b,off,none⟩) len cap))(hc:∀j c,j<len→c<10→W.cell? ⟨b,off+j*10+c,none⟩=some (vs j c))(h0:J [] W):
 CallsIn F n Tryz.prog 135 #[.func (.yield l) #[] #[],.pointer (some ⟨Bs,0,none⟩)] W fun e W'=>(∃v,e=.returned v) ∧
  ((∃ys,ys=bi len len∧J ys W')∨(∃pre,(∃k,k≤len∧pre=bi len k)∧Jx pre W')):=by
 have hBl:=bO hBs;refine callsIn_of_wp Tryz.func135 rfl h8 ?_ hro;simp only[Tryz.ntmps135,List.size_toArray,List.length_cons,List.length_nil,Nat.reduceAdd,Nat.reduceSub,Array.replicate_succ,Array.replicate_zero,List.push_toArray,List.append_toArray,List.nil_append,List.cons_append];have hw0:IntKind.i64.wrap ((len:Int)-1)=(len:Int)-1:=IntWalk.i64_in _ χ
 gi_wp2
 gi_loopw [3] (fun i wr=>∃r m:Nat,len=m+r∧i=.int .i64 ((m:Int)-1)∧J (bi len r) wr∧KpM mb n₀ W wr)
  (fun i _=>(intOf i+1).toNat)
 case atStart=>exact⟨0,len,rfl,rfl,by simpa[bi]using h0,aD.refl _ _⟩
 case round =>
  obtain⟨r,m,hm,rfl,hJs,hnx⟩:=hrel;have hBs':=(bM hnx hBl hB).trans hBs
  rcases m with _|m
  ·gi_wp2
   go_end0
   exact⟨⟨_,rfl⟩,.inl ⟨_,by rw[hm];simp,hJs⟩⟩
  ·have e0:(((m+1:Nat):Int)-1)=(m:Int):=χ
   rw[e0];have hlt:m<len:=χ
   have hlt':(m:Int)<(len:Int):=χ
   have q0:wr.cell? ⟨b,off+m*10,none⟩=some (vs m 0):=(bM hnx (bO (hc m 0 hlt χ)) hb).trans (hc m 0 hlt χ);have q1:wr.cell? ⟨b,off+m*10+1,none⟩=some (vs m 1):=(bM hnx (bO (hc m 1 hlt χ)) hb).trans (hc m 1 hlt χ);have q2:wr.cell? ⟨b,off+m*10+2,none⟩=some (vs m 2):=(bM hnx (bO (hc m 2 hlt χ)) hb).trans (hc m 2 hlt χ);have q3:wr.cell? ⟨b,off+m*10+3,none⟩=some (vs m 3):=(bM hnx (bO (hc m 3 hlt χ)) hb).trans (hc m 3 hlt χ);have q4:wr.cell? ⟨b,off+m*10+4,none⟩=some (vs m 4):=(bM hnx (bO (hc m 4 hlt χ)) hb).trans (hc m 4 hlt χ);have q5:wr.cell? ⟨b,off+m*10+5,none⟩=some (vs m 5):=(bM hnx (bO (hc m 5 hlt χ)) hb).trans (hc m 5 hlt χ);have q6:wr.cell? ⟨b,off+m*10+6,none⟩=some (vs m 6):=(bM hnx (bO (hc m 6 hlt χ)) hb).trans (hc m 6 hlt χ);have q7:wr.cell? ⟨b,off+m*10+7,none⟩=some (vs m 7):=(bM hnx (bO (hc m 7 hlt χ)) hb).trans (hc m 7 hlt χ);have q8:wr.cell? ⟨b,off+m*10+8,none⟩=some (vs m 8):=(bM hnx (bO (hc m 8 hlt χ)) hb).trans (hc m 8 hlt χ);have q9:wr.cell? ⟨b,off+m*10+9,none⟩=some (vs m 9):=(bM hnx (bO (hc m 9 hlt χ)) hb).trans (hc m 9 hlt χ);have hpl:(bi len r).length<len:=by rw[iw χ];omega
   obtain⟨fn,tmps,assign,body,hy,hR⟩:=hY _ ⟨m,hlt⟩ wr hJs hpl
   dsimp only at hy
   have hw1:IntKind.i64.wrap ((m:Int)-1)=(m:Int)-1:=IntWalk.i64_in _ χ;have hsn:bi len r++[⟨m,hlt⟩]=bi len (r+1):=by
    rw[ji χ]
    congr 3
    omega
   have HS:=Lib.hid hsn;have HM:=Lib.hid hm;clear hsn hm hpl
   gi_wp2
   refine hR.mono ?_;rintro e W3 (⟨rfl,hJ3,hk3⟩|⟨rfl,hJx3⟩)
   ·gi_wp2
    go_roundw
    case rel=>exact⟨r+1,m,by have:=HM.out;omega,rfl,by rw[←HS.out];exact hJ3,qG hnx hk3⟩
    case measure=>simp[intOf]
   ·gi_wp2
    refine bodyPost_ret (results_none rfl _ _ _) rfl ?_;exact⟨⟨_,rfl⟩,.inr ⟨_,⟨r+1,by have:=HM.out;omega,HS.out⟩,hJx3⟩⟩
theorem sa(F:Fence)(n:Nat)(p:F.fn 135)(h:F.round=none)(l Bs d:Nat)(A:Option Addr)(J:List (Fin 0)→World→Prop)(W:World)(q:W.cell? ⟨Bs,0,none⟩=some (.slice A 0 d))(j:J [] W):
 CallsIn F n Tryz.prog 135 #[.func (.yield l) #[] #[],.pointer (some ⟨Bs,0,none⟩)] W fun e W'=>(∃v,e=.returned v)∧J [] W':=by
 refine callsIn_of_wp Tryz.func135 rfl p ?_ h;simp only[Tryz.ntmps135,List.size_toArray,List.length_cons,List.length_nil,Nat.reduceAdd,Nat.reduceSub,Array.replicate_succ,Array.replicate_zero,List.push_toArray,List.append_toArray,List.nil_append,List.cons_append]
 gi_wp2
 gi_loopw [3] (fun i wr=>i=.int .i64 (-1)∧J [] wr) (fun _ _=>0)
 case atStart=>exact⟨rfl,j⟩
 case round =>
  obtain⟨rfl,g⟩:=hrel
  gi_wp2
  go_end0
  exact⟨⟨_,rfl⟩,g⟩
theorem oe(F:Fence)(n:Nat)(h:F.fn 111)(g:F.round=none)(a:Option Addr)(len d:Nat)(w:World):
 CallsIn F n Tryz.prog 111 #[.slice a len d] w fun e w'=>e=.returned (.func (.func 135) #[] #[.pointer (some ⟨w.heap.size,0,none⟩)])∧w'=w.alloc (.cells #[.slice a len d] 25):=by
 refine callsIn_of_wp Tryz.func111 rfl h ?_ g;simp only[Tryz.ntmps111,List.size_toArray,List.length_cons,List.length_nil,Nat.reduceAdd,Nat.reduceSub,Array.replicate_succ,Array.replicate_zero,List.push_toArray,List.append_toArray,List.nil_append,List.cons_append]
 gi_wp2
 go_ret
 exact⟨rfl,rfl⟩
theorem pT(F:Fence)(n:Nat)(H:F.fn 135)(u:F.round=none)(S:1≤n)(Bs mb n₀ len d:Nat)(A:Option Addr)(vs:Nat→Nat→Value)(q:len≤4194304)(h:len≤d)(L:Bs<n₀∧Bs≠mb)(w:World)(U:n₀≤w.heap.size)
 (v:w.cell? ⟨Bs,0,none⟩=some (.slice A len d))(K:0<len→∃b off,A=some ⟨b,off,none⟩∧b<n₀∧b≠mb∧∀j c,j<len→c<10→w.cell? ⟨b,off+j*10+c,none⟩=some (vs j c)):
 SeqStopsK F n Tryz.prog 135 #[.pointer (some ⟨Bs,0,none⟩)] (fun x:Fin len =>#[.int .i64 (x.val:Int),.agg #[vs x.val 0,vs x.val 1,vs x.val 2,vs x.val 3,vs x.val 4,vs x.val 5,vs x.val 6,vs x.val 7,vs x.val 8,vs x.val 9]]) (KpM mb n₀) (fun ys=>ys=bi len len) (fun D=>∃k,k≤len∧D=bi len k) len w:=fun l J Jx W I _ _ N E=>by
 have g:=(I.cell (p:=⟨Bs,0,none⟩) (by show Bs<_;omega)).trans v
 rcases Nat.eq_zero_or_pos len with rfl|r
 ·exact(sa F n H u l Bs d A J W g E).mono fun e W' ⟨Q,C⟩=>⟨Q,.inl ⟨_,rfl,C⟩⟩
 ·obtain⟨b,off,rfl,O,R,B⟩:=K r
  exact uN F n H u S l Bs mb n₀ b off len d vs q h ⟨O,R⟩ L J Jx N W g (fun j c C y=>(I.cell (p:=⟨b,off+j*10+c,none⟩) (by show b<_;omega)).trans (B j c C y)) E
theorem uP(F:Fence)(n:Nat)(h8:F.fn 129)(hro:F.round=none)(hn:1≤n)(l Bs mb n₀ b off len cap:Nat)(vs:Nat→Nat→Value)(hlen:len≤4194304)(hcap:len≤cap)(hb:b<n₀∧b≠mb)(hB:Bs<n₀∧Bs≠mb)(J Jx:List (Fin len)→World→Prop)
 (hY:∀pre (x:Fin len) W,J pre W→pre.length<len→YieldAt F (n-1) Tryz.prog l #[.int .i64 (x.val:Int),.agg #[vs x.val 0,vs x.val 1,vs x.val 2,vs x.val 3,vs x.val 4,vs x.val 5]] W fun e W' =>
  (e=.returned (.bool true)∧J (pre++[x]) W'∧KpM mb n₀ W W')∨(e=.returned (.bool false)∧Jx (pre++[x]) W'))
 (W:World)(hBs:W.cell? ⟨Bs,0,none⟩=some (.slice (some ⟨b,off,none⟩) len cap))(hc:∀j c,j<len→c<6→W.cell? ⟨b,off+j*6+c,none⟩=some (vs j c))(h0:J [] W):
 CallsIn F n Tryz.prog 129 #[.func (.yield l) #[] #[],.pointer (some ⟨Bs,0,none⟩)] W fun e W'=>(∃v,e=.returned v) ∧
  ((∃ys,ys=bi len len∧J ys W')∨(∃pre,(∃k,k≤len∧pre=bi len k)∧Jx pre W')):=by
 have hBl:=bO hBs;refine callsIn_of_wp Tryz.func129 rfl h8 ?_ hro;simp only[Tryz.ntmps129,List.size_toArray,List.length_cons,List.length_nil,Nat.reduceAdd,Nat.reduceSub,Array.replicate_succ,Array.replicate_zero,List.push_toArray,List.append_toArray,List.nil_append,List.cons_append];have hw0:IntKind.i64.wrap ((len:Int)-1)=(len:Int)-1:=IntWalk.i64_in _ χ
 gi_wp2
 gi_loopw [3] (fun i wr=>∃r m:Nat,len=m+r∧i=.int .i64 ((m:Int)-1)∧J (bi len r) wr∧KpM mb n₀ W wr)
  (fun i _=>(intOf i+1).toNat)
 case atStart=>exact⟨0,len,rfl,rfl,by simpa[bi]using h0,aD.refl _ _⟩
 case round =>
  obtain⟨r,m,hm,rfl,hJs,hnx⟩:=hrel;have hBs':=(bM hnx hBl hB).trans hBs
  rcases m with _|m
  ·gi_wp2
   go_end0
   exact⟨⟨_,rfl⟩,.inl ⟨_,by rw[hm];simp,hJs⟩⟩
  ·have e0:(((m+1:Nat):Int)-1)=(m:Int):=χ
   rw[e0];have hlt:m<len:=χ
   have hlt':(m:Int)<(len:Int):=χ
   have q0:wr.cell? ⟨b,off+m*6,none⟩=some (vs m 0):=(bM hnx (bO (hc m 0 hlt χ)) hb).trans (hc m 0 hlt χ);have q1:wr.cell? ⟨b,off+m*6+1,none⟩=some (vs m 1):=(bM hnx (bO (hc m 1 hlt χ)) hb).trans (hc m 1 hlt χ);have q2:wr.cell? ⟨b,off+m*6+2,none⟩=some (vs m 2):=(bM hnx (bO (hc m 2 hlt χ)) hb).trans (hc m 2 hlt χ);have q3:wr.cell? ⟨b,off+m*6+3,none⟩=some (vs m 3):=(bM hnx (bO (hc m 3 hlt χ)) hb).trans (hc m 3 hlt χ);have q4:wr.cell? ⟨b,off+m*6+4,none⟩=some (vs m 4):=(bM hnx (bO (hc m 4 hlt χ)) hb).trans (hc m 4 hlt χ);have q5:wr.cell? ⟨b,off+m*6+5,none⟩=some (vs m 5):=(bM hnx (bO (hc m 5 hlt χ)) hb).trans (hc m 5 hlt χ);have hpl:(bi len r).length<len:=by rw[iw χ];omega
   obtain⟨fn,tmps,assign,body,hy,hR⟩:=hY _ ⟨m,hlt⟩ wr hJs hpl
   dsimp only at hy
   have hw1:IntKind.i64.wrap ((m:Int)-1)=(m:Int)-1:=IntWalk.i64_in _ χ;have hsn:bi len r++[⟨m,hlt⟩]=bi len (r+1):=by
    rw[ji χ]
    congr 3
    omega
   have HS:=Lib.hid hsn;have HM:=Lib.hid hm;clear hsn hm hpl
   gi_wp2
   refine hR.mono ?_;rintro e W3 (⟨rfl,hJ3,hk3⟩|⟨rfl,hJx3⟩)
   ·gi_wp2
    go_roundw
    case rel=>exact⟨r+1,m,by have:=HM.out;omega,rfl,by rw[←HS.out];exact hJ3,qG hnx hk3⟩
    case measure=>simp[intOf]
   ·gi_wp2
    refine bodyPost_ret (results_none rfl _ _ _) rfl ?_;exact⟨⟨_,rfl⟩,.inr ⟨_,⟨r+1,by have:=HM.out;omega,HS.out⟩,hJx3⟩⟩
theorem sd(F:Fence)(n:Nat)(p:F.fn 129)(h:F.round=none)(l Bs d:Nat)(A:Option Addr)(J:List (Fin 0)→World→Prop)(W:World)(q:W.cell? ⟨Bs,0,none⟩=some (.slice A 0 d))(j:J [] W):
 CallsIn F n Tryz.prog 129 #[.func (.yield l) #[] #[],.pointer (some ⟨Bs,0,none⟩)] W fun e W'=>(∃v,e=.returned v)∧J [] W':=by
 refine callsIn_of_wp Tryz.func129 rfl p ?_ h;simp only[Tryz.ntmps129,List.size_toArray,List.length_cons,List.length_nil,Nat.reduceAdd,Nat.reduceSub,Array.replicate_succ,Array.replicate_zero,List.push_toArray,List.append_toArray,List.nil_append,List.cons_append]
 gi_wp2
 gi_loopw [3] (fun i wr=>i=.int .i64 (-1)∧J [] wr) (fun _ _=>0)
 case atStart=>exact⟨rfl,j⟩
 case round =>
  obtain⟨rfl,g⟩:=hrel
  gi_wp2
  go_end0
  exact⟨⟨_,rfl⟩,g⟩
theorem oh(F:Fence)(n:Nat)(h:F.fn 104)(g:F.round=none)(a:Option Addr)(len d:Nat)(w:World):
 CallsIn F n Tryz.prog 104 #[.slice a len d] w fun e w'=>e=.returned (.func (.func 129) #[] #[.pointer (some ⟨w.heap.size,0,none⟩)])∧w'=w.alloc (.cells #[.slice a len d] 26):=by
 refine callsIn_of_wp Tryz.func104 rfl h ?_ g;simp only[Tryz.ntmps104,List.size_toArray,List.length_cons,List.length_nil,Nat.reduceAdd,Nat.reduceSub,Array.replicate_succ,Array.replicate_zero,List.push_toArray,List.append_toArray,List.nil_append,List.cons_append]
 gi_wp2
 go_ret
 exact⟨rfl,rfl⟩
theorem pV(F:Fence)(n:Nat)(H:F.fn 129)(u:F.round=none)(S:1≤n)(Bs mb n₀ len d:Nat)(A:Option Addr)(vs:Nat→Nat→Value)(q:len≤4194304)(h:len≤d)(L:Bs<n₀∧Bs≠mb)(w:World)(U:n₀≤w.heap.size)
 (v:w.cell? ⟨Bs,0,none⟩=some (.slice A len d))(K:0<len→∃b off,A=some ⟨b,off,none⟩∧b<n₀∧b≠mb∧∀j c,j<len→c<6→w.cell? ⟨b,off+j*6+c,none⟩=some (vs j c)):
 SeqStopsK F n Tryz.prog 129 #[.pointer (some ⟨Bs,0,none⟩)] (fun x:Fin len =>#[.int .i64 (x.val:Int),.agg #[vs x.val 0,vs x.val 1,vs x.val 2,vs x.val 3,vs x.val 4,vs x.val 5]]) (KpM mb n₀) (fun ys=>ys=bi len len) (fun D=>∃k,k≤len∧D=bi len k) len w:=fun l J Jx W I _ _ N E=>by
 have g:=(I.cell (p:=⟨Bs,0,none⟩) (by show Bs<_;omega)).trans v
 rcases Nat.eq_zero_or_pos len with rfl|r
 ·exact(sd F n H u l Bs d A J W g E).mono fun e W' ⟨Q,C⟩=>⟨Q,.inl ⟨_,rfl,C⟩⟩
 ·obtain⟨b,off,rfl,O,R,B⟩:=K r
  exact uP F n H u S l Bs mb n₀ b off len d vs q h ⟨O,R⟩ L J Jx N W g (fun j c C y=>(I.cell (p:=⟨b,off+j*6+c,none⟩) (by show b<_;omega)).trans (B j c C y)) E
