import Derived.Test.YtpblcjipmoblnaaGreatDoorLH2
import Derived.Test.YtpblcjipmoblnaaGreatDoorMem
import Derived.RangeFuncNested
import Derived.RangeFuncBound
import Derived.RangeFuncCalls
import Derived.RangeFuncLeaves
import Derived.Shelf.Abstract
import Derived.Shelf.RegionOpen
import Derived.WalkKit
import Derived.OwnWalkIn
import Derived.TacticsInMore
import Derived.LoopNIn
import Derived.LoopIn
set_option maxRecDepth 100000
set_option maxHeartbeats 4000000
set_option linter.unusedVariables false
set_option linter.unusedSimpArgs false
set_option linter.unnecessarySimpa false
namespace Go.Proofs.YtpblcjipmoblnaaGreatDoor
open Go.RowKit Go.Shelf
variable {mb n₀:Nat}
attribute [local go_sem] Oper.semAt_some
def bg(len r:Nat):List (Fin len):=((List.finRange len).reverse).take r
theorem jE{len r:Nat}(h:r<len):bg len (r+1)=bg len r++[⟨len-1-r,by omega⟩]:=by
 unfold bg;rw[List.take_succ_eq_append_getElem (by simpa using h)]
 congr 2
 rw[List.getElem_reverse];simp
theorem iQ{len r:Nat}(h:r≤len):(bg len r).length=r:=by simp[bg];omega
def KpM(mb n₀:Nat)(W W':World):Prop:=aB (fun k=>k=mb∨n₀≤k) W W'
theorem oL{A B C:World}(h:KpM mb n₀ A B)(k:KpM mb n₀ B C):KpM mb n₀ A C:=h.trans k fun _ _ h=>h
theorem vz{w:World}(g:n₀≤w.heap.size)(W:World)(l:Nat)(o a:Obj)(e:w.heap.size≤l)(h:W.heap[l]?=some o)(b:o.isCells=false)(d:o.isWalk=false):KpM mb n₀ W (W.putObj l a):=
 aB.of_below (belowK_b g W l o a e h b d) fun _ _ h =>.inr h
theorem bT{A B:World}(h:KpM mb n₀ A B){b o:Nat}(a:b<A.heap.size)(d:b<n₀∧b≠mb):B.cell? ⟨b,o,none⟩=A.cell? ⟨b,o,none⟩:=aB.cell h (p:=⟨b,o,none⟩) a (by show ¬ (b=mb∨n₀≤b);omega)
theorem bU{W:World}{b o:Nat}{v:Value}(h:W.cell? ⟨b,o,none⟩=some v):b<W.heap.size:=World.block_lt_of_cell? W ⟨b,o,none⟩ h
theorem sE(F:Fence)(n:Nat)(h8:F.fn 134)(hro:F.round=none)(hn:1≤n)(l Bs mb n₀ b off len cap:Nat)(vs:Nat→Nat→Value)(hlen:len≤4194304)(hcap:len≤cap)(hb:b<n₀∧b≠mb)(hB:Bs<n₀∧Bs≠mb)(J Jx:List (Fin len)→World→Prop)
 (hY:∀pre (x:Fin len) W,J pre W→pre.length<len→YieldAt F (n-1) Tryz.prog l #[.int .i64 (x.val:Int),.agg #[vs x.val 0,vs x.val 1,vs x.val 2,vs x.val 3,vs x.val 4]] W fun e W' =>
  (e=.returned (.bool true)∧J (pre++[x]) W'∧KpM mb n₀ W W')∨(e=.returned (.bool false)∧Jx (pre++[x]) W'))
 (W:World)(hBs:W.cell? ⟨Bs,0,none⟩=some (.slice (some ⟨b,off,none⟩) len cap))(hc:∀j c,j<len→c<5→W.cell? ⟨b,off+j*5+c,none⟩=some (vs j c))(h0:J [] W):
 CallsIn F n Tryz.prog 134 #[.func (.yield l) #[] #[],.pointer (some ⟨Bs,0,none⟩)] W fun e W'=>(∃v,e=.returned v) ∧
  ((∃ys,ys=bg len len∧J ys W')∨(∃pre,(∃k,k≤len∧pre=bg len k)∧Jx pre W')):=by
 have hBl:=bU hBs;refine callsIn_of_wp Tryz.func134 rfl h8 ?_ hro;simp only[Tryz.ntmps134,List.size_toArray,List.length_cons,List.length_nil,Nat.reduceAdd,Nat.reduceSub,Array.replicate_succ,Array.replicate_zero,List.push_toArray,List.append_toArray,List.nil_append,List.cons_append];have hw0:IntKind.i64.wrap ((len:Int)-1)=(len:Int)-1:=IntWalk.i64_in _ (by omega)
 gi_wp2
 gi_loopw [3] (fun i wr=>∃r m:Nat,len=m+r∧i=.int .i64 ((m:Int)-1)∧J (bg len r) wr∧KpM mb n₀ W wr)
  (fun i _=>(intOf i+1).toNat)
 case atStart=>exact⟨0,len,rfl,rfl,by simpa[bg]using h0,aB.refl _ _⟩
 case round =>
  obtain⟨r,m,hm,rfl,hJs,hnx⟩:=hrel;have hBs':=(bT hnx hBl hB).trans hBs
  rcases m with _|m
  ·gi_wp2
   go_end0
   exact⟨⟨_,rfl⟩,.inl ⟨_,by rw[hm];simp,hJs⟩⟩
  ·have e0:(((m+1:Nat):Int)-1)=(m:Int):=by omega
   rw[e0];have hlt:m<len:=by omega
   have hlt':(m:Int)<(len:Int):=by omega
   have q0:wr.cell? ⟨b,off+m*5,none⟩=some (vs m 0):=(bT hnx (bU (hc m 0 hlt (by omega))) hb).trans (hc m 0 hlt (by omega));have q1:wr.cell? ⟨b,off+m*5+1,none⟩=some (vs m 1):=(bT hnx (bU (hc m 1 hlt (by omega))) hb).trans (hc m 1 hlt (by omega));have q2:wr.cell? ⟨b,off+m*5+2,none⟩=some (vs m 2):=(bT hnx (bU (hc m 2 hlt (by omega))) hb).trans (hc m 2 hlt (by omega));have q3:wr.cell? ⟨b,off+m*5+3,none⟩=some (vs m 3):=(bT hnx (bU (hc m 3 hlt (by omega))) hb).trans (hc m 3 hlt (by omega));have q4:wr.cell? ⟨b,off+m*5+4,none⟩=some (vs m 4):=(bT hnx (bU (hc m 4 hlt (by omega))) hb).trans (hc m 4 hlt (by omega));have hpl:(bg len r).length<len:=by rw[iQ (by omega)];omega
   obtain⟨fn,tmps,assign,body,hy,hR⟩:=hY _ ⟨m,hlt⟩ wr hJs hpl
   dsimp only at hy
   have hw1:IntKind.i64.wrap ((m:Int)-1)=(m:Int)-1:=IntWalk.i64_in _ (by omega);have hsn:bg len r++[⟨m,hlt⟩]=bg len (r+1):=by
    rw[jE (by omega)]
    congr 3
    omega
   have HS:=Lib.hid hsn;have HM:=Lib.hid hm;clear hsn hm hpl
   gi_wp2
   refine hR.mono ?_;rintro e W3 (⟨rfl,hJ3,hk3⟩|⟨rfl,hJx3⟩)
   ·gi_wp2
    go_roundw
    case rel=>exact⟨r+1,m,by have:=HM.out;omega,rfl,by rw[←HS.out];exact hJ3,oL hnx hk3⟩
    case measure=>simp[intOf]
   ·gi_wp2
    refine bodyPost_ret (results_none rfl _ _ _) rfl ?_;exact⟨⟨_,rfl⟩,.inr ⟨_,⟨r+1,by have:=HM.out;omega,HS.out⟩,hJx3⟩⟩
theorem qs(F:Fence)(n:Nat)(g:F.fn 134)(b:F.round=none)(l Bs cap:Nat)(A:Option Addr)(J:List (Fin 0)→World→Prop)(W:World)(h:W.cell? ⟨Bs,0,none⟩=some (.slice A 0 cap))(d:J [] W):
 CallsIn F n Tryz.prog 134 #[.func (.yield l) #[] #[],.pointer (some ⟨Bs,0,none⟩)] W fun e W'=>(∃v,e=.returned v)∧J [] W':=by
 refine callsIn_of_wp Tryz.func134 rfl g ?_ b;simp only[Tryz.ntmps134,List.size_toArray,List.length_cons,List.length_nil,Nat.reduceAdd,Nat.reduceSub,Array.replicate_succ,Array.replicate_zero,List.push_toArray,List.append_toArray,List.nil_append,List.cons_append]
 gi_wp2
 gi_loopw [3] (fun i j=>i=.int .i64 (-1)∧J [] j) (fun _ _=>0)
 case atStart=>exact⟨rfl,d⟩
 case round =>
  obtain⟨rfl,a⟩:=hrel
  gi_wp2
  go_end0
  exact⟨⟨_,rfl⟩,a⟩
theorem mj(F:Fence)(n:Nat)(d:F.fn 110)(b:F.round=none)(a:Option Addr)(len cap:Nat)(w:World):
 CallsIn F n Tryz.prog 110 #[.slice a len cap] w fun e w'=>e=.returned (.func (.func 134) #[] #[.pointer (some ⟨w.heap.size,0,none⟩)])∧w'=w.alloc (.cells #[.slice a len cap] 24):=by
 refine callsIn_of_wp Tryz.func110 rfl d ?_ b;simp only[Tryz.ntmps110,List.size_toArray,List.length_cons,List.length_nil,Nat.reduceAdd,Nat.reduceSub,Array.replicate_succ,Array.replicate_zero,List.push_toArray,List.append_toArray,List.nil_append,List.cons_append]
 gi_wp2
 go_ret
 exact⟨rfl,rfl⟩
theorem nb(F:Fence)(n:Nat)(C:F.fn 134)(i:F.round=none)(M:1≤n)(Bs mb n₀ len cap:Nat)(A:Option Addr)(vs:Nat→Nat→Value)(g:len≤4194304)(d:len≤cap)(G:Bs<n₀∧Bs≠mb)(w:World)(N:n₀≤w.heap.size)
 (q:w.cell? ⟨Bs,0,none⟩=some (.slice A len cap))(E:0<len→∃b off,A=some ⟨b,off,none⟩∧b<n₀∧b≠mb∧∀j c,j<len→c<5→w.cell? ⟨b,off+j*5+c,none⟩=some (vs j c)):
 SeqStopsK F n Tryz.prog 134 #[.pointer (some ⟨Bs,0,none⟩)] (fun x:Fin len =>#[.int .i64 (x.val:Int),.agg #[vs x.val 0,vs x.val 1,vs x.val 2,vs x.val 3,vs x.val 4]]) (KpM mb n₀) (fun O=>O=bg len len) (fun y=>∃k,k≤len∧y=bg len k) len w:=fun l J Jx W D _ _ H B=>by
 have a:=(D.cell (p:=⟨Bs,0,none⟩) (by show Bs<_;omega)).trans q
 rcases Nat.eq_zero_or_pos len with rfl|h
 ·exact(qs F n C i l Bs cap A J W a B).mono fun e W' ⟨K,v⟩=>⟨K,.inl ⟨_,rfl,v⟩⟩
 ·obtain⟨b,off,rfl,I,L,u⟩:=E h
  exact sE F n C i M l Bs mb n₀ b off len cap vs g d ⟨I,L⟩ G J Jx H W a (fun j c v r=>(D.cell (p:=⟨b,off+j*5+c,none⟩) (by show b<_;omega)).trans (u j c v r)) B
theorem sD(F:Fence)(n:Nat)(h8:F.fn 135)(hro:F.round=none)(hn:1≤n)(l Bs mb n₀ b off len cap:Nat)(vs:Nat→Nat→Value)(hlen:len≤4194304)(hcap:len≤cap)(hb:b<n₀∧b≠mb)(hB:Bs<n₀∧Bs≠mb)(J Jx:List (Fin len)→World→Prop)
 (hY:∀pre (x:Fin len) W,J pre W→pre.length<len→YieldAt F (n-1) Tryz.prog l #[.int .i64 (x.val:Int),.agg #[vs x.val 0,vs x.val 1,vs x.val 2,vs x.val 3,vs x.val 4,vs x.val 5,vs x.val 6,vs x.val 7,vs x.val 8,vs x.val 9]] W fun e W' =>
  (e=.returned (.bool true)∧J (pre++[x]) W'∧KpM mb n₀ W W')∨(e=.returned (.bool false)∧Jx (pre++[x]) W'))
 (W:World)(hBs:W.cell? ⟨Bs,0,none⟩=some (.slice (some ⟨b,off,none⟩) len cap))(hc:∀j c,j<len→c<10→W.cell? ⟨b,off+j*10+c,none⟩=some (vs j c))(h0:J [] W):
 CallsIn F n Tryz.prog 135 #[.func (.yield l) #[] #[],.pointer (some ⟨Bs,0,none⟩)] W fun e W'=>(∃v,e=.returned v) ∧
  ((∃ys,ys=bg len len∧J ys W')∨(∃pre,(∃k,k≤len∧pre=bg len k)∧Jx pre W')):=by
 have hBl:=bU hBs;refine callsIn_of_wp Tryz.func135 rfl h8 ?_ hro;simp only[Tryz.ntmps135,List.size_toArray,List.length_cons,List.length_nil,Nat.reduceAdd,Nat.reduceSub,Array.replicate_succ,Array.replicate_zero,List.push_toArray,List.append_toArray,List.nil_append,List.cons_append];have hw0:IntKind.i64.wrap ((len:Int)-1)=(len:Int)-1:=IntWalk.i64_in _ (by omega)
 gi_wp2
 gi_loopw [3] (fun i wr=>∃r m:Nat,len=m+r∧i=.int .i64 ((m:Int)-1)∧J (bg len r) wr∧KpM mb n₀ W wr)
  (fun i _=>(intOf i+1).toNat)
 case atStart=>exact⟨0,len,rfl,rfl,by simpa[bg]using h0,aB.refl _ _⟩
 case round =>
  obtain⟨r,m,hm,rfl,hJs,hnx⟩:=hrel;have hBs':=(bT hnx hBl hB).trans hBs
  rcases m with _|m
  ·gi_wp2
   go_end0
   exact⟨⟨_,rfl⟩,.inl ⟨_,by rw[hm];simp,hJs⟩⟩
  ·have e0:(((m+1:Nat):Int)-1)=(m:Int):=by omega
   rw[e0];have hlt:m<len:=by omega
   have hlt':(m:Int)<(len:Int):=by omega
   have q0:wr.cell? ⟨b,off+m*10,none⟩=some (vs m 0):=(bT hnx (bU (hc m 0 hlt (by omega))) hb).trans (hc m 0 hlt (by omega));have q1:wr.cell? ⟨b,off+m*10+1,none⟩=some (vs m 1):=(bT hnx (bU (hc m 1 hlt (by omega))) hb).trans (hc m 1 hlt (by omega));have q2:wr.cell? ⟨b,off+m*10+2,none⟩=some (vs m 2):=(bT hnx (bU (hc m 2 hlt (by omega))) hb).trans (hc m 2 hlt (by omega));have q3:wr.cell? ⟨b,off+m*10+3,none⟩=some (vs m 3):=(bT hnx (bU (hc m 3 hlt (by omega))) hb).trans (hc m 3 hlt (by omega));have q4:wr.cell? ⟨b,off+m*10+4,none⟩=some (vs m 4):=(bT hnx (bU (hc m 4 hlt (by omega))) hb).trans (hc m 4 hlt (by omega));have q5:wr.cell? ⟨b,off+m*10+5,none⟩=some (vs m 5):=(bT hnx (bU (hc m 5 hlt (by omega))) hb).trans (hc m 5 hlt (by omega));have q6:wr.cell? ⟨b,off+m*10+6,none⟩=some (vs m 6):=(bT hnx (bU (hc m 6 hlt (by omega))) hb).trans (hc m 6 hlt (by omega));have q7:wr.cell? ⟨b,off+m*10+7,none⟩=some (vs m 7):=(bT hnx (bU (hc m 7 hlt (by omega))) hb).trans (hc m 7 hlt (by omega));have q8:wr.cell? ⟨b,off+m*10+8,none⟩=some (vs m 8):=(bT hnx (bU (hc m 8 hlt (by omega))) hb).trans (hc m 8 hlt (by omega));have q9:wr.cell? ⟨b,off+m*10+9,none⟩=some (vs m 9):=(bT hnx (bU (hc m 9 hlt (by omega))) hb).trans (hc m 9 hlt (by omega));have hpl:(bg len r).length<len:=by rw[iQ (by omega)];omega
   obtain⟨fn,tmps,assign,body,hy,hR⟩:=hY _ ⟨m,hlt⟩ wr hJs hpl
   dsimp only at hy
   have hw1:IntKind.i64.wrap ((m:Int)-1)=(m:Int)-1:=IntWalk.i64_in _ (by omega);have hsn:bg len r++[⟨m,hlt⟩]=bg len (r+1):=by
    rw[jE (by omega)]
    congr 3
    omega
   have HS:=Lib.hid hsn;have HM:=Lib.hid hm;clear hsn hm hpl
   gi_wp2
   refine hR.mono ?_;rintro e W3 (⟨rfl,hJ3,hk3⟩|⟨rfl,hJx3⟩)
   ·gi_wp2
    go_roundw
    case rel=>exact⟨r+1,m,by have:=HM.out;omega,rfl,by rw[←HS.out];exact hJ3,oL hnx hk3⟩
    case measure=>simp[intOf]
   ·gi_wp2
    refine bodyPost_ret (results_none rfl _ _ _) rfl ?_;exact⟨⟨_,rfl⟩,.inr ⟨_,⟨r+1,by have:=HM.out;omega,HS.out⟩,hJx3⟩⟩
theorem qr(F:Fence)(n:Nat)(g:F.fn 135)(b:F.round=none)(l Bs cap:Nat)(A:Option Addr)(J:List (Fin 0)→World→Prop)(W:World)(h:W.cell? ⟨Bs,0,none⟩=some (.slice A 0 cap))(d:J [] W):
 CallsIn F n Tryz.prog 135 #[.func (.yield l) #[] #[],.pointer (some ⟨Bs,0,none⟩)] W fun e W'=>(∃v,e=.returned v)∧J [] W':=by
 refine callsIn_of_wp Tryz.func135 rfl g ?_ b;simp only[Tryz.ntmps135,List.size_toArray,List.length_cons,List.length_nil,Nat.reduceAdd,Nat.reduceSub,Array.replicate_succ,Array.replicate_zero,List.push_toArray,List.append_toArray,List.nil_append,List.cons_append]
 gi_wp2
 gi_loopw [3] (fun i j=>i=.int .i64 (-1)∧J [] j) (fun _ _=>0)
 case atStart=>exact⟨rfl,d⟩
 case round =>
  obtain⟨rfl,a⟩:=hrel
  gi_wp2
  go_end0
  exact⟨⟨_,rfl⟩,a⟩
theorem mi(F:Fence)(n:Nat)(d:F.fn 111)(b:F.round=none)(a:Option Addr)(len cap:Nat)(w:World):
 CallsIn F n Tryz.prog 111 #[.slice a len cap] w fun e w'=>e=.returned (.func (.func 135) #[] #[.pointer (some ⟨w.heap.size,0,none⟩)])∧w'=w.alloc (.cells #[.slice a len cap] 25):=by
 refine callsIn_of_wp Tryz.func111 rfl d ?_ b;simp only[Tryz.ntmps111,List.size_toArray,List.length_cons,List.length_nil,Nat.reduceAdd,Nat.reduceSub,Array.replicate_succ,Array.replicate_zero,List.push_toArray,List.append_toArray,List.nil_append,List.cons_append]
 gi_wp2
 go_ret
 exact⟨rfl,rfl⟩
theorem na(F:Fence)(n:Nat)(C:F.fn 135)(i:F.round=none)(M:1≤n)(Bs mb n₀ len cap:Nat)(A:Option Addr)(vs:Nat→Nat→Value)(g:len≤4194304)(d:len≤cap)(G:Bs<n₀∧Bs≠mb)(w:World)(N:n₀≤w.heap.size)
 (q:w.cell? ⟨Bs,0,none⟩=some (.slice A len cap))(E:0<len→∃b off,A=some ⟨b,off,none⟩∧b<n₀∧b≠mb∧∀j c,j<len→c<10→w.cell? ⟨b,off+j*10+c,none⟩=some (vs j c)):
 SeqStopsK F n Tryz.prog 135 #[.pointer (some ⟨Bs,0,none⟩)] (fun x:Fin len =>#[.int .i64 (x.val:Int),.agg #[vs x.val 0,vs x.val 1,vs x.val 2,vs x.val 3,vs x.val 4,vs x.val 5,vs x.val 6,vs x.val 7,vs x.val 8,vs x.val 9]]) (KpM mb n₀) (fun O=>O=bg len len) (fun y=>∃k,k≤len∧y=bg len k) len w:=fun l J Jx W D _ _ H B=>by
 have a:=(D.cell (p:=⟨Bs,0,none⟩) (by show Bs<_;omega)).trans q
 rcases Nat.eq_zero_or_pos len with rfl|h
 ·exact(qr F n C i l Bs cap A J W a B).mono fun e W' ⟨K,v⟩=>⟨K,.inl ⟨_,rfl,v⟩⟩
 ·obtain⟨b,off,rfl,I,L,u⟩:=E h
  exact sD F n C i M l Bs mb n₀ b off len cap vs g d ⟨I,L⟩ G J Jx H W a (fun j c v r=>(D.cell (p:=⟨b,off+j*10+c,none⟩) (by show b<_;omega)).trans (u j c v r)) B
theorem sF(F:Fence)(n:Nat)(h8:F.fn 129)(hro:F.round=none)(hn:1≤n)(l Bs mb n₀ b off len cap:Nat)(vs:Nat→Nat→Value)(hlen:len≤4194304)(hcap:len≤cap)(hb:b<n₀∧b≠mb)(hB:Bs<n₀∧Bs≠mb)(J Jx:List (Fin len)→World→Prop)
 (hY:∀pre (x:Fin len) W,J pre W→pre.length<len→YieldAt F (n-1) Tryz.prog l #[.int .i64 (x.val:Int),.agg #[vs x.val 0,vs x.val 1,vs x.val 2,vs x.val 3,vs x.val 4,vs x.val 5]] W fun e W' =>
  (e=.returned (.bool true)∧J (pre++[x]) W'∧KpM mb n₀ W W')∨(e=.returned (.bool false)∧Jx (pre++[x]) W'))
 (W:World)(hBs:W.cell? ⟨Bs,0,none⟩=some (.slice (some ⟨b,off,none⟩) len cap))(hc:∀j c,j<len→c<6→W.cell? ⟨b,off+j*6+c,none⟩=some (vs j c))(h0:J [] W):
 CallsIn F n Tryz.prog 129 #[.func (.yield l) #[] #[],.pointer (some ⟨Bs,0,none⟩)] W fun e W'=>(∃v,e=.returned v) ∧
  ((∃ys,ys=bg len len∧J ys W')∨(∃pre,(∃k,k≤len∧pre=bg len k)∧Jx pre W')):=by
 have hBl:=bU hBs;refine callsIn_of_wp Tryz.func129 rfl h8 ?_ hro;simp only[Tryz.ntmps129,List.size_toArray,List.length_cons,List.length_nil,Nat.reduceAdd,Nat.reduceSub,Array.replicate_succ,Array.replicate_zero,List.push_toArray,List.append_toArray,List.nil_append,List.cons_append];have hw0:IntKind.i64.wrap ((len:Int)-1)=(len:Int)-1:=IntWalk.i64_in _ (by omega)
 gi_wp2
 gi_loopw [3] (fun i wr=>∃r m:Nat,len=m+r∧i=.int .i64 ((m:Int)-1)∧J (bg len r) wr∧KpM mb n₀ W wr)
  (fun i _=>(intOf i+1).toNat)
 case atStart=>exact⟨0,len,rfl,rfl,by simpa[bg]using h0,aB.refl _ _⟩
 case round =>
  obtain⟨r,m,hm,rfl,hJs,hnx⟩:=hrel;have hBs':=(bT hnx hBl hB).trans hBs
  rcases m with _|m
  ·gi_wp2
   go_end0
   exact⟨⟨_,rfl⟩,.inl ⟨_,by rw[hm];simp,hJs⟩⟩
  ·have e0:(((m+1:Nat):Int)-1)=(m:Int):=by omega
   rw[e0];have hlt:m<len:=by omega
   have hlt':(m:Int)<(len:Int):=by omega
   have q0:wr.cell? ⟨b,off+m*6,none⟩=some (vs m 0):=(bT hnx (bU (hc m 0 hlt (by omega))) hb).trans (hc m 0 hlt (by omega));have q1:wr.cell? ⟨b,off+m*6+1,none⟩=some (vs m 1):=(bT hnx (bU (hc m 1 hlt (by omega))) hb).trans (hc m 1 hlt (by omega));have q2:wr.cell? ⟨b,off+m*6+2,none⟩=some (vs m 2):=(bT hnx (bU (hc m 2 hlt (by omega))) hb).trans (hc m 2 hlt (by omega));have q3:wr.cell? ⟨b,off+m*6+3,none⟩=some (vs m 3):=(bT hnx (bU (hc m 3 hlt (by omega))) hb).trans (hc m 3 hlt (by omega));have q4:wr.cell? ⟨b,off+m*6+4,none⟩=some (vs m 4):=(bT hnx (bU (hc m 4 hlt (by omega))) hb).trans (hc m 4 hlt (by omega));have q5:wr.cell? ⟨b,off+m*6+5,none⟩=some (vs m 5):=(bT hnx (bU (hc m 5 hlt (by omega))) hb).trans (hc m 5 hlt (by omega));have hpl:(bg len r).length<len:=by rw[iQ (by omega)];omega
   obtain⟨fn,tmps,assign,body,hy,hR⟩:=hY _ ⟨m,hlt⟩ wr hJs hpl
   dsimp only at hy
   have hw1:IntKind.i64.wrap ((m:Int)-1)=(m:Int)-1:=IntWalk.i64_in _ (by omega);have hsn:bg len r++[⟨m,hlt⟩]=bg len (r+1):=by
    rw[jE (by omega)]
    congr 3
    omega
   have HS:=Lib.hid hsn;have HM:=Lib.hid hm;clear hsn hm hpl
   gi_wp2
   refine hR.mono ?_;rintro e W3 (⟨rfl,hJ3,hk3⟩|⟨rfl,hJx3⟩)
   ·gi_wp2
    go_roundw
    case rel=>exact⟨r+1,m,by have:=HM.out;omega,rfl,by rw[←HS.out];exact hJ3,oL hnx hk3⟩
    case measure=>simp[intOf]
   ·gi_wp2
    refine bodyPost_ret (results_none rfl _ _ _) rfl ?_;exact⟨⟨_,rfl⟩,.inr ⟨_,⟨r+1,by have:=HM.out;omega,HS.out⟩,hJx3⟩⟩
theorem qt(F:Fence)(n:Nat)(g:F.fn 129)(b:F.round=none)(l Bs cap:Nat)(A:Option Addr)(J:List (Fin 0)→World→Prop)(W:World)(h:W.cell? ⟨Bs,0,none⟩=some (.slice A 0 cap))(d:J [] W):
 CallsIn F n Tryz.prog 129 #[.func (.yield l) #[] #[],.pointer (some ⟨Bs,0,none⟩)] W fun e W'=>(∃v,e=.returned v)∧J [] W':=by
 refine callsIn_of_wp Tryz.func129 rfl g ?_ b;simp only[Tryz.ntmps129,List.size_toArray,List.length_cons,List.length_nil,Nat.reduceAdd,Nat.reduceSub,Array.replicate_succ,Array.replicate_zero,List.push_toArray,List.append_toArray,List.nil_append,List.cons_append]
 gi_wp2
 gi_loopw [3] (fun i j=>i=.int .i64 (-1)∧J [] j) (fun _ _=>0)
 case atStart=>exact⟨rfl,d⟩
 case round =>
  obtain⟨rfl,a⟩:=hrel
  gi_wp2
  go_end0
  exact⟨⟨_,rfl⟩,a⟩
theorem ml(F:Fence)(n:Nat)(d:F.fn 104)(b:F.round=none)(a:Option Addr)(len cap:Nat)(w:World):
 CallsIn F n Tryz.prog 104 #[.slice a len cap] w fun e w'=>e=.returned (.func (.func 129) #[] #[.pointer (some ⟨w.heap.size,0,none⟩)])∧w'=w.alloc (.cells #[.slice a len cap] 26):=by
 refine callsIn_of_wp Tryz.func104 rfl d ?_ b;simp only[Tryz.ntmps104,List.size_toArray,List.length_cons,List.length_nil,Nat.reduceAdd,Nat.reduceSub,Array.replicate_succ,Array.replicate_zero,List.push_toArray,List.append_toArray,List.nil_append,List.cons_append]
 gi_wp2
 go_ret
 exact⟨rfl,rfl⟩
theorem nc(F:Fence)(n:Nat)(C:F.fn 129)(i:F.round=none)(M:1≤n)(Bs mb n₀ len cap:Nat)(A:Option Addr)(vs:Nat→Nat→Value)(g:len≤4194304)(d:len≤cap)(G:Bs<n₀∧Bs≠mb)(w:World)(N:n₀≤w.heap.size)
 (q:w.cell? ⟨Bs,0,none⟩=some (.slice A len cap))(E:0<len→∃b off,A=some ⟨b,off,none⟩∧b<n₀∧b≠mb∧∀j c,j<len→c<6→w.cell? ⟨b,off+j*6+c,none⟩=some (vs j c)):
 SeqStopsK F n Tryz.prog 129 #[.pointer (some ⟨Bs,0,none⟩)] (fun x:Fin len =>#[.int .i64 (x.val:Int),.agg #[vs x.val 0,vs x.val 1,vs x.val 2,vs x.val 3,vs x.val 4,vs x.val 5]]) (KpM mb n₀) (fun O=>O=bg len len) (fun y=>∃k,k≤len∧y=bg len k) len w:=fun l J Jx W D _ _ H B=>by
 have a:=(D.cell (p:=⟨Bs,0,none⟩) (by show Bs<_;omega)).trans q
 rcases Nat.eq_zero_or_pos len with rfl|h
 ·exact(qt F n C i l Bs cap A J W a B).mono fun e W' ⟨K,v⟩=>⟨K,.inl ⟨_,rfl,v⟩⟩
 ·obtain⟨b,off,rfl,I,L,u⟩:=E h
  exact sF F n C i M l Bs mb n₀ b off len cap vs g d ⟨I,L⟩ G J Jx H W a (fun j c v r=>(D.cell (p:=⟨b,off+j*6+c,none⟩) (by show b<_;omega)).trans (u j c v r)) B
end Go.Proofs.YtpblcjipmoblnaaGreatDoor
