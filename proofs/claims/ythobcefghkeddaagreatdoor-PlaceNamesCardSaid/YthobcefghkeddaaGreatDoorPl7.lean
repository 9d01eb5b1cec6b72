import Derived.Test.YthobcefghkeddaaGreatDoorBack
import Derived.Test.YthobcefghkeddaaGreatDoorPl6
set_option maxRecDepth 100000
set_option linter.all false
set_option maxHeartbeats 4000000
namespace Go.Proofs.YthobcefghkeddaaGreatDoor
open Go.RowKit Go.Shelf Ck
attribute [local go_sem] Oper.semAt_some
def upL(len r:Nat):List (Fin len):=(List.finRange len).take r
theorem yN{len r:Nat}(h:r<len):upL len (r+1)=upL len r++[⟨r,h⟩]:=by
 unfold upL;rw[List.take_succ_eq_append_getElem (by simpa using h)];simp
theorem Ab{len r:Nat}(h:r≤len):(upL len r).length=r:=by simp[upL];omega
theorem xw(F:Fence)(n:Nat)(h8:F.fn 132)(hro:F.round=none)(hn:1≤n)(l Bs mb n₀ b off len cap:Nat)(vs:Nat→Sp)(hlen:len≤4194304)(hcap:len≤cap)(hb:b<n₀∧b≠mb)(hB:Bs<n₀∧Bs≠mb)(J Jx:List (Fin len)→World→Prop)
 (hJ:∀pre W (cs:Array Value),J pre W→J pre (W.alloc (.cells cs 125)))
 (hY:∀pre (x:Fin len) W,J pre W→pre.length<len→YieldAt F (n-1) Tryz.prog l #[.agg #[.int .u64 (vs x.val).1,.int .u64 (vs x.val).2]] W fun e W' =>
  (e=.returned (.bool true)∧J (pre++[x]) W'∧KpM mb n₀ W W')∨(e=.returned (.bool false)∧Jx (pre++[x]) W'))
 (W:World)(hn0:n₀≤W.heap.size)(hBs:W.cell? ⟨Bs,0,none⟩=some (.slice (some ⟨b,off,none⟩) len cap))(hc:∀j,j<len→W.cell? ⟨b,off+j*2,none⟩=some (.int .u64 (vs j).1)∧W.cell? ⟨b,off+j*2+1,none⟩=some (.int .u64 (vs j).2))(h0:J [] W):
 CallsIn F n Tryz.prog 132 #[.func (.yield l) #[] #[],.pointer (some ⟨Bs,0,none⟩)] W fun e W'=>(∃v,e=.returned v) ∧
  ((∃ys,ys=upL len len∧J ys W')∨(∃pre,(∃k,k≤len∧pre=upL len k)∧Jx pre W')):=by
 have hBl:=ah hBs;refine callsIn_of_wp Tryz.func132 rfl h8 ?_ hro;simp only[Tryz.ntmps132,List.size_toArray,List.length_cons,List.length_nil,Nat.reduceAdd,Nat.reduceSub,Array.replicate_succ,Array.replicate_zero,List.push_toArray,List.append_toArray,List.nil_append,List.cons_append]
 gi_wp2
 gi_loopw [8] (fun i wr=>∃r:Nat,r≤len∧i=.int .i64 (r:Int)∧J (upL len r) wr∧KpM mb n₀ W wr)
  (fun i _=>len-(intOf i).toNat)
 case atStart=>exact⟨0,Nat.zero_le _,rfl,by simpa[upL]using h0,aD.refl _ _⟩
 case round =>
  obtain⟨r,hr,rfl,hJs,hnx⟩:=hrel
  rcases Nat.lt_or_ge r len with c|c
  ·have hlt':(r:Int)<(len:Int):=χ
   have q0:wr.cell? ⟨b,off+r*2,none⟩=some (.int .u64 (vs r).1):=(ap hnx (ah (hc r c).1) hb).trans (hc r c).1;have q1:wr.cell? ⟨b,off+r*2+1,none⟩=some (.int .u64 (vs r).2):=(ap hnx (ah (hc r c).2) hb).trans (hc r c).2;obtain⟨wa,hwa⟩:∃x,x=wr.alloc (.cells #[.int .u64 (vs r).1,.int .u64 (vs r).2] 125):=⟨_,rfl⟩;have hka:Kz wr wa:=by rw[hwa];exact(aD.refl _ _).alloc _
   have hpl:(upL len r).length<len:=by rw[Ab χ];exact c
   obtain⟨fn,tmps,assign,body,hy,hR⟩:=hY _ ⟨r,c⟩ wa (by rw[hwa];exact hJ _ _ _ hJs) hpl
   dsimp only at hy
   have hsn:upL len r++[⟨r,c⟩]=upL len (r+1):=(yN c).symm;have hw1:IntKind.i64.wrap ((r:Int)+1)=(r:Int)+1:=IntWalk.i64_in _ χ;have HS:=hh hsn;have HC:=hh c;have HKA:=hh hka;rw[hwa]at hy hR;clear hsn hpl hka
   gi_wp2
   refine hR.mono ?_;rintro e W3 (⟨rfl,hJ3,hk3⟩|⟨rfl,hJx3⟩)
   ·gi_wp2
    go_roundw
    case rel=>exact⟨r+1,HC.out,rfl,by rw[←HS.out];exact hJ3,km hnx (km (HKA.out.mono fun _ _ h=>h.elim) (by rw[hwa];exact hk3))⟩
    case measure=>simp[intOf];omega
   ·gi_wp2
    refine bodyPost_ret (results_none rfl _ _ _) rfl ?_;exact⟨⟨_,rfl⟩,.inr ⟨_,⟨r+1,HC.out,HS.out⟩,hJx3⟩⟩
  ·have hlt':¬ (r:Int)<(len:Int):=χ
   have hrl:r=len:=χ
   rw[hrl]at hJs;have HJ:=hh hJs;clear hJs
   gi_wp2
   go_end0
   exact⟨⟨_,rfl⟩,.inl HJ.out⟩
theorem uu(F:Fence)(n:Nat)(q:F.fn 132)(h:F.round=none)(l Bs d:Nat)(A:Option Addr)(J:List (Fin 0)→World→Prop)(W:World)(u:W.cell? ⟨Bs,0,none⟩=some (.slice A 0 d))(j:J [] W):
 CallsIn F n Tryz.prog 132 #[.func (.yield l) #[] #[],.pointer (some ⟨Bs,0,none⟩)] W fun e W'=>(∃v,e=.returned v)∧J [] W':=by
 refine callsIn_of_wp Tryz.func132 rfl q ?_ h;simp only[Tryz.ntmps132,List.size_toArray,List.length_cons,List.length_nil,Nat.reduceAdd,Nat.reduceSub,Array.replicate_succ,Array.replicate_zero,List.push_toArray,List.append_toArray,List.nil_append,List.cons_append]
 gi_wp2
 gi_loopw [8] (fun i wr=>i=.int .i64 0∧J [] wr) (fun _ _=>0)
 case atStart=>exact⟨rfl,j⟩
 case round =>
  obtain⟨rfl,g⟩:=hrel
  gi_wp2
  go_end0
  exact⟨⟨_,rfl⟩,g⟩
theorem xx(F:Fence)(n:Nat)(h:F.fn 108)(g:F.round=none)(a:Option Addr)(len d:Nat)(w:World):
 CallsIn F n Tryz.prog 108 #[.agg #[.slice a len d]] w fun e w'=>e=.returned (.func (.func 132) #[] #[.pointer (some ⟨w.heap.size,0,none⟩)])∧w'=w.alloc (.cells #[.slice a len d] 119):=by
 refine callsIn_of_wp Tryz.func108 rfl h ?_ g;simp only[Tryz.ntmps108,List.size_toArray,List.length_cons,List.length_nil,Nat.reduceAdd,Nat.reduceSub,Array.replicate_succ,Array.replicate_zero,List.push_toArray,List.append_toArray,List.nil_append,List.cons_append]
 gi_wp2
 go_ret
 exact⟨rfl,rfl⟩
theorem rE(F:Fence)(n:Nat)(O:F.fn 132)(C:F.round=none)(hn:1≤n)(Bs I D len d:Nat)(A:Option Addr)(vs:Nat→Sp)(y:len≤4194304)(u:len≤d)(R:Bs<D∧Bs≠I)(w:World)(L:D≤w.heap.size)
 (K:w.cell? ⟨Bs,0,none⟩=some (.slice A len d))(Q:0<len→∃b off,A=some ⟨b,off,none⟩∧b<D∧b≠I∧∀j,j<len→w.cell? ⟨b,off+j*2,none⟩=some (.int .u64 (vs j).1)∧w.cell? ⟨b,off+j*2+1,none⟩=some (.int .u64 (vs j).2)):
 SeqStopsK F n Tryz.prog 132 #[.pointer (some ⟨Bs,0,none⟩)] (fun x:Fin len =>#[.agg #[.int .u64 (vs x.val).1,.int .u64 (vs x.val).2]]) (KpM I D) (fun ys=>ys=upL len len) (fun g=>∃k,k≤len∧g=upL len k) len w:=fun l J Jx W E U _ V N=>by
 have q:=(E.cell (p:=⟨Bs,0,none⟩) (by show Bs<_;omega)).trans K
 rcases Nat.eq_zero_or_pos len with rfl|B
 ·exact(uu F n O C l Bs d A J W q N).mono fun e W' ⟨Y,H⟩=>⟨Y,.inl ⟨_,rfl,H⟩⟩
 ·obtain⟨b,off,rfl,X,Z,v⟩:=Q B
  refine xw F n O C hn l Bs I D b off len d vs y u ⟨X,Z⟩ R J Jx (fun g W cs h=>?_) V W (Nat.le_trans L E.size) q (fun j H=>⟨(E.cell (p:=⟨b,off+j*2,none⟩) (by show b<_;omega)).trans (v j H).1,(E.cell (p:=⟨b,off+j*2+1,none⟩) (by show b<_;omega)).trans (v j H).2⟩) N;exact U g W _ none h (World.grownBy_alloc _ _ _) (fun r e=>by cases e)
