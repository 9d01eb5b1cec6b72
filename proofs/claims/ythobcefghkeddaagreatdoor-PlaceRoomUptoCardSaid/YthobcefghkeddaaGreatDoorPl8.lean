import Derived.Test.YthobcefghkeddaaGreatDoorNames
import Derived.Test.YthobcefghkeddaaGreatDoorPlansB
set_option maxRecDepth 100000
set_option linter.all false
set_option maxHeartbeats 4000000
namespace Go.Proofs.YthobcefghkeddaaGreatDoor
open Go.RowKit Go.Shelf Ck
attribute [local go_sem] Oper.semAt_some
def upL(len r:Nat):List (Fin len):=(List.finRange len).take r
theorem zF{len r:Nat}(h:r<len):upL len (r+1)=upL len r++[⟨r,h⟩]:=by
 unfold upL;rw[List.take_succ_eq_append_getElem (by simpa using h)];simp
theorem BY{len r:Nat}(h:r≤len):(upL len r).length=r:=by simp[upL];omega
theorem yp(F:Fence)(n:Nat)(h8:F.fn 132)(hro:F.round=none)(hn:1≤n)(l Bs mb n₀ b off len cap:Nat)(vs:Nat→Sp)(hlen:len≤4194304)(hcap:len≤cap)(hb:b<n₀∧b≠mb)(hB:Bs<n₀∧Bs≠mb)(J Jx:List (Fin len)→World→Prop)
 (hJ:∀pre W (cs:Array Value),J pre W→J pre (W.alloc (.cells cs 125)))
 (hY:∀pre (x:Fin len) W,J pre W→pre.length<len→YieldAt F (n-1) Tryz.prog l #[.agg #[.int .u64 (vs x.val).1,.int .u64 (vs x.val).2]] W fun e W' =>
  (e=.returned (.bool true)∧J (pre++[x]) W'∧KpM mb n₀ W W')∨(e=.returned (.bool false)∧Jx (pre++[x]) W'))
 (W:World)(hn0:n₀≤W.heap.size)(hBs:W.cell? ⟨Bs,0,none⟩=some (.slice (some ⟨b,off,none⟩) len cap))(hc:∀j,j<len→W.cell? ⟨b,off+j*2,none⟩=some (.int .u64 (vs j).1)∧W.cell? ⟨b,off+j*2+1,none⟩=some (.int .u64 (vs j).2))(h0:J [] W):
 CallsIn F n Tryz.prog 132 #[.func (.yield l) #[] #[],.pointer (some ⟨Bs,0,none⟩)] W fun e W'=>(∃v,e=.returned v) ∧
  ((∃ys,ys=upL len len∧J ys W')∨(∃pre,(∃k,k≤len∧pre=upL len k)∧Jx pre W')):=by
 have hBl:=ai hBs;refine callsIn_of_wp Tryz.func132 rfl h8 ?_ hro;simp only[Tryz.ntmps132,List.size_toArray,List.length_cons,List.length_nil,Nat.reduceAdd,Nat.reduceSub,Array.replicate_succ,Array.replicate_zero,List.push_toArray,List.append_toArray,List.nil_append,List.cons_append]
 gi_wp2
 gi_loopw [8] (fun i wr=>∃r:Nat,r≤len∧i=.int .i64 (r:Int)∧J (upL len r) wr∧KpM mb n₀ W wr)
  (fun i _=>len-(intOf i).toNat)
 case atStart=>exact⟨0,Nat.zero_le _,rfl,by simpa[upL]using h0,aD.refl _ _⟩
 case round =>
  obtain⟨r,hr,rfl,hJs,hnx⟩:=hrel
  rcases Ψ r len with c|c
  ·have hlt':(r:Int)<(len:Int):=χ
   have q0:wr.cell? ⟨b,off+r*2,none⟩=some (.int .u64 (vs r).1):=(av hnx (ai (hc r c).1) hb).trans (hc r c).1;have q1:wr.cell? ⟨b,off+r*2+1,none⟩=some (.int .u64 (vs r).2):=(av hnx (ai (hc r c).2) hb).trans (hc r c).2;obtain⟨wa,hwa⟩:∃x,x=wr.alloc (.cells #[.int .u64 (vs r).1,.int .u64 (vs r).2] 125):=⟨_,rfl⟩;have hka:Kz wr wa:=by rw[hwa];exact(aD.refl _ _).alloc _
   have hpl:(upL len r).length<len:=by rw[BY χ];exact c
   obtain⟨fn,tmps,assign,body,hy,hR⟩:=hY _ ⟨r,c⟩ wa (by rw[hwa];exact hJ _ _ _ hJs) hpl
   dsimp only at hy
   have hsn:upL len r++[⟨r,c⟩]=upL len (r+1):=(zF c).symm;have hw1:IntKind.i64.wrap ((r:Int)+1)=(r:Int)+1:=IntWalk.i64_in _ χ;have HS:=hh hsn;have HC:=hh c;have HKA:=hh hka;rw[hwa]at hy hR;clear hsn hpl hka
   gi_wp2
   refine hR.mono ?_;rintro e W3 (⟨rfl,hJ3,hk3⟩|⟨rfl,hJx3⟩)
   ·gi_wp2
    go_roundw
    case rel=>exact⟨r+1,HC.out,rfl,by rw[←HS.out];exact hJ3,lI hnx (lI (HKA.out.mono fun _ _ h=>h.elim) (by rw[hwa];exact hk3))⟩
    case measure=>simp[intOf];omega
   ·gi_wp2
    refine bodyPost_ret (results_none rfl _ _ _) rfl ?_;exact⟨⟨_,rfl⟩,.inr ⟨_,⟨r+1,HC.out,HS.out⟩,hJx3⟩⟩
  ·have hlt':¬ (r:Int)<(len:Int):=χ
   have hrl:r=len:=χ
   rw[hrl]at hJs;have HJ:=hh hJs;clear hJs
   gi_wp2
   go_end0
   exact⟨⟨_,rfl⟩,.inl HJ.out⟩
theorem vu(F:Fence)(n:Nat)(q:F.fn 132)(h:F.round=none)(l Bs d:Nat)(A:Option Addr)(J:List (Fin 0)→World→Prop)(W:World)(u:W.cell? ⟨Bs,0,none⟩=some (.slice A 0 d))(j:J [] W):
 CallsIn F n Tryz.prog 132 #[.func (.yield l) #[] #[],.pointer (some ⟨Bs,0,none⟩)] W fun e W'=>(∃v,e=.returned v)∧J [] W':=by
 refine callsIn_of_wp Tryz.func132 rfl q ?_ h;simp only[Tryz.ntmps132,List.size_toArray,List.length_cons,List.length_nil,Nat.reduceAdd,Nat.reduceSub,Array.replicate_succ,Array.replicate_zero,List.push_toArray,List.append_toArray,List.nil_append,List.cons_append]
 gi_wp2
 gi_loopw [8] (fun i wr=>i=.int .i64 0∧J [] wr) (fun _ _=>0)
 case atStart=>exact⟨rfl,j⟩
 case round =>
  obtain⟨rfl,g⟩:=hrel
  gi_wp2
  go_end0
  exact⟨⟨_,rfl⟩,g⟩
theorem yq(F:Fence)(n:Nat)(h:F.fn 108)(g:F.round=none)(a:Option Addr)(len d:Nat)(w:World):
 CallsIn F n Tryz.prog 108 #[.agg #[.slice a len d]] w fun e w'=>e=.returned (.func (.func 132) #[] #[.pointer (some ⟨w.heap.size,0,none⟩)])∧w'=w.alloc (.cells #[.slice a len d] 119):=by
 refine callsIn_of_wp Tryz.func108 rfl h ?_ g;simp only[Tryz.ntmps108,List.size_toArray,List.length_cons,List.length_nil,Nat.reduceAdd,Nat.reduceSub,Array.replicate_succ,Array.replicate_zero,List.push_toArray,List.append_toArray,List.nil_append,List.cons_append]
 gi_wp2
 go_ret
 exact⟨rfl,rfl⟩
theorem rh(F:Fence)(n:Nat)(O:F.fn 132)(C:F.round=none)(hn:1≤n)(Bs I D len d:Nat)(A:Option Addr)(vs:Nat→Sp)(y:len≤4194304)(u:len≤d)(R:Bs<D∧Bs≠I)(w:World)(L:D≤w.heap.size)
 (K:w.cell? ⟨Bs,0,none⟩=some (.slice A len d))(Q:0<len→∃b off,A=some ⟨b,off,none⟩∧b<D∧b≠I∧∀j,j<len→w.cell? ⟨b,off+j*2,none⟩=some (.int .u64 (vs j).1)∧w.cell? ⟨b,off+j*2+1,none⟩=some (.int .u64 (vs j).2)):
 SeqStopsK F n Tryz.prog 132 #[.pointer (some ⟨Bs,0,none⟩)] (fun x:Fin len =>#[.agg #[.int .u64 (vs x.val).1,.int .u64 (vs x.val).2]]) (KpM I D) (fun ys=>ys=upL len len) (fun g=>∃k,k≤len∧g=upL len k) len w:=fun l J Jx W E U _ V N=>by
 have q:=(E.cell (p:=⟨Bs,0,none⟩) (by show Bs<_;omega)).trans K
 rcases ϑ len with rfl|B
 ·exact(vu F n O C l Bs d A J W q N).mono fun e W' ⟨Y,H⟩=>⟨Y,.inl ⟨_,rfl,H⟩⟩
 ·obtain⟨b,off,rfl,X,Z,v⟩:=Q B
  refine yp F n O C hn l Bs I D b off len d vs y u ⟨X,Z⟩ R J Jx (fun g W cs h=>?_) V W (Δ L E.size) q (fun j H=>⟨(E.cell (p:=⟨b,off+j*2,none⟩) (by show b<_;omega)).trans (v j H).1,(E.cell (p:=⟨b,off+j*2+1,none⟩) (by show b<_;omega)).trans (v j H).2⟩) N;exact U g W _ none h (World.grownBy_alloc _ _ _) (fun r e=>by cases e)
open Go.IntWalk Rs
variable {w W:World}
attribute [local go_sem] Oper.semAt_some
theorem uY(w:World)(j d g h l q:Obj):((((((w.alloc j).alloc d).alloc g).alloc h).alloc l).alloc q).heap.size=w.heap.size+6∧((((((w.alloc j).alloc d).alloc g).alloc h).alloc l).alloc q).heap[w.heap.size+1]?=some d ∧
 ((((((w.alloc j).alloc d).alloc g).alloc h).alloc l).alloc q).heap[w.heap.size+1+1]?=some g∧((((((w.alloc j).alloc d).alloc g).alloc h).alloc l).alloc q).heap[w.heap.size+1+1+1]?=some h∧((((((w.alloc j).alloc d).alloc g).alloc h).alloc l).alloc q).heap[w.heap.size+1+1+1+1]?=some l∧((((((w.alloc j).alloc d).alloc g).alloc h).alloc l).alloc q).heap[w.heap.size+1+1+1+1+1]?=some q∧Below w.heap.size w ((((((w.alloc j).alloc d).alloc g).alloc h).alloc l).alloc q):=by
 obtain⟨E,_,v,y,B,C⟩:=nC w j d g h;obtain⟨x,D⟩:∃x,x=(((w.alloc j).alloc d).alloc g).alloc h:=⟨_,rfl⟩;rw[←D]at E v y B C⊢;have H:(x.alloc l).heap.size=w.heap.size+1+1+1+1+1:=η
 have u:x.heap.size=w.heap.size+1+1+1+1:=χ
 refine⟨η,?_,?_,?_,?_,?_,(C.alloc χ _).alloc χ _⟩
 ·rw[Below.heap_alloc _ _ _ χ,Below.heap_alloc _ _ _ χ,v]
 ·rw[Below.heap_alloc _ _ _ χ,Below.heap_alloc _ _ _ χ,y]
 ·rw[Below.heap_alloc _ _ _ χ,Below.heap_alloc _ _ _ χ,B]
 ·rw[Below.heap_alloc _ _ _ χ,←u,heap_alloc_new]
 ·rw[←H,heap_alloc_new]
theorem ep{b:Nat}{v:Value}{E:TypeId}(h:w.heap[b]?=some (.cells #[v] E (0,0))):w.frozen? ⟨b,0,none⟩=false:=by
 simp[World.frozen?,h]
def Al(o:Option Nat):Value := .tuple #[.int .u64 (o.getD 0:Nat),.bool o.isSome]
def yx(w:World)(n size al:Nat)(vs:Nat→Sp)(pre:List (Fin n))(W:World):Prop:=
 (W.heap[w.heap.size+1]?=some (.cells #[.int .u64 size] 41 (0,0))∧W.heap[w.heap.size+1+1]?=some (.cells #[.int .u64 al] 41 (0,0))∧W.heap[w.heap.size+1+1+1]?=some (.cells #[.int .u64 0] 41 (0,0))∧W.heap[w.heap.size+1+1+1+1]?=some (.cells #[.bool false] 4 (0,0))∧∀x∈pre,dT size al (vs x.val)=false)∧Below w.heap.size w W
def Cj(w:World)(n size al:Nat)(vs:Nat→Sp)(cd:Code)(pre:List (Fin n))(W:World):Prop:=
 (cd=.ret∧∃(x:Fin n) (q:List (Fin n)),pre=q++[x]∧(∀y∈q,dT size al (vs y.val)=false)∧dT size al (vs x.val)=true∧W.heap[w.heap.size+1+1+1]?=some (.cells #[.int .u64 (dp (vs x.val).1 al:Nat)] 41 (0,0))∧W.heap[w.heap.size+1+1+1+1]?=some (.cells #[.bool true] 4 (0,0)))∧Below w.heap.size w W
theorem yx.no{n size al:Nat}{vs:Nat→Sp}{g:List (Fin n)}{W2:World}(h:yx w n size al vs g W){x:Fin n}(N C D:Nat)(hk:Kz W W2)(B:dT size al (vs x.val)=false):KeepsFrom N W W2∧KpM C D W W2∧yx w n size al vs (g++[x]) W2:=by
 obtain⟨⟨l,q,u,v,E⟩,j⟩:=h;refine⟨⟨hk.size,fun k o _ h _=>(hk.block k (aH h) id).trans h⟩,hk.mono fun _ _ h=>h.elim,⟨(hk.block _ (aH l) id).trans l,(hk.block _ (aH q) id).trans q,(hk.block _ (aH u) id).trans u,(hk.block _ (aH v) id).trans v,fun y d=>?_⟩,j.trans (hk.below j.size fun i _ h=>h.elim)⟩
 rcases Ω.1 d with d|d
 ·exact E y d
 ·obtain rfl:=ρ.1 d;exact B
theorem Cj.yes{n size al:Nat}{vs:Nat→Sp}{g:List (Fin n)}{W2:World}(h:yx w n size al vs g W){x:Fin n}(N:Nat)(C:w.heap.size+6≤N)(hk:Kz W W2)(u:dT size al (vs x.val)=true):
 KeepsFrom N W ((W2.setCell ⟨w.heap.size+1+1+1,0,none⟩ (.int .u64 (dp (vs x.val).1 al:Nat))).setCell ⟨w.heap.size+1+1+1+1,0,none⟩ (.bool true))∧Cj w n size al vs .ret (g++[x]) ((W2.setCell ⟨w.heap.size+1+1+1,0,none⟩ (.int .u64 (dp (vs x.val).1 al:Nat))).setCell ⟨w.heap.size+1+1+1+1,0,none⟩ (.bool true)):=by
 obtain⟨⟨D,E,l,q,v⟩,j⟩:=h;have y:=(hk.block _ (aH l) id).trans l;have B:=(hk.block _ (aH q) id).trans q;have d:aD (fun k=>k=w.heap.size+1+1+1∨k=w.heap.size+1+1+1+1) W ((W2.setCell ⟨w.heap.size+1+1+1,0,none⟩ (.int .u64 (dp (vs x.val).1 al:Nat))).setCell ⟨w.heap.size+1+1+1+1,0,none⟩ (.bool true)):=
  ((hk.mono fun _ _ h=>h.elim).setCell (fun _ =>.inl rfl) _).setCell (fun _ =>.inr rfl) _
 refine⟨⟨d.size,fun k o j h _=>(d.block k (aH h) (by show ¬ (_∨_);omega)).trans h⟩,⟨rfl,x,g,rfl,v,u,?_,?_⟩,j.trans (d.below j.size fun i _ h=>χ)⟩
 ·rw[Below.heap_setCell _ _ _ _ (by show _≠w.heap.size+1+1+1+1;omega)]
  exact one_setCell y
 ·exact one_setCell (by rw[Below.heap_setCell _ _ _ _ (by show _≠w.heap.size+1+1+1;omega)];exact B)
theorem wk{D v1:Nat}{v2:Bool}{a:Act}{o:Option Nat}(L:w.heap.size+6≤D)(l:W.heap[w.heap.size+1+1+1]?=some (.cells #[.int .u64 v1] 41 (0,0)))(q:W.heap[w.heap.size+1+1+1+1]?=some (.cells #[.bool v2] 4 (0,0)))(h:W.heap[D]?=some (.deferred (some [])))(u:Below w.heap.size w W)
 (j:a.defers=[{ target := .collected D,args := #[] }])(x:a.tmps[6]?=some (.pointer (some ⟨w.heap.size+1+1+1,0,none⟩)))(y:a.tmps[7]?=some (.pointer (some ⟨w.heap.size+1+1+1+1,0,none⟩)))(I:True)(v:Al o=.tuple #[.int .u64 v1,.bool v2]):
 bodyPostM Fence.wide 9 Tryz.prog Tryz.f52 (fun e w'=>e=Ending.returned (Al o)∧Kz w w') .ret a W:=by
 obtain⟨T,d⟩:=a;simp only at j;subst j;refine⟨ξ,.inl ⟨_,_,rfl,run_takeDeferred h,?_⟩⟩;have g:=u.trans (belowK_b (w:=w) (Γ _) W D _ (.deferred none) χ h rfl rfl);have e3:(W.putObj D (.deferred none)).heap[w.heap.size+1+1+1]?=some (.cells #[.int .u64 v1] 41 (0,0)):=(World.putObj_heap_other χ).trans l;have e4:(W.putObj D (.deferred none)).heap[w.heap.size+1+1+1+1]?=some (.cells #[.bool v2] 4 (0,0)):=(World.putObj_heap_other χ).trans q;have B:=cell_of_one e3;have C:=cell_of_one e4;refine⟨_,?_,⟨congrArg _ v.symm,aD.of_below g fun i J K=>χ⟩⟩;unfold results;simp only[show Tryz.f52.results = #[.cell 6 41,.cell 7 4] from rfl];have E:T.getD 6 undef=.pointer (some ⟨w.heap.size+1+1+1,0,none⟩):=by rw[Array.getD_eq_getD_getElem?,x];rfl
 have H:T.getD 7 undef=.pointer (some ⟨w.heap.size+1+1+1+1,0,none⟩):=by rw[Array.getD_eq_getD_getElem?,y];rfl
 go_simp
theorem CN{l:List Sp}{f:Sp→Bool}{k:Nat}{q:List (Fin l.length)}{x:Fin l.length}(h:q++[x]=upL l.length k)(w:∀y∈q,f (l.getD y.val (0,0))=false)(C:f (l.getD x.val (0,0))=true):l.find? f=some (l.getD x.val (0,0)):=by
 have v:(List.finRange l.length).map (fun i=>l.getD i.val (0,0))=l:=by
  refine List.ext_getElem ξ fun j E g=>?_
  have u:l[j]?=some l[j]:=Ez g;simp[List.getD,u]
 have B:q++x::(List.finRange l.length).drop k=List.finRange l.length:=by
  have:=List.take_append_drop k (List.finRange l.length);rw[show(List.finRange l.length).take k=q++[x] from h.symm]at this
  simpa using this
 rw[List.find?_eq_some_iff_append];refine⟨C,q.map (fun i=>l.getD i.val (0,0)),((List.finRange l.length).drop k).map (fun i=>l.getD i.val (0,0)),?_,fun s d=>?_⟩
 ·conv=>lhs;rw[←v,←B]
  simp
 ·obtain⟨y,D,rfl⟩:=List.mem_map.1 d
  rw[w y D];rfl
theorem CM{u:Value}{l:List Sp}(hu:au w u l)(hl:dP l){size al:Nat}(hs:size<lim)(a4:al=4096∨al=2097152):
 Calls Tryz.prog 52 #[.agg #[u],.int .u64 size,.int .u64 al] w fun e w'=>e=.returned (Al (fit (aW l) size al))∧Kz w w':=by
 have U:0<al:=χ
 obtain⟨A,c,rfl,lc,ll,hm⟩:=hu;refine(callsIn_wide (n:=9)).1 ?_;refine callsIn_of_wp_marks Tryz.func52 rfl trivial ?_;simp only[Tryz.ntmps52,List.size_toArray,List.length_cons,List.length_nil,Nat.reduceAdd,Nat.reduceSub,Array.replicate_succ,Array.replicate_zero,List.push_toArray,List.append_toArray,List.nil_append,List.cons_append];have bw:=aU
 rcases ϑ size with h0|h0
 ·subst h0
  gi_wp2
  refine⟨_,by unfold results;go_simp;rfl,?_,?_⟩
  ·rw[oy.2 (.inl rfl)];rfl
  ·exact(((((aD.refl _ _).alloc _).alloc _).alloc _).alloc _).alloc _
 ·have bs:((size:Int)==0)=false:=η
  gi_wp2
  refine⟨trivial,?_⟩;refine(yq Fence.wide 8 trivial rfl _ _ _ _).mono ?_;rintro e w' ⟨rfl,rfl⟩
  gi_wp2
  have hf:=uY w (.cells #[.slice A l.length c] 119) (.cells #[.int .u64 size] 41) (.cells #[.int .u64 al] 41) (.cells #[.int .u64 0] 41) (.cells #[.bool false] 4) (.cells #[.slice A l.length c] 119);obtain⟨W0,af⟩:∃W0,W0=(((((w.alloc (.cells #[.slice A l.length c] 119)).alloc (.cells #[.int .u64 size] 41)).alloc (.cells #[.int .u64 al] 41)).alloc (.cells #[.int .u64 0] 41)).alloc (.cells #[.bool false] 4)).alloc (.cells #[.slice A l.length c] 119):=⟨_,rfl⟩;rw[←af]at hf⊢;obtain⟨s0,b1,b2,b3,b4,b5,hb⟩:=hf;clear af;obtain⟨vs,a2⟩:∃vs:Nat→Sp,vs=fun j=>l.getD j (0,0):=⟨_,rfl⟩
  have Q:=hh a2;clear a2;have H:=rh Fence.wide 8 trivial rfl ψ (w.heap.size+5) (w.heap.size+3) (w.heap.size+6) l.length c A vs ll lc ⟨χ,χ⟩ W0 χ (cell_of_one b5) (fun a0=>by
   obtain⟨g,L,bf,a5⟩:=hm a0;refine⟨g,0,L,χ,χ,fun j hj=>?_⟩;obtain⟨m1,m2,m3⟩:=a5 j _ (tN hj);have h1:=(hb.cell (p:=⟨g,2*j+0,none⟩) (by show g<_;omega)).trans (m2 0 _ rfl);have h2:=(hb.cell (p:=⟨g,2*j+1,none⟩) (by show g<_;omega)).trans (m2 1 _ rfl);rw[show 0+j*2=2*j by omega];rw[Q.out];exact⟨h1,h2⟩)
  refine wpIn_rangeFunc_ownH (F:=Fence.wide) (n:=9) rfl ψ (gf:=132) (lb := #[.pointer (some ⟨w.heap.size+5,0,none⟩)]) rfl trivial (enters_of Tryz.func132 δ rfl)
   H lI (wZ χ) (Below.refl _ _) (fun _=>rfl)
   (yx w l.length size al vs) (Cj w l.length size al vs)
   ?ownI ?ownX ?start
   (fun x (a':Act) (W:World)=>∃Bx:Nat,W.heap[Bx]?=some (Obj.cells #[.int .u64 (vs x.val).1,.int .u64 (vs x.val).2] 125 (0,0))∧w.heap.size+5≤Bx∧a'={ tmps := #[.agg #[.slice A l.length c],.int .u64 size,.int .u64 al,.pointer (some ⟨w.heap.size,0,none⟩),.pointer (some ⟨w.heap.size+1,0,none⟩),.pointer (some ⟨w.heap.size+1+1,0,none⟩),.pointer (some ⟨w.heap.size+1+1+1,0,none⟩),.pointer (some ⟨w.heap.size+1+1+1+1,0,none⟩),.pointer (some ⟨Bx,0,none⟩),undef,undef,.int .u64 size,.bool false,.agg #[.slice A l.length c],.func (.func 132) #[] #[.pointer (some ⟨w.heap.size+5,0,none⟩)],.agg #[.int .u64 (vs x.val).1,.int .u64 (vs x.val).2],undef,undef,undef,undef,undef,undef,undef,undef,undef,undef,undef,undef,undef,undef,undef,undef,undef,undef,undef,undef,undef,undef,undef,undef],defers:=[] })
   (fun x a' s A B row hs L hr=>by
    obtain⟨Bx,h2,h3⟩:=hs;exact⟨Bx,iC h2 L (fun r e=>(hr r e).2),h3⟩)
   ?assign ?body ?done ?stop
  case ownI =>
   exact OwnFrom.and (OwnFrom.and (Own.from (cq _ _ _ _) _) (OwnFrom.and (Own.from (cq _ _ _ _) _) (OwnFrom.and (Own.from (cq _ _ _ _) _) (OwnFrom.and (Own.from (cq _ _ _ _) _) (ownFrom_pure _ _))))) (ownFrom_below (Γ _) χ)
  case ownX =>
   intro cd s X Y row ⟨⟨e,x,q,h1,h2,h3,h4,h5⟩,h6⟩ L hr;exact⟨⟨e,x,q,h1,h2,h3,iC h4 L (fun r e=>(hr r e).2),iC h5 L (fun r e=>(hr r e).2)⟩,ownFrom_below (β:=List (Fin l.length)) (Γ _) χ s X Y row h6 L hr⟩
  case start=>exact⟨⟨b1,b2,b3,b4,fun x hx=>by cases hx⟩,hb⟩
  case assign =>
   rintro lq ad x W K ⟨⟨I,J,v,y,N⟩,C⟩ hK;clear H;have l1:=aH y;have l0:=aH v
   gi_wp2
   have R:∀{k:Nat} {o:Obj},W.heap[k]?=some o→(W.alloc (.cells #[.int .u64 (vs x.val).1,.int .u64 (vs x.val).2] 125)).heap[k]?=some o:=fun h=>(Below.heap_alloc _ _ _ (ϱ.1 h).1).trans h
   exact hK _ _ ((KeepsOthers.alloc _ _).from _) ((aD.refl _ _).alloc _) ⟨⟨R I,R J,R v,R y,N⟩,C.alloc C.size _⟩ ⟨W.heap.size,heap_alloc_new _ _,χ,rfl⟩
  case body =>
   rintro lq ad x a' W bo _ ⟨⟨I,J,v,y,N⟩,C⟩ ⟨Bx,hX,be,rfl⟩ bp;clear H;have c0:W.cell? ⟨Bx,0,none⟩=some (.int .u64 (vs x.val).1):=cr hX rfl;have c1:W.cell? ⟨Bx,1,none⟩=some (.int .u64 (vs x.val).2):=cr hX rfl;have c2:=cell_of_one I;have c3:=cell_of_one J;have V:(vs x.val)∈l:=by
    rw[Q.out];exact γ (tN x.isLt)
   have bg:=(hl.QW _ V).2.2;have bt:=hl.ok.some_ _ V;have hI:yx w l.length size al vs ad W:=⟨⟨I,J,v,y,N⟩,C⟩;have HI:=hh hI;clear hI;obtain⟨p,hp⟩:∃p,p=dp (vs x.val).1 al:=⟨_,rfl⟩;have ac:=Rs.qx a4 (vs x.val).1 (by unfold lim;omega) W;rw[←hp]at ac;have a1:dT size al (vs x.val)=(decide (p<lim)&&(decide (p≤(vs x.val).2)&&decide (size≤(vs x.val).2-p+1))):=by unfold dT;rw[hp]
   have O:=hh a1;have HP:=hh hp;have HX:=hh hX;have HQ:=hh (And.intro v (And.intro y C));have a8:=hh N;clear a1 hp hX N C;have bz:IntKind.u64.wrap ((size:Int)-1)=((size-1:Nat):Int):=by
    unfold lim at hs;rw[bq χ];omega
   gi_wp2
   refine⟨trivial,?_⟩;refine(CallsIn.inRound lq (callsIn_wide.2 ac)).mono ?_;rintro e W2 ⟨rfl,d⟩;have E:=hh d;have bb:=(d.cell (p:=⟨Bx,0,none⟩) (ai c0) (fun h=>h)).trans c0;have bc:=(d.cell (p:=⟨Bx,1,none⟩) (ai c1) (fun h=>h)).trans c1;have bd:=(d.cell (p:=⟨w.heap.size+1,0,none⟩) (ai c2) (fun h=>h)).trans c2;have r3:=(d.block _ (aH v) (fun h=>h)).trans v;have r4:=(d.block _ (aH y) (fun h=>h)).trans y;have c6:=cell_of_one r3;have c7:=cell_of_one r4;have f6:=ep r3;have f7:=ep r4;have HR:=hh (And.intro r3 r4);clear r3 r4;clear c0 c1 c2 c3 d ac I J v y
   by_cases t1:p<lim
   ·simp only[if_pos t1,decide_eq_true t1]
    by_cases t2:p≤(vs x.val).2
    ·have a6:(p:Int)≤((vs x.val).2:Int):=χ
     have bx:IntKind.u64.wrap (((vs x.val).2:Int)-p)=(((vs x.val).2-p:Nat):Int):=by rw[bq χ];omega
     by_cases t3:size-1≤(vs x.val).2-p
     ·have a7:(((vs x.val).2-p:Nat):Int)≥((size-1:Nat):Int):=χ
      gi_wp2
      rw[HP.out];exact Cj.yes HI.out _ χ E.out (by rw[O.out];simp;omega)
     ·have a7:¬ (((vs x.val).2-p:Nat):Int)≥((size-1:Nat):Int):=χ
      gi_wp2
      exact HI.out.no _ _ _ E.out (by rw[O.out];simp;omega)
    ·have a6:¬ (p:Int)≤((vs x.val).2:Int):=χ
     gi_wp2
     exact HI.out.no _ _ _ E.out (by rw[O.out];simp;omega)
   ·simp only[if_neg t1,decide_eq_false t1]
    gi_wp2
    exact HI.out.no _ _ _ E.out (by rw[O.out];simp;omega)
  case done =>
   rintro D ys W hD rfl ⟨⟨I,J,v,y,N⟩,C⟩ hK;have c6:=cell_of_one v;have c7:=cell_of_one y;have f6:=ep v;have f7:=ep y;have HQ:=hh (And.intro v (And.intro y (And.intro N C)));have HK:=hh hK;have a9:=hh H;clear H I J v y N C hK
   gi_wp2
   have Z:w.heap.size+6≤D:=χ
   obtain⟨v,y,N,C⟩:=HQ.out;have d:aD (fun k=>k=w.heap.size+1+1+1∨k=w.heap.size+1+1+1+1) W ((W.setCell ⟨w.heap.size+1+1+1,0,none⟩ (.int .u64 0)).setCell ⟨w.heap.size+1+1+1+1,0,none⟩ (.bool false)):=
    ((aD.refl _ _).setCell (fun _ =>.inl rfl) _).setCell (fun _ =>.inr rfl) _
   have E:=(d.block _ (aH HK.out) (by show ¬ (_∨_);omega)).trans HK.out;have e3:((W.setCell ⟨w.heap.size+1+1+1,0,none⟩ (.int .u64 0)).setCell ⟨w.heap.size+1+1+1+1,0,none⟩ (.bool false)).heap[w.heap.size+1+1+1]?=some (.cells #[.int .u64 0] 41 (0,0)):=by
    rw[Below.heap_setCell _ _ _ _ (by show _≠w.heap.size+1+1+1+1;omega)];exact one_setCell v
   have e4:((W.setCell ⟨w.heap.size+1+1+1,0,none⟩ (.int .u64 0)).setCell ⟨w.heap.size+1+1+1+1,0,none⟩ (.bool false)).heap[w.heap.size+1+1+1+1]?=some (.cells #[.bool false] 4 (0,0)):=
    one_setCell (by rw[Below.heap_setCell _ _ _ _ (by show _≠w.heap.size+1+1+1;omega)];exact y)
   refine wk (v1:=0) (v2:=false) Z e3 e4 E (C.trans (d.below C.size fun i _ h=>χ)) rfl rfl rfl trivial ?_;have hn:l.find? (dT size al)=none:=by
    rw[List.find?_eq_none];intro s hs;obtain⟨j,hj⟩:=List.getElem?_of_mem hs;obtain⟨an,bl⟩:=ο.1 hj;have:=N ⟨j,an⟩ (by unfold upL;rw[List.take_of_length_le ξ];exact List.mem_finRange _);rw[Q.out]at this;have this:dT size al (l.getD j (0,0))=false:=this;have L:=tN an;rw[hj]at L;rw[←ι L]at this;rw[this];simp
   rw[tZ hl h0 U,hn];rfl
  case stop =>
   rintro D cd ad W hD ⟨k,bm,d⟩ ⟨⟨rfl,x,q,rfl,I,J,v,y⟩,C⟩ hK;have a3:=hh d;clear d;have HQ:=hh (And.intro I (And.intro J (And.intro v (And.intro y C))));have HK:=hh hK;clear H I J v y C hK
   gi_wp2
   have Z:w.heap.size+6≤D:=χ
   obtain⟨I,J,v,y,C⟩:=HQ.out;refine wk (v1:=dp (vs x.val).1 al) (v2:=true) Z v y HK.out C rfl rfl rfl trivial ?_;have hf:l.find? (dT size al)=some (vs x.val):=by
    rw[Q.out]at I J⊢;exact CN a3.out I J
   rw[tZ hl h0 U,hf];rfl
