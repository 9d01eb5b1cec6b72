import Derived.Test.YtpblcjipmoblnaaGreatDoorSortL
import Derived.Test.YtpblcjipmoblnaaGreatDoorOfC
import Derived.Test.YtpblcjipmoblnaaGreatDoorOfD
import Derived.Test.YtpblcjipmoblnaaGreatDoorWho
set_option maxRecDepth 100000
set_option maxHeartbeats 4000000
set_option linter.unusedVariables false
set_option linter.unusedSimpArgs false
set_option linter.unnecessarySimpa false
namespace Go.Proofs.YtpblcjipmoblnaaGreatDoor
open Go.Shelf Go.RowKit Go.Lib Go.Sort Go.IntWalk Ck
variable {w:World} {Z g:Nat} {l:List Sp}
def oO(x y:Sp):Int:=if x.1<y.1 then -1 else if y.1<x.1 then 1 else 0
theorem xV(x y:Sp):ltOf oO x y=decide (x.1<y.1):=by
 unfold ltOf oO
 by_cases h1:x.1<y.1
 ·simp[h1]
 ·by_cases h2:y.1<x.1<;>simp[h1,h2]
theorem yr:SWO (ltOf oO):={
 irrefl:=fun x=>by rw[xV];simp
 trans:=fun x y z a b=>by rw[xV]at *; simp at *; omega
 ntrans:=fun x y z a b=>by rw[xV]at *; simp at *; omega }
theorem yj(x y:Sp)(W:World):Calls Tryz.prog 146 #[.agg #[.int .u64 x.1,.int .u64 x.2],.agg #[.int .u64 y.1,.int .u64 y.2]] W fun e w'=>e=.returned (.int .i64 (oO x y))∧∃q a,w'=grow (W.drewN q) a:=by
 unfold oO;obtain⟨p,q⟩:=x;obtain⟨r,s⟩:=y
 by_cases h1:p<r
 ·go_enter Tryz.func146,Tryz.ntmps146
  go_wp2
  go_ret
  exact⟨by simp[h1],0,_,by rw[alloc_eq_grow,alloc_eq_grow,grow_grow];rfl⟩
 ·by_cases h2:r<p
  ·go_enter Tryz.func146,Tryz.ntmps146
   go_wp2
   go_ret
   exact⟨by simp[h1,h2],0,_,by rw[alloc_eq_grow,alloc_eq_grow,grow_grow];rfl⟩
  ·go_enter Tryz.func146,Tryz.ntmps146
   go_wp2
   go_ret
   exact⟨by simp[h1,h2],0,_,by rw[alloc_eq_grow,alloc_eq_grow,grow_grow];rfl⟩
def sI(l l':List Sp):Prop:=l'.Perm l∧l'.Pairwise fun a b=>a.1≤b.1
theorem oM(d:Array Sp):(flatK eC 2 d).toList=spC d.toList:=by
 apply List.ext_getElem?
 intro t
 by_cases ht:t<d.size*2
 ·have e:(flatK eC 2 d).toList[t]?=some (flatK eC 2 d)[t]!:=by
   have h:t<(flatK eC 2 d).size:=by rw[size_flatK];exact ht
   rw[Array.getElem?_toList,getElem!_pos _ t h,Array.getElem?_eq_getElem h]
  rw[e,get_flatK _ _ _ _ ht];have a:t / 2<d.size:=by omega
  obtain⟨s,b⟩:∃s,d.toList[t / 2]?=some s:=⟨_,Ez (by simpa using a)⟩;obtain⟨g,i⟩:=oe _ _ _ b;have j:d[t / 2]! =s:=by
   rw[getElem!_pos d _ a];have:=b;rw[Array.getElem?_toList,Array.getElem?_eq_getElem a]at this;exact Option.some.inj this
  rw[j]
  rcases Nat.mod_two_eq_zero_or_one t with h|h
  ·rw[h]
   have:t=t / 2*2:=by omega
   conv=>rhs;rw[this]
   exact g.symm
  ·rw[h]
   have:t=t / 2*2+1:=by omega
   conv=>rhs;rw[this]
   exact i.symm
 ·rw[List.getElem?_eq_none (by simp[size_flatK];omega),List.getElem?_eq_none (by rw[od];simp;omega)]
theorem uD{cap:Nat}(h:w.ownsRow Z 180 2 (.slice (some ⟨g,0,none⟩) l.length cap) l.length (spC l)):HoldsK eC 2 w g 0 l.toArray:=by
 intro j a;have b:j<l.length*2:=by simpa[size_flatK]using a
 refine⟨?_,?_⟩
 ·rw[Nat.zero_add,h.cellAt j b,getElem!_pos _ j a]
  have:=oM l.toArray;have e:(flatK eC 2 l.toArray)[j]?=(spC l)[j]?:=by rw[←Array.getElem?_toList,this]
  rw[←e,Array.getElem?_eq_getElem a];rfl
 ·rw[Nat.zero_add];exact h.frozenAt j
theorem xJ{cap n:Nat}{d:Array Sp}{os:Array Obj}(h:w.ownsRow Z 180 2 (.slice (some ⟨g,0,none⟩) l.length cap) l.length (spC l))(j:d.size=l.length):
 (sortWorldK eC 2 w g 0 n d os).ownsRow Z 180 2 (.slice (some ⟨g,0,none⟩) l.length cap) l.length (spC d.toList):=by
 rcases h.2 with⟨e,_⟩|⟨B,u,a,e,y,x,q,i,b,r⟩
 ·simp at e
 simp only[Value.slice.injEq,Option.some.injEq,Addr.mk.injEq,and_true,true_and]at e;obtain⟨rfl,rfl⟩:=e;have p:g<w.heap.size:=(Array.getElem?_eq_some_iff.1 x).1;refine⟨by rw[od];simp[j],.inr ⟨g,cap,putCells id 0 (flatK eC 2 d) a,rfl,y,?_,q,i,by simp[putCells,b],?_⟩⟩
 ·show((putRowK eC 2 (Sort.ahead w n) g 0 d).heap++os)[g]?=_
  rw[Array.getElem?_append_left (by simpa[putRowK,putRow,mapBlock,Sort.ahead]using p)];simp only[putRowK,putRow,mapBlock,Sort.ahead,Array.getElem?_modify,if_true,x,Option.map_some,onCells]
 ·rw[←oM]
  apply List.ext_getElem?
  intro t;rw[List.getElem?_take]
  by_cases ht:t<l.length*2
  ·have v:t<(flatK eC 2 d).size:=by rw[size_flatK,j];exact ht
   have A:t<a.size:=by rw[b];omega
   rw[if_pos ht,Array.getElem?_toList,Array.getElem?_toList];simp only[putCells,Array.getElem?_mapIdx,Array.getElem?_eq_getElem A,Option.map_some];rw[if_pos ⟨Nat.zero_le _,by omega⟩,Nat.sub_zero,getElem!_pos _ t v,Array.getElem?_eq_getElem v];rfl
  ·rw[if_neg ht,List.getElem?_eq_none (by simp[size_flatK,j];omega)]
theorem wA{n:Nat}{d:Array Sp}{os:Array Obj}:aB (fun k=>k=g) w (sortWorldK eC 2 w g 0 n d os):=by
 refine⟨rfl,rfl,rfl,?_,fun k hk a=>?_⟩
 ·show _≤((putRowK eC 2 (Sort.ahead w n) g 0 d).heap++os).size
  simp[putRowK,putRow,mapBlock,Sort.ahead]
 ·show((putRowK eC 2 (Sort.ahead w n) g 0 d).heap++os)[k]?=_
  rw[Array.getElem?_append_left (by simpa[putRowK,putRow,mapBlock,Sort.ahead]using hk)];simp only[putRowK,putRow,mapBlock,Sort.ahead,Array.getElem?_modify];rw[if_neg (fun e=>a e.symm)]
theorem wu{u:Value}(h:w.ownsRow Z 180 2 u l.length (spC l))(O:l.length≤4194304):
 Calls Tryz.prog 145 #[u,.func (.func 146) #[] #[]] w fun e w'=>e=.returned (.tuple #[])∧∃D,sI l D∧w'.ownsRow Z 180 2 u D.length (spC D)∧aB (fun k=>u.ownBlock=some k) w w':=by
 rcases Nat.eq_zero_or_pos l.length with A|A
 ·have d:l=[]:=List.length_eq_zero_iff.1 A
  subst d;obtain⟨p,cap,L⟩:∃p cap,u=.slice p 0 cap:=by
   rcases h.2 with⟨r,_⟩|⟨g,cap,H,r,_⟩
   ·exact⟨_,_,r⟩
   ·exact⟨_,_,r⟩
  subst L;refine(AnyF.slices_SortFunc_none Tryz.sortSp p cap (.func (.func 146) #[] #[]) w).mono ?_;rintro e w' ⟨rfl,rfl⟩;exact⟨rfl,[],⟨.refl _,.nil⟩,h,aB.refl _ _⟩
 ·obtain⟨g,cap,hv,N,C⟩:=h.form A
  subst hv;have I:∀args w,(callFunc 146 args).run Tryz.prog w=.ok (.enter 146 args) w:=enters_of Tryz.func146 (by kernel_rfl) rfl;have a:=AnyQ.slices_SortFunc Tryz.sortSp 2 Tryz.isAgg180 Tryz.sizeOf180 eC (fun _=>rfl) (fun x v hv=>by simp[eC]at hv;rcases hv with rfl|rfl<;>rfl) oO yr 146 #[] g 0 cap l.toArray w I
   (fun m os M _ x y=>yj x y _) (uD h) C (by simp;omega)
  rw[show(l.toArray).size=l.length by simp]at a;refine a.mono ?_;rintro e w' ⟨rfl,b,n,os,G,K,rfl⟩;have q:b.size=l.length:=by simpa using G.1
  refine⟨rfl,b.toList,⟨?_,?_⟩,?_,wA.mono fun i _ e=>by rw[e];rfl⟩
  ·have:=G.2.2
   rw[show b.extract 0 l.length=b by rw[←q];simp,show l.toArray.extract 0 l.length=l.toArray by simp]at this
   simpa using this
  ·rw[List.pairwise_iff_getElem]
   intro i j J E B;have:=K i j (Nat.zero_le _) B (by simpa[q]using E);rw[xV]at this;rw[getElem!_pos b j (by simpa using E),getElem!_pos b i (by simpa using J)]at this;simp only[Array.getElem_toList];simp at this;omega
  ·have:=xJ (n:=n) (os:=os) h q
   rw[show b.toList.length=l.length by simpa using q];exact this
end Go.Proofs.YtpblcjipmoblnaaGreatDoor
namespace Go.Proofs.YtpblcjipmoblnaaGreatDoor
open Go.RowKit Go.IntWalk Ck
variable {w:World} {u:Value} {l:List Sp} {pb B:Nat} {L:List Wr}
theorem pr{fn:Func}{R:Ending→World→Prop}{a:Act}{t z:Nat}(h:fn.results = #[.cell t 175])(i:At a t (.pointer (some ⟨z,0,none⟩)))(g:t<a.tmps.size)(j:w.cell? ⟨z,0,none⟩=some u)(d:a.defers=[])(b:R (.returned (.agg #[u])) w):bodyPost Tryz.prog fn R .ret a w:=by
 refine bodyPost_ret (v := .agg #[u]) ?_ d b;have e:a.tmps.getD t undef=.pointer (some ⟨z,0,none⟩):=i.eval g;unfold results;simp only[h];go_simp
theorem tK{d:List Sp}(h:sI l d)(p:Nat):dq d p↔dq l p:=by
 unfold dq;constructor
 ·rintro⟨s,b,a⟩
  exact⟨s,h.1.mem_iff.1 b,a⟩
 ·rintro⟨s,b,a⟩
  exact⟨s,h.1.mem_iff.2 b,a⟩
theorem xY(l:List Sp)(p:Nat):dq (df l) p↔dq l p:=by
 unfold dq df;constructor
 ·rintro⟨s,b,a⟩
  exact⟨s,(List.mem_filter.1 b).1,a⟩
 ·rintro⟨s,b,a⟩
  exact⟨s,List.mem_filter.2 ⟨b,by simp;omega⟩,a⟩
theorem yY{xs:List Sp}(hu:bZ w pb u xs)(cp:pb<w.heap.size)(U:∀s∈xs,s.1<lim∧s.2<lim):
 Calls Tryz.prog 124 #[u] w fun e w'=>∃u' l,e=.returned (.agg #[u'])∧gh l∧(∀p,dq l p↔dq xs p)∧(∀q,q<w.heap.size→bZ w' q u' l)∧Kz w w':=by
 obtain⟨A,c,rfl,hr⟩:=hu;have hu:bZ w pb (.slice A xs.length c) xs:=⟨A,c,rfl,hr⟩;have cl:=hr.2.1;have HU:=hh hu;have HL:=hh U;clear hu hr U;refine az Tryz.func124 Tryz.ntmps124 rfl (by simp) fun a cc bz G=>?_
 have h0:At a 0 (.slice A xs.length c):=G 0 _ rfl;clear G
 conv=>arg 2;whnf
 refine so (fun a1 w1=>aA (fun i=>i==2) a a1∧At a1 2 (.pointer (some ⟨w.heap.size,0,none⟩))∧w1=w.alloc (.cells #[.slice none 0 0] 175)) ?_ ?_
 ·obtain⟨T,d⟩:=a
  refine rl ?_;with_reducible refine st ?_;refine ln ?_
  refine⟨rfl,ag,aq,rfl⟩
 rintro a1 w1 ⟨J,k2,I⟩;have O:Kz w w1:=by rw[I];exact(aB.refl _ _).alloc _
 obtain⟨z,hz⟩:∃z,z=w.heap.size:=⟨_,rfl⟩;rw[←hz]at k2;have cd:w1.cell? ⟨z,0,none⟩=some (.slice none 0 0):=by rw[I,hz];exact aX w [.slice none 0 0] 175 0 _ rfl
 have b0:w1.frozen? ⟨z,0,none⟩=false:=by
  have b5:w1.heap[z]?=some (.cells #[.slice none 0 0] 175):=by rw[I,hz];exact Array.getElem?_push_size
  simp[World.frozen?,b5]
 have an:z<w1.heap.size:=by rw[I,hz];simp
 have HZ:Hid (z=w.heap.size):=hz;have bm:=J.size.trans cc;have bb:=J.defers.trans bz;have j0:=J.Q7 h0 rfl;clear I hz;refine so (fun a2 w2=>aA (fun i=>i==3) a1 a2∧At a2 3 (.slice none 0 0)∧w2=w1) ?_ ?_
 ·obtain⟨T,d⟩:=a1
  refine rl ?_;with_reducible refine st ?_;refine ln ?_
  refine⟨rfl,ag,aq,rfl⟩
 rintro a2 w2 ⟨D,k3,rfl⟩;have Y:=D.size.trans bm;have bl:pb<w2.heap.size:=by have:=O.size;omega
 refine wp_seq (ti (HU.out.keep (O.mono fun _ _ h=>h.elim)) bl a2 Y (D.Q7 j0 rfl) k3 _ (fun a3 w3 u3 L l3 j b1=>?_));have bo:=L.size.trans Y;have m2:=L.Q7 (D.Q7 k2 rfl) rfl;have bc:=L.defers.trans (D.defers.trans bb);obtain⟨l,hl⟩:∃l,l=df xs:=⟨_,rfl⟩;rw[←hl]at j;have be:l.length≤4194304:=by have:=mO xs;rw[←hl]at this;omega
 have ac:=hh hl;have a8:=hh j;have HS:=hh (wu j be);clear j hl;refine so (fun a4 w4=>aA (fun i=>i==24||i==25) a3 a4∧∃b,sI l b∧At a4 3 u3∧w4.ownsRow w2.heap.size 180 2 u3 b.length (spC b)∧aB (fun k=>u3.ownBlock=some k) w3 w4) ?_ ?_
 ·obtain⟨T,d⟩:=a3
  refine rl ?_;with_reducible refine st ?_;refine Lz (fun K hK=>?_)
  go_simp;refine HS.out.mono ?_;rintro e w4 ⟨rfl,b,h1,h2,h3⟩;have H1:=hh h1;have H2:=hh h2;have H3:=hh h3;clear h1 h2 h3;with_reducible refine hK _ _ ?_;clear hK K;refine ln ?_
  refine⟨rfl,?_,b,H1.out,?_,H2.out,H3.out⟩
  ·exact ag
  ·exact At.ne (At.ne l3 (by decide)) (by decide)
 rintro a4 w4 ⟨M,b,hS,ci,y,b2⟩;have bp:=M.size.trans bo;have hB:∀k,u3.ownBlock=some k→w2.heap.size≤k:=fun k hk=>(a8.out.lt k hk).1
 have B:Kz w2 w4:=b1.trans b2 (fun i hi h=>by have:=hB i h;omega);clear HS a8;have H:b.length≤4194304:=by rw[hS.1.length_eq];exact be
 have g:∀s∈b,s.1<lim∧s.2<lim:=fun s hs=>by
  have:=hS.1.mem_iff.1 hs;rw[ac.out]at this;exact HL.out s (List.mem_filter.1 this).1
 have R:∀s∈b,s.1≤s.2:=fun s hs=>by
  have:=hS.1.mem_iff.1 hs;rw[ac.out]at this
  simpa using(List.mem_filter.1 this).2
 have C:bZ w4 pb u3 b:=eQ y H (by omega) g;obtain⟨A4,c4,e4,_⟩:=C;subst e4;have C:bZ w4 pb (.slice A4 b.length c4) b:=eQ y H (by omega) g;have bw:=hh C;have HS:=hh hS;have a0:=hh g;have bu:=hh R;have bf:=M.defers.trans bc;clear hS C g R y hB;refine so (fun a5 w5=>aA (fun i=>i==6) a4 a5∧At a5 6 (.slice none 0 0)∧w5=w4) ?_ ?_
 ·obtain⟨T,d⟩:=a4
  refine rl ?_;with_reducible refine st ?_;refine ln ?_
  refine⟨rfl,ag,aq,rfl⟩
 rintro a5 w5 ⟨E,k6,rfl⟩;have Z:=E.size.trans bp;have W:pb<w5.heap.size:=by have:=B.size;omega
 refine wp_seq (vY bw.out W a0.out a5 Z (E.Q7 ci rfl) k6 _ (fun a6 w6 u6 N l6 r b3=>?_));have bt:=N.size.trans Z;have n2:=N.Q7 (E.Q7 (M.Q7 m2 rfl) rfl) rfl;have bd:=N.defers.trans (E.defers.trans bf);have x:Kz w2 w6:=B.trans b3 (fun _ _ h=>h);have x6:=(x.cell (p:=⟨z,0,none⟩) an (fun h=>h)).trans cd;have f6:=(x.frozen (p:=⟨z,0,none⟩) an (fun h=>h)).trans b0;have cs:z<w6.heap.size:=Nat.lt_of_lt_of_le an x.size;have V:=ku _ b rfl bu.out HS.out.2;have b4:=iE b b.length (Nat.le_refl _);rw[List.take_length]at b4;have ad:=iD _ b rfl a0.out;obtain⟨A6,c6,e6,_⟩:bZ w6 pb u6 (av b):=eQ r (by omega) W ad;obtain⟨n6,af⟩:∃n,n=(av b).length:=⟨_,rfl⟩;rw[←af]at e6;have cm:=hh af;clear af;subst e6;have cf:w5.heap.size≤z→False:=fun h=>by have:=B.size;omega
 have bj:∀k,(Value.slice A6 n6 c6).ownBlock=some k→k≠z:=fun k h e=>cf (by rw[←e];exact(r.lt k h).1)
 have X:∀v q,q<w5.heap.size→bZ (w6.setCell ⟨z,0,none⟩ v) q (.slice A6 n6 c6) (av b):=fun v q hq=>by
  exact eQ (am r (aB.setCell (S:=fun k=>k=z) (aB.refl _ _) (fun _=>rfl) v) (fun k h e=>bj k h e)) (by omega) hq ad
 have a9:=hh X;have Q:=hh V;have HK:=hh (O.trans x (fun _ _ h=>h));clear X V ad bj r O x N E M L D J;refine so (fun a7 w7=>At a7 2 (.pointer (some ⟨z,0,none⟩))∧a7.tmps.size=80∧a7.defers=[]∧w7=w6.setCell ⟨z,0,none⟩ (.slice A6 n6 c6)) ?_ ?_
 ·obtain⟨T,d⟩:=a6
  refine rl ?_
  iterate 3 with_reducible refine st ?_
  with_reducible refine ln ?_
  refine⟨rfl,?_,by simpa using bt,bd,rfl⟩;exact At.ne (At.ne n2 (by decide)) (by decide)
 rintro a7 w7 ⟨h2,cb,bx,ah⟩;refine wp_ret ?_;refine pr (u := .slice A6 n6 c6) rfl h2 (by rw[cb];decide) ?_ bx ⟨.slice A6 n6 c6,av b,rfl,Q.out.1,fun p=>?_,fun q hq=>?_,?_⟩
 ·rw[ah];exact World.cell?_setCell_same _ _ _ x6
 ·rw[Q.out.2.1,tK HS.out,ac.out,xY]
 ·rw[ah];exact a9.out _ q (by have h1:=B.size;have h2:=HZ.out;omega)
 ·rw[ah];exact HK.out.setCell (fun h=>by have:=HZ.out;have h:z<w.heap.size:=h;omega) _
theorem kv(a s:Nat):IntKind.u64.wrap (IntKind.u64.wrap ((a:Int)+(s:Int))-1)=(eJ a s:Int):=by
 rw[IntKind.wrap_u64,IntKind.wrap_u64];show _=(((a+s+(18446744073709551616-1))%18446744073709551616:Nat):Int);omega
def nI(l:List Ck.Ram):List Sp:=l.map fun x=>(x.Q7,eJ x.Q7 x.size)
def iU(P:aC):List Sp:=nI P.QF
theorem bZ.set{z:Nat}{v:Value}(h:bZ w pb u l)(n:bZ w z u l):bZ (w.setCell ⟨z,0,none⟩ v) pb u l:=by
 obtain⟨A,c,rfl,q,r,x⟩:=h;obtain⟨_,_,e,_,_,y⟩:=n
 cases e
 refine⟨A,c,rfl,q,r,fun b=>?_⟩;obtain⟨g,rfl,a,C,B⟩:=x b;obtain⟨_,e,_,d,_⟩:=y b
 cases e
 have hk:aB (fun k=>k=z) w (w.setCell ⟨z,0,none⟩ v):=aB.setCell (S:=fun k=>k=z) (aB.refl _ _) (fun _=>rfl) v;refine⟨g,rfl,Nat.lt_of_lt_of_le a hk.size,C,fun i s D=>?_⟩;obtain⟨c1,c2,j⟩:=B i s D;exact⟨(hk.cell (p:=⟨g,i*2,none⟩) a d).trans c1,(hk.cell (p:=⟨g,i*2+1,none⟩) a d).trans c2,j⟩
theorem qX{v:aV}{P:aC}{W:Int→Int}(h:aF B w pb v P W L)(a:Act)(bd:a.tmps.size=31)(h0:At a 0 (.pointer (some ⟨pb,0,none⟩)))(h3:At a 3 (.slice none 0 0))(Q:Exit→Act→World→Prop)
 (hQ:∀O w' N,aA (fun i=>i==3||(rg 5 28 i)) a O→At O 3 N→w'.ownsRow w.heap.size 180 2 N (iU P).length (spC (iU P))→P.QF.length≤4194304→Kz w w'→Q .normal O w'):
 (al Tryz.f100 [1,1,0]).wp Tryz.prog Q a w:=by
 have hs:=h.QL.QF;obtain⟨A,c,hu,bz,bc,hl⟩:=hs;unfold top at bc;have bx:=h.lt;have bu:=h.base;have hq:w.cell? ⟨pb,2,none⟩=some v.QF:=h.cell rfl;rw[hu]at hq;clear hu
 conv=>arg 2;whnf
 refine so (fun n w1=>aA (fun i=>(rg 6 12 i)) a n∧At n 10 (.slice A P.QF.length c)∧At n 11 (.int .i64 P.QF.length)∧At n 12 (.int .i64 0)∧w1=w) ?_ ?_
 ·clear hl
  obtain⟨T,d⟩:=a;refine rl ?_
  iterate 7 with_reducible refine st ?_
  with_reducible refine ln ?_
  refine⟨rfl,ag,aq,aq,aq,rfl⟩
 rintro a0 w0 ⟨J,bp,bo,bj,rfl⟩;have ad:=J.size.trans bd;replace h3:=J.Q7 h3 rfl;obtain⟨Z,hZ⟩:∃z,z=w0.heap.size:=⟨_,rfl⟩;rw[←hZ]at hQ;have HZ:=hh hZ;clear hZ;refine ai P.QF.length (fun i=>i==3||i==5||(rg 12 28 i)) (fun i=>i==3||i==5||(rg 14 27 i)) (fun k O w'=>∃u,At O 3 u∧w'.ownsRow Z 180 2 u (nI (P.QF.take k)).length (spC (nI (P.QF.take k)))∧Kz w0 w') (by omega) bj bo (by decide) rfl
  (by intro j;simp;omega) (by omega) (by decide) (fun k n I w G ⟨u,h1,h2⟩=>⟨u,G.Q7 h1 rfl,h2⟩) ⟨_,h3,by simpa[spC,nI]using World.ownsRow_nil _ _ _ _,aB.refl _ _⟩ ?_ ?_
 ·rintro k n wr ac G bm ⟨u,E,b,hk⟩
  obtain⟨bl,off,rfl,bb,Y⟩:=hl (by omega);obtain⟨x,hx⟩:=ge ac;obtain⟨hc,bt⟩:=(aK B _ _) _ _ _ _ _ (hk.below (B:=B) (by omega) (fun _ hi e=>e)) bb (Y k x hx);have q0:=hc.c0;have q1:=hc 1 _ rfl;have q2:=hc 2 _ rfl;have a3:=G.Q7 bp rfl;have af:=G.size.trans ad;have ah:=hk.size;have X:bl<wr.heap.size:=by omega
  have bw:k≤c:=by omega
  obtain⟨rs,C⟩:∃l,l=nI (P.QF.take k):=⟨_,rfl⟩;rw[←C]at b;have b0:rs.length=k:=by rw[C];simp[nI];omega
  have HR:Hid (nI (P.QF.take (k+1))=rs++[(x.Q7,eJ x.Q7 x.size)]):=by
   refine hh ?_;rw[aP hx,C];simp[nI]
  have HO:=hh b;have HK:=hh hk;have HA:=hh G;clear hx b hk G Y hc C hl;refine so (fun I w2=>aA (fun i=>i==14||i==15||i==5) n I∧At I 5 (.pointer (some ⟨wr.heap.size,0,none⟩))∧w2=wr.alloc (.cells #[.int .i64 x.pos,.int .u64 x.Q7,.int .u64 x.size] 41)) ?_ ?_
  ·obtain⟨T,d⟩:=n
   refine rl ?_
   iterate 4 with_reducible refine st ?_
   with_reducible refine ln ?_
   refine⟨rfl,ag,aq,rfl⟩
  rintro I S ⟨q,bf,D⟩;obtain⟨z,hz⟩:∃z,z=wr.heap.size:=⟨_,rfl⟩;rw[←hz]at bf;have an:aN S z 0 [.int .i64 x.pos,.int .u64 x.Q7,.int .u64 x.size]:=by rw[D,hz];exact aX _ _ _
  have b1:z<S.heap.size:=by rw[D,hz];simp
  have K:Kz wr S:=by rw[D];exact(aB.refl _ _).alloc _
  have H:=q.size.trans af;have b2:=q.Q7 E rfl;have V:=hh (am HO.out K (fun _ _ h=>h));have U:=hh (HK.out.trans K (fun _ _ h=>h));have a5:Hid (aA (fun i=>i==3||i==5||(rg 14 27 i)) n I):=q.m;clear D hz K HO HK q q0 q1 q2 a3 E bm ah X;have q1:=an 1 _ rfl;have q2:=an 2 _ rfl;obtain⟨p,hp⟩:∃p,p=eJ x.Q7 x.size:=⟨_,rfl⟩;have hw:=kv x.Q7 x.size;rw[←hp]at hw HR;have HP:=hh hp;clear hp;refine Code.wp_only (R:=fun a4 w4=>aA (fun i=>i==3||(rg 16 27 i)) I a4∧(∃N,At a4 3 N∧w4.ownsRow Z 180 2 N (rs.length+1) (spC (rs++[(x.Q7,p)])))∧Kz w0 w4) ?_ ?_
  ·obtain⟨T,d⟩:=I
   refine rl ?_
   iterate 11 with_reducible refine st ?_
   have hb:=aX S [.int .u64 x.Q7,.int .u64 p] 180;have y:Kz S (S.alloc (.cells #[.int .u64 x.Q7,.int .u64 p] 180)):=(aB.refl _ _).alloc _;have a7:=hh (am V.out y (fun _ _ h=>h));refine ki (p:=(x.Q7,p)) rfl rfl rfl (At.eval (by exact aq) (by have:=H;simp at this⊢; omega)) a7.out (by omega) (At.eval (by exact aq) (by have:=H;simp at this⊢; omega)) hb.c0 (hb 1 _ rfl) (by have:=HZ.out;have:=y.size;have:=U.out.size;omega) ?_;intro u2 w4 g r;have a8:=hh g;have a6:Hid (Kz w0 w4):=(U.out.trans y (fun _ _ h=>h)).trans r (fun i hi h=>by have:=(V.out.lt i h).1;have:=HZ.out;omega);clear g r hb y;simp only[Act.put];with_reducible refine st ?_;refine ln ?_
   refine⟨rfl,ag,⟨u2,aq,a8.out⟩,a6.out⟩
  rintro a4 w4 ⟨a9,⟨N,be,M⟩,r⟩;refine⟨a5.out.t a9,N,be,?_,r⟩;rw[HR.out,List.length_append];exact M
 ·rintro O w' G ⟨u,E,b,hk⟩
  rw[List.take_length]at b;exact hQ _ _ _ ((J.m).t G) E b (by omega) hk
theorem rq{v:aV}{P:aC}{W:Int→Int}(h:aF B w pb v P W L):
 Calls Tryz.prog 100 #[.pointer (some ⟨pb,0,none⟩)] w fun e w'=>∃u' l,e=.returned (.agg #[u'])∧gh l∧(∀p,dq l p↔dq (iU P) p)∧(∀q,q<w.heap.size→bZ w' q u' l)∧Kz w w':=by
 have HH:=hh h;have bm:=h.lt;have I:∀s∈iU P,s.1<lim∧s.2<lim:=by
  intro s hs;obtain⟨x,hx,rfl⟩:=List.mem_map.1 hs;obtain⟨A,c,_,_,_,hl⟩:=h.QL.QF;obtain⟨bl,off,_,_,a4⟩:=hl (List.length_pos_of_mem hx);obtain⟨k,hk⟩:=List.getElem?_of_mem hx;have ok:=(a4 k x hk).2;exact⟨ok.2.1,Nat.mod_lt _ (by decide)⟩
 have U:=hh I;clear h I;refine az Tryz.func100 Tryz.ntmps100 rfl (by simp) fun a bf a6 n=>?_
 have h0:At a 0 (.pointer (some ⟨pb,0,none⟩)):=n 0 _ rfl;clear n
 conv=>arg 2;whnf
 refine so (fun V M=>aA (fun i=>i==2) a V∧At V 2 (.pointer (some ⟨w.heap.size,0,none⟩))∧M=w.alloc (.cells #[.slice none 0 0] 175)) ?_ ?_
 ·obtain⟨T,d⟩:=a
  refine rl ?_;with_reducible refine st ?_;refine ln ?_
  refine⟨rfl,ag,aq,rfl⟩
 rintro V M ⟨C,k2,y⟩;have g:Kz w M:=by rw[y];exact(aB.refl _ _).alloc _
 obtain⟨z,Q⟩:∃z,z=w.heap.size:=⟨_,rfl⟩;rw[←Q]at k2;have bj:M.cell? ⟨z,0,none⟩=some (.slice none 0 0):=by rw[y,Q];exact aX w [.slice none 0 0] 175 0 _ rfl
 have a8:M.frozen? ⟨z,0,none⟩=false:=by
  have bc:M.heap[z]?=some (.cells #[.slice none 0 0] 175):=by rw[y,Q];exact Array.getElem?_push_size
  simp[World.frozen?,bc]
 have O:z<M.heap.size:=by rw[y,Q];simp
 have HZ:Hid (z=w.heap.size):=Q;have an:=C.size.trans bf;have X:=C.defers.trans a6;have j0:=C.Q7 h0 rfl;clear y Q;refine so (fun a2 w2=>aA (fun i=>i==3) V a2∧At a2 3 (.slice none 0 0)∧w2=M) ?_ ?_
 ·obtain⟨T,d⟩:=V
  refine rl ?_;with_reducible refine st ?_;refine ln ?_
  refine⟨rfl,ag,aq,rfl⟩
 rintro a2 w2 ⟨j,k3,rfl⟩;have J:=j.size.trans an;have ad:pb<w2.heap.size:=by have:=g.size;omega
 refine wp_seq (qX (HH.out.new g) a2 J (j.Q7 j0 rfl) k3 _ (fun a3 w3 u3 D l3 r bd b=>?_));have a0:=D.size.trans J;have m2:=D.Q7 (j.Q7 k2 rfl) rfl;have Y:=D.defers.trans (j.defers.trans X);have af:(iU P).length≤4194304:=by unfold iU nI;rw[List.length_map];exact bd
 have H:pb<w3.heap.size:=by have:=b.size;omega
 have HC:=hh (yY (eQ r af ad U.out) H U.out);have x3:=(b.cell (p:=⟨z,0,none⟩) O (fun h=>h)).trans bj;have f3:=(b.frozen (p:=⟨z,0,none⟩) O (fun h=>h)).trans a8;have G:z<w3.heap.size:=Nat.lt_of_lt_of_le O b.size;have S:=hh (g.trans b (fun _ _ h=>h));have bo:pb≠z:=by have:=HZ.out;omega
 clear r b D j C g;refine so (fun a7 w7=>At a7 2 (.pointer (some ⟨z,0,none⟩))∧a7.tmps.size=31∧a7.defers=[]∧∃u' l R,w7=R.setCell ⟨z,0,none⟩ u'∧gh l∧(∀p,dq l p↔dq (iU P) p)∧(∀q,q<w3.heap.size→bZ R q u' l)∧Kz w3 R) ?_ ?_
 ·obtain⟨T,d⟩:=a3
  refine rl ?_;with_reducible refine st ?_;refine Lz (fun K hK=>?_)
  go_simp;refine HC.out.mono ?_;rintro e R ⟨u6,l6,rfl,g,Z,b,E⟩;have H1:=hh g;have H2:=hh Z;have H3:=hh b;have H4:=hh E;obtain⟨A6,c6,rfl,_⟩:=b pb H;have x6:=(E.cell (p:=⟨z,0,none⟩) G (fun h=>h)).trans x3;have f6:=(E.frozen (p:=⟨z,0,none⟩) G (fun h=>h)).trans f3;clear g Z E x3 f3;with_reducible refine hK _ _ ?_;clear hK K;refine st ?_;refine ln ?_
  refine⟨rfl,?_,by simpa using a0,Y,_,l6,R,rfl,H1.out,H2.out,H3.out,H4.out⟩;exact At.ne (At.ne m2 (by decide)) (by decide)
 rintro a7 w7 ⟨h2,be,a5,u6,l6,R,N,bb,a9,ah,ac⟩;refine wp_ret ?_;have x6:=(ac.cell (p:=⟨z,0,none⟩) G (fun h=>h)).trans x3;refine pr (u:=u6) rfl h2 (by rw[be];decide) ?_ a5 ⟨u6,l6,rfl,bb,a9,fun q hq=>?_,?_⟩
 ·rw[N];exact World.cell?_setCell_same _ _ _ x6
 ·rw[N];exact bZ.set (ah q (by have:=S.out.size;omega)) (ah z G)
 ·rw[N];exact((S.out.trans ac (fun _ _ h=>h))).setCell (fun h=>by have:=HZ.out;have h:z<w.heap.size:=h;omega) _
theorem vJ{v:aV}{P:aC}(h:aF B w pb v P fD L){z:Nat}{x:Ck.Region}(g:aN w z 0 [.int .i64 x.pos,.string x.name,.int .u64 x.size,.bool x.fixed,.int .u64 x.Q7,.bool x.big,.bool x.wx,.int .u64 x.fill,.bool x.QS,.string x.text])(ok:x.Ok)(a:Act)(V:a.tmps.size=119)(Z:At a 0 (.pointer (some ⟨pb,0,none⟩)))(h5:At a 5 (.pointer (some ⟨z,0,none⟩)))(Q:Exit→Act→World→Prop)
 (I:∀p w',aA (fun i=>(rg 19 32 i)) a p→aF B w' pb v P fD (say (decide ((x.size ||| x.Q7)%fF x.big=0)) x.pos 0++L)→aB (fun k=>k=pb) w w'→Q .normal p w'):
 (al Tryz.f52 [1,1,0,1,0,0,1,1,0,0,1,0]).wp Tryz.prog Q a w:=by
 obtain⟨W,l,n,E,G,H⟩:=ok;unfold lim at l n E;unfold ae at G H;refine Code.wp_only (R:=fun p w'=>aA (fun i=>(rg 19 32 i)) a p∧aF B w' pb v P fD (say (decide ((x.size ||| x.Q7)%fF x.big=0)) x.pos 0++L)∧aB (fun k=>k=pb) w w') ?_ (fun M Y h=>I M Y h.1 h.2.1 h.2.2);clear I
 conv=>arg 2;whnf
 have q0:=g.c0;have q1:=g 1 _ rfl;have q2:=g 2 _ rfl;have q3:=g 3 _ rfl;have q4:=g 4 _ rfl;have q5:=g 5 _ rfl;have q6:=g 6 _ rfl;have q7:=g 7 _ rfl;have q8:=g 8 _ rfl;have q9:=g 9 _ rfl;obtain⟨U,r⟩:∃u,u=fF x.big:=⟨_,rfl⟩;have j:=fun X=>ee (pR x.big X)
 rw[←r]at j;have C:0<U:=by rw[r];unfold fF;split<;>omega
 have N:¬ (U=0):=by omega
 have O:((U:Int)==0)=false:=by simp;omega
 obtain⟨b,S⟩:∃b,((bits .or .u64 (x.size:Int) (x.Q7:Int)).tmod (U:Int)==0)=b:=⟨_,rfl⟩;have J:Hid (say (decide ((x.size ||| x.Q7)%fF x.big=0)) x.pos 0=say b x.pos 0):=by
  refine hh ?_;rw[←S,sU l n,←r,show(((x.size ||| x.Q7:Nat):Int).tmod (U:Int))=(((x.size ||| x.Q7)%U:Nat):Int) from rfl]
  congr 1
  rw[eG];exact decide_eq_decide.2 (by omega)
 have y:=hh (h.new ((aB.refl _ w).drew));clear h g r C;obtain⟨T,d⟩:=a;refine wp_region_still_tail 13 (by kernel_rfl) (by kernel_rfl) ?_;simp only[List.take_succ_cons,List.take_zero,List.drop_succ_cons,List.drop_zero]
 iterate 8 with_reducible refine sl ?_
 with_reducible refine wpStill_step (fun K q=>?_)
 go_simp;with_reducible refine⟨_,j _,q _ ?_⟩;clear q K
 iterate 4 with_reducible refine sl ?_
 with_reducible refine wpStill_nil ?_;refine Lz (fun K q=>?_)
 go_simp;refine(aO _ _ 0 33 y.out rfl).mono ?_;rintro e w2 ⟨rfl,A,D⟩;with_reducible refine q _ _ (ln ?_)
 refine⟨rfl,?_,?_,?_⟩
 ·exact ag
 ·rw[J.out]
  exact A
 ·exact((aB.refl _ _).drew).trans D (fun _ _ e=>e)
theorem vK{v:aV}{P:aC}(h:aF B w pb v P fD L){z:Nat}{x:Ck.Region}(g:aN w z 0 [.int .i64 x.pos,.string x.name,.int .u64 x.size,.bool x.fixed,.int .u64 x.Q7,.bool x.big,.bool x.wx,.int .u64 x.fill,.bool x.QS,.string x.text])(ok:x.Ok)(a:Act)(N:a.tmps.size=119)(W:At a 0 (.pointer (some ⟨pb,0,none⟩)))(X:At a 5 (.pointer (some ⟨z,0,none⟩)))(Q:Exit→Act→World→Prop)
 (J:∀p w',aA (fun i=>(rg 33 44 i)) a p→aF B w' pb v P fD (say (decide (0<x.size)&&decide (x.size≤67108864)) x.pos 1++L)→aB (fun k=>k=pb) w w'→Q .normal p w'):
 (al Tryz.f52 [1,1,0,1,0,0,1,1,0,0,1,1,0]).wp Tryz.prog Q a w:=by
 obtain⟨S,u,y,A,C,D⟩:=ok;unfold lim at u y A;unfold ae at C D;refine Code.wp_only (R:=fun p w'=>aA (fun i=>(rg 33 44 i)) a p∧aF B w' pb v P fD (say (decide (0<x.size)&&decide (x.size≤67108864)) x.pos 1++L)∧aB (fun k=>k=pb) w w') ?_ (fun M V h=>J M V h.1 h.2.1 h.2.2);clear J
 conv=>arg 2;whnf
 have Y:=g.c0;have Z:=g 1 _ rfl;have q2:=g 2 _ rfl;have q3:=g 3 _ rfl;have q4:=g 4 _ rfl;have q5:=g 5 _ rfl;have q6:=g 6 _ rfl;have q7:=g 7 _ rfl;have q8:=g 8 _ rfl;have q9:=g 9 _ rfl;obtain⟨q,H⟩:∃b,decide (0<x.size)=b:=⟨_,rfl⟩;obtain⟨G,I⟩:∃b,decide (x.size≤67108864)=b:=⟨_,rfl⟩;have E:Hid (say (decide (0<x.size)&&decide (x.size≤67108864)) x.pos 1=say (q&&G) x.pos 1):=by rw[H,I];exact hh rfl
 have e3:decide ((0:Int)<(x.size:Int))=q:=by rw[←H];exact decide_eq_decide.2 (by omega)
 have e4:decide ((x.size:Int)≤67108864)=G:=by rw[←I];exact decide_eq_decide.2 (by omega)
 have n:=hh h;have O:=aJ;clear h g;obtain⟨T,d⟩:=a;refine rl ?_
 cases q
 ·skip
  iterate 11 with_reducible refine st ?_
  with_reducible refine Lz (fun K r=>?_)
  go_simp;refine(aO _ _ 1 32 n.out rfl).mono ?_;rintro e U ⟨rfl,j,l⟩;with_reducible refine r _ _ (ln ?_)
  refine⟨rfl,?_,?_,?_⟩
  ·exact ag
  ·rw[E.out]
   exact j
  ·exact l
 ·skip
  iterate 11 with_reducible refine st ?_
  with_reducible refine Lz (fun K r=>?_)
  go_simp;refine(aO _ _ 1 32 n.out rfl).mono ?_;rintro e U ⟨rfl,j,l⟩;with_reducible refine r _ _ (ln ?_)
  refine⟨rfl,?_,?_,?_⟩
  ·exact ag
  ·rw[E.out]
   exact j
  ·exact l
theorem vM{v:aV}{P:aC}(h:aF B w pb v P fD L){z:Nat}{x:Ck.Region}(g:aN w z 0 [.int .i64 x.pos,.string x.name,.int .u64 x.size,.bool x.fixed,.int .u64 x.Q7,.bool x.big,.bool x.wx,.int .u64 x.fill,.bool x.QS,.string x.text])(ok:x.Ok)(a:Act)(X:a.tmps.size=119)(h0:At a 0 (.pointer (some ⟨pb,0,none⟩)))(h5:At a 5 (.pointer (some ⟨z,0,none⟩)))(h6:At a 6 (.int .u64 x.text.size))(Q:Exit→Act→World→Prop)
 (V:∀u w',aA (fun i=>(rg 88 114 i)) a u→aF B w' pb v P fD (mW x++L)→aB (fun k=>k=pb) w w'→Q .normal u w'):
 (al Tryz.f52 [1,1,0,1,0,0,1,1,0,0,1,1,1,1,1]).wp Tryz.prog Q a w:=by
 obtain⟨Z,G,H,I,J,M⟩:=ok;unfold lim at G H I;unfold ae at J M;refine Code.wp_only (R:=fun u w'=>aA (fun i=>(rg 88 114 i)) a u∧aF B w' pb v P fD (mW x++L)∧aB (fun k=>k=pb) w w') ?_ (fun W w4 h=>V W w4 h.1 h.2.1 h.2.2);clear V
 conv=>arg 2;whnf
 have q0:=g.c0;have q1:=g 1 _ rfl;have q2:=g 2 _ rfl;have q3:=g 3 _ rfl;have q4:=g 4 _ rfl;have q5:=g 5 _ rfl;have q6:=g 6 _ rfl;have q7:=g 7 _ rfl;have q8:=g 8 _ rfl;have q9:=g 9 _ rfl;obtain⟨A,O⟩:∃b,decide (x.fill<256)=b:=⟨_,rfl⟩;obtain⟨C,S⟩:∃b,decide (x.text.size≤x.size)=b:=⟨_,rfl⟩;obtain⟨D,e3⟩:∃b,decide (x.text.size≤1048576)=b:=⟨_,rfl⟩;obtain⟨E,e4⟩:∃b,decide (x.fill=0)=b:=⟨_,rfl⟩;obtain⟨N,U⟩:∃b,decide (x.size≤1048576)=b:=⟨_,rfl⟩;have r:Hid (mW x=say (A&&C&&D&&(E||N)) x.pos 4):=by
  refine hh ?_;unfold mW;rw[O,S,e3,e4,U]
 have f1:decide ((x.fill:Int)<256)=A:=by rw[←O];exact decide_eq_decide.2 (by omega)
 have f2:decide ((x.text.size:Int)≤(x.size:Int))=C:=by rw[←S];exact decide_eq_decide.2 (by omega)
 have f3:decide ((x.text.size:Int)≤1048576)=D:=by rw[←e3];exact decide_eq_decide.2 (by omega)
 have f4:((x.fill:Int)==0)=E:=by rw[←e4];exact dK _ 0
 have f5:decide ((x.size:Int)≤1048576)=N:=by rw[←U];exact decide_eq_decide.2 (by omega)
 have n:=hh h;have Y:=aJ;clear h g e4;obtain⟨T,d⟩:=a;refine rl ?_;have q:=r.out
 cases A
 ·clear q
  iterate 26 with_reducible refine st ?_
  with_reducible refine Lz (fun K p=>?_)
  go_simp;refine(aO _ _ 4 105 n.out rfl).mono ?_;rintro e y ⟨rfl,j,l⟩;with_reducible refine p _ _ (ln ?_)
  refine⟨rfl,?_,?_,?_⟩
  ·exact ag
  ·rw[r.out]
   exact j
  ·exact l
 ·cases C
  ·clear q
   iterate 26 with_reducible refine st ?_
   with_reducible refine Lz (fun K p=>?_)
   go_simp;refine(aO _ _ 4 105 n.out rfl).mono ?_;rintro e y ⟨rfl,j,l⟩;with_reducible refine p _ _ (ln ?_)
   refine⟨rfl,?_,?_,?_⟩
   ·exact ag
   ·rw[r.out]
    exact j
   ·exact l
  ·cases D
   ·clear q
    iterate 26 with_reducible refine st ?_
    with_reducible refine Lz (fun K p=>?_)
    go_simp;refine(aO _ _ 4 105 n.out rfl).mono ?_;rintro e y ⟨rfl,j,l⟩;with_reducible refine p _ _ (ln ?_)
    refine⟨rfl,?_,?_,?_⟩
    ·exact ag
    ·rw[r.out]
     exact j
    ·exact l
   ·clear q
    cases E
    ·skip
     iterate 26 with_reducible refine st ?_
     with_reducible refine Lz (fun K p=>?_)
     go_simp;refine(aO _ _ 4 105 n.out rfl).mono ?_;rintro e y ⟨rfl,j,l⟩;with_reducible refine p _ _ (ln ?_)
     refine⟨rfl,?_,?_,?_⟩
     ·exact ag
     ·rw[r.out]
      exact j
     ·exact l
    ·skip
     iterate 26 with_reducible refine st ?_
     with_reducible refine Lz (fun K p=>?_)
     go_simp;refine(aO _ _ 4 105 n.out rfl).mono ?_;rintro e y ⟨rfl,j,l⟩;with_reducible refine p _ _ (ln ?_)
     refine⟨rfl,?_,?_,?_⟩
     ·exact ag
     ·rw[r.out]
      exact j
     ·exact l
theorem l8{P:Program}(E:P=Tryz.prog){n:Array Oper}{rest:List Oper}{o:Oper}{a:Act}{Q:Exit→Act→World→Prop}(q:o.guard=none){s x:Operand}
 (I:o.op=.call { callee := .builtin .append,args := #[s,x],argTypes := #[168,168] }){Z:Nat}{u:Value}{l:List dU}(J:a.eval s=u)(i:w.ownsRow Z 170 3 u l.length (ax l))(N:l.length≤8388608)
 {b:Nat}{p:dU}(hx:a.eval x=.slice (some ⟨b,0,none⟩) 1 1)(c0:aN w b 0 p.cells)(G:Z≤w.heap.size)
 (h:∀B w',w'.ownsRow Z 170 3 B (l.length+1) (ax (l++[p]))→aB (fun k=>u.ownBlock=some k) w w'→wpList P n Q rest (a.put o.dst B) w'):wpList P n Q (o::rest) a w:=by
 subst E;obtain⟨K,H,r,y,A⟩:=info_parts Tryz.info170;have d:∀j,(⟨b,0,none⟩:Addr).add j=⟨b,j,none⟩:=fun j=>by unfold Addr.add;split<;>simp_all
 refine wpList_append_lies w q s x 168 I Z 170 K (.agg #[.int .u64 0,.int .u64 0,.int .i64 0]) 3 24 Tryz.underlying168 H r y A rfl (by omega) u l.length (ax l) J i ⟨b,0,none⟩ 1 1 p.cells hx rfl (fun j v hv=>?_) kX (by omega) (by unfold maxLen;omega) (by omega) G w.heap.size rfl ?_
 ·rw[d]
  have:=c0 j v hv
  rwa[Nat.zero_add]at this
 ·intro g cap w' C D L M
  refine h _ w' ?_ (aB.of_grown D (fun k e=>e));rw[fw];exact C
theorem xA{v:aV}{P:aC}(h:aF B w pb v P fD L){z:Nat}{x:Ck.Region}(b:aN w z 0 [.int .i64 x.pos,.string x.name,.int .u64 x.size,.bool x.fixed,.int .u64 x.Q7,.bool x.big,.bool x.wx,.int .u64 x.fill,.bool x.QS,.string x.text])(a:Act)(r:a.tmps.size=119)(S:At a 5 (.pointer (some ⟨z,0,none⟩))){Z:Nat}{u:Value}{l:List dU}(O:At a 2 u)(M:Hid (w.ownsRow Z 170 3 u l.length (ax l)))(W:l.length≤8388608)(U:Z≤w.heap.size)(H:B≤Z)(Q:Exit→Act→World→Prop)
 (I:∀G w' y,aA (fun i=>i==2||(rg 74 83 i)) a G→At G 2 y→w'.ownsRow Z 170 3 y (l.length+1) (ax (l++[⟨x.Q7,x.size,x.pos⟩]))→aF B w' pb v P fD L→aB (fun k=>u.ownBlock=some k) w w'→Q .normal G w'):
 (al Tryz.f52 [1,1,0,1,0,0,1,1,0,0,1,1,1,0,1,0,1]).wp Tryz.prog Q a w:=by
 conv=>arg 2;whnf
 refine Code.wp_only (R:=fun A q=>aA (fun i=>i==2||(rg 74 83 i)) a A∧(∃y,At A 2 y∧q.ownsRow Z 170 3 y (l.length+1) (ax (l++[⟨x.Q7,x.size,x.pos⟩])))∧aF B q pb v P fD L∧aB (fun k=>u.ownBlock=some k) w q) ?_ (fun A q h=>I A q h.2.1.choose h.1 h.2.1.choose_spec.1 h.2.1.choose_spec.2 h.2.2.1 h.2.2.2);clear I;have X:=b.c0;have Y:=b 1 _ rfl;have q2:=b 2 _ rfl;have q3:=b 3 _ rfl;have q4:=b 4 _ rfl;have q5:=b 5 _ rfl;have q6:=b 6 _ rfl;have q7:=b 7 _ rfl;have q8:=b 8 _ rfl;have q9:=b 9 _ rfl;have K:=hh h;clear h b;obtain⟨T,d⟩:=a;refine rl ?_
 iterate 9 with_reducible refine st ?_
 have J:=aX w [.int .u64 x.Q7,.int .u64 x.size,.int .i64 x.pos] 170;have e:Kz w (w.alloc (.cells #[.int .u64 x.Q7,.int .u64 x.size,.int .i64 x.pos] 170)):=(aB.refl _ _).alloc _;have j:=hh (am M.out e (fun _ _ h=>h));refine l8 (p:=⟨x.Q7,x.size,x.pos⟩) rfl rfl rfl (At.eval (by exact aq) (by have:=r;simp at this⊢; omega)) j.out (by omega) (At.eval (by exact aq) (by have:=r;simp at this⊢; omega)) J (by have:=e.size;omega) ?_;intro N q g n;have E:=hh g;have C:Hid (aB (fun k=>u.ownBlock=some k) w q):=(e.mono fun _ _ h=>h.elim).trans n (fun i V h=>h);have D:=hh ((K.out.new e).grown j.out H (by decide) n);clear g n J e j;simp only[Act.put];with_reducible refine st ?_;refine ln ?_
 refine⟨rfl,ag,⟨N,aq,E.out⟩,D.out,C.out⟩
theorem qk{P:aC}(h:∀p,dq l p↔dq (iU P) p)(a b:Nat):dM l a b=fT P.QF a b:=by
 unfold dM fT;have e:∀p,dq l p↔∃r∈P.QF,r.Q7≤p∧p≤eJ r.Q7 r.size:=fun p=>by
  rw[h];unfold dq iU nI;simp only[List.mem_map];constructor
  ·rintro⟨s,⟨r,g,rfl⟩,d⟩
   exact⟨r,g,d⟩
  ·rintro⟨r,g,d⟩
   exact⟨_,⟨r,g,rfl⟩,d⟩
 rw[Bool.eq_iff_iff];simp only[decide_eq_true_eq,e]
theorem tQ{v:aV}{P:aC}(h:aF B w pb v P fD L){z:Nat}{x:Ck.Region}(E:aN w z 0 [.int .i64 x.pos,.string x.name,.int .u64 x.size,.bool x.fixed,.int .u64 x.Q7,.bool x.big,.bool x.wx,.int .u64 x.fill,.bool x.QS,.string x.text])(ok:x.Ok)(a:Act)(c5:a.tmps.size=119)(h0:At a 0 (.pointer (some ⟨pb,0,none⟩)))(h5:At a 5 (.pointer (some ⟨z,0,none⟩)))(bl:z<w.heap.size)(c6:z≠pb){zs:Nat}{us:Value}{Y:List Sp}(h3:At a 3 (.pointer (some ⟨zs,0,none⟩)))(a2:w.cell? ⟨zs,0,none⟩=some us)(a3:zs<w.heap.size)(ci:zs≠pb)(M:bZ w pb us Y)(a0:gh Y)(W:∀p,dq Y p↔dq (iU P) p)(Q:Exit→Act→World→Prop)
 (hQ:∀g w',aA (fun i=>(rg 47 73 i)) a g→aF B w' pb v P fD (say (decide (x.size=0)||below x.Q7 x.size 4294967296&&fT P.QF x.Q7 (eJ x.Q7 x.size)) x.pos 2++L)→aB (fun k=>k=pb) w w'→Q .normal g w'):
 (al Tryz.f52 [1,1,0,1,0,0,1,1,0,0,1,1,1,0,1,0,0]).wp Tryz.prog Q a w:=by
 obtain⟨c7,a5,ah,bm,bo,bp⟩:=ok;unfold lim at a5 ah bm;unfold ae at bo bp;refine Code.wp_only (R:=fun g w'=>aA (fun i=>(rg 47 73 i)) a g∧aF B w' pb v P fD (say (decide (x.size=0)||below x.Q7 x.size 4294967296&&fT P.QF x.Q7 (eJ x.Q7 x.size)) x.pos 2++L)∧aB (fun k=>k=pb) w w') ?_ (fun a4 w4 h=>hQ a4 w4 h.1 h.2.1 h.2.2);clear hQ
 conv=>arg 2;whnf
 have c1:=h.lt;have ac:=hh (h.new ((aB.refl _ w).drew))
 by_cases hs0:x.size=0
 ·have HS:Hid (say (decide (x.size=0)||below x.Q7 x.size 4294967296&&fT P.QF x.Q7 (eJ x.Q7 x.size)) x.pos 2=say true x.pos 2):=by rw[decide_eq_true hs0,Bool.true_or];exact hh rfl
  have q0:=E.c0;have q2:=E 2 _ rfl;rw[hs0]at q2;have y:=aJ;clear h E M W;obtain⟨T,d⟩:=a;refine wp_region_still_tail 26 (by kernel_rfl) (by kernel_rfl) ?_;simp only[List.take_succ_cons,List.take_zero,List.drop_succ_cons,List.drop_zero]
  iterate 26 with_reducible refine sl ?_
  with_reducible refine wpStill_nil ?_;refine Lz (fun K q=>?_)
  go_simp;refine(aO _ _ 2 109 ac.out rfl).mono ?_;rintro e w2 ⟨rfl,H,D⟩;with_reducible refine q _ _ (ln ?_)
  refine⟨rfl,?_,?_,?_⟩
  ·exact ag
  ·rw[HS.out]
   exact H
  ·exact((aB.refl _ _).drew).trans D (fun _ _ e=>e)
 have X:decide (x.size=0)=false:=decide_eq_false hs0;have c3:((x.size:Int)==0)=false:=by rw[eG];exact decide_eq_false (by omega)
 obtain⟨bb,J⟩:∃b,b=below x.Q7 x.size 4294967296:=⟨_,rfl⟩;have U:=fun w0=>jP x.Q7 x.size 4294967296 w0 ah a5 (by decide)
 rw[←J]at U
 cases bb
 ·have HS:Hid (say (decide (x.size=0)||below x.Q7 x.size 4294967296&&fT P.QF x.Q7 (eJ x.Q7 x.size)) x.pos 2=say false x.pos 2):=by rw[←J,X];exact hh rfl
  have q0:=E.c0;have q2:=E 2 _ rfl;have q4:=E 4 _ rfl;have be:=fun w0=>ee (U w0)
  have y:=aJ;clear h E M W J X U;obtain⟨T,d⟩:=a;refine wp_region_still_tail 26 (by kernel_rfl) (by kernel_rfl) ?_;simp only[List.take_succ_cons,List.take_zero,List.drop_succ_cons,List.drop_zero]
  iterate 9 with_reducible refine sl ?_
  with_reducible refine wpStill_step (fun K q=>?_)
  go_simp;with_reducible refine⟨_,be _,q _ ?_⟩;clear q K
  iterate 16 with_reducible refine sl ?_
  with_reducible refine wpStill_nil ?_;refine Lz (fun K q=>?_)
  go_simp;refine(aO _ _ 2 109 ac.out rfl).mono ?_;rintro e w2 ⟨rfl,H,D⟩;with_reducible refine q _ _ (ln ?_)
  refine⟨rfl,?_,?_,?_⟩
  ·exact ag
  ·rw[HS.out]
   exact H
  ·exact((aB.refl _ _).drew).trans D (fun _ _ e=>e)
 ·obtain⟨Z,V⟩:∃b,b=dM Y x.Q7 (eJ x.Q7 x.size):=⟨_,rfl⟩
  have HS:Hid (say (decide (x.size=0)||below x.Q7 x.size 4294967296&&fT P.QF x.Q7 (eJ x.Q7 x.size)) x.pos 2=say Z x.pos 2):=by rw[←J,X,V,qk W];exact hh rfl
  have bf:=kv x.Q7 x.size;obtain⟨la,ad⟩:∃n,n=eJ x.Q7 x.size:=⟨_,rfl⟩;rw[←ad]at bf V;have an:la<lim:=by rw[ad];exact Nat.mod_lt _ (by decide)
  have N:Hid (∀w',Kz w.drew w'→(w'.cell? ⟨z,0,none⟩=some (.int .i64 x.pos)∧w'.cell? ⟨z,2,none⟩=some (.int .u64 x.size)∧w'.cell? ⟨z,4,none⟩=some (.int .u64 x.Q7)∧w'.cell? ⟨zs,0,none⟩=some us)):=fun w' hk=>by
   have D:Kz w w':=((aB.refl _ w).drew).trans hk (fun _ _ h=>h);have af:=E.keep D bl (fun h=>h);exact⟨af.c0,af 2 _ rfl,af 4 _ rfl,(D.cell (p:=⟨zs,0,none⟩) a3 (fun h=>h)).trans a2⟩
  have a9:Hid (∀w',Kz w.drew w'→Calls Tryz.prog 102 #[.agg #[us],.agg #[.int .u64 x.Q7,.int .u64 la]] w' fun e w2=>e=.returned (.bool Z)∧Kz w' w2):=fun w' hk=>by
   have D:Kz w w':=((aB.refl _ w).drew).trans hk (fun _ _ h=>h);rw[V];exact rz (M.keep (D.mono fun _ _ h=>h.elim)) a0 _ _ ah an (by have:=D.size;omega)
  have bj:∃A n c,us=.slice A n c:=by obtain⟨A,c,e,_⟩:=M;exact⟨A,_,c,e⟩
  obtain⟨A,n,c,rfl⟩:=bj;clear h E M W J X V ad a2;refine dW 26 (fun i=>([.pointer (some ⟨pb,0,none⟩),.pointer (some ⟨z,2,none⟩),.int .u64 x.size,.bool false,.bool false,.pointer (some ⟨z,4,none⟩),.int .u64 x.Q7,.pointer (some ⟨z,2,none⟩),.int .u64 x.size,.bool true,.bool true,.agg #[.slice A n c],.pointer (some ⟨z,4,none⟩),.int .u64 x.Q7,.pointer (some ⟨z,4,none⟩),.int .u64 x.Q7,.pointer (some ⟨z,2,none⟩),.int .u64 x.size,.int .u64 (IntKind.u64.wrap ((x.Q7:Int)+(x.size:Int))),.int .u64 la,.agg #[.int .u64 x.Q7,.int .u64 la],.bool Z,.bool Z,.bool Z,.pointer (some ⟨z,0,none⟩),.int .i64 x.pos]:List Value).getD i undef) (fun w'=>Kz w.drew w') (by kernel_rfl) (by kernel_rfl) ?_ ?_ ?_
  ·first|exact hWd|exact aB.refl _ _
  ·intro i o hi r g w' K u I l q
   have a1:g.tmps.size=119:=I.size.trans (by first|assumption|(simp only[Array.size_setIfInBounds];assumption));have a6:=I.Q7 h0 rfl;have a8:=I.Q7 h5 rfl;have a7:=I.Q7 h3 rfl
   match i,hi,r,l,q with
   | 0,_,r,l,q =>
    obtain rfl:=oi r;obtain⟨T,d⟩:=g;go_simp;exact q _ u
   | 1,_,r,l,q =>
    obtain rfl:=oi r;obtain⟨T,d⟩:=g;go_simp;exact q _ u
   | 2,_,r,l,q =>
    obtain rfl:=oi r;have cm:At g 48 (.pointer (some ⟨z,2,none⟩)):=l 1 (by kernel_rfl) (by decide) 48 rfl;obtain⟨c0,c2,O,S⟩:=N.out _ u;obtain⟨T,d⟩:=g;go_simp;exact q _ u
   | 3,_,r,l,q =>
    obtain rfl:=oi r;have cp:At g 49 (.int .u64 x.size):=l 2 (by kernel_rfl) (by decide) 49 rfl;obtain⟨T,d⟩:=g;go_simp;exact q _ u
   | 4,_,r,l,q =>
    obtain rfl:=oi r;have cs:At g 50 (.bool false):=l 3 (by kernel_rfl) (by decide) 50 rfl;obtain⟨T,d⟩:=g;go_simp;exact q _ u
   | 5,_,r,l,q =>
    obtain rfl:=oi r;have G:At g 51 (.bool false):=l 4 (by kernel_rfl) (by decide) 51 rfl;have y:=aJ;obtain⟨T,d⟩:=g;go_simp;exact q _ u
   | 6,_,r,l,q =>
    obtain rfl:=oi r;have ct:At g 52 (.pointer (some ⟨z,4,none⟩)):=l 5 (by kernel_rfl) (by decide) 52 rfl;have G:At g 51 (.bool false):=l 4 (by kernel_rfl) (by decide) 51 rfl;obtain⟨c0,c2,O,S⟩:=N.out _ u;have y:=aJ;obtain⟨T,d⟩:=g;go_simp;exact q _ u
   | 7,_,r,l,q =>
    obtain rfl:=oi r;have G:At g 51 (.bool false):=l 4 (by kernel_rfl) (by decide) 51 rfl;have y:=aJ;obtain⟨T,d⟩:=g;go_simp;exact q _ u
   | 8,_,r,l,q =>
    obtain rfl:=oi r;have cw:At g 54 (.pointer (some ⟨z,2,none⟩)):=l 7 (by kernel_rfl) (by decide) 54 rfl;have G:At g 51 (.bool false):=l 4 (by kernel_rfl) (by decide) 51 rfl;obtain⟨c0,c2,O,S⟩:=N.out _ u;have y:=aJ;obtain⟨T,d⟩:=g;go_simp;exact q _ u
   | 9,_,r,l,q =>
    obtain rfl:=oi r;have cu:At g 53 (.int .u64 x.Q7):=l 6 (by kernel_rfl) (by decide) 53 rfl;have cx:At g 55 (.int .u64 x.size):=l 8 (by kernel_rfl) (by decide) 55 rfl;have G:At g 51 (.bool false):=l 4 (by kernel_rfl) (by decide) 51 rfl;obtain⟨c0,c2,O,S⟩:=N.out _ u;have y:=aJ;obtain⟨T,d⟩:=g;go_simp;refine(U _).mono ?_;rintro e w2 ⟨rfl,rfl⟩;exact q _ u
   | 10,_,r,l,q =>
    obtain rfl:=oi r;have cy:At g 56 (.bool true):=l 9 (by kernel_rfl) (by decide) 56 rfl;have G:At g 51 (.bool false):=l 4 (by kernel_rfl) (by decide) 51 rfl;have y:=aJ;obtain⟨T,d⟩:=g;go_simp;exact q _ u
   | 11,_,r,l,q =>
    obtain rfl:=oi r;have C:At g 57 (.bool true):=l 10 (by kernel_rfl) (by decide) 57 rfl;obtain⟨c0,c2,O,S⟩:=N.out _ u;have y:=aJ;obtain⟨T,d⟩:=g;go_simp;exact q _ u
   | 12,_,r,l,q =>
    obtain rfl:=oi r;have C:At g 57 (.bool true):=l 10 (by kernel_rfl) (by decide) 57 rfl;have y:=aJ;obtain⟨T,d⟩:=g;go_simp;exact q _ u
   | 13,_,r,l,q =>
    obtain rfl:=oi r;have bu:At g 59 (.pointer (some ⟨z,4,none⟩)):=l 12 (by kernel_rfl) (by decide) 59 rfl;have C:At g 57 (.bool true):=l 10 (by kernel_rfl) (by decide) 57 rfl;obtain⟨c0,c2,O,S⟩:=N.out _ u;have y:=aJ;obtain⟨T,d⟩:=g;go_simp;exact q _ u
   | 14,_,r,l,q =>
    obtain rfl:=oi r;have C:At g 57 (.bool true):=l 10 (by kernel_rfl) (by decide) 57 rfl;have y:=aJ;obtain⟨T,d⟩:=g;go_simp;exact q _ u
   | 15,_,r,l,q =>
    obtain rfl:=oi r;have bx:At g 61 (.pointer (some ⟨z,4,none⟩)):=l 14 (by kernel_rfl) (by decide) 61 rfl;have C:At g 57 (.bool true):=l 10 (by kernel_rfl) (by decide) 57 rfl;obtain⟨c0,c2,O,S⟩:=N.out _ u;have y:=aJ;obtain⟨T,d⟩:=g;go_simp;exact q _ u
   | 16,_,r,l,q =>
    obtain rfl:=oi r;have C:At g 57 (.bool true):=l 10 (by kernel_rfl) (by decide) 57 rfl;have y:=aJ;obtain⟨T,d⟩:=g;go_simp;exact q _ u
   | 17,_,r,l,q =>
    obtain rfl:=oi r;have b0:At g 63 (.pointer (some ⟨z,2,none⟩)):=l 16 (by kernel_rfl) (by decide) 63 rfl;have C:At g 57 (.bool true):=l 10 (by kernel_rfl) (by decide) 57 rfl;obtain⟨c0,c2,O,S⟩:=N.out _ u;have y:=aJ;obtain⟨T,d⟩:=g;go_simp;exact q _ u
   | 18,_,r,l,q =>
    obtain rfl:=oi r;have bz:At g 62 (.int .u64 x.Q7):=l 15 (by kernel_rfl) (by decide) 62 rfl;have b1:At g 64 (.int .u64 x.size):=l 17 (by kernel_rfl) (by decide) 64 rfl;have C:At g 57 (.bool true):=l 10 (by kernel_rfl) (by decide) 57 rfl;have y:=aJ;obtain⟨T,d⟩:=g;go_simp;exact q _ u
   | 19,_,r,l,q =>
    obtain rfl:=oi r;have b2:At g 65 (.int .u64 (IntKind.u64.wrap ((x.Q7:Int)+(x.size:Int)))):=l 18 (by kernel_rfl) (by decide) 65 rfl;have C:At g 57 (.bool true):=l 10 (by kernel_rfl) (by decide) 57 rfl;have y:=aJ;obtain⟨T,d⟩:=g;go_simp;exact q _ u
   | 20,_,r,l,q =>
    obtain rfl:=oi r;have bw:At g 60 (.int .u64 x.Q7):=l 13 (by kernel_rfl) (by decide) 60 rfl;have b3:At g 66 (.int .u64 la):=l 19 (by kernel_rfl) (by decide) 66 rfl;have C:At g 57 (.bool true):=l 10 (by kernel_rfl) (by decide) 57 rfl;have y:=aJ;obtain⟨T,d⟩:=g;go_simp;exact q _ u
   | 21,_,r,l,q =>
    obtain rfl:=oi r;have bt:At g 58 (.agg #[.slice A n c]):=l 11 (by kernel_rfl) (by decide) 58 rfl;have b4:At g 67 (.agg #[.int .u64 x.Q7,.int .u64 la]):=l 20 (by kernel_rfl) (by decide) 67 rfl;have C:At g 57 (.bool true):=l 10 (by kernel_rfl) (by decide) 57 rfl;obtain⟨c0,c2,O,S⟩:=N.out _ u;have y:=aJ;obtain⟨T,d⟩:=g;go_simp;refine(a9.out _ u).mono ?_;rintro e w2 ⟨rfl,D⟩;exact q _ (u.trans D (fun _ _ h=>h))
   | 22,_,r,l,q =>
    obtain rfl:=oi r;have C:At g 57 (.bool true):=l 10 (by kernel_rfl) (by decide) 57 rfl;have b5:At g 68 (.bool Z):=l 21 (by kernel_rfl) (by decide) 68 rfl;have G:At g 51 (.bool false):=l 4 (by kernel_rfl) (by decide) 51 rfl;have y:=aJ;obtain⟨T,d⟩:=g;go_simp;exact q _ u
   | 23,_,r,l,q =>
    obtain rfl:=oi r;have G:At g 51 (.bool false):=l 4 (by kernel_rfl) (by decide) 51 rfl;have cb:At g 69 (.bool Z):=l 22 (by kernel_rfl) (by decide) 69 rfl;obtain⟨T,d⟩:=g;go_simp;exact q _ u
   | 24,_,r,l,q =>
    obtain rfl:=oi r;obtain⟨T,d⟩:=g;go_simp;exact q _ u
   | 25,_,r,l,q =>
    obtain rfl:=oi r;have cd:At g 71 (.pointer (some ⟨z,0,none⟩)):=l 24 (by kernel_rfl) (by decide) 71 rfl;obtain⟨c0,c2,O,S⟩:=N.out _ u;obtain⟨T,d⟩:=g;go_simp;exact q _ u
   | i+26,hi,_,_,_=>omega
  ·intro o r g w' u I l
   obtain rfl:=oi r;have a1:g.tmps.size=119:=I.size.trans (by first|assumption|(simp only[Array.size_setIfInBounds];assumption));have a6:=I.Q7 h0 rfl;have a8:=I.Q7 h5 rfl;have a7:=I.Q7 h3 rfl;have cl:At g 47 (.pointer (some ⟨pb,0,none⟩)):=l 0 (by decide) 47 rfl;have cc:At g 70 (.bool Z):=l 23 (by decide) 70 rfl;have cf:At g 72 (.int .i64 x.pos):=l 25 (by decide) 72 rfl;have bd:=hh (ac.out.new u);have bc:Hid (aB (fun k=>k=pb) w w'):=((aB.refl (fun k=>k=pb) w).drew).trans u (fun _ _ h=>h.elim);have HB:=hh I;clear u I l;obtain⟨T,d⟩:=g;with_reducible refine Lz (fun K q=>?_)
   go_simp;refine(aO _ _ 2 109 bd.out rfl).mono ?_;rintro e w2 ⟨rfl,H,D⟩;with_reducible refine q _ _ (ln ?_)
   refine⟨rfl,(HB.out.agree (ws:=fun i=>rg 47 73 i) (by kernel_rfl)).trans (vs:=fun i=>i==73) ?_ (by intro j;simp;omega),?_,bc.out.trans D (fun _ _ e=>e)⟩
   ·exact ag
   ·rw[HS.out];exact H
def iL(l:List Ck.Region):List dU:=(l.filter Ck.Region.fixed).map fun x=>⟨x.Q7,x.size,x.pos⟩
theorem uI(l:List Ck.Region)(x:Ck.Region):iL (l++[x])=if x.fixed then iL l++[⟨x.Q7,x.size,x.pos⟩]else iL l:=by
 unfold iL;rw[List.filter_append]
 by_cases h:x.fixed<;>simp[h]
theorem qc(l:List Ck.Region):(iL l).length≤l.length:=by unfold iL;rw[List.length_map];exact List.length_filter_le _ _
theorem vL{v:aV}{P:aC}(h:aF B w pb v P fD [])(a:Act)(d1:a.tmps.size=119)(h0:At a 0 (.pointer (some ⟨pb,0,none⟩)))(h2:At a 2 (.slice none 0 0)){zs:Nat}{us:Value}{b2:List Sp}(h3:At a 3 (.pointer (some ⟨zs,0,none⟩)))(d2:w.cell? ⟨zs,0,none⟩=some us)(bp:zs<w.heap.size)(bt:zs≠pb)(bz:bZ w pb us b2)(bm:gh b2)(bw:∀p,dq b2 p↔dq (iU P) p)(Q:Exit→Act→World→Prop)
 (hQ:∀a' w' u',aA (fun i=>i==2||i==5||i==6||(rg 9 115 i)) a a'→At a' 2 u'→w'.ownsRow w.heap.size 170 3 u' (iL P.Q5).length (ax (iL P.Q5))→P.Q5.length≤8388608→aF B w' pb v P fD (P.Q5.flatMap (oo P))→aB (fun k=>k=pb) w w'→Q .normal a' w'):
 (al Tryz.f52 [1,1,0]).wp Tryz.prog Q a w:=by
 have hs:=h.QL.Q5;obtain⟨A,c,hu,en,d0,hl⟩:=hs;unfold top at d0;have em:=h.lt;have eg:=h.base;have hq:w.cell? ⟨pb,4,none⟩=some v.Q5:=h.cell rfl;rw[hu]at hq;clear hu
 conv=>arg 2;whnf
 refine so (fun R w1=>aA (fun i=>(rg 9 15 i)) a R∧At R 13 (.slice A P.Q5.length c)∧At R 14 (.int .i64 P.Q5.length)∧At R 15 (.int .i64 0)∧w1=w) ?_ ?_
 ·clear hl bz bw
  obtain⟨T,d⟩:=a;refine rl ?_
  iterate 7 with_reducible refine st ?_
  with_reducible refine ln ?_
  refine⟨rfl,ag,aq,aq,aq,rfl⟩
 rintro a0 w0 ⟨S,d9,d8,d6,rfl⟩;have cv:=S.size.trans d1;replace h0:=S.Q7 h0 rfl;replace h2:=S.Q7 h2 rfl;replace h3:=S.Q7 h3 rfl;obtain⟨Z,hZ⟩:∃z,z=w0.heap.size:=⟨_,rfl⟩;rw[←hZ]at hQ;have HZ:=hh hZ;clear hZ;have c9:=hh bz;have c6:=hh bw;have cc:=hh bm;clear bz bw bm;refine ai P.Q5.length (fun i=>i==2||i==5||i==6||(rg 15 115 i)) (fun i=>i==2||i==5||i==6||(rg 17 114 i)) (fun k a' w'=>∃u,At a' 2 u∧w'.ownsRow Z 170 3 u (iL (P.Q5.take k)).length (ax (iL (P.Q5.take k)))∧aF B w' pb v P fD ((P.Q5.take k).flatMap (oo P))∧aB (fun k=>k=pb) w0 w') (by omega) d6 d8 (by decide) rfl
  (by intro j;simp;omega) (by omega) (by decide) (fun k R a2 w hA ⟨u,h1,h2⟩=>⟨u,hA.Q7 h1 rfl,h2⟩) ⟨_,h2,by simpa[iL,ax]using World.ownsRow_nil _ _ _ _,by simpa using h,aB.refl _ _⟩ ?_ ?_
 ·rintro k R wr cu hA d7 ⟨u,y,E,hL,hk⟩
  obtain⟨bl,off,rfl,ds,cp⟩:=hl (by omega);obtain⟨x,hx⟩:=ge cu;obtain⟨W,I⟩:=(aK B _ _) _ _ _ _ _ (hk.below (B:=B) (by omega) (fun _ hi e=>by omega)) ds (cp k x hx);have q0:=W.c0;have q1:=W 1 _ rfl;have q2:=W 2 _ rfl;have q3:=W 3 _ rfl;have q4:=W 4 _ rfl;have q5:=W 5 _ rfl;have q6:=W 6 _ rfl;have q7:=W 7 _ rfl;have q8:=W 8 _ rfl;have q9:=W 9 _ rfl;have q:=hA.Q7 h0 rfl;have H:=hA.Q7 h3 rfl;have c5:=hA.Q7 d9 rfl;have cw:=hA.size.trans cv;have c1:=hk.size;have cm:bl<wr.heap.size:=by omega
  have el:k≤c:=by omega
  obtain⟨fs,an⟩:∃l,l=iL (P.Q5.take k):=⟨_,rfl⟩;rw[←an]at E;have eo:fs.length≤k:=by have:=qc (P.Q5.take k);rw[←an,List.length_take]at this;omega
  have HR:Hid (iL (P.Q5.take (k+1))=if x.fixed then fs++[⟨x.Q7,x.size,x.pos⟩]else fs):=by
   refine hh ?_;rw[aP hx,uI,an]
  have HX:=hh hx;have HO:=hh E;have HL:=hh hL;have HK:=hh hk;have HA:=hh hA;clear hx E hk hA cp W an hl hL;refine so (fun a2 w2=>aA (fun i=>i==17||i==18||i==5) R a2∧At a2 5 (.pointer (some ⟨wr.heap.size,0,none⟩))∧w2=wr.alloc (.cells #[.int .i64 x.pos,.string x.name,.int .u64 x.size,.bool x.fixed,.int .u64 x.Q7,.bool x.big,.bool x.wx,.int .u64 x.fill,.bool x.QS,.string x.text] 48)) ?_ ?_
  ·obtain⟨T,d⟩:=R
   refine rl ?_
   iterate 4 with_reducible refine st ?_
   with_reducible refine ln ?_
   refine⟨rfl,ag,aq,rfl⟩
  rintro a2 wo ⟨O,r,bd⟩;obtain⟨z,hz⟩:∃z,z=wr.heap.size:=⟨_,rfl⟩;rw[←hz]at r;have n:aN wo z 0 [.int .i64 x.pos,.string x.name,.int .u64 x.size,.bool x.fixed,.int .u64 x.Q7,.bool x.big,.bool x.wx,.int .u64 x.fill,.bool x.QS,.string x.text]:=by rw[bd,hz];exact aX _ _ _
  have D:z<wo.heap.size:=by rw[bd,hz];simp
  have bc:Kz wr wo:=by rw[bd];exact(aB.refl _ _).alloc _
  have M:z≠pb:=by omega
  have g:=O.size.trans cw;have q:=O.Q7 q rfl;have H:=O.Q7 H rfl;have y:=O.Q7 y rfl;have af:Hid (∀k,u.ownBlock=some k→k<z∧k≠pb):=fun k hk=>by have h1:=(HO.out.lt k hk);have:=HZ.out;omega
  have HO:=hh (am HO.out bc (fun _ _ h=>h));have J:=hh (HL.out.new bc);have C:=hh (HK.out.trans bc (fun _ _ h=>h.elim));have N:Hid (aA (fun i=>i==2||i==5||i==6||(rg 17 114 i)) R a2):=O.m;clear bd hz bc HL HK O c5 d7 c1 cm q0 q1 q2 q3 q4 q5 q6 q7 q8 q9;refine wp_seq (vJ J.out n I a2 g q r _ (fun a3 w3 K cf Y=>?_));have n:=n.keep Y D M;have D:z<w3.heap.size:=Nat.lt_of_lt_of_le D Y.size;have HO:=hh (am HO.out Y (fun j hj e=>(af.out j hj).2 e));have J:=hh cf;have C:=hh (C.out.trans Y (fun _ _ e=>e));have q:=K.Q7 q rfl;have y:=K.Q7 y rfl;have H:=K.Q7 H rfl;have r:=K.Q7 r rfl;have g:=K.size.trans g;have N:Hid (aA (fun i=>i==2||i==5||i==6||(rg 17 114 i)) R a3):=N.out.t K;clear K cf Y;refine wp_seq (vK J.out n I a3 g q r _ (fun a4 w4 L ci ac=>?_));have n:=n.keep ac D M;have D:z<w4.heap.size:=Nat.lt_of_lt_of_le D ac.size;have HO:=hh (am HO.out ac (fun j hj e=>(af.out j hj).2 e));have J:=hh ci;have C:=hh (C.out.trans ac (fun _ _ e=>e));have q:=L.Q7 q rfl;have y:=L.Q7 y rfl;have H:=L.Q7 H rfl;have r:=L.Q7 r rfl;have g:=L.size.trans g;have N:Hid (aA (fun i=>i==2||i==5||i==6||(rg 17 114 i)) R a4):=N.out.t L;clear L ci ac;refine so (fun a' w'=>aA (fun i=>i==2||(rg 45 83 i)) a4 a'∧(∃u',At a' 2 u'∧w'.ownsRow Z 170 3 u' (iL (P.Q5.take (k+1))).length (ax (iL (P.Q5.take (k+1)))))∧aF B w' pb v P fD (kc P x++(say (decide (0<x.size)&&decide (x.size≤67108864)) x.pos 1++(say (decide ((x.size ||| x.Q7)%fF x.big=0)) x.pos 0++(P.Q5.take k).flatMap (oo P))))∧aB (fun k=>k=pb) w0 w'∧aN w' z 0 [.int .i64 x.pos,.string x.name,.int .u64 x.size,.bool x.fixed,.int .u64 x.Q7,.bool x.big,.bool x.wx,.int .u64 x.fill,.bool x.QS,.string x.text]) ?_ ?_
  ·refine so (fun a5 w5=>aA (fun i=>i==45||i==46) a4 a5∧At a5 46 (.bool x.fixed)∧w5=w4) ?_ ?_
   ·have q3:=n 3 _ rfl
    clear n;obtain⟨T,d⟩:=a4;refine rl ?_
    iterate 2 with_reducible refine st ?_
    with_reducible refine ln ?_
    refine⟨rfl,ag,aq,rfl⟩
   rintro a5 w5 ⟨G,d4,rfl⟩;have bo:=G.size.trans g;have bu:=d4.eval (by omega);obtain⟨bf,X⟩:∃b,x.fixed=b:=⟨_,rfl⟩;rw[X]at bu
   cases bf
   ·refine wp_cond_false bu (wp_skip ?_)
    repeat with_reducible apply aY
    refine⟨rfl,G.m,⟨u,G.Q7 y rfl,?_⟩,?_,C.out,n⟩
    ·rw[HR.out,X];exact HO.out
    ·unfold kc;rw[X];simpa using J.out
   ·refine wp_cond_true bu ?_
    have c4:=(C.out.cell (p:=⟨zs,0,none⟩) bp bt).trans d2;have b1:zs<w5.heap.size:=Nat.lt_of_lt_of_le bp C.out.size;refine wp_seq (tQ J.out n I a5 bo (G.Q7 q rfl) (G.Q7 r rfl) D M (G.Q7 H rfl) c4 b1 bt (c9.out.keep C.out) cc.out c6.out _ (fun a6 w6 ah dk bb=>?_))
    repeat with_reducible apply aY
    have c2:=n.keep bb D M;have c3:z<w6.heap.size:=Nat.lt_of_lt_of_le D bb.size;have b5:=hh (am HO.out bb (fun j hj e=>(af.out j hj).2 e));have b4:=hh (C.out.trans bb (fun _ _ e=>e));have cx:=ah.size.trans bo;refine xA dk c2 a6 cx (ah.Q7 (G.Q7 r rfl) rfl) (ah.Q7 (G.Q7 y rfl) rfl) b5 (by omega) (by have:=b4.out.size;have:=HZ.out;omega) (by have:=HZ.out;omega) _ (fun a7 w7 u7 di k2 bx dl cs=>?_);refine⟨rfl,((G.m).t ah).t di,⟨u7,k2,?_⟩,?_,b4.out.trans cs (fun j hj e=>?_),c2.keep cs c3 (fun e=>?_)⟩
    ·rw[HR.out,X];simp only[if_true,List.length_append];exact bx
    ·unfold kc;rw[X];simpa using dl
    ·have:=(b5.out.lt j e).1;have:=HZ.out;omega
    ·have:=(af.out z e).1;omega
  rintro a8 w8 ⟨U,⟨u8,d3,ad⟩,cl,ct,b0⟩;have cb:=hh ad;have c8:=hh cl;have c7:=hh ct;have q:=U.Q7 q rfl;have r:=U.Q7 r rfl;have cy:=U.size.trans g;have b3:Hid (aA (fun i=>i==2||i==5||i==6||(rg 17 114 i)) R a8):=N.out.t U;clear ad cl ct U N n D HO J C y H;refine so (fun a9 w9=>aA (fun i=>i==6||(rg 84 87 i)) a8 a9∧At a9 6 (.int .u64 x.text.size)∧w9=w8) ?_ ?_
  ·have q9:=b0 9 _ rfl
   have er:IntKind.u64.wrap (x.text.size:Int)=(x.text.size:Int):=u64_in _ (by have:=I.2.2.2.2.2;unfold ae at this;omega);clear b0;obtain⟨T,d⟩:=a8;refine rl ?_
   iterate 5 with_reducible refine st ?_
   with_reducible refine ln ?_
   refine⟨rfl,ag,aq,rfl⟩
  rintro a9 w9 ⟨V,d5,rfl⟩;refine vM c8.out b0 I a9 (V.size.trans cy) (V.Q7 q rfl) (V.Q7 r rfl) d5 _ (fun eb es be cd bj=>?_);refine⟨(b3.out.t V).t be,u8,be.Q7 (V.Q7 d3 rfl) rfl,am cb.out bj (fun j hj e=>?_),cd.congr fun p=>?_,c7.out.trans bj (fun _ _ e=>e)⟩
  ·have:=(cb.out.lt j hj).1;have:=HZ.out;omega
  ·rw[aP HX.out,List.flatMap_append,List.flatMap_cons,List.flatMap_nil,List.append_nil]
   simp only[List.mem_append,oo]
   try simp only[or_assoc,or_comm,or_left_comm]
 ·rintro a' w' hA ⟨u,y,E,hL,hk⟩
  rw[List.take_length]at E hL;exact hQ _ _ _ ((S.m).t hA) y E (by omega) hL hk
theorem yh{v:aV}{P:aC}(h:cX B w v P):∀x∈iL P.Q5,x.Ok:=by
 intro s d;obtain⟨x,hx,rfl⟩:=List.mem_map.1 d;have hx:=(List.mem_filter.1 hx).1;obtain⟨A,c,_,_,_,b⟩:=h.Q5;obtain⟨e,off,_,_,a⟩:=b (List.length_pos_of_mem hx);obtain⟨k,hk⟩:=List.getElem?_of_mem hx;have ok:=(a k x hk).2;exact⟨ok.2.2.1,ok.2.1,ok.1⟩
theorem pn{v:aV}{P:aC}(h:aF B w pb v P fD []):
 Calls Tryz.prog 52 #[.pointer (some ⟨pb,0,none⟩)] w fun e w'=>e=.returned (.tuple #[])∧aF B w' pb v P fD (eB P)∧aB (fun k=>k=pb) w w':=by
 have af:=h.lt;have HH:=hh h;have HG:=hh (rq h);clear h;refine az Tryz.func52 Tryz.ntmps52 rfl (by simp) fun a ah ad g=>?_
 have h0:At a 0 (.pointer (some ⟨pb,0,none⟩)):=g 0 _ rfl;clear g
 conv=>arg 2;whnf
 refine so (fun L w1=>aA (fun i=>i==2) a L∧At L 2 (.slice none 0 0)∧w1=w) ?_ ?_
 ·obtain⟨T,d⟩:=a
  refine rl ?_;with_reducible refine st ?_;refine ln ?_
  refine⟨rfl,ag,aq,rfl⟩
 rintro L w1 ⟨q,k2,rfl⟩;have W:=q.size.trans ah;have M:=q.defers.trans ad;have j0:=q.Q7 h0 rfl;refine so (fun Y w2=>aA (fun i=>i==3||i==7||i==8) L Y∧∃n u l,At Y 3 (.pointer (some ⟨n.heap.size,0,none⟩))∧gh l∧(∀p,dq l p↔dq (iU P) p)∧bZ n pb u l∧Kz w1 n∧w2=n.alloc (.cells #[u] 175)) ?_ ?_
 ·obtain⟨T,d⟩:=L
  refine rl ?_;with_reducible refine st ?_;refine Lz (fun K hK=>?_)
  go_simp;refine HG.out.mono ?_;rintro e n ⟨u,l,rfl,h1,h2,Z,h4⟩;have Z:=Z pb af;have H1:=hh h1;have H2:=hh h2;have H3:=hh Z;have H4:=hh h4;obtain⟨A,c,rfl,_⟩:=Z;clear h1 h2 h4;with_reducible refine hK _ _ ?_;clear hK K
  iterate 2 with_reducible refine st ?_
  with_reducible refine ln ?_
  refine⟨rfl,ag,n,_,l,aq,H1.out,H2.out,H3.out,H4.out,rfl⟩
 rintro Y w2 ⟨b,n,u,l,k3,x,Q,V,J,rfl⟩;have C:=b.size.trans W;have N:=b.defers.trans M;have I:Kz n (n.alloc (.cells #[u] 175)):=(aB.refl _ _).alloc _;have G:=J.trans I (fun _ _ h=>h);have y:bZ (n.alloc (.cells #[u] 175)) pb u l:=V.keep (I.mono fun _ _ h=>h.elim);have X:=aX n [u] 175 0 u rfl;have a4:=J.size;refine wp_seq (vL (HH.out.new G) Y C (b.Q7 j0 rfl) (b.Q7 k2 rfl) k3 X (by simp) (by omega) y x Q _ (fun a3 w3 u3 r l2 j a5 D S=>?_));have an:=r.size.trans C;have O:=r.defers.trans N;have l0:=r.Q7 (b.Q7 j0 rfl) rfl;have a0:=qc P.Q5;have U:fB w3 pb u3 (iL P.Q5):=fZ j (yh D.QL) (by omega) (by simp;omega);have HC:=hh (kj D U 3 rfl);have HK:=hh ((G.mono fun _ _ h=>h.elim:aB (fun k=>k=pb) w1 _).trans S (fun _ _ e=>e));clear U j D S y V I G J x Q X r b q;refine Code.wp_only (R:=fun a9 w9=>a9.defers=[]∧aF B w9 pb v P fD (dT 3 (iL P.Q5)++P.Q5.flatMap (oo P))∧aB (fun k=>k=pb) w3 w9) ?_ ?_
 ·obtain⟨T,d⟩:=a3
  refine rl ?_
  iterate 2 with_reducible refine st ?_
  with_reducible refine Lz (fun K hK=>?_)
  go_simp;refine HC.out.mono ?_;rintro e w9 ⟨rfl,E,H⟩;with_reducible refine hK _ _ (ln ?_)
  exact⟨rfl,O,E,H⟩
 rintro a9 w9 ⟨ac,E,H⟩;refine ej rfl ac ⟨rfl,E.congr fun p=>?_,HK.out.trans H (fun _ _ e=>e)⟩;unfold eB;rw[show P.fixed=iL P.Q5 from rfl];simp only[List.mem_append,or_comm]
theorem vj{v:aV}{P:aC}(h:aF B w pb v P ea L){z y:Nat}{x:Ck.Map}{t:jF}(g:aN w z 0 [.int .i64 x.pos,.string x.of,.int .u64 x.Q7,.bool x.write,.bool x.exec])(j:aN w y 0 [.int .u64 t.size,.bool t.big,.bool t.wx])(G:x.Q7<lim)(E:t.size<lim)(a:Act)(V:a.tmps.size=108)(Y:At a 0 (.pointer (some ⟨pb,0,none⟩)))(Z:At a 9 (.pointer (some ⟨z,0,none⟩)))(M:At a 10 (.pointer (some ⟨y,0,none⟩)))(Q:Exit→Act→World→Prop)
 (H:∀n w',aA (fun i=>(rg 42 52 i)) a n→aF B w' pb v P ea (say (decide (x.Q7%fF t.big=0)) x.pos 0++L)→aB (fun k=>k=pb) w w'→Q .normal n w'):
 (al Tryz.f53 [1,1,1,0,0,1,1,0,0,1,1,1,0,1,0,0,1,1,0,0,1,1,0]).wp Tryz.prog Q a w:=by
 unfold lim at G E;refine Code.wp_only (R:=fun n w'=>aA (fun i=>(rg 42 52 i)) a n∧aF B w' pb v P ea (say (decide (x.Q7%fF t.big=0)) x.pos 0++L)∧aB (fun k=>k=pb) w w') ?_ (fun J X h=>H J X h.1 h.2.1 h.2.2);clear H
 conv=>arg 2;whnf
 have q0:=g.c0;have q1:=g 1 _ rfl;have q2:=g 2 _ rfl;have q3:=g 3 _ rfl;have q4:=g 4 _ rfl;have y0:=j.c0;have y1:=j 1 _ rfl;have y2:=j 2 _ rfl;obtain⟨U,q⟩:∃u,u=fF t.big:=⟨_,rfl⟩;have l:=fun W=>ee (pR t.big W)
 rw[←q]at l;have C:0<U:=by rw[q];unfold fF;split<;>omega
 have N:¬ (U=0):=by omega
 have O:((U:Int)==0)=false:=by simp;omega
 obtain⟨b,S⟩:∃b,((x.Q7:Int).tmod (U:Int)==0)=b:=⟨_,rfl⟩;have I:Hid (say (decide (x.Q7%fF t.big=0)) x.pos 0=say b x.pos 0):=by
  refine hh ?_;rw[←S,←q,show((x.Q7:Int).tmod (U:Int))=((x.Q7%U:Nat):Int) from rfl]
  congr 1
  rw[eG];exact decide_eq_decide.2 (by omega)
 have r:=hh (h.new ((aB.refl _ w).drew));clear h g j q C;obtain⟨T,d⟩:=a;refine wp_region_still_tail 10 (by kernel_rfl) (by kernel_rfl) ?_;simp only[List.take_succ_cons,List.take_zero,List.drop_succ_cons,List.drop_zero]
 iterate 5 with_reducible refine sl ?_
 with_reducible refine wpStill_step (fun K p=>?_)
 go_simp;with_reducible refine⟨_,l _,p _ ?_⟩;clear p K
 iterate 4 with_reducible refine sl ?_
 with_reducible refine wpStill_nil ?_;refine Lz (fun K p=>?_)
 go_simp;refine(aO _ _ 0 33 r.out rfl).mono ?_;rintro e w2 ⟨rfl,A,D⟩;with_reducible refine p _ _ (ln ?_)
 refine⟨rfl,?_,?_,?_⟩
 ·exact ag
 ·rw[I.out]
  exact A
 ·exact((aB.refl _ _).drew).trans D (fun _ _ e=>e)
theorem tp{v:aV}{P:aC}(h:aF B w pb v P ea L){z y:Nat}{x:Ck.Map}{t:jF}(g:aN w z 0 [.int .i64 x.pos,.string x.of,.int .u64 x.Q7,.bool x.write,.bool x.exec])(j:aN w y 0 [.int .u64 t.size,.bool t.big,.bool t.wx])(p:x.Q7<lim)(n:t.size<lim)(a:Act)(J:a.tmps.size=108)(O:At a 0 (.pointer (some ⟨pb,0,none⟩)))(S:At a 9 (.pointer (some ⟨z,0,none⟩)))(I:At a 10 (.pointer (some ⟨y,0,none⟩)))(Q:Exit→Act→World→Prop)
 (E:∀q w',aA (fun i=>(rg 53 61 i)) a q→aF B w' pb v P ea (say (below x.Q7 t.size 549755813888) x.pos 1++L)→aB (fun k=>k=pb) w w'→Q .normal q w'):
 (al Tryz.f53 [1,1,1,0,0,1,1,0,0,1,1,1,0,1,0,0,1,1,0,0,1,1,1,0]).wp Tryz.prog Q a w:=by
 unfold lim at p n;refine Code.wp_only (R:=fun q w'=>aA (fun i=>(rg 53 61 i)) a q∧aF B w' pb v P ea (say (below x.Q7 t.size 549755813888) x.pos 1++L)∧aB (fun k=>k=pb) w w') ?_ (fun H N h=>E H N h.1 h.2.1 h.2.2);clear E
 conv=>arg 2;whnf
 have U:=g.c0;have V:=g 1 _ rfl;have W:=g 2 _ rfl;have X:=g 3 _ rfl;have Y:=g 4 _ rfl;have y0:=j.c0;have y1:=j 1 _ rfl;have y2:=j 2 _ rfl;obtain⟨b,C⟩:∃b,b=below x.Q7 t.size 549755813888:=⟨_,rfl⟩;have l:=fun M=>ee (jP x.Q7 t.size 549755813888 M p n (by decide))
 rw[←C]at l;have G:Hid (say (below x.Q7 t.size 549755813888) x.pos 1=say b x.pos 1):=by rw[←C];exact hh rfl
 have u:=hh (h.new ((aB.refl _ w).drew));clear h g j C;obtain⟨T,d⟩:=a;refine wp_region_still_tail 8 (by kernel_rfl) (by kernel_rfl) ?_;simp only[List.take_succ_cons,List.take_zero,List.drop_succ_cons,List.drop_zero]
 iterate 5 with_reducible refine sl ?_
 with_reducible refine wpStill_step (fun K r=>?_)
 go_simp;with_reducible refine⟨_,l _,r _ ?_⟩;clear r K
 iterate 2 with_reducible refine sl ?_
 with_reducible refine wpStill_nil ?_;refine Lz (fun K r=>?_)
 go_simp;refine(aO _ _ 1 40 u.out rfl).mono ?_;rintro e Z ⟨rfl,A,D⟩;with_reducible refine r _ _ (ln ?_)
 refine⟨rfl,?_,?_,?_⟩
 ·exact ag
 ·rw[G.out]
  exact A
 ·exact((aB.refl _ _).drew).trans D (fun _ _ e=>e)
theorem vk{v:aV}{P:aC}(h:aF B w pb v P ea L){z y:Nat}{x:Ck.Map}{t:jF}(l:aN w z 0 [.int .i64 x.pos,.string x.of,.int .u64 x.Q7,.bool x.write,.bool x.exec])(p:aN w y 0 [.int .u64 t.size,.bool t.big,.bool t.wx])(E:x.Q7<lim)(D:t.size<lim)(a:Act)(S:a.tmps.size=108)(Z:At a 0 (.pointer (some ⟨pb,0,none⟩)))(h9:At a 9 (.pointer (some ⟨z,0,none⟩)))(O:At a 10 (.pointer (some ⟨y,0,none⟩))){dv:Bool}(h6:At a 6 (.bool dv))(Q:Exit→Act→World→Prop)
 (J:∀u w',aA (fun i=>(rg 62 81 i)) a u→aF B w' pb v P ea (say (!x.exec || !dv&&(t.wx || !x.write)) x.pos 3++L)→aB (fun k=>k=pb) w w'→Q .normal u w'):
 (al Tryz.f53 [1,1,1,0,0,1,1,0,0,1,1,1,0,1,0,0,1,1,0,0,1,1,1,1,0]).wp Tryz.prog Q a w:=by
 unfold lim at E D;refine Code.wp_only (R:=fun u w'=>aA (fun i=>(rg 62 81 i)) a u∧aF B w' pb v P ea (say (!x.exec || !dv&&(t.wx || !x.write)) x.pos 3++L)∧aB (fun k=>k=pb) w w') ?_ (fun M X h=>J M X h.1 h.2.1 h.2.2);clear J
 conv=>arg 2;whnf
 have q0:=l.c0;have q1:=l 1 _ rfl;have q2:=l 2 _ rfl;have V:=l 3 _ rfl;have W:=l 4 _ rfl;have y0:=p.c0;have y1:=p 1 _ rfl;have Y:=p 2 _ rfl;obtain⟨H,A⟩:∃b,x.exec=b:=⟨_,rfl⟩;obtain⟨I,C⟩:∃b,t.wx=b:=⟨_,rfl⟩;obtain⟨N,e3⟩:∃b,x.write=b:=⟨_,rfl⟩;rw[A]at W;rw[C]at Y;rw[e3]at V;have r:Hid (say (!x.exec || !dv&&(t.wx || !x.write)) x.pos 3=say (!H || !dv&&(I || !N)) x.pos 3):=by rw[A,C,e3];exact hh rfl
 have n:=hh h;have U:=aJ;clear h l p A C e3;obtain⟨T,d⟩:=a;refine rl ?_
 cases H
 ·skip
  iterate 19 with_reducible refine st ?_
  with_reducible refine Lz (fun K q=>?_)
  go_simp;refine(aO _ _ 3 104 n.out rfl).mono ?_;rintro e G ⟨rfl,g,j⟩;with_reducible refine q _ _ (ln ?_)
  refine⟨rfl,?_,?_,?_⟩
  ·exact ag
  ·rw[r.out]
   exact g
  ·exact j
 ·cases dv
  ·cases I
   ·skip
    iterate 19 with_reducible refine st ?_
    with_reducible refine Lz (fun K q=>?_)
    go_simp;refine(aO _ _ 3 104 n.out rfl).mono ?_;rintro e G ⟨rfl,g,j⟩;with_reducible refine q _ _ (ln ?_)
    refine⟨rfl,?_,?_,?_⟩
    ·exact ag
    ·rw[r.out]
     simpa using g
    ·exact j
   ·skip
    iterate 19 with_reducible refine st ?_
    with_reducible refine Lz (fun K q=>?_)
    go_simp;refine(aO _ _ 3 104 n.out rfl).mono ?_;rintro e G ⟨rfl,g,j⟩;with_reducible refine q _ _ (ln ?_)
    refine⟨rfl,?_,?_,?_⟩
    ·exact ag
    ·rw[r.out]
     simpa using g
    ·exact j
  ·skip
   iterate 19 with_reducible refine st ?_
   with_reducible refine Lz (fun K q=>?_)
   go_simp;refine(aO _ _ 3 104 n.out rfl).mono ?_;rintro e G ⟨rfl,g,j⟩;with_reducible refine q _ _ (ln ?_)
   refine⟨rfl,?_,?_,?_⟩
   ·exact ag
   ·rw[r.out]
    exact g
   ·exact j
theorem tn{v:aV}{P:aC}(h:aF B w pb v P ea L){z y:Nat}{x:Ck.Map}{t:jF}(g:aN w z 0 [.int .i64 x.pos,.string x.of,.int .u64 x.Q7,.bool x.write,.bool x.exec])(j:aN w y 0 [.int .u64 t.size,.bool t.big,.bool t.wx])(A:x.Q7<lim)(u:t.size<lim)(a:Act)(M:a.tmps.size=108)(S:At a 0 (.pointer (some ⟨pb,0,none⟩)))(V:At a 9 (.pointer (some ⟨z,0,none⟩)))(I:At a 10 (.pointer (some ⟨y,0,none⟩))){n:Nat}(U:At a 3 (.int .u64 n))(Q:Exit→Act→World→Prop)
 (E:∀l w',aA (fun i=>(rg 87 92 i)) a l→aF B w' pb v P ea (say (decide (n≤131072)) x.pos 4++L)→aB (fun k=>k=pb) w w'→Q .normal l w'):
 (al Tryz.f53 [1,1,1,0,0,1,1,0,0,1,1,1,0,1,0,0,1,1,0,0,1,1,1,1,1,1,0]).wp Tryz.prog Q a w:=by
 unfold lim at A u;refine Code.wp_only (R:=fun l w'=>aA (fun i=>(rg 87 92 i)) a l∧aF B w' pb v P ea (say (decide (n≤131072)) x.pos 4++L)∧aB (fun k=>k=pb) w w') ?_ (fun H N h=>E H N h.1 h.2.1 h.2.2);clear E
 conv=>arg 2;whnf
 have W:=g.c0;have X:=g 1 _ rfl;have Y:=g 2 _ rfl;have Z:=g 3 _ rfl;have q4:=g 4 _ rfl;have y0:=j.c0;have y1:=j 1 _ rfl;have y2:=j 2 _ rfl;obtain⟨C,D⟩:∃b,decide (n≤131072)=b:=⟨_,rfl⟩;have G:Hid (say (decide (n≤131072)) x.pos 4=say C x.pos 4):=by rw[D];exact hh rfl
 have O:decide ((n:Int)≤131072)=C:=by rw[←D];exact decide_eq_decide.2 (by omega)
 have p:=hh h;clear h g j;obtain⟨T,d⟩:=a;refine rl ?_
 iterate 5 with_reducible refine st ?_
 with_reducible refine Lz (fun K J=>?_)
 go_simp;refine(aO _ _ 4 4 p.out rfl).mono ?_;rintro e w2 ⟨rfl,q,r⟩;with_reducible refine J _ _ (ln ?_)
 refine⟨rfl,?_,?_,?_⟩
 ·exact ag
 ·rw[G.out]
  exact q
 ·exact r
theorem xR{v:aV}{P:aC}(h:aF B w pb v P ea L){z y:Nat}{x:Ck.Map}{t:jF}(n:aN w z 0 [.int .i64 x.pos,.string x.of,.int .u64 x.Q7,.bool x.write,.bool x.exec])(A:aN w y 0 [.int .u64 t.size,.bool t.big,.bool t.wx])(a:Act)(r:a.tmps.size=108)(W:At a 9 (.pointer (some ⟨z,0,none⟩)))(S:At a 10 (.pointer (some ⟨y,0,none⟩))){Z:Nat}{u:Value}{l:List dU}(V:At a 7 u)(O:Hid (w.ownsRow Z 170 3 u l.length (ax l)))(hl:l.length≤8388608)(X:Z≤w.heap.size)(J:B≤Z)(Q:Exit→Act→World→Prop)
 (K:∀I w' C,aA (fun i=>i==7||(rg 93 102 i)) a I→At I 7 C→w'.ownsRow Z 170 3 C (l.length+1) (ax (l++[⟨x.Q7,t.size,x.pos⟩]))→aF B w' pb v P ea L→aB (fun k=>u.ownBlock=some k) w w'→Q .normal I w'):
 (al Tryz.f53 [1,1,1,0,0,1,1,0,0,1,1,1,0,1,0,0,1,1,0,0,1,1,1,1,1,1,1]).wp Tryz.prog Q a w:=by
 conv=>arg 2;whnf
 refine Code.wp_only (R:=fun D q=>aA (fun i=>i==7||(rg 93 102 i)) a D∧(∃C,At D 7 C∧q.ownsRow Z 170 3 C (l.length+1) (ax (l++[⟨x.Q7,t.size,x.pos⟩])))∧aF B q pb v P ea L∧aB (fun k=>u.ownBlock=some k) w q) ?_ (fun D q h=>K D q h.2.1.choose h.1 h.2.1.choose_spec.1 h.2.1.choose_spec.2 h.2.2.1 h.2.2.2);clear K;have q0:=n.c0;have q2:=n 2 _ rfl;have y0:=A.c0;have N:=hh h;clear h n A;obtain⟨T,d⟩:=a;refine rl ?_
 iterate 9 with_reducible refine st ?_
 have M:=aX w [.int .u64 x.Q7,.int .u64 t.size,.int .i64 x.pos] 170;have b:Kz w (w.alloc (.cells #[.int .u64 x.Q7,.int .u64 t.size,.int .i64 x.pos] 170)):=(aB.refl _ _).alloc _;have g:=hh (am O.out b (fun _ _ h=>h));refine l8 (p:=⟨x.Q7,t.size,x.pos⟩) rfl rfl rfl (At.eval (by exact aq) (by have:=r;simp at this⊢; omega)) g.out (by omega) (At.eval (by exact aq) (by have:=r;simp at this⊢; omega)) M (by have:=b.size;omega) ?_;intro U q e j;have H:=hh e;have E:Hid (aB (fun k=>u.ownBlock=some k) w q):=(b.mono fun _ _ h=>h.elim).trans j (fun i Y h=>h);have G:=hh ((N.out.new b).grown g.out J (by decide) j);clear e j M b g;simp only[Act.put];with_reducible refine st ?_;refine ln ?_
 refine⟨rfl,ag,⟨U,aq,H.out⟩,G.out,E.out⟩
def oz(P:aC)(dv:Bool)(n:Nat)(x:Ck.Map):List Wr:=
 say (decide (x.Q7%fF (aU P x.of).big=0)) x.pos 0++say (below x.Q7 (aU P x.of).size 549755813888) x.pos 1++say (!x.exec || !dv&&((aU P x.of).wx || !x.write)) x.pos 3++say (decide ((n+(aU P x.of).size / 4096)%M64≤131072)) x.pos 4
theorem ko(P:aC)(dv:Bool)(x:Ck.Map):∀(l:List Ck.Map) (n:Nat),bN P dv n (l++[x])=((bN P dv n l).1++oz P dv (bN P dv n l).2 x,((bN P dv n l).2+(aU P x.of).size / 4096)%M64)
 | [],n=>by simp[bN,oz];rfl
 | m::t,n=>by
  have a:=ko P dv x t ((n+(aU P m.of).size / 4096)%M64);simp only[List.cons_append,bN,a,List.append_assoc]
theorem kO(P:aC)(dv:Bool):∀(l:List Ck.Map) (n:Nat),n<lim→(bN P dv n l).2<lim
 | [],n,h=>h
 | m::t,n,h=>kO P dv t _ (Nat.mod_lt _ (by decide))
theorem nQ(P:aC)(l:List Ck.Map)(x:Ck.Map):bR P (l++[x])=bR P l++[⟨x.Q7,(aU P x.of).size,x.pos⟩]:=by simp[bR]
theorem rc{v:aV}{P:aC}(h:aF B w pb v P ea L){mb:Nat}(hm:cn w mb P)(d4:mb<w.heap.size)(c5:mb≠pb)(cv:∀s,(aU P s).size<lim){A:Option Addr}{c:Nat}{l:List Ck.Map}(hs:aT B 5 cD w (.slice A l.length c) l){n0:Nat}(c6:n0<lim){dv:Bool}(a:Act)(c8:a.tmps.size=108)(h0:At a 0 (.pointer (some ⟨pb,0,none⟩)))(h2:At a 2 (.map (some mb)))(h3:At a 3 (.int .u64 n0))(h5:At a 5 (.slice A l.length c))(h6:At a 6 (.bool dv))(h7:At a 7 (.slice none 0 0))(Q:Exit→Act→World→Prop)
 (hQ:∀a' w' u',aA (fun i=>i==3||i==7||i==9||i==10||(rg 32 103 i)) a a'→At a' 7 u'→w'.ownsRow w.heap.size 170 3 u' (bR P l).length (ax (bR P l))→l.length≤8388608→At a' 3 (.int .u64 (bN P dv n0 l).2)→aF B w' pb v P ea ((bN P dv n0 l).1++L)→aB (fun k=>k=pb) w w'→Q .normal a' w'):
 (al Tryz.f53 [1,1,1,0,0,1,1,0,0,1,1,1,0]).wp Tryz.prog Q a w:=by
 obtain⟨_,_,e,d5,hn,hl⟩:=hs
 cases e
 unfold top at hn;have d3:=h.lt;have d1:=h.base;have HM:=hh hm;have cy:=hh cv;clear hm cv
 conv=>arg 2;whnf
 refine so (fun a1 w1=>aA (fun i=>(rg 32 34 i)) a a1∧At a1 32 (.slice A l.length c)∧At a1 33 (.int .i64 l.length)∧At a1 34 (.int .i64 0)∧w1=w) ?_ ?_
 ·clear hl
  obtain⟨T,d⟩:=a;refine rl ?_
  iterate 3 with_reducible refine st ?_
  with_reducible refine ln ?_
  refine⟨rfl,ag,aq,aq,aq,rfl⟩
 rintro a0 w0 ⟨an,ds,dl,di,rfl⟩;have cs:=an.size.trans c8;replace h0:=an.Q7 h0 rfl;replace h2:=an.Q7 h2 rfl;replace h3:=an.Q7 h3 rfl;replace h6:=an.Q7 h6 rfl;replace h7:=an.Q7 h7 rfl;obtain⟨Z,hZ⟩:∃z,z=w0.heap.size:=⟨_,rfl⟩;rw[←hZ]at hQ;have HZ:=hh hZ;clear hZ;refine ai l.length (fun i=>i==3||i==7||i==9||i==10||(rg 34 103 i)) (fun i=>i==3||i==7||i==9||i==10||(rg 36 102 i)) (fun k a' w'=>∃u,At a' 7 u∧w'.ownsRow Z 170 3 u (bR P (l.take k)).length (ax (bR P (l.take k)))∧At a' 3 (.int .u64 (bN P dv n0 (l.take k)).2)∧aF B w' pb v P ea ((bN P dv n0 (l.take k)).1++L)∧aB (fun k=>k=pb) w0 w') (by omega) di dl (by decide) rfl
  (by intro j;simp;omega) (by omega) (by decide) (fun k a1 a2 w hA ⟨u,h1,h2,h3,h4⟩=>⟨u,hA.Q7 h1 rfl,h2,hA.Q7 h3 rfl,h4⟩) ⟨_,h7,by simpa[bR,ax]using World.ownsRow_nil _ _ _ _,by simpa[bN]using h3,by simpa[bN]using h,aB.refl _ _⟩ ?_ ?_
 ·rintro k a1 wr ci hA dk ⟨u,G,Y,r,hL,hk⟩
  obtain⟨bl,off,rfl,c3,cd⟩:=hl (by omega);obtain⟨x,hx⟩:=ge ci;obtain⟨hc,ah⟩:=(aK B _ _) _ _ _ _ _ (hk.below (B:=B) (by omega) (fun _ hi e=>by omega)) c3 (cd k x hx);have q0:=hc.c0;have q1:=hc 1 _ rfl;have q2:=hc 2 _ rfl;have q3:=hc 3 _ rfl;have q4:=hc 4 _ rfl;have D:=hA.Q7 h0 rfl;have K:=hA.Q7 h2 rfl;have J:=hA.Q7 h6 rfl;have cw:=hA.Q7 ds rfl;have ct:=hA.size.trans cs;have cu:=hk.size;have cc:bl<wr.heap.size:=by omega
  have d2:k≤c:=by omega
  have bm:Hid (bN P dv n0 (l.take (k+1))=((bN P dv n0 (l.take k)).1++oz P dv (bN P dv n0 (l.take k)).2 x,((bN P dv n0 (l.take k)).2+(aU P x.of).size / 4096)%M64)):=by
   refine hh ?_;rw[aP hx,ko]
  have HR:Hid (bR P (l.take (k+1))=bR P (l.take k)++[⟨x.Q7,(aU P x.of).size,x.pos⟩]):=by
   refine hh ?_;rw[aP hx,nQ]
  have c7:(bR P (l.take k)).length≤k:=by simp[bR];omega
  have cl:=kO P dv (l.take k) n0 c6;obtain⟨fs,cf⟩:∃q,q=bR P (l.take k):=⟨_,rfl⟩;rw[←cf]at Y HR c7;clear cf;obtain⟨⟨S,n⟩,cp⟩:∃q,q=bN P dv n0 (l.take k):=⟨_,rfl⟩;rw[←cp]at r hL bm cl;clear cp
  dsimp only at r hL bm cl
  obtain⟨t,ht⟩:∃t,t=aU P x.of:=⟨_,rfl⟩;have bp:t.size<lim:=by rw[ht];exact cy.out _
  rw[←ht]at HR bm;have HT:=hh ht;have HO:=hh Y;have HL:=hh hL;have HK:=hh hk;have HA:=hh hA;clear hx Y hk hA cd hc hl hL ht;refine so (fun a2 w2=>aA (fun i=>i==36||i==37||i==9) a1 a2∧At a2 9 (.pointer (some ⟨wr.heap.size,0,none⟩))∧w2=wr.alloc (.cells #[.int .i64 x.pos,.string x.of,.int .u64 x.Q7,.bool x.write,.bool x.exec] 71)) ?_ ?_
  ·obtain⟨T,d⟩:=a1
   refine rl ?_
   iterate 4 with_reducible refine st ?_
   with_reducible refine ln ?_
   refine⟨rfl,ag,aq,rfl⟩
  rintro a2 wo ⟨af,E,bz⟩;obtain⟨z,hz⟩:∃z,z=wr.heap.size:=⟨_,rfl⟩;rw[←hz]at E;have C:aN wo z 0 [.int .i64 x.pos,.string x.of,.int .u64 x.Q7,.bool x.write,.bool x.exec]:=by rw[bz,hz];exact aX _ _ _
  have I:z<wo.heap.size:=by rw[bz,hz];simp
  have bu:Kz wr wo:=by rw[bz];exact(aB.refl _ _).alloc _
  have bj:z≠pb:=by omega
  have d0:pb<z:=by omega
  have b:=af.size.trans ct;have D:=af.Q7 D rfl;have K:=af.Q7 K rfl;have r:=af.Q7 r rfl;have J:=af.Q7 J rfl;have G:=af.Q7 G rfl;have bt:Hid (∀k,u.ownBlock=some k→k<z∧k≠pb):=fun k hk=>by have h1:=(HO.out.lt k hk);have:=HZ.out;omega
  have HO:=hh (am HO.out bu (fun _ _ h=>h));have R:=hh (HL.out.new bu);have N:=hh (HK.out.trans bu (fun _ _ h=>h.elim));have M:Hid (aA (fun i=>i==3||i==7||i==9||i==10||(rg 36 102 i)) a1 a2):=af.m;clear bz hz bu HL HK af cw dk cu cc q0 q1 q2 q3 q4;obtain⟨nm,cm⟩:=HM.out;have b1:=hh (cm.keep N.out c5);clear cm;refine so (fun a3 w3=>aA (fun i=>i==10||(rg 38 41 i)) a2 a3∧At a3 10 (.pointer (some ⟨wo.heap.size,0,none⟩))∧w3=wo.alloc (.cells #[.int .u64 t.size,.bool t.big,.bool t.wx] 182)) ?_ ?_
  ·have q1:=C 1 _ rfl
   clear C;obtain⟨T,d⟩:=a2;refine rl ?_
   iterate 3 with_reducible refine st ?_
   refine dA.lookup rfl b1.out rfl rfl Tryz.underlying121 sL (At.eval (by exact aq) (by have:=b;simp at this⊢; omega)) (At.eval (by exact aq) (by have:=b;simp at this⊢; omega)) (by have:=ah.2.2;unfold ae at this;unfold maxLen;omega) ?_;rw[←HT.out];simp only[Act.put,uM]
   iterate 2 with_reducible refine st ?_
   with_reducible refine ln ?_
   refine⟨rfl,ag,aq,rfl⟩
  rintro a3 w3 ⟨ac,g,bx⟩;obtain⟨y,hy⟩:∃y,y=wo.heap.size:=⟨_,rfl⟩;rw[←hy]at g;have H:aN w3 y 0 [.int .u64 t.size,.bool t.big,.bool t.wx]:=by rw[bx,hy];exact aX _ _ _
  have O:y<w3.heap.size:=by rw[bx,hy];simp
  have bo:Kz wo w3:=by rw[bx];exact(aB.refl _ _).alloc _
  have bf:y≠pb:=by omega
  have d6:z<y:=by omega
  have C:=C.keep bo I (fun h=>h);have I:z<w3.heap.size:=Nat.lt_of_lt_of_le I bo.size;have HO:=hh (am HO.out bo (fun _ _ h=>h));have R:=hh (R.out.new bo);have N:=hh (N.out.trans bo (fun _ _ h=>h.elim));have c1:True:=trivial;clear bx hy;have D:=ac.Q7 D rfl;have K:=ac.Q7 K rfl;have r:=ac.Q7 r rfl;have J:=ac.Q7 J rfl;have G:=ac.Q7 G rfl;have E:=ac.Q7 E rfl;have b:=ac.size.trans b;have M:Hid (aA (fun i=>i==3||i==7||i==9||i==10||(rg 36 102 i)) a1 a3):=M.out.t ac;clear ac bo b1 c1;refine wp_seq (vj R.out C H ah.2.1 bp a3 b D E g _ (fun a4 w4 U b3 bb=>?_));have C:=C.keep bb I bj;have I:z<w4.heap.size:=Nat.lt_of_lt_of_le I bb.size;have H:=H.keep bb O bf;have O:y<w4.heap.size:=Nat.lt_of_lt_of_le O bb.size;have HO:=hh (am HO.out bb (fun j hj e=>(bt.out j hj).2 e));have R:=hh b3;have N:=hh (N.out.trans bb (fun _ _ e=>e));have D:=U.Q7 D rfl;have K:=U.Q7 K rfl;have r:=U.Q7 r rfl;have J:=U.Q7 J rfl;have G:=U.Q7 G rfl;have E:=U.Q7 E rfl;have g:=U.Q7 g rfl;have b:=U.size.trans b;have M:Hid (aA (fun i=>i==3||i==7||i==9||i==10||(rg 36 102 i)) a1 a4):=M.out.t U;clear U b3 bb;refine wp_seq (tp R.out C H ah.2.1 bp a4 b D E g _ (fun a5 w5 V b4 bc=>?_));have C:=C.keep bc I bj;have I:z<w5.heap.size:=Nat.lt_of_lt_of_le I bc.size;have H:=H.keep bc O bf;have O:y<w5.heap.size:=Nat.lt_of_lt_of_le O bc.size;have HO:=hh (am HO.out bc (fun j hj e=>(bt.out j hj).2 e));have R:=hh b4;have N:=hh (N.out.trans bc (fun _ _ e=>e));have D:=V.Q7 D rfl;have K:=V.Q7 K rfl;have r:=V.Q7 r rfl;have J:=V.Q7 J rfl;have G:=V.Q7 G rfl;have E:=V.Q7 E rfl;have g:=V.Q7 g rfl;have b:=V.size.trans b;have M:Hid (aA (fun i=>i==3||i==7||i==9||i==10||(rg 36 102 i)) a1 a5):=M.out.t V;clear V b4 bc;refine wp_seq (vk R.out C H ah.2.1 bp a5 b D E g J _ (fun a6 w6 W b5 bd=>?_));have C:=C.keep bd I bj;have I:z<w6.heap.size:=Nat.lt_of_lt_of_le I bd.size;have H:=H.keep bd O bf;have O:y<w6.heap.size:=Nat.lt_of_lt_of_le O bd.size;have HO:=hh (am HO.out bd (fun j hj e=>(bt.out j hj).2 e));have R:=hh b5;have N:=hh (N.out.trans bd (fun _ _ e=>e));have D:=W.Q7 D rfl;have K:=W.Q7 K rfl;have r:=W.Q7 r rfl;have J:=W.Q7 J rfl;have G:=W.Q7 G rfl;have E:=W.Q7 E rfl;have g:=W.Q7 g rfl;have b:=W.size.trans b;have M:Hid (aA (fun i=>i==3||i==7||i==9||i==10||(rg 36 102 i)) a1 a6):=M.out.t W;clear W b5 bd;obtain⟨n2,bw⟩:∃m,m=(n+t.size / 4096)%M64:=⟨_,rfl⟩;have c9:IntKind.u64.wrap ((n:Int)+IntKind.u64.wrap ((t.size:Int) / 4096))=(n2:Int):=by
   unfold lim at bp;rw[bw,IntKind.wrap_u64,IntKind.wrap_u64];show _=(((n+t.size / 4096)%18446744073709551616:Nat):Int);omega
  rw[←bw]at bm;have cx:=hh bw;clear bw;refine so (fun a7 w7=>aA (fun i=>i==3||(rg 82 86 i)) a6 a7∧At a7 3 (.int .u64 n2)∧w7=w6) ?_ ?_
  ·have y0:=H.c0
   clear C H;obtain⟨T,d⟩:=a6;refine rl ?_
   iterate 6 with_reducible refine st ?_
   with_reducible refine ln ?_
   refine⟨rfl,ag,aq,rfl⟩
  rintro a7 w7 ⟨ad,r,rfl⟩;have D:=ad.Q7 D rfl;have K:=ad.Q7 K rfl;have J:=ad.Q7 J rfl;have G:=ad.Q7 G rfl;have E:=ad.Q7 E rfl;have g:=ad.Q7 g rfl;have b:=ad.size.trans b;have M:Hid (aA (fun i=>i==3||i==7||i==9||i==10||(rg 36 102 i)) a1 a7):=M.out.t ad;clear ad c9;refine wp_seq (tn R.out C H ah.2.1 bp a7 b D E g r _ (fun a8 w8 X cb be=>?_));have C:=C.keep be I bj;have I:z<w8.heap.size:=Nat.lt_of_lt_of_le I be.size;have H:=H.keep be O bf;have O:y<w8.heap.size:=Nat.lt_of_lt_of_le O be.size;have HO:=hh (am HO.out be (fun j hj e=>(bt.out j hj).2 e));have R:=hh cb;have N:=hh (N.out.trans be (fun _ _ e=>e));have D:=X.Q7 D rfl;have K:=X.Q7 K rfl;have r:=X.Q7 r rfl;have J:=X.Q7 J rfl;have G:=X.Q7 G rfl;have E:=X.Q7 E rfl;have g:=X.Q7 g rfl;have b:=X.size.trans b;have M:Hid (aA (fun i=>i==3||i==7||i==9||i==10||(rg 36 102 i)) a1 a8):=M.out.t X;clear X cb be;refine xR R.out C H a8 b E g G HO (by omega) (by have:=N.out.size;have:=HZ.out;omega) (by have:=HZ.out;omega) _ (fun a9 w9 u9 b2 k7 b0 c2 c4=>?_);refine⟨M.out.t b2,u9,k7,?_,?_,c2.congr fun p=>?_,N.out.trans c4 (fun j hj e=>?_)⟩
  ·rw[HR.out,List.length_append];exact b0
  ·rw[bm.out];exact b2.Q7 r rfl
  ·rw[bm.out]
   simp only[List.mem_append,oz,←HT.out,←cx.out]
   try simp only[or_assoc,or_comm,or_left_comm]
  ·have:=(HO.out.lt j e).1;have:=HZ.out;omega
 ·rintro a' w' hA ⟨u,G,Y,r,hL,hk⟩
  rw[List.take_length]at Y hL r;exact hQ _ _ _ ((an.m).t hA) G Y (by omega) r hL hk
def fX(P:aC):Nat→List Wr×Nat
 | 0=>([],0)
 | k+1=>match P.spaces[k]? with
  | some l=>(dT 2 (bR P l)++((bN P (decide (P.Q3.length≤k)) (fX P k).2 l).1++(fX P k).1),(bN P (decide (P.Q3.length≤k)) (fX P k).2 l).2)
  | none=>fX P k
theorem oc(P:aC):∀k,(fX P k).2<lim
 | 0=>by simp[fX]
 | k+1=>by
  unfold fX;split
  ·exact kO P _ _ _ (oc P k)
  ·exact oc P k
theorem i6(P:aC)(dv:Bool)(l:List Ck.Map):∀(t:List (List Ck.Map)) (n:Nat),bY P dv n (t++[l])=((bY P dv n t).1++((bN P dv (bY P dv n t).2 l).1++dT 2 (bR P l)),(bN P dv (bY P dv n t).2 l).2)
 | [],n=>by simp[bY]
 | m::t,n=>by
  have a:=i6 P dv l t (bN P dv n m).2;simp only[List.cons_append,bY,a,List.append_assoc]
theorem nz(P:aC):∀k,k≤P.Q3.length→(fX P k).2=(bY P false 0 ((P.Q3.map aS.maps).take k)).2∧∀p,p∈(fX P k).1↔p∈(bY P false 0 ((P.Q3.map aS.maps).take k)).1
 | 0,_=>by simp[fX,bY]
 | k+1,h=>by
  obtain⟨d,e⟩:=nz P k (by omega);have hk:k<(P.Q3.map aS.maps).length:=by rw[List.length_map];omega
  have a:P.spaces[k]?=some (P.Q3.map aS.maps)[k]:=by unfold aC.spaces;rw[List.getElem?_append_left hk,Ez hk]
  have b:(P.Q3.map aS.maps).take (k+1)=(P.Q3.map aS.maps).take k++[(P.Q3.map aS.maps)[k]]:=List.take_succ_eq_append_getElem hk;have e3:decide (P.Q3.length≤k)=false:=by simp;omega
  rw[b,i6];unfold fX;rw[a,e3]
  dsimp only
  rw[d];refine⟨rfl,fun p=>?_⟩;simp only[List.mem_append,e];constructor
  ·rintro(h|h|h)
   ·exact .inr (.inr h)
   ·exact .inr (.inl h)
   ·exact .inl h
  ·rintro(h|h|h)
   ·exact .inr (.inr h)
   ·exact .inr (.inl h)
   ·exact .inl h
theorem o8(P:aC):∀k,k≤P.Q4.length→(fX P (P.Q3.length+k)).2=(bY P true (bY P false 0 (P.Q3.map aS.maps)).2 ((P.Q4.map bE.maps).take k)).2∧∀p,p∈(fX P (P.Q3.length+k)).1↔p∈(bY P false 0 (P.Q3.map aS.maps)).1++(bY P true (bY P false 0 (P.Q3.map aS.maps)).2 ((P.Q4.map bE.maps).take k)).1
 | 0,_=>by
  obtain⟨a,b⟩:=nz P P.Q3.length (Nat.le_refl _);rw[List.take_of_length_le (by rw[List.length_map];exact Nat.le_refl _)]at a b;refine⟨by simpa[bY]using a,fun p=>?_⟩
  simpa[bY]using b p
 | k+1,h=>by
  obtain⟨a,b⟩:=o8 P k (by omega);have hk:k<(P.Q4.map bE.maps).length:=by rw[List.length_map];omega
  have d:P.spaces[P.Q3.length+k]?=some (P.Q4.map bE.maps)[k]:=by
   unfold aC.spaces;rw[List.getElem?_append_right (by simp),List.length_map,Nat.add_sub_cancel_left,Ez hk]
  have e:(P.Q4.map bE.maps).take (k+1)=(P.Q4.map bE.maps).take k++[(P.Q4.map bE.maps)[k]]:=List.take_succ_eq_append_getElem hk;have e3:decide (P.Q3.length≤P.Q3.length+k)=true:=by simp
  rw[e,i6,←Nat.add_assoc];unfold fX;rw[d,e3]
  dsimp only
  rw[a];refine⟨rfl,fun p=>?_⟩;have:=b p;simp only[List.mem_append]at this⊢;rw[this];constructor
  ·rintro(h|h|h|h)
   ·exact .inr (.inr (.inr h))
   ·exact .inr (.inr (.inl h))
   ·exact .inl h
   ·exact .inr (.inl h)
  ·rintro(h|h|h|h)
   ·exact .inr (.inr (.inl h))
   ·exact .inr (.inr (.inr h))
   ·exact .inr (.inl h)
   ·exact .inl h
theorem vB(P:aC)(p:Wr):p∈(fX P P.spaces.length).1↔p∈iV P:=by
 have h:=(o8 P P.Q4.length (Nat.le_refl _)).2 p;rw[List.take_of_length_le (by rw[List.length_map];exact Nat.le_refl _)]at h;have e:P.spaces.length=P.Q3.length+P.Q4.length:=by simp[aC.spaces]
 rw[e,h];rfl
theorem tm{v:aV}{P:aC}(h:aF B w pb v P ea []){mb:Nat}(hm:cn w mb P)(d8:mb<w.heap.size)(b1:mb≠pb)(a:Act)(c2:a.tmps.size=108)(h0:At a 0 (.pointer (some ⟨pb,0,none⟩)))(h2:At a 2 (.map (some mb)))(h3:At a 3 (.int .u64 (0:Nat)))(Q:Exit→Act→World→Prop)
 (hQ:∀a' w',aA (fun i=>i==3||i==4||i==5||i==6||i==7||i==9||i==10||(rg 16 107 i)) a a'→aF B w' pb v P ea (iV P)→aB (fun k=>k=pb) w w'→Q .normal a' w'):
 (al Tryz.f53 [1,1]).wp Tryz.prog Q a w:=by
 have d7:=h.lt;have d6:=h.base;have cd:=fun s=>lS h.QL s
 have cu:=hh (lX h);have HH:=hh h;have HM:=hh hm;have bp:=hh cd;clear h hm cd
 conv=>arg 2;whnf
 refine so (fun O w1=>aA (fun i=>(rg 16 19 i)) a O∧∃A c y,At O 17 (.slice A P.spaces.length c)∧At O 18 (.int .i64 P.spaces.length)∧At O 19 (.int .i64 0)∧w1.ownsRow w.heap.size 43 1 (.slice A P.spaces.length c) P.spaces.length y∧SpV B w y P.spaces∧Kz w w1) ?_ ?_
 ·obtain⟨T,d⟩:=a
  refine rl ?_;with_reducible refine st ?_;refine Lz (fun K hK=>?_)
  go_simp;refine cu.out.mono ?_;rintro e w1 ⟨u,y,rfl,r,G,ac⟩;have HV:=hh G;rw[G.1]at r;have HO:=hh r;have cp:=hh (gH ac rfl);obtain⟨A,c,rfl⟩:∃A c,u=.slice A P.spaces.length c:=by
   rcases r.2 with⟨e1,e2⟩|⟨g,cap,cv,e1,_⟩
   ·exact⟨_,_,by rw[e1,e2]⟩
   ·exact⟨_,_,e1⟩
  clear r G ac;with_reducible refine hK _ _ ?_;clear hK K
  iterate 2 with_reducible refine st ?_
  with_reducible refine ln ?_
  refine⟨rfl,ag,A,c,y,aq,aq,aq,HO.out,HV.out,cp.out⟩
 rintro a0 w0 ⟨J,A,c,y,dk,di,c8,r,G,Y⟩;have b5:=J.size.trans c2;replace h0:=J.Q7 h0 rfl;replace h2:=J.Q7 h2 rfl;replace h3:=J.Q7 h3 rfl;have ct:=hh (HH.out.new Y);have a6:=hh r;have bm:=hh G;have c3:=Y.size;have I:=hh Y;have d3:P.spaces.length≤4194304:=by
  obtain⟨_,_,_,_,cx,_⟩:=HH.out.QL.Q3;obtain⟨_,_,_,_,cy,_⟩:=HH.out.QL.Q4;unfold top at cx cy;simp only[aC.spaces,List.length_append,List.length_map];omega
 clear r G Y;refine ai P.spaces.length (fun i=>i==3||i==4||i==5||i==6||i==7||i==9||i==10||(rg 19 107 i)) (fun i=>i==3||i==4||i==5||i==6||i==7||i==9||i==10||(rg 21 106 i)) (fun k a' w'=>At a' 3 (.int .u64 (fX P k).2)∧aF B w' pb v P ea (fX P k).1∧aB (fun k=>k=pb) w0 w') (by omega) c8 di (by decide) rfl
  (by intro j;simp;omega) (by omega) (by decide) (fun k O a2 w U ⟨h1,h2⟩=>⟨U.Q7 h1 rfl,h2⟩) ⟨by simpa[fX]using h3,by simpa[fX]using ct.out,aB.refl _ _⟩ ?_ ?_
 ·rintro k O wr ad U c9 ⟨H,W,hk⟩
  have Z:=U.Q7 h0 rfl;have be:=U.Q7 h2 rfl;have ci:=U.Q7 dk rfl;have cb:=U.size.trans b5;have d5:=hk.size;obtain⟨g,cap,hv,hB,bx⟩:=a6.out.form (by omega)
  cases hv
  have ds:P.spaces.length≤c:=by
   rcases a6.out.2 with⟨e1,_⟩|⟨g1,dl,cv,e1,_,_,cw,_⟩
   ·cases e1
   ·cases e1;exact cw
  obtain⟨ls,bb⟩:=ge ad;obtain⟨uv,bd⟩:∃x,y[k]?=some x:=⟨_,Ez (by rw[bm.out.1];exact ad)⟩;have N:=(bm.out.2 k uv ls bd bb).below (aK _ _ _) (((I.out.mono fun _ _ h=>h.elim:aB (fun k=>k=pb) w w0).trans hk (fun _ _ e=>e)).below (B:=B) (by omega) (fun _ hi e=>by omega));have q0:wr.cell? ⟨g,k,none⟩=some uv:=(hk.cell (p:=⟨g,k,none⟩) bx (by show g≠pb;omega)).trans ((a6.out.cellAt k (by omega)).trans bd);have ah:=yZ N;obtain⟨A5,c5,rfl,b3⟩:=N;have N:aT B 5 cD wr (.slice A5 ls.length c5) ls:=⟨A5,c5,rfl,b3⟩;have L:fX P (k+1)=(dT 2 (bR P ls)++((bN P (decide (P.Q3.length≤k)) (fX P k).2 ls).1++(fX P k).1),(bN P (decide (P.Q3.length≤k)) (fX P k).2 ls).2):=by
   show(match P.spaces[k]? with|some l=>_|none=>_)=_;rw[bb]
  have bc:=oc P k;obtain⟨⟨S,n⟩,b4⟩:∃q,q=fX P k:=⟨_,rfl⟩;rw[←b4]at H W L bc;clear b4
  dsimp only at H W L bc
  obtain⟨dv,X⟩:∃b,b=decide (P.Q3.length≤k):=⟨_,rfl⟩;rw[←X]at L;have bo:=hh L;have bl:=hh N;have bj:=hh ah;have HL:=hh W;have HK:=hh hk;have HA:=hh U;have d0:decide ((P.Q3.length:Int)≤(k:Int))=dv:=by rw[X];exact decide_eq_decide.2 (by omega)
  have bw:decide (P.Q3.length≤k)=dv:=X.symm;obtain⟨As,cs,cf,_,_,_⟩:=W.QL.Q3;have q5:wr.cell? ⟨pb,5,none⟩=some v.Q3:=W.cell rfl;rw[cf]at q5;have d2:pb<wr.heap.size:=W.lt;clear L N b3 ah W hk U X cf bb bd;refine so (fun a2 w2=>aA (fun i=>i==4||i==5||(rg 21 23 i)) O a2∧At a2 4 (.int .i64 k)∧At a2 5 (.slice A5 ls.length c5)∧w2=wr) ?_ ?_
  ·obtain⟨T,d⟩:=O
   refine rl ?_
   iterate 5 with_reducible refine st ?_
   with_reducible refine ln ?_
   refine⟨rfl,ag,aq,aq,rfl⟩
  rintro a2 w2 ⟨E,d9,c4,rfl⟩;have cc:=E.size.trans cb;have Z:=E.Q7 Z rfl;have be:=E.Q7 be rfl;have H:=E.Q7 H rfl;have cl:Hid (aA (fun i=>i==3||i==4||i==5||i==6||i==7||i==9||i==10||(rg 21 106 i)) O a2):=E.m;clear E ci c9 q0;refine so (fun a3 w3=>aA (fun i=>i==6||(rg 24 31 i)) a2 a3∧At a3 6 (.bool dv)∧w3=w2) ?_ ?_
  ·obtain⟨T,d⟩:=a2
   refine rl ?_
   iterate 9 with_reducible refine st ?_
   with_reducible refine ln ?_
   refine⟨rfl,?_,?_,rfl⟩
   ·exact ag
   ·first|done|(repeat (first|with_reducible exact At.self|with_reducible apply At.ne))
    all_goals first|decide|(rw[←bw];exact At.self)
  rintro a3 w3 ⟨D,c6,rfl⟩;refine so (fun a4 w4=>aA (fun i=>i==7) a3 a4∧At a4 7 (.slice none 0 0)∧w4=w3) ?_ ?_
  ·obtain⟨T,d⟩:=a3
   refine rl ?_;with_reducible refine st ?_;refine ln ?_
   refine⟨rfl,ag,aq,rfl⟩
  rintro a4 w4 ⟨C,c7,rfl⟩;have an:=C.size.trans (D.size.trans cc);obtain⟨nm,c1⟩:=HM.out;have b0:cn w4 mb P:=⟨nm,c1.keep ((I.out.mono fun _ _ h=>h.elim:aB (fun k=>k=pb) w w0).trans HK.out (fun _ _ e=>e)) b1⟩;have af:mb<w4.heap.size:=by omega
  have af:mb<w4.heap.size:=by omega
  refine wp_seq (rc HL.out b0 af b1 bp.out bl.out bc a4 an (C.Q7 (D.Q7 Z rfl) rfl) (C.Q7 (D.Q7 be rfl) rfl) (C.Q7 (D.Q7 H rfl) rfl) (C.Q7 (D.Q7 c4 rfl) rfl) (C.Q7 c6 rfl) c7 _ (fun a5 w5 u5 V k7 M d1 k3 bu bz=>?_));have d4:=V.size.trans an;have eb:=V.Q7 (C.Q7 (D.Q7 Z rfl) rfl) rfl;have b2:fB w5 pb u5 (bR P ls):=fZ M (fun q hq=>by
   obtain⟨x,hx,rfl⟩:=List.mem_map.1 hq;have ok:=bj.out x hx;exact⟨ok.2.1,bp.out _,ok.1⟩) (by simp[bR];omega) (by omega)
  have HC:=hh (kj bu b2 2 rfl);have bf:Hid (aA (fun i=>i==3||i==4||i==5||i==6||i==7||i==9||i==10||(rg 21 106 i)) O a5):=((cl.out.t D).t C).t V;have cm:=hh (HK.out.trans bz (fun _ _ e=>e));clear b2 M bu bz V C D b0 bl;refine Code.wp_only (R:=fun a9 w9=>aA (fun i=>(rg 104 106 i)) a5 a9∧aF B w9 pb v P ea (dT 2 (bR P ls)++((bN P dv n ls).1++S))∧aB (fun k=>k=pb) w5 w9) ?_ ?_
  ·obtain⟨T,d⟩:=a5
   refine rl ?_
   iterate 2 with_reducible refine st ?_
   with_reducible refine Lz (fun K hK=>?_)
   go_simp;refine HC.out.mono ?_;rintro e w9 ⟨rfl,a7,a8⟩;with_reducible refine hK _ _ (ln ?_)
   refine⟨rfl,?_,a7,a8⟩;exact ag
  rintro a9 w9 ⟨bt,a7,a8⟩;refine⟨bf.out.t bt,?_,?_,cm.out.trans a8 (fun _ _ e=>e)⟩
  ·rw[bo.out];exact bt.Q7 k3 rfl
  ·rw[bo.out];exact a7
 ·rintro a' w' U ⟨H,W,hk⟩
  exact hQ _ _ ((J.m).t U) (W.congr fun p=>vB P p) ((I.out.mono fun _ _ h=>h.elim:aB (fun k=>k=pb) w w0).trans hk (fun _ _ e=>e))
theorem vi(hT:mo){B:Nat}{w:World}{pb:Nat}{v:aV}{P:aC}(h:aF B w pb v P ea []):
 Calls Tryz.prog 53 #[.pointer (some ⟨pb,0,none⟩)] w fun e w'=>e=.returned (.tuple #[])∧aF B w' pb v P ea (iV P)∧aB (fun k=>k=pb) w w':=by
 have ad:=h.lt;have ac:=h.base;have V:=hh (hT h.QL (by omega));have W:=hh h;have q0:=h.cell (j:=0) rfl;have q1:=h.cell (j:=1) rfl;have q2:=h.cell (j:=2) rfl;have q3:=h.cell (j:=3) rfl;have q4:=h.cell (j:=4) rfl;have q5:=h.cell (j:=5) rfl;have q6:=h.cell (j:=6) rfl;have q7:=h.cell (j:=7) rfl;have q8:=h.cell (j:=8) rfl;have q9:=h.cell (j:=9) rfl;have H:=h.cell (j:=10) rfl;have I:=h.cell (j:=11) rfl;have J:=h.cell (j:=12) rfl;have L:=h.cell (j:=13) rfl;clear h;refine az Tryz.func53 Tryz.ntmps53 rfl (by simp) fun a G D b=>?_
 have X:At a 0 (.pointer (some ⟨pb,0,none⟩)):=b 0 _ rfl;clear b
 conv=>arg 2;whnf
 refine so (fun p n=>aA (fun i=>i==2||(rg 11 15 i)) a p∧∃mb,At p 2 (.map (some mb))∧w.heap.size≤mb∧mb<n.heap.size∧cn n mb P∧Kz w n) ?_ ?_
 ·obtain⟨T,d⟩:=a
  refine rl ?_
  iterate 4 with_reducible refine st ?_
  with_reducible refine Lz (fun K Q=>?_)
  go_simp;refine V.out.mono ?_;rintro e n ⟨mb,rfl,Y,Z,N,O⟩;have S:=hh N;have U:=hh O;clear N O;with_reducible refine Q _ _ ?_;clear Q K;refine st ?_;refine ln ?_
  refine⟨rfl,ag,mb,aq,Y,Z,S.out,U.out⟩
 rintro p n ⟨l,mb,k2,R,u,hm,r⟩;have x:=l.size.trans G;have q:=l.defers.trans D;clear q0 q1 q2 q3 q4 q5 q6 q7 q8 q9 H I J L;refine so (fun y M=>aA (fun i=>i==3) p y∧At y 3 (.int .u64 0)∧M=n) ?_ ?_
 ·obtain⟨T,d⟩:=p
  refine rl ?_;with_reducible refine st ?_;refine ln ?_
  refine⟨rfl,ag,aq,rfl⟩
 rintro y M ⟨g,k3,rfl⟩;refine tm (W.out.new r) hm u (by omega) y (g.size.trans x) (g.Q7 (l.Q7 X rfl) rfl) (g.Q7 k2 rfl) k3 _ (fun a3 w3 A C E=>?_);exact ej rfl (A.defers.trans (g.defers.trans q)) ⟨rfl,C,(r.mono fun _ _ h=>h.elim:aB (fun k=>k=pb) w M).trans E (fun _ _ e=>e)⟩
end Go.Proofs.YtpblcjipmoblnaaGreatDoor
