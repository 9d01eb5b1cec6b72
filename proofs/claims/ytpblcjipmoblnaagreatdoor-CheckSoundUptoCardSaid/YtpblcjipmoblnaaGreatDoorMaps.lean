import Derived.Test.YtpblcjipmoblnaaGreatDoorSortL
import Derived.Test.YtpblcjipmoblnaaGreatDoorOfD
set_option maxRecDepth 100000
set_option linter.all false
set_option maxHeartbeats 4000000
namespace Go.Proofs.YtpblcjipmoblnaaGreatDoor
open Go.Shelf Go.RowKit Go.Lib Go.Sort Go.IntWalk Ck
variable {w:World} {Z g:Nat} {l:List Sp}
def qM(x y:Sp):Int:=if x.1<y.1 then -1 else if y.1<x.1 then 1 else 0
theorem AZ(x y:Sp):ltOf qM x y=decide (x.1<y.1):=by
 unfold ltOf qM
 by_cases h1:x.1<y.1
 ·simp[h1]
 ·by_cases h2:y.1<x.1<;>simp[h1,h2]
theorem CY:SWO (ltOf qM):={
 irrefl:=fun x=>by rw[AZ];simp
 trans:=fun x y z d g=>by rw[AZ]at *; simp at *; omega
 ntrans:=fun x y z d g=>by rw[AZ]at *; simp at *; omega }
theorem CL(x y:Sp)(W:World):Calls Tryz.prog 146 #[.agg #[.int .u64 x.1,.int .u64 x.2],.agg #[.int .u64 y.1,.int .u64 y.2]] W fun e w'=>e=.returned (.int .i64 (qM x y))∧∃q d,w'=grow (W.drewN q) d:=by
 unfold qM;obtain⟨p,q⟩:=x;obtain⟨r,s⟩:=y
 by_cases h1:p<r
 ·go_enter Tryz.func146,Tryz.ntmps146
  go_wp2
  go_ret
  exact⟨by simp[h1],0,_,by rw[alloc_eq_grow,alloc_eq_grow,grow_grow];rfl⟩
 ·by_cases h2:r<p
  ·go_enter Tryz.func146,Tryz.ntmps146
   go_wp2
   go_ret
   exact⟨by simp[h1,h2],0,_,by rw[alloc_eq_grow,alloc_eq_grow,grow_grow];rfl⟩
  ·go_enter Tryz.func146,Tryz.ntmps146
   go_wp2
   go_ret
   exact⟨by simp[h1,h2],0,_,by rw[alloc_eq_grow,alloc_eq_grow,grow_grow];rfl⟩
def uT(l l':List Sp):Prop:=l'.Perm l∧l'.Pairwise fun a b=>a.1≤b.1
theorem qJ(d:Array Sp):(flatK du 2 d).toList=spC d.toList:=by
 apply List.ext_getElem?
 intro t
 by_cases ht:t<d.size*2
 ·have l:(flatK du 2 d).toList[t]?=some (flatK du 2 d)[t]!:=by
   have h:t<(flatK du 2 d).size:=by rw[size_flatK];exact ht
   rw[Array.getElem?_toList,getElem!_pos _ t h,Array.getElem?_eq_getElem h]
  rw[l,get_flatK _ _ _ _ ht];have g:t / 2<d.size:=χ
  obtain⟨s,j⟩:∃s,d.toList[t / 2]?=some s:=⟨_,Ez (by simpa using g)⟩;obtain⟨p,q⟩:=qV _ _ _ j;have r:d[t / 2]! =s:=by
   rw[getElem!_pos d _ g];have:=j;rw[Array.getElem?_toList,Array.getElem?_eq_getElem g]at this;exact Option.some.inj this
  rw[r]
  rcases Nat.mod_two_eq_zero_or_one t with h|h
  ·rw[h]
   have:t=t / 2*2:=χ
   conv=>rhs;rw[this]
   exact p.symm
  ·rw[h]
   have:t=t / 2*2+1:=χ
   conv=>rhs;rw[this]
   exact q.symm
 ·rw[List.getElem?_eq_none (by simp[size_flatK];omega),List.getElem?_eq_none (by rw[qU];simp;omega)]
theorem wY{d:Nat}(h:w.ownsRow Z 180 2 (.slice (some ⟨g,0,none⟩) l.length d) l.length (spC l)):HoldsK du 2 w g 0 l.toArray:=by
 intro j p;have q:j<l.length*2:=by simpa[size_flatK]using p
 refine⟨?_,?_⟩
 ·rw[Nat.zero_add,h.cellAt j q,getElem!_pos _ j p]
  have:=qJ l.toArray;have e:(flatK du 2 l.toArray)[j]?=(spC l)[j]?:=by rw[←Array.getElem?_toList,this]
  rw[←e,Array.getElem?_eq_getElem p];rfl
 ·rw[Nat.zero_add];exact h.frozenAt j
theorem AM{j n:Nat}{d:Array Sp}{os:Array Obj}(h:w.ownsRow Z 180 2 (.slice (some ⟨g,0,none⟩) l.length j) l.length (spC l))(v:d.size=l.length):
 (sortWorldK du 2 w g 0 n d os).ownsRow Z 180 2 (.slice (some ⟨g,0,none⟩) l.length j) l.length (spC d.toList):=by
 rcases h.2 with⟨r,_⟩|⟨I,B,p,r,E,D,y,u,q,A⟩
 ·simp at r
 simp only[Value.slice.injEq,Option.some.injEq,Addr.mk.injEq,and_true,true_and]at r;obtain⟨rfl,rfl⟩:=r;have x:g<w.heap.size:=(Array.getElem?_eq_some_iff.1 D).1;refine⟨by rw[qU];simp[v],.inr ⟨g,j,putCells id 0 (flatK du 2 d) p,rfl,E,?_,y,u,by simp[putCells,q],?_⟩⟩
 ·show((putRowK du 2 (Sort.ahead w n) g 0 d).heap++os)[g]?=_
  rw[Array.getElem?_append_left (by simpa[putRowK,putRow,mapBlock,Sort.ahead]using x)];simp only[putRowK,putRow,mapBlock,Sort.ahead,Array.getElem?_modify,if_true,D,Option.map_some,onCells]
 ·rw[←qJ]
  apply List.ext_getElem?
  intro t;rw[List.getElem?_take]
  by_cases ht:t<l.length*2
  ·have C:t<(flatK du 2 d).size:=by rw[size_flatK,v];exact ht
   have H:t<p.size:=by rw[q];omega
   rw[if_pos ht,Array.getElem?_toList,Array.getElem?_toList];simp only[putCells,Array.getElem?_mapIdx,Array.getElem?_eq_getElem H,Option.map_some];rw[if_pos ⟨Nat.zero_le _,χ⟩,Nat.sub_zero,getElem!_pos _ t C,Array.getElem?_eq_getElem C];rfl
  ·rw[if_neg ht,List.getElem?_eq_none (by simp[size_flatK,v];omega)]
theorem yr{n:Nat}{d:Array Sp}{os:Array Obj}:aD (fun k=>k=g) w (sortWorldK du 2 w g 0 n d os):=by
 refine⟨rfl,rfl,rfl,?_,fun k hk h=>?_⟩
 ·show _≤((putRowK du 2 (Sort.ahead w n) g 0 d).heap++os).size
  simp[putRowK,putRow,mapBlock,Sort.ahead]
 ·show((putRowK du 2 (Sort.ahead w n) g 0 d).heap++os)[k]?=_
  rw[Array.getElem?_append_left (by simpa[putRowK,putRow,mapBlock,Sort.ahead]using hk)];simp only[putRowK,putRow,mapBlock,Sort.ahead,Array.getElem?_modify];rw[if_neg (fun e=>h e.symm)]
theorem AB{u:Value}(h:w.ownsRow Z 180 2 u l.length (spC l))(V:l.length≤4194304):
 Calls Tryz.prog 145 #[u,.func (.func 146) #[] #[]] w fun e w'=>e=.returned (.tuple #[])∧∃I,uT l I∧w'.ownsRow Z 180 2 u I.length (spC I)∧aD (fun k=>u.ownBlock=some k) w w':=by
 rcases Nat.eq_zero_or_pos l.length with D|D
 ·have A:l=[]:=List.length_eq_zero_iff.1 D
  subst A;obtain⟨p,d,R⟩:∃p d,u=.slice p 0 d:=by
   rcases h.2 with⟨C,_⟩|⟨g,d,L,C,_⟩
   ·exact⟨_,_,C⟩
   ·exact⟨_,_,C⟩
  subst R;refine(AnyF.slices_SortFunc_none Tryz.sortSp p d (.func (.func 146) #[] #[]) w).mono ?_;rintro e w' ⟨rfl,rfl⟩;exact⟨rfl,[],⟨.refl _,.nil⟩,h,aD.refl _ _⟩
 ·obtain⟨g,d,hv,U,H⟩:=h.form D
  subst hv;have N:∀args w,(callFunc 146 args).run Tryz.prog w=.ok (.enter 146 args) w:=enters_of Tryz.func146 δ rfl;have q:=AnyQ.slices_SortFunc Tryz.sortSp 2 Tryz.isAgg180 Tryz.sizeOf180 du (fun _=>rfl) (fun x v hv=>by simp[du]at hv;rcases hv with rfl|rfl<;>rfl) qM CY 146 #[] g 0 d l.toArray w N
   (fun m os S _ x y=>CL x y _) (wY h) H η
  rw[show(l.toArray).size=l.length by simp]at q;refine q.mono ?_;rintro e w' ⟨rfl,r,n,os,K,Q,rfl⟩;have B:r.size=l.length:=by simpa using K.1
  refine⟨rfl,r.toList,⟨?_,?_⟩,?_,yr.mono fun i _ e=>by rw[e];rfl⟩
  ·have:=K.2.2
   rw[show r.extract 0 l.length=r by rw[←B];simp,show l.toArray.extract 0 l.length=l.toArray by simp]at this
   simpa using this
  ·rw[List.pairwise_iff_getElem]
   intro i j O J E;have:=Q i j (Nat.zero_le _) E (by simpa[B]using J);rw[AZ]at this;rw[getElem!_pos r j (by simpa using J),getElem!_pos r i (by simpa using O)]at this;simp only[Array.getElem_toList];simp at this;omega
  ·have:=AM (n:=n) (os:=os) h B
   rw[show r.toList.length=l.length by simpa using B];exact this
end Go.Proofs.YtpblcjipmoblnaaGreatDoor
namespace Go.Proofs.YtpblcjipmoblnaaGreatDoor
open Go.RowKit Go.IntWalk Ck
variable {w:World} {u:Value} {l:List Sp} {pb B:Nat} {L:List Wr}
theorem rc{fn:Func}{R:Ending→World→Prop}{a:Act}{t z:Nat}(h:fn.results = #[.cell t 175])(l:At a t (.pointer (some ⟨z,0,none⟩)))(j:t<a.tmps.size)(p:w.cell? ⟨z,0,none⟩=some u)(g:a.defers=[])(d:R (.returned (.agg #[u])) w):bodyPost Tryz.prog fn R .ret a w:=by
 refine bodyPost_ret (v := .agg #[u]) ?_ g d;have e:a.tmps.getD t undef=.pointer (some ⟨z,0,none⟩):=l.eval j;unfold results;simp only[h];go_simp
theorem vl{j:List Sp}(h:uT l j)(p:Nat):dg j p↔dg l p:=by
 unfold dg;constructor
 ·rintro⟨s,g,d⟩
  exact⟨s,h.1.mem_iff.1 g,d⟩
 ·rintro⟨s,g,d⟩
  exact⟨s,h.1.mem_iff.2 g,d⟩
theorem Ad(l:List Sp)(p:Nat):dg (dY l) p↔dg l p:=by
 unfold dg dY;constructor
 ·rintro⟨s,g,d⟩
  exact⟨s,(List.mem_filter.1 g).1,d⟩
 ·rintro⟨s,g,d⟩
  exact⟨s,List.mem_filter.2 ⟨g,η⟩,d⟩
theorem Br{xs:List Sp}(hu:bU w pb u xs)(cy:pb<w.heap.size)(X:∀s∈xs,s.1<lim∧s.2<lim):
 Calls Tryz.prog 124 #[u] w fun e w'=>∃u' l,e=.returned (.agg #[u'])∧iN l∧(∀p,dg l p↔dg xs p)∧(∀q,q<w.heap.size→bU w' q u' l)∧Kz w w':=by
 obtain⟨A,c,rfl,hr⟩:=hu;have hu:bU w pb (.slice A xs.length c) xs:=⟨A,c,rfl,hr⟩;have cw:=hr.2.1;have HU:=hh hu;have HL:=hh X;clear hu hr X;refine b9 Tryz.func124 Tryz.ntmps124 rfl ξ fun a cp b5 I=>?_
 have h0:At a 0 (.slice A xs.length c):=I 0 _ rfl;clear I
 conv=>arg 2;whnf
 refine so (fun a1 w1=>aA (fun i=>i==2) a a1∧At a1 2 (.pointer (some ⟨w.heap.size,0,none⟩))∧w1=w.alloc (.cells #[.slice none 0 0] 175)) ?_ ?_
 ·obtain⟨T,d⟩:=a
  refine rl ?_;with_reducible refine st ?_;refine ln ?_
  refine⟨rfl,ag,aq,rfl⟩
 rintro a1 w1 ⟨N,k2,L⟩;have U:Kz w w1:=by rw[L];exact(aD.refl _ _).alloc _
 obtain⟨z,hz⟩:∃z,z=w.heap.size:=⟨_,rfl⟩;rw[←hz]at k2;have cs:w1.cell? ⟨z,0,none⟩=some (.slice none 0 0):=by rw[L,hz];exact b8 w [.slice none 0 0] 175 0 _ rfl
 have cb:w1.frozen? ⟨z,0,none⟩=false:=by
  have cl:w1.heap[z]?=some (.cells #[.slice none 0 0] 175):=by rw[L,hz];exact Array.getElem?_push_size
  simp[World.frozen?,cl]
 have bb:z<w1.heap.size:=by rw[L,hz];simp
 have HZ:Hid (z=w.heap.size):=hz;have bx:=N.size.trans cp;have bf:=N.defers.trans b5;have j0:=N.Q7 h0 rfl;clear L hz;refine so (fun a2 w2=>aA (fun i=>i==3) a1 a2∧At a2 3 (.slice none 0 0)∧w2=w1) ?_ ?_
 ·obtain⟨T,d⟩:=a1
  refine rl ?_;with_reducible refine st ?_;refine ln ?_
  refine⟨rfl,ag,aq,rfl⟩
 rintro a2 w2 ⟨E,k3,rfl⟩;have ad:=E.size.trans bx;have bw:pb<w2.heap.size:=by have:=U.size;omega
 refine wp_seq (wM (HU.out.keep (U.mono fun _ _ h=>h.elim)) bw a2 ad (E.Q7 j0 rfl) k3 _ (fun a3 w3 u3 O l3 r cc=>?_));have bz:=O.size.trans ad;have m2:=O.Q7 (E.Q7 k2 rfl) rfl;have bl:=O.defers.trans (E.defers.trans bf);obtain⟨l,hl⟩:∃l,l=dY xs:=⟨_,rfl⟩;rw[←hl]at r;have bo:l.length≤4194304:=by have:=oF xs;rw[←hl]at this;omega
 have a0:=hh hl;have bd:=hh r;have HS:=hh (AB r bo);clear r hl;refine so (fun a4 w4=>aA (fun i=>i==24||i==25) a3 a4∧∃g,uT l g∧At a4 3 u3∧w4.ownsRow w2.heap.size 180 2 u3 g.length (spC g)∧aD (fun k=>u3.ownBlock=some k) w3 w4) ?_ ?_
 ·obtain⟨T,d⟩:=a3
  refine rl ?_;with_reducible refine st ?_;refine Lz (fun K hK=>?_)
  go_simp;refine HS.out.mono ?_;rintro e w4 ⟨rfl,g,h1,h2,h3⟩;have H1:=hh h1;have H2:=hh h2;have H3:=hh h3;clear h1 h2 h3;with_reducible refine hK _ _ ?_;clear hK K;refine ln ?_
  refine⟨rfl,?_,g,H1.out,?_,H2.out,H3.out⟩
  ·exact ag
  ·exact At.ne (At.ne l3 ψ) ψ
 rintro a4 w4 ⟨Q,g,hS,cv,B,cd⟩;have b0:=Q.size.trans bz;have hB:∀k,u3.ownBlock=some k→w2.heap.size≤k:=fun k hk=>(bd.out.lt k hk).1
 have C:Kz w2 w4:=cc.trans cd (fun i hi h=>by have:=hB i h;omega);clear HS bd;have J:g.length≤4194304:=by rw[hS.1.length_eq];exact bo
 have j:∀s∈g,s.1<lim∧s.2<lim:=fun s hs=>by
  have:=hS.1.mem_iff.1 hs;rw[a0.out]at this;exact HL.out s (List.mem_filter.1 this).1
 have W:∀s∈g,s.1≤s.2:=fun s hs=>by
  have:=hS.1.mem_iff.1 hs;rw[a0.out]at this
  simpa using(List.mem_filter.1 this).2
 have D:bU w4 pb u3 g:=eM B J χ j;obtain⟨A4,c4,e4,_⟩:=D;subst e4;have D:bU w4 pb (.slice A4 g.length c4) g:=eM B J χ j;have b3:=hh D;have HS:=hh hS;have bc:=hh j;have b2:=hh W;have bp:=Q.defers.trans bl;clear hS D j W B hB;refine so (fun a5 w5=>aA (fun i=>i==6) a4 a5∧At a5 6 (.slice none 0 0)∧w5=w4) ?_ ?_
 ·obtain⟨T,d⟩:=a4
  refine rl ?_;with_reducible refine st ?_;refine ln ?_
  refine⟨rfl,ag,aq,rfl⟩
 rintro a5 w5 ⟨H,k6,rfl⟩;have af:=H.size.trans b0;have Z:pb<w5.heap.size:=by have:=C.size;omega
 refine wp_seq (yP b3.out Z bc.out a5 af (H.Q7 cv rfl) k6 _ (fun a6 w6 u6 R l6 x cf=>?_));have b1:=R.size.trans af;have n2:=R.Q7 (H.Q7 (Q.Q7 m2 rfl) rfl) rfl;have bm:=R.defers.trans (H.defers.trans bp);have y:Kz w2 w6:=C.trans cf (fun _ _ h=>h);have x6:=(y.cell (p:=⟨z,0,none⟩) bb (fun h=>h)).trans cs;have f6:=(y.frozen (p:=⟨z,0,none⟩) bb (fun h=>h)).trans cb;have c1:z<w6.heap.size:=Nat.lt_of_lt_of_le bb y.size;have Y:=mT _ g rfl b2.out HS.out.2;have ci:=ij g g.length (Nat.le_refl _);rw[List.take_length]at ci;have a8:=ii _ g rfl bc.out;obtain⟨A6,c6,e6,_⟩:bU w6 pb u6 (an g):=eM x χ Z a8;obtain⟨n6,a9⟩:∃n,n=(an g).length:=⟨_,rfl⟩;rw[←a9]at e6;have cx:=hh a9;clear a9;subst e6;have cu:w5.heap.size≤z→False:=fun h=>by have:=C.size;omega
 have bt:∀k,(Value.slice A6 n6 c6).ownBlock=some k→k≠z:=fun k h e=>cu (by rw[←e];exact(x.lt k h).1)
 have ac:∀v q,q<w5.heap.size→bU (w6.setCell ⟨z,0,none⟩ v) q (.slice A6 n6 c6) (an g):=fun v q hq=>by
  exact eM (ak x (aD.setCell (S:=fun k=>k=z) (aD.refl _ _) (fun _=>rfl) v) (fun k h e=>bt k h e)) χ hq a8
 have be:=hh ac;have V:=hh Y;have HK:=hh (U.trans y (fun _ _ h=>h));clear ac Y a8 bt x U y R H Q O E N;refine so (fun a7 w7=>At a7 2 (.pointer (some ⟨z,0,none⟩))∧a7.tmps.size=80∧a7.defers=[]∧w7=w6.setCell ⟨z,0,none⟩ (.slice A6 n6 c6)) ?_ ?_
 ·obtain⟨T,d⟩:=a6
  refine rl ?_
  iterate 3 with_reducible refine st ?_
  with_reducible refine ln ?_
  refine⟨rfl,?_,by simpa using b1,bm,rfl⟩;exact At.ne (At.ne n2 ψ) ψ
 rintro a7 w7 ⟨h2,cm,b4,ba⟩;refine wp_ret ?_;refine rc (u := .slice A6 n6 c6) rfl h2 (by rw[cm];decide) ?_ b4 ⟨.slice A6 n6 c6,an g,rfl,V.out.1,fun p=>?_,fun q hq=>?_,?_⟩
 ·rw[ba];exact World.cell?_setCell_same _ _ _ x6
 ·rw[V.out.2.1,vl HS.out,a0.out,Ad]
 ·rw[ba];exact be.out _ q (by have h1:=C.size;have h2:=HZ.out;omega)
 ·rw[ba];exact HK.out.setCell (fun h=>by have:=HZ.out;have h:z<w.heap.size:=h;omega) _
theorem mV(a s:Nat):IntKind.u64.wrap (IntKind.u64.wrap ((a:Int)+(s:Int))-1)=(dM a s:Int):=by
 rw[IntKind.wrap_u64,IntKind.wrap_u64];show _=(((a+s+(18446744073709551616-1))%18446744073709551616:Nat):Int);omega
def ka(l:List Ck.Ram):List Sp:=l.map fun x=>(x.Q7,dM x.Q7 x.size)
def jB(P:aC):List Sp:=ka P.QG
theorem bU.set{z:Nat}{v:Value}(h:bU w pb u l)(x:bU w z u l):bU (w.setCell ⟨z,0,none⟩ v) pb u l:=by
 obtain⟨A,c,rfl,y,B,C⟩:=h;obtain⟨_,_,e,_,_,D⟩:=x
 cases e
 refine⟨A,c,rfl,y,B,fun j=>?_⟩;obtain⟨g,rfl,d,H,E⟩:=C j;obtain⟨_,e,_,q,_⟩:=D j
 cases e
 have hk:aD (fun k=>k=z) w (w.setCell ⟨z,0,none⟩ v):=aD.setCell (S:=fun k=>k=z) (aD.refl _ _) (fun _=>rfl) v;refine⟨g,rfl,Nat.lt_of_lt_of_le d hk.size,H,fun i s I=>?_⟩;obtain⟨c1,c2,r⟩:=E i s I;exact⟨(hk.cell (p:=⟨g,i*2,none⟩) d q).trans c1,(hk.cell (p:=⟨g,i*2+1,none⟩) d q).trans c2,r⟩
theorem sG{v:aR}{P:aC}{W:Int→Int}(h:aE B w pb v P W L)(a:Act)(bp:a.tmps.size=31)(h0:At a 0 (.pointer (some ⟨pb,0,none⟩)))(h3:At a 3 (.slice none 0 0))(Q:Exit→Act→World→Prop)
 (hQ:∀X w' V,aA (fun i=>i==3||(rg 5 28 i)) a X→At X 3 V→w'.ownsRow w.heap.size 180 2 V (jB P).length (spC (jB P))→P.QG.length≤4194304→Kz w w'→Q .normal X w'):
 (bE Tryz.f100 [1,1,0]).wp Tryz.prog Q a w:=by
 have hs:=h.QP.QG;obtain⟨A,c,hu,cb,bo,hl⟩:=hs;unfold top at bo;have b5:=h.lt;have b3:=h.base;have hq:w.cell? ⟨pb,2,none⟩=some v.QG:=h.cell rfl;rw[hu]at hq;clear hu
 conv=>arg 2;whnf
 refine so (fun r w1=>aA (fun i=>(rg 6 12 i)) a r∧At r 10 (.slice A P.QG.length c)∧At r 11 (.int .i64 P.QG.length)∧At r 12 (.int .i64 0)∧w1=w) ?_ ?_
 ·clear hl
  obtain⟨T,d⟩:=a;refine rl ?_
  iterate 7 with_reducible refine st ?_
  with_reducible refine ln ?_
  refine⟨rfl,ag,aq,aq,aq,rfl⟩
 rintro a0 w0 ⟨O,b1,b0,bx,rfl⟩;have a6:=O.size.trans bp;replace h3:=O.Q7 h3 rfl;obtain⟨Z,hZ⟩:∃z,z=w0.heap.size:=⟨_,rfl⟩;rw[←hZ]at hQ;have HZ:=hh hZ;clear hZ;refine bj P.QG.length (fun i=>i==3||i==5||(rg 12 28 i)) (fun i=>i==3||i==5||(rg 14 27 i)) (fun k X w'=>∃u,At X 3 u∧w'.ownsRow Z 180 2 u (ka (P.QG.take k)).length (spC (ka (P.QG.take k)))∧Kz w0 w') χ bx b0 ψ rfl
  ζ χ ψ (fun k r N w J ⟨u,h1,h2⟩=>⟨u,J.Q7 h1 rfl,h2⟩) ⟨_,h3,by simpa[spC,ka]using World.ownsRow_nil _ _ _ _,aD.refl _ _⟩ ?_ ?_
 ·rintro k r wr a5 J bz ⟨u,I,g,hk⟩
  obtain⟨bl,off,rfl,bm,a3⟩:=hl χ;obtain⟨x,hx⟩:=ge a5;obtain⟨hc,b2⟩:=(aF B _ _) _ _ _ _ _ (hk.below (B:=B) χ (fun _ hi e=>e)) bm (a3 k x hx);have q0:=hc.c0;have q1:=hc 1 _ rfl;have q2:=hc 2 _ rfl;have ba:=J.Q7 b1 rfl;have a7:=J.size.trans a6;have a8:=hk.size;have af:bl<wr.heap.size:=χ
  have b4:k≤c:=χ
  obtain⟨rs,E⟩:∃l,l=ka (P.QG.take k):=⟨_,rfl⟩;rw[←E]at g;have cc:rs.length=k:=by rw[E];simp[ka];omega
  have HR:Hid (ka (P.QG.take (k+1))=rs++[(x.Q7,dM x.Q7 x.size)]):=by
   refine hh ?_;rw[aP hx,E];simp[ka]
  have HO:=hh g;have HK:=hh hk;have HA:=hh J;clear hx g hk J a3 hc E hl;refine so (fun N w2=>aA (fun i=>i==14||i==15||i==5) r N∧At N 5 (.pointer (some ⟨wr.heap.size,0,none⟩))∧w2=wr.alloc (.cells #[.int .i64 x.pos,.int .u64 x.Q7,.int .u64 x.size] 41)) ?_ ?_
  ·obtain⟨T,d⟩:=r
   refine rl ?_
   iterate 4 with_reducible refine st ?_
   with_reducible refine ln ?_
   refine⟨rfl,ag,aq,rfl⟩
  rintro N Y ⟨y,bw,H⟩;obtain⟨z,hz⟩:∃z,z=wr.heap.size:=⟨_,rfl⟩;rw[←hz]at bw;have a9:aL Y z 0 [.int .i64 x.pos,.int .u64 x.Q7,.int .u64 x.size]:=by rw[H,hz];exact b8 _ _ _
  have cd:z<Y.heap.size:=by rw[H,hz];simp
  have S:Kz wr Y:=by rw[H];exact(aD.refl _ _).alloc _
  have K:=y.size.trans a7;have cf:=y.Q7 I rfl;have ad:=hh (ak HO.out S (fun _ _ h=>h));have ac:=hh (HK.out.trans S (fun _ _ h=>h));have bb:Hid (aA (fun i=>i==3||i==5||(rg 14 27 i)) r N):=y.m;clear H hz S HO HK y q0 q1 q2 ba I bz a8 af;have q1:=a9 1 _ rfl;have q2:=a9 2 _ rfl;obtain⟨p,hp⟩:∃p,p=dM x.Q7 x.size:=⟨_,rfl⟩;have hw:=mV x.Q7 x.size;rw[←hp]at hw HR;have HP:=hh hp;clear hp;refine Code.wp_only (R:=fun a4 w4=>aA (fun i=>i==3||(rg 16 27 i)) N a4∧(∃V,At a4 3 V∧w4.ownsRow Z 180 2 V (rs.length+1) (spC (rs++[(x.Q7,p)])))∧Kz w0 w4) ?_ ?_
  ·obtain⟨T,d⟩:=N
   refine rl ?_
   iterate 11 with_reducible refine st ?_
   have hb:=b8 Y [.int .u64 x.Q7,.int .u64 p] 180;have D:Kz Y (Y.alloc (.cells #[.int .u64 x.Q7,.int .u64 p] 180)):=(aD.refl _ _).alloc _;have bd:=hh (ak ad.out D (fun _ _ h=>h));refine mH (p:=(x.Q7,p)) rfl rfl rfl (At.eval (by exact aq) (by have:=K;simp at this⊢; omega)) bd.out χ (At.eval (by exact aq) (by have:=K;simp at this⊢; omega)) hb.c0 (hb 1 _ rfl) (by have:=HZ.out;have:=D.size;have:=ac.out.size;omega) ?_;intro u2 w4 q C;have be:=hh q;have bc:Hid (Kz w0 w4):=(ac.out.trans D (fun _ _ h=>h)).trans C (fun i hi h=>by have:=(ad.out.lt i h).1;have:=HZ.out;omega);clear q C hb D;simp only[Act.put];with_reducible refine st ?_;refine ln ?_
   refine⟨rfl,ag,⟨u2,aq,be.out⟩,bc.out⟩
  rintro a4 w4 ⟨bf,⟨V,bt,U⟩,C⟩;refine⟨bb.out.t bf,V,bt,?_,C⟩;rw[HR.out,List.length_append];exact U
 ·rintro X w' J ⟨u,I,g,hk⟩
  rw[List.take_length]at g;exact hQ _ _ _ ((O.m).t J) I g χ hk
theorem tx{v:aR}{P:aC}{W:Int→Int}(h:aE B w pb v P W L):
 Calls Tryz.prog 100 #[.pointer (some ⟨pb,0,none⟩)] w fun e w'=>∃u' l,e=.returned (.agg #[u'])∧iN l∧(∀p,dg l p↔dg (jB P) p)∧(∀q,q<w.heap.size→bU w' q u' l)∧Kz w w':=by
 have HH:=hh h;have bx:=h.lt;have O:∀s∈jB P,s.1<lim∧s.2<lim:=by
  intro s hs;obtain⟨x,hx,rfl⟩:=List.mem_map.1 hs;obtain⟨A,c,_,_,_,hl⟩:=h.QP.QG;obtain⟨bl,off,_,_,ba⟩:=hl (List.length_pos_of_mem hx);obtain⟨k,hk⟩:=List.getElem?_of_mem hx;have ok:=(ba k x hk).2;exact⟨ok.2.1,Nat.mod_lt _ ψ⟩
 have Z:=hh O;clear h O;refine b9 Tryz.func100 Tryz.ntmps100 rfl ξ fun a bt bc y=>?_
 have h0:At a 0 (.pointer (some ⟨pb,0,none⟩)):=y 0 _ rfl;clear y
 conv=>arg 2;whnf
 refine so (fun a1 R=>aA (fun i=>i==2) a a1∧At a1 2 (.pointer (some ⟨w.heap.size,0,none⟩))∧R=w.alloc (.cells #[.slice none 0 0] 175)) ?_ ?_
 ·obtain⟨T,d⟩:=a
  refine rl ?_;with_reducible refine st ?_;refine ln ?_
  refine⟨rfl,ag,aq,rfl⟩
 rintro a1 R ⟨E,k2,D⟩;have j:Kz w R:=by rw[D];exact(aD.refl _ _).alloc _
 obtain⟨z,V⟩:∃z,z=w.heap.size:=⟨_,rfl⟩;rw[←V]at k2;have bw:R.cell? ⟨z,0,none⟩=some (.slice none 0 0):=by rw[D,V];exact b8 w [.slice none 0 0] 175 0 _ rfl
 have bd:R.frozen? ⟨z,0,none⟩=false:=by
  have bm:R.heap[z]?=some (.cells #[.slice none 0 0] 175):=by rw[D,V];exact Array.getElem?_push_size
  simp[World.frozen?,bm]
 have U:z<R.heap.size:=by rw[D,V];simp
 have HZ:Hid (z=w.heap.size):=V;have a8:=E.size.trans bt;have ac:=E.defers.trans bc;have j0:=E.Q7 h0 rfl;clear D V;refine so (fun a2 w2=>aA (fun i=>i==3) a1 a2∧At a2 3 (.slice none 0 0)∧w2=R) ?_ ?_
 ·obtain⟨T,d⟩:=a1
  refine rl ?_;with_reducible refine st ?_;refine ln ?_
  refine⟨rfl,ag,aq,rfl⟩
 rintro a2 w2 ⟨r,k3,rfl⟩;have Q:=r.size.trans a8;have a4:pb<w2.heap.size:=by have:=j.size;omega
 refine wp_seq (sG (HH.out.new j) a2 Q (r.Q7 j0 rfl) k3 _ (fun a3 w3 u3 H l3 C bo g=>?_));have a9:=H.size.trans Q;have m2:=H.Q7 (r.Q7 k2 rfl) rfl;have ad:=H.defers.trans (r.defers.trans ac);have a5:(jB P).length≤4194304:=by unfold jB ka;rw[List.length_map];exact bo
 have N:pb<w3.heap.size:=by have:=g.size;omega
 have HC:=hh (Br (eM C a5 a4 Z.out) N Z.out);have x3:=(g.cell (p:=⟨z,0,none⟩) U (fun h=>h)).trans bw;have f3:=(g.frozen (p:=⟨z,0,none⟩) U (fun h=>h)).trans bd;have J:z<w3.heap.size:=Nat.lt_of_lt_of_le U g.size;have Y:=hh (j.trans g (fun _ _ h=>h));have bz:pb≠z:=by have:=HZ.out;omega
 clear C g H r E j;refine so (fun a7 w7=>At a7 2 (.pointer (some ⟨z,0,none⟩))∧a7.tmps.size=31∧a7.defers=[]∧∃u' l X,w7=X.setCell ⟨z,0,none⟩ u'∧iN l∧(∀p,dg l p↔dg (jB P) p)∧(∀q,q<w3.heap.size→bU X q u' l)∧Kz w3 X) ?_ ?_
 ·obtain⟨T,d⟩:=a3
  refine rl ?_;with_reducible refine st ?_;refine Lz (fun K hK=>?_)
  go_simp;refine HC.out.mono ?_;rintro e X ⟨u6,l6,rfl,j,af,g,I⟩;have H1:=hh j;have H2:=hh af;have H3:=hh g;have H4:=hh I;obtain⟨A6,c6,rfl,_⟩:=g pb N;have x6:=(I.cell (p:=⟨z,0,none⟩) J (fun h=>h)).trans x3;have f6:=(I.frozen (p:=⟨z,0,none⟩) J (fun h=>h)).trans f3;clear j af I x3 f3;with_reducible refine hK _ _ ?_;clear hK K;refine st ?_;refine ln ?_
  refine⟨rfl,?_,by simpa using a9,ad,_,l6,X,rfl,H1.out,H2.out,H3.out,H4.out⟩;exact At.ne (At.ne m2 ψ) ψ
 rintro a7 w7 ⟨h2,bp,bb,u6,l6,X,S,bf,be,a6,a0⟩;refine wp_ret ?_;have x6:=(a0.cell (p:=⟨z,0,none⟩) J (fun h=>h)).trans x3;refine rc (u:=u6) rfl h2 (by rw[bp];decide) ?_ bb ⟨u6,l6,rfl,bf,be,fun q hq=>?_,?_⟩
 ·rw[S];exact World.cell?_setCell_same _ _ _ x6
 ·rw[S];exact bU.set (a6 q (by have:=Y.out.size;omega)) (a6 z J)
 ·rw[S];exact((Y.out.trans a0 (fun _ _ h=>h))).setCell (fun h=>by have:=HZ.out;have h:z<w.heap.size:=h;omega) _
theorem xw{v:aR}{P:aC}(h:aE B w pb v P fQ L){z:Nat}{x:Ck.Region}(g:aL w z 0 [.int .i64 x.pos,.string x.name,.int .u64 x.size,.bool x.fixed,.int .u64 x.Q7,.bool x.big,.bool x.wx,.int .u64 x.fill,.bool x.QR,.string x.text])(ok:x.Ok)(a:Act)(Y:a.tmps.size=119)(h0:At a 0 (.pointer (some ⟨pb,0,none⟩)))(h5:At a 5 (.pointer (some ⟨z,0,none⟩)))(Q:Exit→Act→World→Prop)
 (N:∀q w',aA (fun i=>(rg 19 32 i)) a q→aE B w' pb v P fQ (say (decide ((x.size ||| x.Q7)%unit x.big=0)) x.pos 0++L)→aD (fun k=>k=pb) w w'→Q .normal q w'):
 (bE Tryz.f52 [1,1,0,1,0,0,1,1,0,0,1,0]).wp Tryz.prog Q a w:=by
 obtain⟨Z,l,p,H,I,J⟩:=ok;unfold lim at l p H;unfold aX at I J;refine Code.wp_only (R:=fun q w'=>aA (fun i=>(rg 19 32 i)) a q∧aE B w' pb v P fQ (say (decide ((x.size ||| x.Q7)%unit x.big=0)) x.pos 0++L)∧aD (fun k=>k=pb) w w') ?_ (fun S w4 h=>N S w4 h.1 h.2.1 h.2.2);clear N
 conv=>arg 2;whnf
 have q0:=g.c0;have q1:=g 1 _ rfl;have q2:=g 2 _ rfl;have q3:=g 3 _ rfl;have q4:=g 4 _ rfl;have q5:=g 5 _ rfl;have q6:=g 6 _ rfl;have q7:=g 7 _ rfl;have q8:=g 8 _ rfl;have q9:=g 9 _ rfl;obtain⟨U,y⟩:∃u,u=unit x.big:=⟨_,rfl⟩;have j:=fun w0=>sN (rF x.big w0)
 rw[←y]at j;have D:0<U:=by rw[y];unfold unit;split<;>omega
 have V:¬ (U=0):=χ
 have W:((U:Int)==0)=false:=η
 obtain⟨b,X⟩:∃b,((bits .or .u64 (x.size:Int) (x.Q7:Int)).tmod (U:Int)==0)=b:=⟨_,rfl⟩;have O:Hid (say (decide ((x.size ||| x.Q7)%unit x.big=0)) x.pos 0=say b x.pos 0):=by
  refine hh ?_;rw[←X,uk l p,←y,show(((x.size ||| x.Q7:Nat):Int).tmod (U:Int))=(((x.size ||| x.Q7)%U:Nat):Int) from rfl]
  congr 1
  rw[kB];exact decide_eq_decide.2 χ
 have A:=hh (h.new ((aD.refl _ w).drew));clear h g y D;obtain⟨T,d⟩:=a;refine wp_region_still_tail 13 δ δ ?_;simp only[List.take_succ_cons,List.take_zero,List.drop_succ_cons,List.drop_zero]
 iterate 8 with_reducible refine sl ?_
 with_reducible refine wpStill_step (fun K r=>?_)
 go_simp;with_reducible refine⟨_,j _,r _ ?_⟩;clear r K
 iterate 4 with_reducible refine sl ?_
 with_reducible refine wpStill_nil ?_;refine Lz (fun K r=>?_)
 go_simp;refine(ae _ _ 0 33 A.out rfl).mono ?_;rintro e w2 ⟨rfl,C,E⟩;with_reducible refine r _ _ (ln ?_)
 refine⟨rfl,?_,?_,?_⟩
 ·exact ag
 ·rw[O.out]
  exact C
 ·exact((aD.refl _ _).drew).trans E (fun _ _ e=>e)
theorem xx{v:aR}{P:aC}(h:aE B w pb v P fQ L){z:Nat}{x:Ck.Region}(g:aL w z 0 [.int .i64 x.pos,.string x.name,.int .u64 x.size,.bool x.fixed,.int .u64 x.Q7,.bool x.big,.bool x.wx,.int .u64 x.fill,.bool x.QR,.string x.text])(ok:x.Ok)(a:Act)(U:a.tmps.size=119)(Z:At a 0 (.pointer (some ⟨pb,0,none⟩)))(h5:At a 5 (.pointer (some ⟨z,0,none⟩)))(Q:Exit→Act→World→Prop)
 (O:∀q w',aA (fun i=>(rg 33 44 i)) a q→aE B w' pb v P fQ (say (decide (0<x.size)&&decide (x.size≤67108864)) x.pos 1++L)→aD (fun k=>k=pb) w w'→Q .normal q w'):
 (bE Tryz.f52 [1,1,0,1,0,0,1,1,0,0,1,1,0]).wp Tryz.prog Q a w:=by
 obtain⟨W,y,A,C,D,E⟩:=ok;unfold lim at y A C;unfold aX at D E;refine Code.wp_only (R:=fun q w'=>aA (fun i=>(rg 33 44 i)) a q∧aE B w' pb v P fQ (say (decide (0<x.size)&&decide (x.size≤67108864)) x.pos 1++L)∧aD (fun k=>k=pb) w w') ?_ (fun S Y h=>O S Y h.1 h.2.1 h.2.2);clear O
 conv=>arg 2;whnf
 have q0:=g.c0;have q1:=g 1 _ rfl;have q2:=g 2 _ rfl;have q3:=g 3 _ rfl;have q4:=g 4 _ rfl;have q5:=g 5 _ rfl;have q6:=g 6 _ rfl;have q7:=g 7 _ rfl;have q8:=g 8 _ rfl;have q9:=g 9 _ rfl;obtain⟨r,J⟩:∃b,decide (0<x.size)=b:=⟨_,rfl⟩;obtain⟨I,N⟩:∃b,decide (x.size≤67108864)=b:=⟨_,rfl⟩;have H:Hid (say (decide (0<x.size)&&decide (x.size≤67108864)) x.pos 1=say (r&&I) x.pos 1):=by rw[J,N];exact hh rfl
 have e3:decide ((0:Int)<(x.size:Int))=r:=by rw[←J];exact decide_eq_decide.2 χ
 have e4:decide ((x.size:Int)≤67108864)=I:=by rw[←N];exact decide_eq_decide.2 χ
 have p:=hh h;have V:=al;clear h g;obtain⟨T,d⟩:=a;refine rl ?_
 cases r
 ·skip
  iterate 11 with_reducible refine st ?_
  with_reducible refine Lz (fun K u=>?_)
  go_simp;refine(ae _ _ 1 32 p.out rfl).mono ?_;rintro e X ⟨rfl,j,l⟩;with_reducible refine u _ _ (ln ?_)
  refine⟨rfl,?_,?_,?_⟩
  ·exact ag
  ·rw[H.out]
   exact j
  ·exact l
 ·skip
  iterate 11 with_reducible refine st ?_
  with_reducible refine Lz (fun K u=>?_)
  go_simp;refine(ae _ _ 1 32 p.out rfl).mono ?_;rintro e X ⟨rfl,j,l⟩;with_reducible refine u _ _ (ln ?_)
  refine⟨rfl,?_,?_,?_⟩
  ·exact ag
  ·rw[H.out]
   exact j
  ·exact l
theorem yA{v:aR}{P:aC}(h:aE B w pb v P fQ L){z:Nat}{x:Ck.Region}(g:aL w z 0 [.int .i64 x.pos,.string x.name,.int .u64 x.size,.bool x.fixed,.int .u64 x.Q7,.bool x.big,.bool x.wx,.int .u64 x.fill,.bool x.QR,.string x.text])(ok:x.Ok)(a:Act)(ac:a.tmps.size=119)(h0:At a 0 (.pointer (some ⟨pb,0,none⟩)))(h5:At a 5 (.pointer (some ⟨z,0,none⟩)))(h6:At a 6 (.int .u64 x.text.size))(Q:Exit→Act→World→Prop)
 (Y:∀y w',aA (fun i=>(rg 88 114 i)) a y→aE B w' pb v P fQ (qK x++L)→aD (fun k=>k=pb) w w'→Q .normal y w'):
 (bE Tryz.f52 [1,1,0,1,0,0,1,1,0,0,1,1,1,1,1]).wp Tryz.prog Q a w:=by
 obtain⟨af,I,J,N,O,S⟩:=ok;unfold lim at I J N;unfold aX at O S;refine Code.wp_only (R:=fun y w'=>aA (fun i=>(rg 88 114 i)) a y∧aE B w' pb v P fQ (qK x++L)∧aD (fun k=>k=pb) w w') ?_ (fun Z w4 h=>Y Z w4 h.1 h.2.1 h.2.2);clear Y
 conv=>arg 2;whnf
 have q0:=g.c0;have q1:=g 1 _ rfl;have q2:=g 2 _ rfl;have q3:=g 3 _ rfl;have q4:=g 4 _ rfl;have q5:=g 5 _ rfl;have q6:=g 6 _ rfl;have q7:=g 7 _ rfl;have q8:=g 8 _ rfl;have q9:=g 9 _ rfl;obtain⟨C,V⟩:∃b,decide (x.fill<256)=b:=⟨_,rfl⟩;obtain⟨D,W⟩:∃b,decide (x.text.size≤x.size)=b:=⟨_,rfl⟩;obtain⟨E,e3⟩:∃b,decide (x.text.size≤1048576)=b:=⟨_,rfl⟩;obtain⟨H,e4⟩:∃b,decide (x.fill=0)=b:=⟨_,rfl⟩;obtain⟨U,X⟩:∃b,decide (x.size≤1048576)=b:=⟨_,rfl⟩;have u:Hid (qK x=say (C&&D&&E&&(H||U)) x.pos 4):=by
  refine hh ?_;unfold qK;rw[V,W,e3,e4,X]
 have f1:decide ((x.fill:Int)<256)=C:=by rw[←V];exact decide_eq_decide.2 χ
 have f2:decide ((x.text.size:Int)≤(x.size:Int))=D:=by rw[←W];exact decide_eq_decide.2 χ
 have f3:decide ((x.text.size:Int)≤1048576)=E:=by rw[←e3];exact decide_eq_decide.2 χ
 have f4:((x.fill:Int)==0)=H:=by rw[←e4];exact eQ _ 0
 have f5:decide ((x.size:Int)≤1048576)=U:=by rw[←X];exact decide_eq_decide.2 χ
 have p:=hh h;have ad:=al;clear h g e4;obtain⟨T,d⟩:=a;refine rl ?_;have r:=u.out
 cases C
 ·clear r
  iterate 26 with_reducible refine st ?_
  with_reducible refine Lz (fun K q=>?_)
  go_simp;refine(ae _ _ 4 105 p.out rfl).mono ?_;rintro e A ⟨rfl,j,l⟩;with_reducible refine q _ _ (ln ?_)
  refine⟨rfl,?_,?_,?_⟩
  ·exact ag
  ·rw[u.out]
   exact j
  ·exact l
 ·cases D
  ·clear r
   iterate 26 with_reducible refine st ?_
   with_reducible refine Lz (fun K q=>?_)
   go_simp;refine(ae _ _ 4 105 p.out rfl).mono ?_;rintro e A ⟨rfl,j,l⟩;with_reducible refine q _ _ (ln ?_)
   refine⟨rfl,?_,?_,?_⟩
   ·exact ag
   ·rw[u.out]
    exact j
   ·exact l
  ·cases E
   ·clear r
    iterate 26 with_reducible refine st ?_
    with_reducible refine Lz (fun K q=>?_)
    go_simp;refine(ae _ _ 4 105 p.out rfl).mono ?_;rintro e A ⟨rfl,j,l⟩;with_reducible refine q _ _ (ln ?_)
    refine⟨rfl,?_,?_,?_⟩
    ·exact ag
    ·rw[u.out]
     exact j
    ·exact l
   ·clear r
    cases H
    ·skip
     iterate 26 with_reducible refine st ?_
     with_reducible refine Lz (fun K q=>?_)
     go_simp;refine(ae _ _ 4 105 p.out rfl).mono ?_;rintro e A ⟨rfl,j,l⟩;with_reducible refine q _ _ (ln ?_)
     refine⟨rfl,?_,?_,?_⟩
     ·exact ag
     ·rw[u.out]
      exact j
     ·exact l
    ·skip
     iterate 26 with_reducible refine st ?_
     with_reducible refine Lz (fun K q=>?_)
     go_simp;refine(ae _ _ 4 105 p.out rfl).mono ?_;rintro e A ⟨rfl,j,l⟩;with_reducible refine q _ _ (ln ?_)
     refine⟨rfl,?_,?_,?_⟩
     ·exact ag
     ·rw[u.out]
      exact j
     ·exact l
theorem mZ{P:Program}(K:P=Tryz.prog){y:Array Oper}{rest:List Oper}{o:Oper}{a:Act}{Q:Exit→Act→World→Prop}(A:o.guard=none){s x:Operand}
 (O:o.op=.call { callee := .builtin .append,args := #[s,x],argTypes := #[168,168] }){Z:Nat}{u:Value}{l:List dp}(R:a.eval s=u)(r:w.ownsRow Z 170 3 u l.length (ap l))(W:l.length≤8388608)
 {d:Nat}{p:dp}(hx:a.eval x=.slice (some ⟨d,0,none⟩) 1 1)(c0:aL w d 0 p.cells)(L:Z≤w.heap.size)
 (h:∀E w',w'.ownsRow Z 170 3 E (l.length+1) (ap (l++[p]))→aD (fun k=>u.ownBlock=some k) w w'→wpList P y Q rest (a.put o.dst E) w'):wpList P y Q (o::rest) a w:=by
 subst K;obtain⟨S,N,B,C,D⟩:=info_parts Tryz.info170;have q:∀j,(⟨d,0,none⟩:Addr).add j=⟨d,j,none⟩:=fun j=>by unfold Addr.add;split<;>simp_all
 refine wpList_append_lies w A s x 168 O Z 170 S (.agg #[.int .u64 0,.int .u64 0,.int .i64 0]) 3 24 Tryz.underlying168 N B C D rfl χ u l.length (ap l) R r ⟨d,0,none⟩ 1 1 p.cells hx rfl (fun j v hv=>?_) lg χ (by unfold maxLen;omega) χ L w.heap.size rfl ?_
 ·rw[q]
  have:=c0 j v hv
  rwa[Nat.zero_add]at this
 ·intro g H w' I J U V
  refine h _ w' ?_ (aD.of_grown J (fun k e=>e));rw[gM];exact I
theorem AD{v:aR}{P:aC}(h:aE B w pb v P fQ L){z:Nat}{x:Ck.Region}(g:aL w z 0 [.int .i64 x.pos,.string x.name,.int .u64 x.size,.bool x.fixed,.int .u64 x.Q7,.bool x.big,.bool x.wx,.int .u64 x.fill,.bool x.QR,.string x.text])(a:Act)(C:a.tmps.size=119)(Y:At a 5 (.pointer (some ⟨z,0,none⟩))){Z:Nat}{u:Value}{l:List dp}(X:At a 2 u)(V:Hid (w.ownsRow Z 170 3 u l.length (ap l)))(hl:l.length≤8388608)(hZ:Z≤w.heap.size)(N:B≤Z)(Q:Exit→Act→World→Prop)
 (O:∀K w' D,aA (fun i=>i==2||(rg 74 83 i)) a K→At K 2 D→w'.ownsRow Z 170 3 D (l.length+1) (ap (l++[⟨x.Q7,x.size,x.pos⟩]))→aE B w' pb v P fQ L→aD (fun k=>u.ownBlock=some k) w w'→Q .normal K w'):
 (bE Tryz.f52 [1,1,0,1,0,0,1,1,0,0,1,1,1,0,1,0,1]).wp Tryz.prog Q a w:=by
 conv=>arg 2;whnf
 refine Code.wp_only (R:=fun E A=>aA (fun i=>i==2||(rg 74 83 i)) a E∧(∃D,At E 2 D∧A.ownsRow Z 170 3 D (l.length+1) (ap (l++[⟨x.Q7,x.size,x.pos⟩])))∧aE B A pb v P fQ L∧aD (fun k=>u.ownBlock=some k) w A) ?_ (fun E A h=>O E A h.2.1.choose h.1 h.2.1.choose_spec.1 h.2.1.choose_spec.2 h.2.2.1 h.2.2.2);clear O;have q0:=g.c0;have q1:=g 1 _ rfl;have q2:=g 2 _ rfl;have q3:=g 3 _ rfl;have q4:=g 4 _ rfl;have q5:=g 5 _ rfl;have q6:=g 6 _ rfl;have q7:=g 7 _ rfl;have q8:=g 8 _ rfl;have q9:=g 9 _ rfl;have U:=hh h;clear h g;obtain⟨T,d⟩:=a;refine rl ?_
 iterate 9 with_reducible refine st ?_
 have S:=b8 w [.int .u64 x.Q7,.int .u64 x.size,.int .i64 x.pos] 170;have j:Kz w (w.alloc (.cells #[.int .u64 x.Q7,.int .u64 x.size,.int .i64 x.pos] 170)):=(aD.refl _ _).alloc _;have r:=hh (ak V.out j (fun _ _ h=>h));refine mZ (p:=⟨x.Q7,x.size,x.pos⟩) rfl rfl rfl (At.eval (by exact aq) (by have:=C;simp at this⊢; omega)) r.out χ (At.eval (by exact aq) (by have:=C;simp at this⊢; omega)) S (by have:=j.size;omega) ?_;intro W A q y;have J:=hh q;have H:Hid (aD (fun k=>u.ownBlock=some k) w A):=(j.mono fun _ _ h=>h.elim).trans y (fun i hi h=>h);have I:=hh ((U.out.new j).grown r.out N ψ y);clear q y S j r;simp only[Act.put];with_reducible refine st ?_;refine ln ?_
 refine⟨rfl,ag,⟨W,aq,J.out⟩,I.out,H.out⟩
theorem sV{P:aC}(h:∀p,dg l p↔dg (jB P) p)(a b:Nat):dO l a b=gv P.QG a b:=by
 unfold dO gv;have e:∀p,dg l p↔∃r∈P.QG,r.Q7≤p∧p≤dM r.Q7 r.size:=fun p=>by
  rw[h];unfold dg jB ka;simp only[List.mem_map];constructor
  ·rintro⟨s,⟨r,g,rfl⟩,d⟩
   exact⟨r,g,d⟩
  ·rintro⟨r,g,d⟩
   exact⟨_,⟨r,g,rfl⟩,d⟩
 rw[Bool.eq_iff_iff];simp only[decide_eq_true_eq,e]
theorem vu{v:aR}{P:aC}(h:aE B w pb v P fQ L){z:Nat}{x:Ck.Region}(E:aL w z 0 [.int .i64 x.pos,.string x.name,.int .u64 x.size,.bool x.fixed,.int .u64 x.Q7,.bool x.big,.bool x.wx,.int .u64 x.fill,.bool x.QR,.string x.text])(ok:x.Ok)(a:Act)(dk:a.tmps.size=119)(h0:At a 0 (.pointer (some ⟨pb,0,none⟩)))(h5:At a 5 (.pointer (some ⟨z,0,none⟩)))(bp:z<w.heap.size)(ds:z≠pb){zs:Nat}{us:Value}{ac:List Sp}(h3:At a 3 (.pointer (some ⟨zs,0,none⟩)))(a6:w.cell? ⟨zs,0,none⟩=some us)(a7:zs<w.heap.size)(cs:zs≠pb)(O:bU w pb us ac)(a3:iN ac)(Y:∀p,dg ac p↔dg (jB P) p)(Q:Exit→Act→World→Prop)
 (hQ:∀g w',aA (fun i=>(rg 47 73 i)) a g→aE B w' pb v P fQ (say (decide (x.size=0)||below x.Q7 x.size 4294967296&&gv P.QG x.Q7 (dM x.Q7 x.size)) x.pos 2++L)→aD (fun k=>k=pb) w w'→Q .normal g w'):
 (bE Tryz.f52 [1,1,0,1,0,0,1,1,0,0,1,1,1,0,1,0,0]).wp Tryz.prog Q a w:=by
 obtain⟨dt,a8,a1,bt,bw,bx⟩:=ok;unfold lim at a8 a1 bt;unfold aX at bw bx;refine Code.wp_only (R:=fun g w'=>aA (fun i=>(rg 47 73 i)) a g∧aE B w' pb v P fQ (say (decide (x.size=0)||below x.Q7 x.size 4294967296&&gv P.QG x.Q7 (dM x.Q7 x.size)) x.pos 2++L)∧aD (fun k=>k=pb) w w') ?_ (fun a4 w4 h=>hQ a4 w4 h.1 h.2.1 h.2.2);clear hQ
 conv=>arg 2;whnf
 have c8:=h.lt;have ad:=hh (h.new ((aD.refl _ w).drew))
 by_cases hs0:x.size=0
 ·have HS:Hid (say (decide (x.size=0)||below x.Q7 x.size 4294967296&&gv P.QG x.Q7 (dM x.Q7 x.size)) x.pos 2=say true x.pos 2):=by rw[decide_eq_true hs0,Bool.true_or];exact hh rfl
  have q0:=E.c0;have q2:=E 2 _ rfl;rw[hs0]at q2;have y:=al;clear h E O Y;obtain⟨T,d⟩:=a;refine wp_region_still_tail 26 δ δ ?_;simp only[List.take_succ_cons,List.take_zero,List.drop_succ_cons,List.drop_zero]
  iterate 26 with_reducible refine sl ?_
  with_reducible refine wpStill_nil ?_;refine Lz (fun K q=>?_)
  go_simp;refine(ae _ _ 2 109 ad.out rfl).mono ?_;rintro e w2 ⟨rfl,I,D⟩;with_reducible refine q _ _ (ln ?_)
  refine⟨rfl,?_,?_,?_⟩
  ·exact ag
  ·rw[HS.out]
   exact I
  ·exact((aD.refl _ _).drew).trans D (fun _ _ e=>e)
 have Z:decide (x.size=0)=false:=decide_eq_false hs0;have di:((x.size:Int)==0)=false:=by rw[kB];exact decide_eq_false χ
 obtain⟨bb,N⟩:∃b,b=below x.Q7 x.size 4294967296:=⟨_,rfl⟩;have W:=fun w0=>kG x.Q7 x.size 4294967296 w0 a1 a8 ψ
 rw[←N]at W
 cases bb
 ·have HS:Hid (say (decide (x.size=0)||below x.Q7 x.size 4294967296&&gv P.QG x.Q7 (dM x.Q7 x.size)) x.pos 2=say false x.pos 2):=by rw[←N,Z];exact hh rfl
  have q0:=E.c0;have q2:=E 2 _ rfl;have q4:=E 4 _ rfl;have bl:=fun w0=>sN (W w0)
  have y:=al;clear h E O Y N Z W;obtain⟨T,d⟩:=a;refine wp_region_still_tail 26 δ δ ?_;simp only[List.take_succ_cons,List.take_zero,List.drop_succ_cons,List.drop_zero]
  iterate 9 with_reducible refine sl ?_
  with_reducible refine wpStill_step (fun K q=>?_)
  go_simp;with_reducible refine⟨_,bl _,q _ ?_⟩;clear q K
  iterate 16 with_reducible refine sl ?_
  with_reducible refine wpStill_nil ?_;refine Lz (fun K q=>?_)
  go_simp;refine(ae _ _ 2 109 ad.out rfl).mono ?_;rintro e w2 ⟨rfl,I,D⟩;with_reducible refine q _ _ (ln ?_)
  refine⟨rfl,?_,?_,?_⟩
  ·exact ag
  ·rw[HS.out]
   exact I
  ·exact((aD.refl _ _).drew).trans D (fun _ _ e=>e)
 ·obtain⟨cv,X⟩:∃b,b=dO ac x.Q7 (dM x.Q7 x.size):=⟨_,rfl⟩
  have HS:Hid (say (decide (x.size=0)||below x.Q7 x.size 4294967296&&gv P.QG x.Q7 (dM x.Q7 x.size)) x.pos 2=say cv x.pos 2):=by rw[←N,Z,X,sV Y];exact hh rfl
  have bm:=mV x.Q7 x.size;obtain⟨la,af⟩:∃n,n=dM x.Q7 x.size:=⟨_,rfl⟩;rw[←af]at bm X;have a2:la<lim:=by rw[af];exact Nat.mod_lt _ ψ
  have S:Hid (∀w',Kz w.drew w'→(w'.cell? ⟨z,0,none⟩=some (.int .i64 x.pos)∧w'.cell? ⟨z,2,none⟩=some (.int .u64 x.size)∧w'.cell? ⟨z,4,none⟩=some (.int .u64 x.Q7)∧w'.cell? ⟨zs,0,none⟩=some us)):=fun w' hk=>by
   have D:Kz w w':=((aD.refl _ w).drew).trans hk (fun _ _ h=>h);have a0:=E.keep D bp (fun h=>h);exact⟨a0.c0,a0 2 _ rfl,a0 4 _ rfl,(D.cell (p:=⟨zs,0,none⟩) a7 (fun h=>h)).trans a6⟩
  have bd:Hid (∀w',Kz w.drew w'→Calls Tryz.prog 102 #[.agg #[us],.agg #[.int .u64 x.Q7,.int .u64 la]] w' fun e w2=>e=.returned (.bool cv)∧Kz w' w2):=fun w' hk=>by
   have D:Kz w w':=((aD.refl _ w).drew).trans hk (fun _ _ h=>h);rw[X];exact uH (O.keep (D.mono fun _ _ h=>h.elim)) a3 _ _ a1 a2 (by have:=D.size;omega)
  have bo:∃A n c,us=.slice A n c:=by obtain⟨A,c,e,_⟩:=O;exact⟨A,_,c,e⟩
  obtain⟨A,n,c,rfl⟩:=bo;clear h E O Y N Z X af a6;refine jJ 26 (fun i=>([.pointer (some ⟨pb,0,none⟩),.pointer (some ⟨z,2,none⟩),.int .u64 x.size,.bool false,.bool false,.pointer (some ⟨z,4,none⟩),.int .u64 x.Q7,.pointer (some ⟨z,2,none⟩),.int .u64 x.size,.bool true,.bool true,.agg #[.slice A n c],.pointer (some ⟨z,4,none⟩),.int .u64 x.Q7,.pointer (some ⟨z,4,none⟩),.int .u64 x.Q7,.pointer (some ⟨z,2,none⟩),.int .u64 x.size,.int .u64 (IntKind.u64.wrap ((x.Q7:Int)+(x.size:Int))),.int .u64 la,.agg #[.int .u64 x.Q7,.int .u64 la],.bool cv,.bool cv,.bool cv,.pointer (some ⟨z,0,none⟩),.int .i64 x.pos]:List Value).getD i undef) (fun w'=>Kz w.drew w') δ δ ?_ ?_ ?_
  ·first|exact hWd|exact aD.refl _ _
  ·intro i o hi r g w' K u J l q
   have a5:g.tmps.size=119:=J.size.trans (by first|assumption|(simp only[Array.size_setIfInBounds];assumption));have a9:=J.Q7 h0 rfl;have bc:=J.Q7 h5 rfl;have ba:=J.Q7 h3 rfl
   match i,hi,r,l,q with
   | 0,_,r,l,q =>
    obtain rfl:=oi r;obtain⟨T,d⟩:=g;go_simp;exact q _ u
   | 1,_,r,l,q =>
    obtain rfl:=oi r;obtain⟨T,d⟩:=g;go_simp;exact q _ u
   | 2,_,r,l,q =>
    obtain rfl:=oi r;have cw:At g 48 (.pointer (some ⟨z,2,none⟩)):=l 1 δ ψ 48 rfl;obtain⟨c0,c2,U,V⟩:=S.out _ u;obtain⟨T,d⟩:=g;go_simp;exact q _ u
   | 3,_,r,l,q =>
    obtain rfl:=oi r;have cx:At g 49 (.int .u64 x.size):=l 2 δ ψ 49 rfl;obtain⟨T,d⟩:=g;go_simp;exact q _ u
   | 4,_,r,l,q =>
    obtain rfl:=oi r;have cy:At g 50 (.bool false):=l 3 δ ψ 50 rfl;obtain⟨T,d⟩:=g;go_simp;exact q _ u
   | 5,_,r,l,q =>
    obtain rfl:=oi r;have H:At g 51 (.bool false):=l 4 δ ψ 51 rfl;have y:=al;obtain⟨T,d⟩:=g;go_simp;exact q _ u
   | 6,_,r,l,q =>
    obtain rfl:=oi r;have c1:At g 52 (.pointer (some ⟨z,4,none⟩)):=l 5 δ ψ 52 rfl;have H:At g 51 (.bool false):=l 4 δ ψ 51 rfl;obtain⟨c0,c2,U,V⟩:=S.out _ u;have y:=al;obtain⟨T,d⟩:=g;go_simp;exact q _ u
   | 7,_,r,l,q =>
    obtain rfl:=oi r;have H:At g 51 (.bool false):=l 4 δ ψ 51 rfl;have y:=al;obtain⟨T,d⟩:=g;go_simp;exact q _ u
   | 8,_,r,l,q =>
    obtain rfl:=oi r;have c5:At g 54 (.pointer (some ⟨z,2,none⟩)):=l 7 δ ψ 54 rfl;have H:At g 51 (.bool false):=l 4 δ ψ 51 rfl;obtain⟨c0,c2,U,V⟩:=S.out _ u;have y:=al;obtain⟨T,d⟩:=g;go_simp;exact q _ u
   | 9,_,r,l,q =>
    obtain rfl:=oi r;have c3:At g 53 (.int .u64 x.Q7):=l 6 δ ψ 53 rfl;have c6:At g 55 (.int .u64 x.size):=l 8 δ ψ 55 rfl;have H:At g 51 (.bool false):=l 4 δ ψ 51 rfl;obtain⟨c0,c2,U,V⟩:=S.out _ u;have y:=al;obtain⟨T,d⟩:=g;go_simp;refine(W _).mono ?_;rintro e w2 ⟨rfl,rfl⟩;exact q _ u
   | 10,_,r,l,q =>
    obtain rfl:=oi r;have c7:At g 56 (.bool true):=l 9 δ ψ 56 rfl;have H:At g 51 (.bool false):=l 4 δ ψ 51 rfl;have y:=al;obtain⟨T,d⟩:=g;go_simp;exact q _ u
   | 11,_,r,l,q =>
    obtain rfl:=oi r;have C:At g 57 (.bool true):=l 10 δ ψ 57 rfl;obtain⟨c0,c2,U,V⟩:=S.out _ u;have y:=al;obtain⟨T,d⟩:=g;go_simp;exact q _ u
   | 12,_,r,l,q =>
    obtain rfl:=oi r;have C:At g 57 (.bool true):=l 10 δ ψ 57 rfl;have y:=al;obtain⟨T,d⟩:=g;go_simp;exact q _ u
   | 13,_,r,l,q =>
    obtain rfl:=oi r;have b0:At g 59 (.pointer (some ⟨z,4,none⟩)):=l 12 δ ψ 59 rfl;have C:At g 57 (.bool true):=l 10 δ ψ 57 rfl;obtain⟨c0,c2,U,V⟩:=S.out _ u;have y:=al;obtain⟨T,d⟩:=g;go_simp;exact q _ u
   | 14,_,r,l,q =>
    obtain rfl:=oi r;have C:At g 57 (.bool true):=l 10 δ ψ 57 rfl;have y:=al;obtain⟨T,d⟩:=g;go_simp;exact q _ u
   | 15,_,r,l,q =>
    obtain rfl:=oi r;have b2:At g 61 (.pointer (some ⟨z,4,none⟩)):=l 14 δ ψ 61 rfl;have C:At g 57 (.bool true):=l 10 δ ψ 57 rfl;obtain⟨c0,c2,U,V⟩:=S.out _ u;have y:=al;obtain⟨T,d⟩:=g;go_simp;exact q _ u
   | 16,_,r,l,q =>
    obtain rfl:=oi r;have C:At g 57 (.bool true):=l 10 δ ψ 57 rfl;have y:=al;obtain⟨T,d⟩:=g;go_simp;exact q _ u
   | 17,_,r,l,q =>
    obtain rfl:=oi r;have b4:At g 63 (.pointer (some ⟨z,2,none⟩)):=l 16 δ ψ 63 rfl;have C:At g 57 (.bool true):=l 10 δ ψ 57 rfl;obtain⟨c0,c2,U,V⟩:=S.out _ u;have y:=al;obtain⟨T,d⟩:=g;go_simp;exact q _ u
   | 18,_,r,l,q =>
    obtain rfl:=oi r;have b3:At g 62 (.int .u64 x.Q7):=l 15 δ ψ 62 rfl;have b5:At g 64 (.int .u64 x.size):=l 17 δ ψ 64 rfl;have C:At g 57 (.bool true):=l 10 δ ψ 57 rfl;have y:=al;obtain⟨T,d⟩:=g;go_simp;exact q _ u
   | 19,_,r,l,q =>
    obtain rfl:=oi r;have cb:At g 65 (.int .u64 (IntKind.u64.wrap ((x.Q7:Int)+(x.size:Int)))):=l 18 δ ψ 65 rfl;have C:At g 57 (.bool true):=l 10 δ ψ 57 rfl;have y:=al;obtain⟨T,d⟩:=g;go_simp;exact q _ u
   | 20,_,r,l,q =>
    obtain rfl:=oi r;have b1:At g 60 (.int .u64 x.Q7):=l 13 δ ψ 60 rfl;have cc:At g 66 (.int .u64 la):=l 19 δ ψ 66 rfl;have C:At g 57 (.bool true):=l 10 δ ψ 57 rfl;have y:=al;obtain⟨T,d⟩:=g;go_simp;exact q _ u
   | 21,_,r,l,q =>
    obtain rfl:=oi r;have bz:At g 58 (.agg #[.slice A n c]):=l 11 δ ψ 58 rfl;have cd:At g 67 (.agg #[.int .u64 x.Q7,.int .u64 la]):=l 20 δ ψ 67 rfl;have C:At g 57 (.bool true):=l 10 δ ψ 57 rfl;obtain⟨c0,c2,U,V⟩:=S.out _ u;have y:=al;obtain⟨T,d⟩:=g;go_simp;refine(bd.out _ u).mono ?_;rintro e w2 ⟨rfl,D⟩;exact q _ (u.trans D (fun _ _ h=>h))
   | 22,_,r,l,q =>
    obtain rfl:=oi r;have C:At g 57 (.bool true):=l 10 δ ψ 57 rfl;have cf:At g 68 (.bool cv):=l 21 δ ψ 68 rfl;have H:At g 51 (.bool false):=l 4 δ ψ 51 rfl;have y:=al;obtain⟨T,d⟩:=g;go_simp;exact q _ u
   | 23,_,r,l,q =>
    obtain rfl:=oi r;have H:At g 51 (.bool false):=l 4 δ ψ 51 rfl;have ci:At g 69 (.bool cv):=l 22 δ ψ 69 rfl;obtain⟨T,d⟩:=g;go_simp;exact q _ u
   | 24,_,r,l,q =>
    obtain rfl:=oi r;obtain⟨T,d⟩:=g;go_simp;exact q _ u
   | 25,_,r,l,q =>
    obtain rfl:=oi r;have cm:At g 71 (.pointer (some ⟨z,0,none⟩)):=l 24 δ ψ 71 rfl;obtain⟨c0,c2,U,V⟩:=S.out _ u;obtain⟨T,d⟩:=g;go_simp;exact q _ u
   | i+26,hi,_,_,_=>omega
  ·intro o r g w' u J l
   obtain rfl:=oi r;have a5:g.tmps.size=119:=J.size.trans (by first|assumption|(simp only[Array.size_setIfInBounds];assumption));have a9:=J.Q7 h0 rfl;have bc:=J.Q7 h5 rfl;have ba:=J.Q7 h3 rfl;have cu:At g 47 (.pointer (some ⟨pb,0,none⟩)):=l 0 ψ 47 rfl;have cl:At g 70 (.bool cv):=l 23 ψ 70 rfl;have cp:At g 72 (.int .i64 x.pos):=l 25 ψ 72 rfl;have bf:=hh (ad.out.new u);have be:Hid (aD (fun k=>k=pb) w w'):=((aD.refl (fun k=>k=pb) w).drew).trans u (fun _ _ h=>h.elim);have HB:=hh J;clear u J l;obtain⟨T,d⟩:=g;with_reducible refine Lz (fun K q=>?_)
   go_simp;refine(ae _ _ 2 109 bf.out rfl).mono ?_;rintro e w2 ⟨rfl,I,D⟩;with_reducible refine q _ _ (ln ?_)
   refine⟨rfl,(HB.out.agree (ws:=fun i=>rg 47 73 i) δ).trans (vs:=fun i=>i==73) ?_ ζ,?_,be.out.trans D (fun _ _ e=>e)⟩
   ·exact ag
   ·rw[HS.out];exact I
def ir(l:List Ck.Region):List dp:=(l.filter Ck.Region.fixed).map fun x=>⟨x.Q7,x.size,x.pos⟩
theorem wu(l:List Ck.Region)(x:Ck.Region):ir (l++[x])=if x.fixed then ir l++[⟨x.Q7,x.size,x.pos⟩]else ir l:=by
 unfold ir;rw[List.filter_append]
 by_cases h:x.fixed<;>simp[h]
theorem sP(l:List Ck.Region):(ir l).length≤l.length:=by unfold ir;rw[List.length_map];exact List.length_filter_le _ _
theorem xz{v:aR}{P:aC}(h:aE B w pb v P fQ [])(a:Act)(d7:a.tmps.size=119)(h0:At a 0 (.pointer (some ⟨pb,0,none⟩)))(h2:At a 2 (.slice none 0 0)){zs:Nat}{us:Value}{cc:List Sp}(h3:At a 3 (.pointer (some ⟨zs,0,none⟩)))(d8:w.cell? ⟨zs,0,none⟩=some us)(bz:zs<w.heap.size)(b0:zs≠pb)(b4:bU w pb us cc)(bw:iN cc)(b2:∀p,dg cc p↔dg (jB P) p)(Q:Exit→Act→World→Prop)
 (hQ:∀a' w' u',aA (fun i=>i==2||i==5||i==6||(rg 9 115 i)) a a'→At a' 2 u'→w'.ownsRow w.heap.size 170 3 u' (ir P.Q5).length (ap (ir P.Q5))→P.Q5.length≤8388608→aE B w' pb v P fQ (P.Q5.flatMap (ra P))→aD (fun k=>k=pb) w w'→Q .normal a' w'):
 (bE Tryz.f52 [1,1,0]).wp Tryz.prog Q a w:=by
 have hs:=h.QP.Q5;obtain⟨A,c,hu,eq,d6,hl⟩:=hs;unfold top at d6;have ep:=h.lt;have en:=h.base;have hq:w.cell? ⟨pb,4,none⟩=some v.Q5:=h.cell rfl;rw[hu]at hq;clear hu
 conv=>arg 2;whnf
 refine so (fun V w1=>aA (fun i=>(rg 9 15 i)) a V∧At V 13 (.slice A P.Q5.length c)∧At V 14 (.int .i64 P.Q5.length)∧At V 15 (.int .i64 0)∧w1=w) ?_ ?_
 ·clear hl b4 b2
  obtain⟨T,d⟩:=a;refine rl ?_
  iterate 7 with_reducible refine st ?_
  with_reducible refine ln ?_
  refine⟨rfl,ag,aq,aq,aq,rfl⟩
 rintro a0 w0 ⟨W,eg,ef,ed,rfl⟩;have c3:=W.size.trans d7;replace h0:=W.Q7 h0 rfl;replace h2:=W.Q7 h2 rfl;replace h3:=W.Q7 h3 rfl;obtain⟨Z,hZ⟩:∃z,z=w0.heap.size:=⟨_,rfl⟩;rw[←hZ]at hQ;have HZ:=hh hZ;clear hZ;have d1:=hh b4;have ds:=hh b2;have cm:=hh bw;clear b4 b2 bw;refine bj P.Q5.length (fun i=>i==2||i==5||i==6||(rg 15 115 i)) (fun i=>i==2||i==5||i==6||(rg 17 114 i)) (fun k a' w'=>∃u,At a' 2 u∧w'.ownsRow Z 170 3 u (ir (P.Q5.take k)).length (ap (ir (P.Q5.take k)))∧aE B w' pb v P fQ ((P.Q5.take k).flatMap (ra P))∧aD (fun k=>k=pb) w0 w') χ ed ef ψ rfl
  ζ χ ψ (fun k V a2 w hA ⟨u,h1,h2⟩=>⟨u,hA.Q7 h1 rfl,h2⟩) ⟨_,h2,by simpa[ir,ap]using World.ownsRow_nil _ _ _ _,by simpa using h,aD.refl _ _⟩ ?_ ?_
 ·rintro k V wr c2 hA ee ⟨u,C,H,hL,hk⟩
  obtain⟨bl,off,rfl,d5,cx⟩:=hl χ;obtain⟨x,hx⟩:=ge c2;obtain⟨hc,K⟩:=(aF B _ _) _ _ _ _ _ (hk.below (B:=B) χ (fun _ hi e=>χ)) d5 (cx k x hx);have q0:=hc.c0;have q1:=hc 1 _ rfl;have q2:=hc 2 _ rfl;have q3:=hc 3 _ rfl;have q4:=hc 4 _ rfl;have q5:=hc 5 _ rfl;have q6:=hc 6 _ rfl;have q7:=hc 7 _ rfl;have q8:=hc 8 _ rfl;have q9:=hc 9 _ rfl;have r:=hA.Q7 h0 rfl;have J:=hA.Q7 h3 rfl;have dk:=hA.Q7 eg rfl;have c4:=hA.size.trans c3;have c7:=hk.size;have cw:bl<wr.heap.size:=χ
  have eo:k≤c:=χ
  obtain⟨fs,bd⟩:∃l,l=ir (P.Q5.take k):=⟨_,rfl⟩;rw[←bd]at H;have er:fs.length≤k:=by have:=sP (P.Q5.take k);rw[←bd,List.length_take]at this;omega
  have HR:Hid (ir (P.Q5.take (k+1))=if x.fixed then fs++[⟨x.Q7,x.size,x.pos⟩]else fs):=by
   refine hh ?_;rw[aP hx,wu,bd]
  have HX:=hh hx;have HO:=hh H;have HL:=hh hL;have HK:=hh hk;have HA:=hh hA;clear hx H hk hA cx hc bd hl hL;refine so (fun a2 w2=>aA (fun i=>i==17||i==18||i==5) V a2∧At a2 5 (.pointer (some ⟨wr.heap.size,0,none⟩))∧w2=wr.alloc (.cells #[.int .i64 x.pos,.string x.name,.int .u64 x.size,.bool x.fixed,.int .u64 x.Q7,.bool x.big,.bool x.wx,.int .u64 x.fill,.bool x.QR,.string x.text] 48)) ?_ ?_
  ·obtain⟨T,d⟩:=V
   refine rl ?_
   iterate 4 with_reducible refine st ?_
   with_reducible refine ln ?_
   refine⟨rfl,ag,aq,rfl⟩
  rintro a2 wo ⟨U,y,bo⟩;obtain⟨z,hz⟩:∃z,z=wr.heap.size:=⟨_,rfl⟩;rw[←hz]at y;have q:aL wo z 0 [.int .i64 x.pos,.string x.name,.int .u64 x.size,.bool x.fixed,.int .u64 x.Q7,.bool x.big,.bool x.wx,.int .u64 x.fill,.bool x.QR,.string x.text]:=by rw[bo,hz];exact b8 _ _ _
  have E:z<wo.heap.size:=by rw[bo,hz];simp
  have bm:Kz wr wo:=by rw[bo];exact(aD.refl _ _).alloc _
  have R:z≠pb:=χ
  have g:=U.size.trans c4;have r:=U.Q7 r rfl;have J:=U.Q7 J rfl;have C:=U.Q7 C rfl;have bb:Hid (∀k,u.ownBlock=some k→k<z∧k≠pb):=fun k hk=>by have h1:=(HO.out.lt k hk);have:=HZ.out;omega
  have HO:=hh (ak HO.out bm (fun _ _ h=>h));have L:=hh (HL.out.new bm);have D:=hh (HK.out.trans bm (fun _ _ h=>h.elim));have S:Hid (aA (fun i=>i==2||i==5||i==6||(rg 17 114 i)) V a2):=U.m;clear bo hz bm HL HK U dk ee c7 cw q0 q1 q2 q3 q4 q5 q6 q7 q8 q9;refine wp_seq (xw L.out q K a2 g r y _ (fun a3 w3 N cs ad=>?_));have q:=q.keep ad E R;have E:z<w3.heap.size:=Nat.lt_of_lt_of_le E ad.size;have HO:=hh (ak HO.out ad (fun j hj e=>(bb.out j hj).2 e));have L:=hh cs;have D:=hh (D.out.trans ad (fun _ _ e=>e));have r:=N.Q7 r rfl;have C:=N.Q7 C rfl;have J:=N.Q7 J rfl;have y:=N.Q7 y rfl;have g:=N.size.trans g;have S:Hid (aA (fun i=>i==2||i==5||i==6||(rg 17 114 i)) V a3):=S.out.t N;clear N cs ad;refine wp_seq (xx L.out q K a3 g r y _ (fun a4 w4 O cu af=>?_));have q:=q.keep af E R;have E:z<w4.heap.size:=Nat.lt_of_lt_of_le E af.size;have HO:=hh (ak HO.out af (fun j hj e=>(bb.out j hj).2 e));have L:=hh cu;have D:=hh (D.out.trans af (fun _ _ e=>e));have r:=O.Q7 r rfl;have C:=O.Q7 C rfl;have J:=O.Q7 J rfl;have y:=O.Q7 y rfl;have g:=O.size.trans g;have S:Hid (aA (fun i=>i==2||i==5||i==6||(rg 17 114 i)) V a4):=S.out.t O;clear O cu af;refine so (fun a' w'=>aA (fun i=>i==2||(rg 45 83 i)) a4 a'∧(∃u',At a' 2 u'∧w'.ownsRow Z 170 3 u' (ir (P.Q5.take (k+1))).length (ap (ir (P.Q5.take (k+1)))))∧aE B w' pb v P fQ (oL P x++(say (decide (0<x.size)&&decide (x.size≤67108864)) x.pos 1++(say (decide ((x.size ||| x.Q7)%unit x.big=0)) x.pos 0++(P.Q5.take k).flatMap (ra P))))∧aD (fun k=>k=pb) w0 w'∧aL w' z 0 [.int .i64 x.pos,.string x.name,.int .u64 x.size,.bool x.fixed,.int .u64 x.Q7,.bool x.big,.bool x.wx,.int .u64 x.fill,.bool x.QR,.string x.text]) ?_ ?_
  ·refine so (fun a5 w5=>aA (fun i=>i==45||i==46) a4 a5∧At a5 46 (.bool x.fixed)∧w5=w4) ?_ ?_
   ·have q3:=q 3 _ rfl
    clear q;obtain⟨T,d⟩:=a4;refine rl ?_
    iterate 2 with_reducible refine st ?_
    with_reducible refine ln ?_
    refine⟨rfl,ag,aq,rfl⟩
   rintro a5 w5 ⟨I,ea,rfl⟩;have bx:=I.size.trans g;have b1:=ea.eval χ;obtain⟨bf,ac⟩:∃b,x.fixed=b:=⟨_,rfl⟩;rw[ac]at b1
   cases bf
   ·refine wp_cond_false b1 (wp_skip ?_)
    repeat with_reducible apply bu
    refine⟨rfl,I.m,⟨u,I.Q7 C rfl,?_⟩,?_,D.out,q⟩
    ·rw[HR.out,ac];exact HO.out
    ·unfold oL;rw[ac];simpa using L.out
   ·refine wp_cond_true b1 ?_
    have di:=(D.out.cell (p:=⟨zs,0,none⟩) bz b0).trans d8;have cb:zs<w5.heap.size:=Nat.lt_of_lt_of_le bz D.out.size;refine wp_seq (vu L.out q K a5 bx (I.Q7 r rfl) (I.Q7 y rfl) E R (I.Q7 J rfl) di cb b0 (d1.out.keep D.out) cm.out ds.out _ (fun a6 w6 bc d3 be=>?_))
    repeat with_reducible apply bu
    have c8:=q.keep be E R;have c9:z<w6.heap.size:=Nat.lt_of_lt_of_le E be.size;have ci:=hh (ak HO.out be (fun j hj e=>(bb.out j hj).2 e));have cf:=hh (D.out.trans be (fun _ _ e=>e));have c5:=bc.size.trans bx;refine AD d3 c8 a6 c5 (bc.Q7 (I.Q7 y rfl) rfl) (bc.Q7 (I.Q7 C rfl) rfl) ci χ (by have:=cf.out.size;have:=HZ.out;omega) (by have:=HZ.out;omega) _ (fun a7 w7 u7 d2 k2 b3 d4 cy=>?_);refine⟨rfl,((I.m).t bc).t d2,⟨u7,k2,?_⟩,?_,cf.out.trans cy (fun j hj e=>?_),c8.keep cy c9 (fun e=>?_)⟩
    ·rw[HR.out,ac];simp only[if_true,List.length_append];exact b3
    ·unfold oL;rw[ac];simpa using d4
    ·have:=(ci.out.lt j e).1;have:=HZ.out;omega
    ·have:=(bb.out z e).1;omega
  rintro a8 w8 ⟨X,⟨u8,d9,ba⟩,cv,c1,b5⟩;have cl:=hh ba;have d0:=hh cv;have dt:=hh c1;have r:=X.Q7 r rfl;have y:=X.Q7 y rfl;have c6:=X.size.trans g;have cd:Hid (aA (fun i=>i==2||i==5||i==6||(rg 17 114 i)) V a8):=S.out.t X;clear ba cv c1 X S q E HO L D C J;refine so (fun a9 w9=>aA (fun i=>i==6||(rg 84 87 i)) a8 a9∧At a9 6 (.int .u64 x.text.size)∧w9=w8) ?_ ?_
  ·have q9:=b5 9 _ rfl
   have es:IntKind.u64.wrap (x.text.size:Int)=(x.text.size:Int):=u64_in _ (by have:=K.2.2.2.2.2;unfold aX at this;omega);clear b5;obtain⟨T,d⟩:=a8;refine rl ?_
   iterate 5 with_reducible refine st ?_
   with_reducible refine ln ?_
   refine⟨rfl,ag,aq,rfl⟩
  rintro a9 w9 ⟨Y,eb,rfl⟩;refine yA d0.out b5 K a9 (Y.size.trans c6) (Y.Q7 r rfl) (Y.Q7 y rfl) eb _ (fun em eu bp cp bt=>?_);refine⟨(cd.out.t Y).t bp,u8,bp.Q7 (Y.Q7 d9 rfl) rfl,ak cl.out bt (fun j hj e=>?_),cp.congr fun p=>?_,dt.out.trans bt (fun _ _ e=>e)⟩
  ·have:=(cl.out.lt j hj).1;have:=HZ.out;omega
  ·rw[aP HX.out,List.flatMap_append,List.flatMap_cons,List.flatMap_nil,List.append_nil]
   simp only[List.mem_append,ra]
   try simp only[or_assoc,or_comm,or_left_comm]
 ·rintro a' w' hA ⟨u,C,H,hL,hk⟩
  rw[List.take_length]at H hL;exact hQ _ _ _ ((W.m).t hA) C H χ hL hk
theorem C9{v:aR}{P:aC}(h:ao B w v P):∀x∈ir P.Q5,x.Ok:=by
 intro s j;obtain⟨x,hx,rfl⟩:=List.mem_map.1 j;have hx:=(List.mem_filter.1 hx).1;obtain⟨A,c,_,_,_,g⟩:=h.Q5;obtain⟨l,off,_,_,d⟩:=g (List.length_pos_of_mem hx);obtain⟨k,hk⟩:=List.getElem?_of_mem hx;have ok:=(d k x hk).2;exact⟨ok.2.2.1,ok.2.1,ok.1⟩
theorem rY{v:aR}{P:aC}(h:aE B w pb v P fQ []):
 Calls Tryz.prog 52 #[.pointer (some ⟨pb,0,none⟩)] w fun e w'=>e=.returned (.tuple #[])∧aE B w' pb v P fQ (fS P)∧aD (fun k=>k=pb) w w':=by
 have a4:=h.lt;have HH:=hh h;have HG:=hh (tx h);clear h;refine b9 Tryz.func52 Tryz.ntmps52 rfl ξ fun a a5 a0 j=>?_
 have h0:At a 0 (.pointer (some ⟨pb,0,none⟩)):=j 0 _ rfl;clear j
 conv=>arg 2;whnf
 refine so (fun Q w1=>aA (fun i=>i==2) a Q∧At Q 2 (.slice none 0 0)∧w1=w) ?_ ?_
 ·obtain⟨T,d⟩:=a
  refine rl ?_;with_reducible refine st ?_;refine ln ?_
  refine⟨rfl,ag,aq,rfl⟩
 rintro Q w1 ⟨u,k2,rfl⟩;have ac:=u.size.trans a5;have S:=u.defers.trans a0;have j0:=u.Q7 h0 rfl;refine so (fun a2 w2=>aA (fun i=>i==3||i==7||i==8) Q a2∧∃r y l,At a2 3 (.pointer (some ⟨r.heap.size,0,none⟩))∧iN l∧(∀p,dg l p↔dg (jB P) p)∧bU r pb y l∧Kz w1 r∧w2=r.alloc (.cells #[y] 175)) ?_ ?_
 ·obtain⟨T,d⟩:=Q
  refine rl ?_;with_reducible refine st ?_;refine Lz (fun K hK=>?_)
  go_simp;refine HG.out.mono ?_;rintro e r ⟨y,l,rfl,h1,h2,h3,h4⟩;have h3:=h3 pb a4;have H1:=hh h1;have H2:=hh h2;have H3:=hh h3;have H4:=hh h4;obtain⟨A,c,rfl,_⟩:=h3;clear h1 h2 h4;with_reducible refine hK _ _ ?_;clear hK K
  iterate 2 with_reducible refine st ?_
  with_reducible refine ln ?_
  refine⟨rfl,ag,r,_,l,aq,H1.out,H2.out,H3.out,H4.out,rfl⟩
 rintro a2 w2 ⟨g,r,y,l,k3,C,W,Z,O,rfl⟩;have E:=g.size.trans ac;have U:=g.defers.trans S;have N:Kz r (r.alloc (.cells #[y] 175)):=(aD.refl _ _).alloc _;have J:=O.trans N (fun _ _ h=>h);have D:bU (r.alloc (.cells #[y] 175)) pb y l:=Z.keep (N.mono fun _ _ h=>h.elim);have ad:=b8 r [y] 175 0 y rfl;have a8:=O.size;refine wp_seq (xz (HH.out.new J) a2 E (g.Q7 j0 rfl) (g.Q7 k2 rfl) k3 ad ξ χ D C W _ (fun a3 w3 u3 x l2 q ba H X=>?_));have a6:=x.size.trans E;have V:=x.defers.trans U;have l0:=x.Q7 (g.Q7 j0 rfl) rfl;have a7:=sP P.Q5;have Y:fO w3 pb u3 (ir P.Q5):=fi q (C9 H.QP) χ η;have HC:=hh (mJ H Y 3 rfl);have HK:=hh ((J.mono fun _ _ h=>h.elim:aD (fun k=>k=pb) w1 _).trans X (fun _ _ e=>e));clear Y q H X D Z N J O C W ad x g u;refine Code.wp_only (R:=fun a9 w9=>a9.defers=[]∧aE B w9 pb v P fQ (eB 3 (ir P.Q5)++P.Q5.flatMap (ra P))∧aD (fun k=>k=pb) w3 w9) ?_ ?_
 ·obtain⟨T,d⟩:=a3
  refine rl ?_
  iterate 2 with_reducible refine st ?_
  with_reducible refine Lz (fun K hK=>?_)
  go_simp;refine HC.out.mono ?_;rintro e w9 ⟨rfl,I,L⟩;with_reducible refine hK _ _ (ln ?_)
  exact⟨rfl,V,I,L⟩
 rintro a9 w9 ⟨af,I,L⟩;refine ek rfl af ⟨rfl,I.congr fun p=>?_,HK.out.trans L (fun _ _ e=>e)⟩;unfold fS;rw[show P.fixed=ir P.Q5 from rfl];simp only[List.mem_append,or_comm]
theorem yd{v:aR}{P:aC}(h:aE B w pb v P eY L){z y:Nat}{x:Ck.Map}{t:jl}(g:aL w z 0 [.int .i64 x.pos,.string x.of,.int .u64 x.Q7,.bool x.write,.bool x.exec])(j:aL w y 0 [.int .u64 t.size,.bool t.big,.bool t.wx])(I:x.Q7<lim)(H:t.size<lim)(a:Act)(Y:a.tmps.size=108)(h0:At a 0 (.pointer (some ⟨pb,0,none⟩)))(h9:At a 9 (.pointer (some ⟨z,0,none⟩)))(S:At a 10 (.pointer (some ⟨y,0,none⟩)))(Q:Exit→Act→World→Prop)
 (J:∀p w',aA (fun i=>(rg 42 52 i)) a p→aE B w' pb v P eY (say (decide (x.Q7%unit t.big=0)) x.pos 0++L)→aD (fun k=>k=pb) w w'→Q .normal p w'):
 (bE Tryz.f53 [1,1,1,0,0,1,1,0,0,1,1,1,0,1,0,0,1,1,0,0,1,1,0]).wp Tryz.prog Q a w:=by
 unfold lim at I H;refine Code.wp_only (R:=fun p w'=>aA (fun i=>(rg 42 52 i)) a p∧aE B w' pb v P eY (say (decide (x.Q7%unit t.big=0)) x.pos 0++L)∧aD (fun k=>k=pb) w w') ?_ (fun O w4 h=>J O w4 h.1 h.2.1 h.2.2);clear J
 conv=>arg 2;whnf
 have q0:=g.c0;have q1:=g 1 _ rfl;have q2:=g 2 _ rfl;have q3:=g 3 _ rfl;have q4:=g 4 _ rfl;have y0:=j.c0;have y1:=j 1 _ rfl;have y2:=j 2 _ rfl;obtain⟨U,r⟩:∃u,u=unit t.big:=⟨_,rfl⟩;have l:=fun Z=>sN (rF t.big Z)
 rw[←r]at l;have D:0<U:=by rw[r];unfold unit;split<;>omega
 have V:¬ (U=0):=χ
 have W:((U:Int)==0)=false:=η
 obtain⟨b,X⟩:∃b,((x.Q7:Int).tmod (U:Int)==0)=b:=⟨_,rfl⟩;have N:Hid (say (decide (x.Q7%unit t.big=0)) x.pos 0=say b x.pos 0):=by
  refine hh ?_;rw[←X,←r,show((x.Q7:Int).tmod (U:Int))=((x.Q7%U:Nat):Int) from rfl]
  congr 1
  rw[kB];exact decide_eq_decide.2 χ
 have A:=hh (h.new ((aD.refl _ w).drew));clear h g j r D;obtain⟨T,d⟩:=a;refine wp_region_still_tail 10 δ δ ?_;simp only[List.take_succ_cons,List.take_zero,List.drop_succ_cons,List.drop_zero]
 iterate 5 with_reducible refine sl ?_
 with_reducible refine wpStill_step (fun K q=>?_)
 go_simp;with_reducible refine⟨_,l _,q _ ?_⟩;clear q K
 iterate 4 with_reducible refine sl ?_
 with_reducible refine wpStill_nil ?_;refine Lz (fun K q=>?_)
 go_simp;refine(ae _ _ 0 33 A.out rfl).mono ?_;rintro e w2 ⟨rfl,C,E⟩;with_reducible refine q _ _ (ln ?_)
 refine⟨rfl,?_,?_,?_⟩
 ·exact ag
 ·rw[N.out]
  exact C
 ·exact((aD.refl _ _).drew).trans E (fun _ _ e=>e)
theorem wR{v:aR}{P:aC}(h:aE B w pb v P eY L){z y:Nat}{x:Ck.Map}{t:jl}(g:aL w z 0 [.int .i64 x.pos,.string x.of,.int .u64 x.Q7,.bool x.write,.bool x.exec])(j:aL w y 0 [.int .u64 t.size,.bool t.big,.bool t.wx])(q:x.Q7<lim)(p:t.size<lim)(a:Act)(O:a.tmps.size=108)(V:At a 0 (.pointer (some ⟨pb,0,none⟩)))(W:At a 9 (.pointer (some ⟨z,0,none⟩)))(N:At a 10 (.pointer (some ⟨y,0,none⟩)))(Q:Exit→Act→World→Prop)
 (H:∀r w',aA (fun i=>(rg 53 61 i)) a r→aE B w' pb v P eY (say (below x.Q7 t.size 549755813888) x.pos 1++L)→aD (fun k=>k=pb) w w'→Q .normal r w'):
 (bE Tryz.f53 [1,1,1,0,0,1,1,0,0,1,1,1,0,1,0,0,1,1,0,0,1,1,1,0]).wp Tryz.prog Q a w:=by
 unfold lim at q p;refine Code.wp_only (R:=fun r w'=>aA (fun i=>(rg 53 61 i)) a r∧aE B w' pb v P eY (say (below x.Q7 t.size 549755813888) x.pos 1++L)∧aD (fun k=>k=pb) w w') ?_ (fun J U h=>H J U h.1 h.2.1 h.2.2);clear H
 conv=>arg 2;whnf
 have X:=g.c0;have Y:=g 1 _ rfl;have Z:=g 2 _ rfl;have q3:=g 3 _ rfl;have q4:=g 4 _ rfl;have y0:=j.c0;have y1:=j 1 _ rfl;have y2:=j 2 _ rfl;obtain⟨b,D⟩:∃b,b=below x.Q7 t.size 549755813888:=⟨_,rfl⟩;have l:=fun S=>sN (kG x.Q7 t.size 549755813888 S q p ψ)
 rw[←D]at l;have I:Hid (say (below x.Q7 t.size 549755813888) x.pos 1=say b x.pos 1):=by rw[←D];exact hh rfl
 have A:=hh (h.new ((aD.refl _ w).drew));clear h g j D;obtain⟨T,d⟩:=a;refine wp_region_still_tail 8 δ δ ?_;simp only[List.take_succ_cons,List.take_zero,List.drop_succ_cons,List.drop_zero]
 iterate 5 with_reducible refine sl ?_
 with_reducible refine wpStill_step (fun K u=>?_)
 go_simp;with_reducible refine⟨_,l _,u _ ?_⟩;clear u K
 iterate 2 with_reducible refine sl ?_
 with_reducible refine wpStill_nil ?_;refine Lz (fun K u=>?_)
 go_simp;refine(ae _ _ 1 40 A.out rfl).mono ?_;rintro e w2 ⟨rfl,C,E⟩;with_reducible refine u _ _ (ln ?_)
 refine⟨rfl,?_,?_,?_⟩
 ·exact ag
 ·rw[I.out]
  exact C
 ·exact((aD.refl _ _).drew).trans E (fun _ _ e=>e)
theorem ye{v:aR}{P:aC}(h:aE B w pb v P eY L){z y:Nat}{x:Ck.Map}{t:jl}(l:aL w z 0 [.int .i64 x.pos,.string x.of,.int .u64 x.Q7,.bool x.write,.bool x.exec])(q:aL w y 0 [.int .u64 t.size,.bool t.big,.bool t.wx])(H:x.Q7<lim)(E:t.size<lim)(a:Act)(W:a.tmps.size=108)(h0:At a 0 (.pointer (some ⟨pb,0,none⟩)))(h9:At a 9 (.pointer (some ⟨z,0,none⟩)))(V:At a 10 (.pointer (some ⟨y,0,none⟩))){dv:Bool}(h6:At a 6 (.bool dv))(Q:Exit→Act→World→Prop)
 (O:∀A w',aA (fun i=>(rg 62 81 i)) a A→aE B w' pb v P eY (say (!x.exec || !dv&&(t.wx || !x.write)) x.pos 3++L)→aD (fun k=>k=pb) w w'→Q .normal A w'):
 (bE Tryz.f53 [1,1,1,0,0,1,1,0,0,1,1,1,0,1,0,0,1,1,0,0,1,1,1,1,0]).wp Tryz.prog Q a w:=by
 unfold lim at H E;refine Code.wp_only (R:=fun A w'=>aA (fun i=>(rg 62 81 i)) a A∧aE B w' pb v P eY (say (!x.exec || !dv&&(t.wx || !x.write)) x.pos 3++L)∧aD (fun k=>k=pb) w w') ?_ (fun S w4 h=>O S w4 h.1 h.2.1 h.2.2);clear O
 conv=>arg 2;whnf
 have q0:=l.c0;have q1:=l 1 _ rfl;have q2:=l 2 _ rfl;have Y:=l 3 _ rfl;have Z:=l 4 _ rfl;have y0:=q.c0;have y1:=q 1 _ rfl;have y2:=q 2 _ rfl;obtain⟨J,C⟩:∃b,x.exec=b:=⟨_,rfl⟩;obtain⟨N,D⟩:∃b,t.wx=b:=⟨_,rfl⟩;obtain⟨U,e3⟩:∃b,x.write=b:=⟨_,rfl⟩;rw[C]at Z;rw[D]at y2;rw[e3]at Y;have u:Hid (say (!x.exec || !dv&&(t.wx || !x.write)) x.pos 3=say (!J || !dv&&(N || !U)) x.pos 3):=by rw[C,D,e3];exact hh rfl
 have p:=hh h;have X:=al;clear h l q C D e3;obtain⟨T,d⟩:=a;refine rl ?_
 cases J
 ·skip
  iterate 19 with_reducible refine st ?_
  with_reducible refine Lz (fun K r=>?_)
  go_simp;refine(ae _ _ 3 104 p.out rfl).mono ?_;rintro e I ⟨rfl,g,j⟩;with_reducible refine r _ _ (ln ?_)
  refine⟨rfl,?_,?_,?_⟩
  ·exact ag
  ·rw[u.out]
   exact g
  ·exact j
 ·cases dv
  ·cases N
   ·skip
    iterate 19 with_reducible refine st ?_
    with_reducible refine Lz (fun K r=>?_)
    go_simp;refine(ae _ _ 3 104 p.out rfl).mono ?_;rintro e I ⟨rfl,g,j⟩;with_reducible refine r _ _ (ln ?_)
    refine⟨rfl,?_,?_,?_⟩
    ·exact ag
    ·rw[u.out]
     simpa using g
    ·exact j
   ·skip
    iterate 19 with_reducible refine st ?_
    with_reducible refine Lz (fun K r=>?_)
    go_simp;refine(ae _ _ 3 104 p.out rfl).mono ?_;rintro e I ⟨rfl,g,j⟩;with_reducible refine r _ _ (ln ?_)
    refine⟨rfl,?_,?_,?_⟩
    ·exact ag
    ·rw[u.out]
     simpa using g
    ·exact j
  ·skip
   iterate 19 with_reducible refine st ?_
   with_reducible refine Lz (fun K r=>?_)
   go_simp;refine(ae _ _ 3 104 p.out rfl).mono ?_;rintro e I ⟨rfl,g,j⟩;with_reducible refine r _ _ (ln ?_)
   refine⟨rfl,?_,?_,?_⟩
   ·exact ag
   ·rw[u.out]
    exact g
   ·exact j
theorem wQ{v:aR}{P:aC}(h:aE B w pb v P eY L){z y:Nat}{x:Ck.Map}{t:jl}(g:aL w z 0 [.int .i64 x.pos,.string x.of,.int .u64 x.Q7,.bool x.write,.bool x.exec])(j:aL w y 0 [.int .u64 t.size,.bool t.big,.bool t.wx])(A:x.Q7<lim)(u:t.size<lim)(a:Act)(O:a.tmps.size=108)(V:At a 0 (.pointer (some ⟨pb,0,none⟩)))(X:At a 9 (.pointer (some ⟨z,0,none⟩)))(J:At a 10 (.pointer (some ⟨y,0,none⟩))){n:Nat}(W:At a 3 (.int .u64 n))(Q:Exit→Act→World→Prop)
 (E:∀l w',aA (fun i=>(rg 87 92 i)) a l→aE B w' pb v P eY (say (decide (n≤131072)) x.pos 4++L)→aD (fun k=>k=pb) w w'→Q .normal l w'):
 (bE Tryz.f53 [1,1,1,0,0,1,1,0,0,1,1,1,0,1,0,0,1,1,0,0,1,1,1,1,1,1,0]).wp Tryz.prog Q a w:=by
 unfold lim at A u;refine Code.wp_only (R:=fun l w'=>aA (fun i=>(rg 87 92 i)) a l∧aE B w' pb v P eY (say (decide (n≤131072)) x.pos 4++L)∧aD (fun k=>k=pb) w w') ?_ (fun I S h=>E I S h.1 h.2.1 h.2.2);clear E
 conv=>arg 2;whnf
 have Y:=g.c0;have Z:=g 1 _ rfl;have q2:=g 2 _ rfl;have q3:=g 3 _ rfl;have q4:=g 4 _ rfl;have y0:=j.c0;have y1:=j 1 _ rfl;have y2:=j 2 _ rfl;obtain⟨C,D⟩:∃b,decide (n≤131072)=b:=⟨_,rfl⟩;have H:Hid (say (decide (n≤131072)) x.pos 4=say C x.pos 4):=by rw[D];exact hh rfl
 have U:decide ((n:Int)≤131072)=C:=by rw[←D];exact decide_eq_decide.2 χ
 have p:=hh h;clear h g j;obtain⟨T,d⟩:=a;refine rl ?_
 iterate 5 with_reducible refine st ?_
 with_reducible refine Lz (fun K N=>?_)
 go_simp;refine(ae _ _ 4 4 p.out rfl).mono ?_;rintro e w2 ⟨rfl,q,r⟩;with_reducible refine N _ _ (ln ?_)
 refine⟨rfl,?_,?_,?_⟩
 ·exact ag
 ·rw[H.out]
  exact q
 ·exact r
theorem AV{v:aR}{P:aC}(h:aE B w pb v P eY L){z y:Nat}{x:Ck.Map}{t:jl}(A:aL w z 0 [.int .i64 x.pos,.string x.of,.int .u64 x.Q7,.bool x.write,.bool x.exec])(E:aL w y 0 [.int .u64 t.size,.bool t.big,.bool t.wx])(a:Act)(D:a.tmps.size=108)(h9:At a 9 (.pointer (some ⟨z,0,none⟩)))(Y:At a 10 (.pointer (some ⟨y,0,none⟩))){Z:Nat}{u:Value}{l:List dp}(h7:At a 7 u)(X:Hid (w.ownsRow Z 170 3 u l.length (ap l)))(hl:l.length≤8388608)(hZ:Z≤w.heap.size)(S:B≤Z)(Q:Exit→Act→World→Prop)
 (U:∀O w' H,aA (fun i=>i==7||(rg 93 102 i)) a O→At O 7 H→w'.ownsRow Z 170 3 H (l.length+1) (ap (l++[⟨x.Q7,t.size,x.pos⟩]))→aE B w' pb v P eY L→aD (fun k=>u.ownBlock=some k) w w'→Q .normal O w'):
 (bE Tryz.f53 [1,1,1,0,0,1,1,0,0,1,1,1,0,1,0,0,1,1,0,0,1,1,1,1,1,1,1]).wp Tryz.prog Q a w:=by
 conv=>arg 2;whnf
 refine Code.wp_only (R:=fun I C=>aA (fun i=>i==7||(rg 93 102 i)) a I∧(∃H,At I 7 H∧C.ownsRow Z 170 3 H (l.length+1) (ap (l++[⟨x.Q7,t.size,x.pos⟩])))∧aE B C pb v P eY L∧aD (fun k=>u.ownBlock=some k) w C) ?_ (fun I C h=>U I C h.2.1.choose h.1 h.2.1.choose_spec.1 h.2.1.choose_spec.2 h.2.2.1 h.2.2.2);clear U;have q0:=A.c0;have q2:=A 2 _ rfl;have y0:=E.c0;have W:=hh h;clear h A E;obtain⟨T,d⟩:=a;refine rl ?_
 iterate 9 with_reducible refine st ?_
 have V:=b8 w [.int .u64 x.Q7,.int .u64 t.size,.int .i64 x.pos] 170;have g:Kz w (w.alloc (.cells #[.int .u64 x.Q7,.int .u64 t.size,.int .i64 x.pos] 170)):=(aD.refl _ _).alloc _;have q:=hh (ak X.out g (fun _ _ h=>h));refine mZ (p:=⟨x.Q7,t.size,x.pos⟩) rfl rfl rfl (At.eval (by exact aq) (by have:=D;simp at this⊢; omega)) q.out χ (At.eval (by exact aq) (by have:=D;simp at this⊢; omega)) V (by have:=g.size;omega) ?_;intro u2 C j r;have N:=hh j;have J:Hid (aD (fun k=>u.ownBlock=some k) w C):=(g.mono fun _ _ h=>h.elim).trans r (fun i hi h=>h);have K:=hh ((W.out.new g).grown q.out S ψ r);clear j r V g q;simp only[Act.put];with_reducible refine st ?_;refine ln ?_
 refine⟨rfl,ag,⟨u2,aq,N.out⟩,K.out,J.out⟩
def qd(P:aC)(dv:Bool)(n:Nat)(x:Ck.Map):List Wr:=
 say (decide (x.Q7%unit (aS P x.of).big=0)) x.pos 0++say (below x.Q7 (aS P x.of).size 549755813888) x.pos 1++say (!x.exec || !dv&&((aS P x.of).wx || !x.write)) x.pos 3++say (decide ((n+(aS P x.of).size / 4096)%M64≤131072)) x.pos 4
theorem mM(P:aC)(dv:Bool)(x:Ck.Map):∀(l:List Ck.Map) (n:Nat),bZ P dv n (l++[x])=((bZ P dv n l).1++qd P dv (bZ P dv n l).2 x,((bZ P dv n l).2+(aS P x.of).size / 4096)%M64)
 | [],n=>by simp[bZ,qd];rfl
 | m::t,n=>by
  have d:=mM P dv x t ((n+(aS P m.of).size / 4096)%M64);simp only[List.cons_append,bZ,d,List.append_assoc]
theorem lV(P:aC)(dv:Bool):∀(l:List Ck.Map) (n:Nat),n<lim→(bZ P dv n l).2<lim
 | [],n,h=>h
 | m::t,n,h=>lV P dv t _ (Nat.mod_lt _ ψ)
theorem pJ(P:aC)(l:List Ck.Map)(x:Ck.Map):bn P (l++[x])=bn P l++[⟨x.Q7,(aS P x.of).size,x.pos⟩]:=by simp[bn]
theorem th{v:aR}{P:aC}(h:aE B w pb v P eY L){mb:Nat}(hm:fW w mb P)(eb:mb<w.heap.size)(ds:mb≠pb)(c4:∀s,(aS P s).size<lim){A:Option Addr}{c:Nat}{l:List Ck.Map}(hs:aJ B 5 cU w (.slice A l.length c) l){n0:Nat}(dt:n0<lim){dv:Bool}(a:Act)(d1:a.tmps.size=108)(h0:At a 0 (.pointer (some ⟨pb,0,none⟩)))(h2:At a 2 (.map (some mb)))(h3:At a 3 (.int .u64 n0))(h5:At a 5 (.slice A l.length c))(h6:At a 6 (.bool dv))(h7:At a 7 (.slice none 0 0))(Q:Exit→Act→World→Prop)
 (hQ:∀a' w' u',aA (fun i=>i==3||i==7||i==9||i==10||(rg 32 103 i)) a a'→At a' 7 u'→w'.ownsRow w.heap.size 170 3 u' (bn P l).length (ap (bn P l))→l.length≤8388608→At a' 3 (.int .u64 (bZ P dv n0 l).2)→aE B w' pb v P eY ((bZ P dv n0 l).1++L)→aD (fun k=>k=pb) w w'→Q .normal a' w'):
 (bE Tryz.f53 [1,1,1,0,0,1,1,0,0,1,1,1,0]).wp Tryz.prog Q a w:=by
 obtain⟨_,_,e,ed,hn,hl⟩:=hs
 cases e
 unfold top at hn;have ea:=h.lt;have d8:=h.base;have HM:=hh hm;have c7:=hh c4;clear hm c4
 conv=>arg 2;whnf
 refine so (fun a1 w1=>aA (fun i=>(rg 32 34 i)) a a1∧At a1 32 (.slice A l.length c)∧At a1 33 (.int .i64 l.length)∧At a1 34 (.int .i64 0)∧w1=w) ?_ ?_
 ·clear hl
  obtain⟨T,d⟩:=a;refine rl ?_
  iterate 3 with_reducible refine st ?_
  with_reducible refine ln ?_
  refine⟨rfl,ag,aq,aq,aq,rfl⟩
 rintro a0 w0 ⟨be,d6,d5,d3,rfl⟩;have c1:=be.size.trans d1;replace h0:=be.Q7 h0 rfl;replace h2:=be.Q7 h2 rfl;replace h3:=be.Q7 h3 rfl;replace h6:=be.Q7 h6 rfl;replace h7:=be.Q7 h7 rfl;obtain⟨Z,hZ⟩:∃z,z=w0.heap.size:=⟨_,rfl⟩;rw[←hZ]at hQ;have HZ:=hh hZ;clear hZ;refine bj l.length (fun i=>i==3||i==7||i==9||i==10||(rg 34 103 i)) (fun i=>i==3||i==7||i==9||i==10||(rg 36 102 i)) (fun k a' w'=>∃u,At a' 7 u∧w'.ownsRow Z 170 3 u (bn P (l.take k)).length (ap (bn P (l.take k)))∧At a' 3 (.int .u64 (bZ P dv n0 (l.take k)).2)∧aE B w' pb v P eY ((bZ P dv n0 (l.take k)).1++L)∧aD (fun k=>k=pb) w0 w') χ d3 d5 ψ rfl
  ζ χ ψ (fun k a1 a2 w hA ⟨u,h1,h2,h3,h4⟩=>⟨u,hA.Q7 h1 rfl,h2,hA.Q7 h3 rfl,h4⟩) ⟨_,h7,by simpa[bn,ap]using World.ownsRow_nil _ _ _ _,by simpa[bZ]using h3,by simpa[bZ]using h,aD.refl _ _⟩ ?_ ?_
 ·rintro k a1 wr cv hA d4 ⟨u,I,af,C,hL,hk⟩
  obtain⟨bl,off,rfl,di,cs⟩:=hl χ;obtain⟨x,hx⟩:=ge cv;obtain⟨hc,bd⟩:=(aF B _ _) _ _ _ _ _ (hk.below (B:=B) χ (fun _ hi e=>χ)) di (cs k x hx);have q0:=hc.c0;have q1:=hc 1 _ rfl;have q2:=hc 2 _ rfl;have q3:=hc 3 _ rfl;have q4:=hc 4 _ rfl;have E:=hA.Q7 h0 rfl;have O:=hA.Q7 h2 rfl;have N:=hA.Q7 h6 rfl;have c5:=hA.Q7 d6 rfl;have c2:=hA.size.trans c1;have c3:=hk.size;have cp:bl<wr.heap.size:=χ
  have d9:k≤c:=χ
  have bx:Hid (bZ P dv n0 (l.take (k+1))=((bZ P dv n0 (l.take k)).1++qd P dv (bZ P dv n0 (l.take k)).2 x,((bZ P dv n0 (l.take k)).2+(aS P x.of).size / 4096)%M64)):=by
   refine hh ?_;rw[aP hx,mM]
  have HR:Hid (bn P (l.take (k+1))=bn P (l.take k)++[⟨x.Q7,(aS P x.of).size,x.pos⟩]):=by
   refine hh ?_;rw[aP hx,pJ]
  have d0:(bn P (l.take k)).length≤k:=by simp[bn];omega
  have cw:=lV P dv (l.take k) n0 dt;obtain⟨fs,cu⟩:∃q,q=bn P (l.take k):=⟨_,rfl⟩;rw[←cu]at af HR d0;clear cu;obtain⟨⟨S,n⟩,cy⟩:∃q,q=bZ P dv n0 (l.take k):=⟨_,rfl⟩;rw[←cy]at C hL bx cw;clear cy
  dsimp only at C hL bx cw
  obtain⟨t,ht⟩:∃t,t=aS P x.of:=⟨_,rfl⟩;have b0:t.size<lim:=by rw[ht];exact c7.out _
  rw[←ht]at HR bx;have HT:=hh ht;have HO:=hh af;have HL:=hh hL;have HK:=hh hk;have HA:=hh hA;clear hx af hk hA cs hc hl hL ht;refine so (fun a2 w2=>aA (fun i=>i==36||i==37||i==9) a1 a2∧At a2 9 (.pointer (some ⟨wr.heap.size,0,none⟩))∧w2=wr.alloc (.cells #[.int .i64 x.pos,.string x.of,.int .u64 x.Q7,.bool x.write,.bool x.exec] 71)) ?_ ?_
  ·obtain⟨T,d⟩:=a1
   refine rl ?_
   iterate 4 with_reducible refine st ?_
   with_reducible refine ln ?_
   refine⟨rfl,ag,aq,rfl⟩
  rintro a2 wo ⟨bc,H,b5⟩;obtain⟨z,hz⟩:∃z,z=wr.heap.size:=⟨_,rfl⟩;rw[←hz]at H;have D:aL wo z 0 [.int .i64 x.pos,.string x.of,.int .u64 x.Q7,.bool x.write,.bool x.exec]:=by rw[b5,hz];exact b8 _ _ _
  have K:z<wo.heap.size:=by rw[b5,hz];simp
  have b2:Kz wr wo:=by rw[b5];exact(aD.refl _ _).alloc _
  have bw:z≠pb:=χ
  have d7:pb<z:=χ
  have g:=bc.size.trans c2;have E:=bc.Q7 E rfl;have O:=bc.Q7 O rfl;have C:=bc.Q7 C rfl;have N:=bc.Q7 N rfl;have I:=bc.Q7 I rfl;have b1:Hid (∀k,u.ownBlock=some k→k<z∧k≠pb):=fun k hk=>by have h1:=(HO.out.lt k hk);have:=HZ.out;omega
  have HO:=hh (ak HO.out b2 (fun _ _ h=>h));have W:=hh (HL.out.new b2);have U:=hh (HK.out.trans b2 (fun _ _ h=>h.elim));have R:Hid (aA (fun i=>i==3||i==7||i==9||i==10||(rg 36 102 i)) a1 a2):=bc.m;clear b5 hz b2 HL HK bc c5 d4 c3 cp q0 q1 q2 q3 q4;obtain⟨nm,cx⟩:=HM.out;have cc:=hh (cx.keep U.out ds);clear cx;refine so (fun a3 w3=>aA (fun i=>i==10||(rg 38 41 i)) a2 a3∧At a3 10 (.pointer (some ⟨wo.heap.size,0,none⟩))∧w3=wo.alloc (.cells #[.int .u64 t.size,.bool t.big,.bool t.wx] 182)) ?_ ?_
  ·have q1:=D 1 _ rfl
   clear D;obtain⟨T,d⟩:=a2;refine rl ?_
   iterate 3 with_reducible refine st ?_
   refine dC.lookup rfl cc.out rfl rfl Tryz.underlying121 uZ (At.eval (by exact aq) (by have:=g;simp at this⊢; omega)) (At.eval (by exact aq) (by have:=g;simp at this⊢; omega)) (by have:=bd.2.2;unfold aX at this;unfold maxLen;omega) ?_;rw[←HT.out];simp only[Act.put,xB]
   iterate 2 with_reducible refine st ?_
   with_reducible refine ln ?_
   refine⟨rfl,ag,aq,rfl⟩
  rintro a3 w3 ⟨ba,r,b4⟩;obtain⟨y,hy⟩:∃y,y=wo.heap.size:=⟨_,rfl⟩;rw[←hy]at r;have J:aL w3 y 0 [.int .u64 t.size,.bool t.big,.bool t.wx]:=by rw[b4,hy];exact b8 _ _ _
  have V:y<w3.heap.size:=by rw[b4,hy];simp
  have bz:Kz wo w3:=by rw[b4];exact(aD.refl _ _).alloc _
  have bt:y≠pb:=χ
  have ee:z<y:=χ
  have D:=D.keep bz K (fun h=>h);have K:z<w3.heap.size:=Nat.lt_of_lt_of_le K bz.size;have HO:=hh (ak HO.out bz (fun _ _ h=>h));have W:=hh (W.out.new bz);have U:=hh (U.out.trans bz (fun _ _ h=>h.elim));have c8:True:=trivial;clear b4 hy;have E:=ba.Q7 E rfl;have O:=ba.Q7 O rfl;have C:=ba.Q7 C rfl;have N:=ba.Q7 N rfl;have I:=ba.Q7 I rfl;have H:=ba.Q7 H rfl;have g:=ba.size.trans g;have R:Hid (aA (fun i=>i==3||i==7||i==9||i==10||(rg 36 102 i)) a1 a3):=R.out.t ba;clear ba bz cc c8;refine wp_seq (yd W.out D J bd.2.1 b0 a3 g E H r _ (fun a4 w4 X cf bf=>?_));have D:=D.keep bf K bw;have K:z<w4.heap.size:=Nat.lt_of_lt_of_le K bf.size;have J:=J.keep bf V bt;have V:y<w4.heap.size:=Nat.lt_of_lt_of_le V bf.size;have HO:=hh (ak HO.out bf (fun j hj e=>(b1.out j hj).2 e));have W:=hh cf;have U:=hh (U.out.trans bf (fun _ _ e=>e));have E:=X.Q7 E rfl;have O:=X.Q7 O rfl;have C:=X.Q7 C rfl;have N:=X.Q7 N rfl;have I:=X.Q7 I rfl;have H:=X.Q7 H rfl;have r:=X.Q7 r rfl;have g:=X.size.trans g;have R:Hid (aA (fun i=>i==3||i==7||i==9||i==10||(rg 36 102 i)) a1 a4):=R.out.t X;clear X cf bf;refine wp_seq (wR W.out D J bd.2.1 b0 a4 g E H r _ (fun a5 w5 Y ci bm=>?_));have D:=D.keep bm K bw;have K:z<w5.heap.size:=Nat.lt_of_lt_of_le K bm.size;have J:=J.keep bm V bt;have V:y<w5.heap.size:=Nat.lt_of_lt_of_le V bm.size;have HO:=hh (ak HO.out bm (fun j hj e=>(b1.out j hj).2 e));have W:=hh ci;have U:=hh (U.out.trans bm (fun _ _ e=>e));have E:=Y.Q7 E rfl;have O:=Y.Q7 O rfl;have C:=Y.Q7 C rfl;have N:=Y.Q7 N rfl;have I:=Y.Q7 I rfl;have H:=Y.Q7 H rfl;have r:=Y.Q7 r rfl;have g:=Y.size.trans g;have R:Hid (aA (fun i=>i==3||i==7||i==9||i==10||(rg 36 102 i)) a1 a5):=R.out.t Y;clear Y ci bm;refine wp_seq (ye W.out D J bd.2.1 b0 a5 g E H r N _ (fun a6 w6 ac cl bo=>?_));have D:=D.keep bo K bw;have K:z<w6.heap.size:=Nat.lt_of_lt_of_le K bo.size;have J:=J.keep bo V bt;have V:y<w6.heap.size:=Nat.lt_of_lt_of_le V bo.size;have HO:=hh (ak HO.out bo (fun j hj e=>(b1.out j hj).2 e));have W:=hh cl;have U:=hh (U.out.trans bo (fun _ _ e=>e));have E:=ac.Q7 E rfl;have O:=ac.Q7 O rfl;have C:=ac.Q7 C rfl;have N:=ac.Q7 N rfl;have I:=ac.Q7 I rfl;have H:=ac.Q7 H rfl;have r:=ac.Q7 r rfl;have g:=ac.size.trans g;have R:Hid (aA (fun i=>i==3||i==7||i==9||i==10||(rg 36 102 i)) a1 a6):=R.out.t ac;clear ac cl bo;obtain⟨n2,b3⟩:∃m,m=(n+t.size / 4096)%M64:=⟨_,rfl⟩;have d2:IntKind.u64.wrap ((n:Int)+IntKind.u64.wrap ((t.size:Int) / 4096))=(n2:Int):=by
   unfold lim at b0;rw[b3,IntKind.wrap_u64,IntKind.wrap_u64];show _=(((n+t.size / 4096)%18446744073709551616:Nat):Int);omega
  rw[←b3]at bx;have c6:=hh b3;clear b3;refine so (fun a7 w7=>aA (fun i=>i==3||(rg 82 86 i)) a6 a7∧At a7 3 (.int .u64 n2)∧w7=w6) ?_ ?_
  ·have y0:=J.c0
   clear D J;obtain⟨T,d⟩:=a6;refine rl ?_
   iterate 6 with_reducible refine st ?_
   with_reducible refine ln ?_
   refine⟨rfl,ag,aq,rfl⟩
  rintro a7 w7 ⟨bb,C,rfl⟩;have E:=bb.Q7 E rfl;have O:=bb.Q7 O rfl;have N:=bb.Q7 N rfl;have I:=bb.Q7 I rfl;have H:=bb.Q7 H rfl;have r:=bb.Q7 r rfl;have g:=bb.size.trans g;have R:Hid (aA (fun i=>i==3||i==7||i==9||i==10||(rg 36 102 i)) a1 a7):=R.out.t bb;clear bb d2;refine wp_seq (wQ W.out D J bd.2.1 b0 a7 g E H r C _ (fun a8 w8 ad cm bp=>?_));have D:=D.keep bp K bw;have K:z<w8.heap.size:=Nat.lt_of_lt_of_le K bp.size;have J:=J.keep bp V bt;have V:y<w8.heap.size:=Nat.lt_of_lt_of_le V bp.size;have HO:=hh (ak HO.out bp (fun j hj e=>(b1.out j hj).2 e));have W:=hh cm;have U:=hh (U.out.trans bp (fun _ _ e=>e));have E:=ad.Q7 E rfl;have O:=ad.Q7 O rfl;have C:=ad.Q7 C rfl;have N:=ad.Q7 N rfl;have I:=ad.Q7 I rfl;have H:=ad.Q7 H rfl;have r:=ad.Q7 r rfl;have g:=ad.size.trans g;have R:Hid (aA (fun i=>i==3||i==7||i==9||i==10||(rg 36 102 i)) a1 a8):=R.out.t ad;clear ad cm bp;refine AV W.out D J a8 g H r I HO χ (by have:=U.out.size;have:=HZ.out;omega) (by have:=HZ.out;omega) _ (fun a9 w9 u9 cd k7 cb c9 dk=>?_);refine⟨R.out.t cd,u9,k7,?_,?_,c9.congr fun p=>?_,U.out.trans dk (fun j hj e=>?_)⟩
  ·rw[HR.out,List.length_append];exact cb
  ·rw[bx.out];exact cd.Q7 C rfl
  ·rw[bx.out]
   simp only[List.mem_append,qd,←HT.out,←c6.out]
   try simp only[or_assoc,or_comm,or_left_comm]
  ·have:=(HO.out.lt j e).1;have:=HZ.out;omega
 ·rintro a' w' hA ⟨u,I,af,C,hL,hk⟩
  rw[List.take_length]at af hL C;exact hQ _ _ _ ((be.m).t hA) I af χ C hL hk
def fh(P:aC):Nat→List Wr×Nat
 | 0=>([],0)
 | k+1=>match P.spaces[k]? with
  | some l=>(eB 2 (bn P l)++((bZ P (decide (P.Q3.length≤k)) (fh P k).2 l).1++(fh P k).1),(bZ P (decide (P.Q3.length≤k)) (fh P k).2 l).2)
  | none=>fh P k
theorem qT(P:aC):∀k,(fh P k).2<lim
 | 0=>by simp[fh]
 | k+1=>by
  unfold fh;split
  ·exact lV P _ _ _ (qT P k)
  ·exact qT P k
theorem iX(P:aC)(dv:Bool)(l:List Ck.Map):∀(t:List (List Ck.Map)) (n:Nat),cB P dv n (t++[l])=((cB P dv n t).1++((bZ P dv (cB P dv n t).2 l).1++eB 2 (bn P l)),(bZ P dv (cB P dv n t).2 l).2)
 | [],n=>by simp[cB]
 | m::t,n=>by
  have d:=iX P dv l t (bZ P dv n m).2;simp only[List.cons_append,cB,d,List.append_assoc]
theorem po(P:aC):∀k,k≤P.Q3.length→(fh P k).2=(cB P false 0 ((P.Q3.map aj.QF).take k)).2∧∀p,p∈(fh P k).1↔p∈(cB P false 0 ((P.Q3.map aj.QF).take k)).1
 | 0,_=>by simp[fh,cB]
 | k+1,h=>by
  obtain⟨j,l⟩:=po P k χ;have hk:k<(P.Q3.map aj.QF).length:=by rw[List.length_map];omega
  have d:P.spaces[k]?=some (P.Q3.map aj.QF)[k]:=by unfold aC.spaces;rw[List.getElem?_append_left hk,Ez hk]
  have g:(P.Q3.map aj.QF).take (k+1)=(P.Q3.map aj.QF).take k++[(P.Q3.map aj.QF)[k]]:=List.take_succ_eq_append_getElem hk;have e3:decide (P.Q3.length≤k)=false:=η
  rw[g,iX];unfold fh;rw[d,e3]
  dsimp only
  rw[j];refine⟨rfl,fun p=>?_⟩;simp only[List.mem_append,l];constructor
  ·rintro(h|h|h)
   ·exact .inr (.inr h)
   ·exact .inr (.inl h)
   ·exact .inl h
  ·rintro(h|h|h)
   ·exact .inr (.inr h)
   ·exact .inr (.inl h)
   ·exact .inl h
theorem pq(P:aC):∀k,k≤P.Q4.length→(fh P (P.Q3.length+k)).2=(cB P true (cB P false 0 (P.Q3.map aj.QF)).2 ((P.Q4.map bA.QF).take k)).2∧∀p,p∈(fh P (P.Q3.length+k)).1↔p∈(cB P false 0 (P.Q3.map aj.QF)).1++(cB P true (cB P false 0 (P.Q3.map aj.QF)).2 ((P.Q4.map bA.QF).take k)).1
 | 0,_=>by
  obtain⟨d,g⟩:=po P P.Q3.length (Nat.le_refl _);rw[List.take_of_length_le (by rw[List.length_map];exact Nat.le_refl _)]at d g;refine⟨by simpa[cB]using d,fun p=>?_⟩
  simpa[cB]using g p
 | k+1,h=>by
  obtain⟨d,g⟩:=pq P k χ;have hk:k<(P.Q4.map bA.QF).length:=by rw[List.length_map];omega
  have j:P.spaces[P.Q3.length+k]?=some (P.Q4.map bA.QF)[k]:=by
   unfold aC.spaces;rw[List.getElem?_append_right ξ,List.length_map,Nat.add_sub_cancel_left,Ez hk]
  have l:(P.Q4.map bA.QF).take (k+1)=(P.Q4.map bA.QF).take k++[(P.Q4.map bA.QF)[k]]:=List.take_succ_eq_append_getElem hk;have e3:decide (P.Q3.length≤P.Q3.length+k)=true:=ξ
  rw[l,iX,←Nat.add_assoc];unfold fh;rw[j,e3]
  dsimp only
  rw[d];refine⟨rfl,fun p=>?_⟩;have:=g p;simp only[List.mem_append]at this⊢;rw[this];constructor
  ·rintro(h|h|h|h)
   ·exact .inr (.inr (.inr h))
   ·exact .inr (.inr (.inl h))
   ·exact .inl h
   ·exact .inr (.inl h)
  ·rintro(h|h|h|h)
   ·exact .inr (.inr (.inl h))
   ·exact .inr (.inr (.inr h))
   ·exact .inr (.inl h)
   ·exact .inl h
theorem xj(P:aC)(p:Wr):p∈(fh P P.spaces.length).1↔p∈kP P:=by
 have h:=(pq P P.Q4.length (Nat.le_refl _)).2 p;rw[List.take_of_length_le (by rw[List.length_map];exact Nat.le_refl _)]at h;have e:P.spaces.length=P.Q3.length+P.Q4.length:=by simp[aC.spaces]
 rw[e,h];rfl
theorem wP{v:aR}{P:aC}(h:aE B w pb v P eY []){mb:Nat}(hm:fW w mb P)(eg:mb<w.heap.size)(cb:mb≠pb)(a:Act)(di:a.tmps.size=108)(h0:At a 0 (.pointer (some ⟨pb,0,none⟩)))(h2:At a 2 (.map (some mb)))(h3:At a 3 (.int .u64 (0:Nat)))(Q:Exit→Act→World→Prop)
 (hQ:∀a' w',aA (fun i=>i==3||i==4||i==5||i==6||i==7||i==9||i==10||(rg 16 107 i)) a a'→aE B w' pb v P eY (kP P)→aD (fun k=>k=pb) w w'→Q .normal a' w'):
 (bE Tryz.f53 [1,1]).wp Tryz.prog Q a w:=by
 have ef:=h.lt;have ee:=h.base;have cp:=fun s=>nM h.QP s
 have c2:=hh (nV h);have HH:=hh h;have HM:=hh hm;have bz:=hh cp;clear h hm cp
 conv=>arg 2;whnf
 refine so (fun V w1=>aA (fun i=>(rg 16 19 i)) a V∧∃A c y,At V 17 (.slice A P.spaces.length c)∧At V 18 (.int .i64 P.spaces.length)∧At V 19 (.int .i64 0)∧w1.ownsRow w.heap.size 43 1 (.slice A P.spaces.length c) P.spaces.length y∧SpV B w y P.spaces∧Kz w w1) ?_ ?_
 ·obtain⟨T,d⟩:=a
  refine rl ?_;with_reducible refine st ?_;refine Lz (fun K hK=>?_)
  go_simp;refine c2.out.mono ?_;rintro e w1 ⟨u,y,rfl,r,H,af⟩;have HV:=hh H;rw[H.1]at r;have HO:=hh r;have cy:=hh (gi af rfl);obtain⟨A,c,rfl⟩:∃A c,u=.slice A P.spaces.length c:=by
   rcases r.2 with⟨e1,e2⟩|⟨g,c3,c4,e1,_⟩
   ·exact⟨_,_,by rw[e1,e2]⟩
   ·exact⟨_,_,e1⟩
  clear r H af;with_reducible refine hK _ _ ?_;clear hK K
  iterate 2 with_reducible refine st ?_
  with_reducible refine ln ?_
  refine⟨rfl,ag,A,c,y,aq,aq,aq,HO.out,HV.out,cy.out⟩
 rintro a0 w0 ⟨L,A,c,y,d4,d3,d1,r,H,ac⟩;have ci:=L.size.trans di;replace h0:=L.Q7 h0 rfl;replace h2:=L.Q7 h2 rfl;replace h3:=L.Q7 h3 rfl;have c1:=hh (HH.out.new ac);have bb:=hh r;have bw:=hh H;have dk:=ac.size;have J:=hh ac;have ea:P.spaces.length≤4194304:=by
  obtain⟨_,_,_,_,c7,_⟩:=HH.out.QP.Q3;obtain⟨_,_,_,_,c8,_⟩:=HH.out.QP.Q4;unfold top at c7 c8;simp only[aC.spaces,List.length_append,List.length_map];omega
 clear r H ac;refine bj P.spaces.length (fun i=>i==3||i==4||i==5||i==6||i==7||i==9||i==10||(rg 19 107 i)) (fun i=>i==3||i==4||i==5||i==6||i==7||i==9||i==10||(rg 21 106 i)) (fun k a' w'=>At a' 3 (.int .u64 (fh P k).2)∧aE B w' pb v P eY (fh P k).1∧aD (fun k=>k=pb) w0 w') χ d1 d3 ψ rfl
  ζ χ ψ (fun k V a2 w W ⟨h1,h2⟩=>⟨W.Q7 h1 rfl,h2⟩) ⟨by simpa[fh]using h3,by simpa[fh]using c1.out,aD.refl _ _⟩ ?_ ?_
 ·rintro k V wr a6 W d2 ⟨I,Y,hk⟩
  have ad:=W.Q7 h0 rfl;have bm:=W.Q7 h2 rfl;have cv:=W.Q7 d4 rfl;have cl:=W.size.trans ci;have ed:=hk.size;obtain⟨g,c3,hv,hB,b3⟩:=bb.out.form χ
  cases hv
  have d6:P.spaces.length≤c:=by
   rcases bb.out.2 with⟨e1,_⟩|⟨g1,d5,c4,e1,_,_,c6,_⟩
   ·cases e1
   ·cases e1;exact c6
  obtain⟨ls,be⟩:=ge a6;obtain⟨uv,bl⟩:∃x,y[k]?=some x:=⟨_,Ez (by rw[bw.out.1];exact a6)⟩;have U:=(bw.out.2 k uv ls bl be).below (aF _ _ _) (((J.out.mono fun _ _ h=>h.elim:aD (fun k=>k=pb) w w0).trans hk (fun _ _ e=>e)).below (B:=B) χ (fun _ hi e=>χ));have q0:wr.cell? ⟨g,k,none⟩=some uv:=(hk.cell (p:=⟨g,k,none⟩) b3 (by show g≠pb;omega)).trans ((bb.out.cellAt k χ).trans bl);have a8:=Bw U;obtain⟨A5,c5,rfl,cd⟩:=U;have U:aJ B 5 cU wr (.slice A5 ls.length c5) ls:=⟨A5,c5,rfl,cd⟩;have N:fh P (k+1)=(eB 2 (bn P ls)++((bZ P (decide (P.Q3.length≤k)) (fh P k).2 ls).1++(fh P k).1),(bZ P (decide (P.Q3.length≤k)) (fh P k).2 ls).2):=by
   show(match P.spaces[k]? with|some l=>_|none=>_)=_;rw[be]
  have bf:=qT P k;obtain⟨⟨S,n⟩,cf⟩:∃q,q=fh P k:=⟨_,rfl⟩;rw[←cf]at I Y N bf;clear cf
  dsimp only at I Y N bf
  obtain⟨dv,Z⟩:∃b,b=decide (P.Q3.length≤k):=⟨_,rfl⟩;rw[←Z]at N;have bx:=hh N;have bt:=hh U;have bp:=hh a8;have HL:=hh Y;have HK:=hh hk;have HA:=hh W;have d7:decide ((P.Q3.length:Int)≤(k:Int))=dv:=by rw[Z];exact decide_eq_decide.2 χ
  have b2:decide (P.Q3.length≤k)=dv:=Z.symm;obtain⟨As,cs,cu,_,_,_⟩:=Y.QP.Q3;have q5:wr.cell? ⟨pb,5,none⟩=some v.Q3:=Y.cell rfl;rw[cu]at q5;have d9:pb<wr.heap.size:=Y.lt;clear N U cd a8 Y hk W Z cu be bl;refine so (fun a2 w2=>aA (fun i=>i==4||i==5||(rg 21 23 i)) V a2∧At a2 4 (.int .i64 k)∧At a2 5 (.slice A5 ls.length c5)∧w2=wr) ?_ ?_
  ·obtain⟨T,d⟩:=V
   refine rl ?_
   iterate 5 with_reducible refine st ?_
   with_reducible refine ln ?_
   refine⟨rfl,ag,aq,aq,rfl⟩
  rintro a2 w2 ⟨E,em,ds,rfl⟩;have cm:=E.size.trans cl;have ad:=E.Q7 ad rfl;have bm:=E.Q7 bm rfl;have I:=E.Q7 I rfl;have cw:Hid (aA (fun i=>i==3||i==4||i==5||i==6||i==7||i==9||i==10||(rg 21 106 i)) V a2):=E.m;clear E cv d2 q0;refine so (fun a3 w3=>aA (fun i=>i==6||(rg 24 31 i)) a2 a3∧At a3 6 (.bool dv)∧w3=w2) ?_ ?_
  ·obtain⟨T,d⟩:=a2
   refine rl ?_
   iterate 9 with_reducible refine st ?_
   with_reducible refine ln ?_
   refine⟨rfl,?_,?_,rfl⟩
   ·exact ag
   ·first|done|(repeat (first|with_reducible exact At.self|with_reducible apply At.ne))
    all_goals first|decide|(rw[←b2];exact At.self)
  rintro a3 w3 ⟨D,dt,rfl⟩;refine so (fun a4 w4=>aA (fun i=>i==7) a3 a4∧At a4 7 (.slice none 0 0)∧w4=w3) ?_ ?_
  ·obtain⟨T,d⟩:=a3
   refine rl ?_;with_reducible refine st ?_;refine ln ?_
   refine⟨rfl,ag,aq,rfl⟩
  rintro a4 w4 ⟨C,d0,rfl⟩;have ba:=C.size.trans (D.size.trans cm);obtain⟨nm,c9⟩:=HM.out;have b5:fW w4 mb P:=⟨nm,c9.keep ((J.out.mono fun _ _ h=>h.elim:aD (fun k=>k=pb) w w0).trans HK.out (fun _ _ e=>e)) cb⟩;have a7:mb<w4.heap.size:=χ
  have a7:mb<w4.heap.size:=χ
  refine wp_seq (th HL.out b5 a7 cb bz.out bt.out bf a4 ba (C.Q7 (D.Q7 ad rfl) rfl) (C.Q7 (D.Q7 bm rfl) rfl) (C.Q7 (D.Q7 I rfl) rfl) (C.Q7 (D.Q7 ds rfl) rfl) (C.Q7 dt rfl) d0 _ (fun a5 w5 u5 X k7 O d8 k3 b1 b4=>?_));have eb:=X.size.trans ba;have en:=X.Q7 (C.Q7 (D.Q7 ad rfl) rfl) rfl;have cc:fO w5 pb u5 (bn P ls):=fi O (fun q hq=>by
   obtain⟨x,hx,rfl⟩:=List.mem_map.1 hq;have ok:=bp.out x hx;exact⟨ok.2.1,bz.out _,ok.1⟩) (by simp[bn];omega) χ
  have HC:=hh (mJ b1 cc 2 rfl);have bo:Hid (aA (fun i=>i==3||i==4||i==5||i==6||i==7||i==9||i==10||(rg 21 106 i)) V a5):=((cw.out.t D).t C).t X;have cx:=hh (HK.out.trans b4 (fun _ _ e=>e));clear cc O b1 b4 X C D b5 bt;refine Code.wp_only (R:=fun a9 w9=>aA (fun i=>(rg 104 106 i)) a5 a9∧aE B w9 pb v P eY (eB 2 (bn P ls)++((bZ P dv n ls).1++S))∧aD (fun k=>k=pb) w5 w9) ?_ ?_
  ·obtain⟨T,d⟩:=a5
   refine rl ?_
   iterate 2 with_reducible refine st ?_
   with_reducible refine Lz (fun K hK=>?_)
   go_simp;refine HC.out.mono ?_;rintro e w9 ⟨rfl,bc,bd⟩;with_reducible refine hK _ _ (ln ?_)
   refine⟨rfl,?_,bc,bd⟩;exact ag
  rintro a9 w9 ⟨b0,bc,bd⟩;refine⟨bo.out.t b0,?_,?_,cx.out.trans bd (fun _ _ e=>e)⟩
  ·rw[bx.out];exact b0.Q7 k3 rfl
  ·rw[bx.out];exact bc
 ·rintro a' w' W ⟨I,Y,hk⟩
  exact hQ _ _ ((L.m).t W) (Y.congr fun p=>xj P p) ((J.out.mono fun _ _ h=>h.elim:aD (fun k=>k=pb) w w0).trans hk (fun _ _ e=>e))
theorem yZ(hT:ot){B:Nat}{w:World}{pb:Nat}{v:aR}{P:aC}(h:aE B w pb v P eY []):
 Calls Tryz.prog 53 #[.pointer (some ⟨pb,0,none⟩)] w fun e w'=>e=.returned (.tuple #[])∧aE B w' pb v P eY (kP P)∧aD (fun k=>k=pb) w w':=by
 have ad:=h.lt;have ac:=h.base;have HC:=hh (hT h.QP χ);have HH:=hh h;have q0:=h.cell (j:=0) rfl;have q1:=h.cell (j:=1) rfl;have q2:=h.cell (j:=2) rfl;have q3:=h.cell (j:=3) rfl;have q4:=h.cell (j:=4) rfl;have q5:=h.cell (j:=5) rfl;have q6:=h.cell (j:=6) rfl;have q7:=h.cell (j:=7) rfl;have q8:=h.cell (j:=8) rfl;have q9:=h.cell (j:=9) rfl;have N:=h.cell (j:=10) rfl;have O:=h.cell (j:=11) rfl;have Q:=h.cell (j:=12) rfl;have R:=h.cell (j:=13) rfl;clear h;refine b9 Tryz.func53 Tryz.ntmps53 rfl ξ fun a L I g=>?_
 have h0:At a 0 (.pointer (some ⟨pb,0,none⟩)):=g 0 _ rfl;clear g
 conv=>arg 2;whnf
 refine so (fun u r=>aA (fun i=>i==2||(rg 11 15 i)) a u∧∃q,At u 2 (.map (some q))∧w.heap.size≤q∧q<r.heap.size∧fW r q P∧Kz w r) ?_ ?_
 ·obtain⟨T,d⟩:=a
  refine rl ?_
  iterate 4 with_reducible refine st ?_
  with_reducible refine Lz (fun K W=>?_)
  go_simp;refine HC.out.mono ?_;rintro e r ⟨q,rfl,h1,h2,U,V⟩;have Y:=hh U;have Z:=hh V;clear U V;with_reducible refine W _ _ ?_;clear W K;refine st ?_;refine ln ?_
  refine⟨rfl,ag,q,aq,h1,h2,Y.out,Z.out⟩
 rintro u r ⟨p,q,k2,X,A,hm,y⟩;have C:=p.size.trans L;have x:=p.defers.trans I;clear q0 q1 q2 q3 q4 q5 q6 q7 q8 q9 N O Q R;refine so (fun D S=>aA (fun i=>i==3) u D∧At D 3 (.int .u64 0)∧S=r) ?_ ?_
 ·obtain⟨T,d⟩:=u
  refine rl ?_;with_reducible refine st ?_;refine ln ?_
  refine⟨rfl,ag,aq,rfl⟩
 rintro D S ⟨l,k3,rfl⟩;refine wP (HH.out.new y) hm A χ D (l.size.trans C) (l.Q7 (p.Q7 h0 rfl) rfl) (l.Q7 k2 rfl) k3 _ (fun a3 w3 E H J=>?_);exact ek rfl (E.defers.trans (l.defers.trans x)) ⟨rfl,H,(y.mono fun _ _ h=>h.elim:aD (fun k=>k=pb) w S).trans J (fun _ _ e=>e)⟩
