import Derived.Test.YthobcefghkeddaaGreatDoorSortL
import Derived.Test.YthobcefghkeddaaGreatDoorRowsC
set_option maxRecDepth 100000
set_option linter.all false
set_option maxHeartbeats 4000000
namespace Go.Proofs.YthobcefghkeddaaGreatDoor
section
open Go.Shelf Go.RowKit Go.Lib Go.Sort Go.IntWalk Ck
variable {w:World} {Z g:Nat} {l:List Sp}
def qf(x y:Sp):Int:=if x.1<y.1 then -1 else if y.1<x.1 then 1 else 0
theorem CE(x y:Sp):ltOf qf x y=decide (x.1<y.1):=by
 unfold ltOf qf
 by_cases h1:x.1<y.1
 ·simp[h1]
 ·by_cases h2:y.1<x.1<;>simp[h1,h2]
theorem EK:SWO (ltOf qf):={
 irrefl:=fun x=>by rw[CE];simp
 trans:=fun x y z d g=>by rw[CE]at *; simp at *; omega
 ntrans:=fun x y z d g=>by rw[CE]at *; simp at *; omega }
theorem E6(x y:Sp)(W:World):Calls Tryz.prog 136 #[.agg #[.int .u64 x.1,.int .u64 x.2],.agg #[.int .u64 y.1,.int .u64 y.2]] W fun e w'=>e=.returned (.int .i64 (qf x y))∧∃q d,w'=grow (W.drewN q) d:=by
 unfold qf;obtain⟨p,q⟩:=x;obtain⟨r,s⟩:=y
 by_cases h1:p<r
 ·go_enter Tryz.func136,Tryz.ntmps136
  go_wp2
  go_ret
  exact⟨by simp[h1],0,_,by rw[alloc_eq_grow,alloc_eq_grow,grow_grow];rfl⟩
 ·by_cases h2:r<p
  ·go_enter Tryz.func136,Tryz.ntmps136
   go_wp2
   go_ret
   exact⟨by simp[h1,h2],0,_,by rw[alloc_eq_grow,alloc_eq_grow,grow_grow];rfl⟩
  ·go_enter Tryz.func136,Tryz.ntmps136
   go_wp2
   go_ret
   exact⟨by simp[h1,h2],0,_,by rw[alloc_eq_grow,alloc_eq_grow,grow_grow];rfl⟩
def vq(l l':List Sp):Prop:=l'.Perm l∧l'.Pairwise fun a b=>a.1≤b.1
theorem qc(d:Array Sp):(flatK dV 2 d).toList=spC d.toList:=by
 apply List.ext_getElem?
 intro t
 by_cases ht:t<d.size*2
 ·have j:(flatK dV 2 d).toList[t]?=some (flatK dV 2 d)[t]!:=by
   have h:t<(flatK dV 2 d).size:=by rw[size_flatK];exact ht
   rw[Array.getElem?_toList,getElem!_pos _ t h,Array.getElem?_eq_getElem h]
  rw[j,get_flatK _ _ _ _ ht];have hi:t / 2<d.size:=χ
  obtain⟨s,g⟩:∃s,d.toList[t / 2]?=some s:=⟨_,Ez (by simpa using hi)⟩;obtain⟨l,q⟩:=ns _ _ _ g;have u:(d[t / 2]!)=s:=by
   rw[getElem!_pos d _ hi];have:=g;rw[Array.getElem?_toList,Array.getElem?_eq_getElem hi]at this;exact Option.some.inj this
  rw[u]
  rcases Nat.mod_two_eq_zero_or_one t with h|h
  ·rw[h]
   have:t=t / 2*2:=χ
   conv=>rhs;rw[this]
   exact l.symm
  ·rw[h]
   have:t=t / 2*2+1:=χ
   conv=>rhs;rw[this]
   exact q.symm
 ·rw[List.getElem?_eq_none (by simp[size_flatK];omega),List.getElem?_eq_none (by rw[jl];simp;omega)]
theorem yW{d:Nat}(h:w.ownsRow Z 125 2 (.slice (some ⟨g,0,none⟩) l.length d) l.length (spC l)):HoldsK dV 2 w g 0 l.toArray:=by
 intro j q;have u:j<l.length*2:=by simpa[size_flatK]using q
 refine⟨?_,?_⟩
 ·rw[Nat.zero_add,h.cellAt j u,getElem!_pos _ j q]
  have:=qc l.toArray;have e:(flatK dV 2 l.toArray)[j]?=(spC l)[j]?:=by rw[←Array.getElem?_toList,this]
  rw[←e,Array.getElem?_eq_getElem q];rfl
 ·rw[Nat.zero_add];exact h.frozenAt j
theorem Bz{j n:Nat}{d:Array Sp}{os:Array Obj}(h:w.ownsRow Z 125 2 (.slice (some ⟨g,0,none⟩) l.length j) l.length (spC l))(y:d.size=l.length):
 (sortWorldK dV 2 w g 0 n d os).ownsRow Z 125 2 (.slice (some ⟨g,0,none⟩) l.length j) l.length (spC d.toList):=by
 rcases h.2 with⟨v,_⟩|⟨L,E,q,v,J,I,C,x,u,D⟩
 ·simp at v
 simp only[Value.slice.injEq,Option.some.injEq,Addr.mk.injEq,and_true,true_and]at v;obtain⟨rfl,rfl⟩:=v;have B:g<w.heap.size:=(Array.getElem?_eq_some_iff.1 I).1;refine⟨by rw[jl];simp[y],.inr ⟨g,j,putCells id 0 (flatK dV 2 d) q,rfl,J,?_,C,x,by simp[putCells,u],?_⟩⟩
 ·show((putRowK dV 2 (Sort.ahead w n) g 0 d).heap++os)[g]?=_
  rw[Array.getElem?_append_left (by simpa[putRowK,putRow,mapBlock,Sort.ahead]using B)];simp only[putRowK,putRow,mapBlock,Sort.ahead,Array.getElem?_modify,if_true,I,Option.map_some,onCells]
 ·rw[←qc]
  apply List.ext_getElem?
  intro t;rw[List.getElem?_take]
  by_cases ht:t<l.length*2
  ·have H:t<(flatK dV 2 d).size:=by rw[size_flatK,y];exact ht
   have K:t<q.size:=by rw[u];omega
   rw[if_pos ht,Array.getElem?_toList,Array.getElem?_toList];simp only[putCells,Array.getElem?_mapIdx,Array.getElem?_eq_getElem K,Option.map_some];rw[if_pos ⟨Nat.zero_le _,χ⟩,Nat.sub_zero,getElem!_pos _ t H,Array.getElem?_eq_getElem H];rfl
  ·rw[if_neg ht,List.getElem?_eq_none (by simp[size_flatK,y];omega)]
theorem Ad{n:Nat}{d:Array Sp}{os:Array Obj}:aD (fun k=>k=g) w (sortWorldK dV 2 w g 0 n d os):=by
 refine⟨rfl,rfl,rfl,?_,fun k hk h=>?_⟩
 ·show _≤((putRowK dV 2 (Sort.ahead w n) g 0 d).heap++os).size
  simp[putRowK,putRow,mapBlock,Sort.ahead]
 ·show((putRowK dV 2 (Sort.ahead w n) g 0 d).heap++os)[k]?=_
  rw[Array.getElem?_append_left (by simpa[putRowK,putRow,mapBlock,Sort.ahead]using hk)];simp only[putRowK,putRow,mapBlock,Sort.ahead,Array.getElem?_modify];rw[if_neg (fun e=>h e.symm)]
theorem Bi{u:Value}(h:w.ownsRow Z 125 2 u l.length (spC l))(Y:l.length≤4194304):
 Calls Tryz.prog 135 #[u,.func (.func 136) #[] #[]] w fun e w'=>e=.returned (.tuple #[])∧∃L,vq l L∧w'.ownsRow Z 125 2 u L.length (spC L)∧aD (fun k=>u.ownBlock=some k) w w':=by
 rcases Nat.eq_zero_or_pos l.length with I|I
 ·have C:l=[]:=List.length_eq_zero_iff.1 I
  subst C;obtain⟨p,d,V⟩:∃p d,u=.slice p 0 d:=by
   rcases h.2 with⟨H,_⟩|⟨g,d,Q,H,_⟩
   ·exact⟨_,_,H⟩
   ·exact⟨_,_,H⟩
  subst V;refine(AnyF.slices_SortFunc_none Tryz.sortSp p d (.func (.func 136) #[] #[]) w).mono ?_;rintro e w' ⟨rfl,rfl⟩;exact⟨rfl,[],⟨.refl _,.nil⟩,h,aD.refl _ _⟩
 ·obtain⟨g,d,E,X,K⟩:=h.form I
  subst E;have R:∀args w,(callFunc 136 args).run Tryz.prog w=.ok (.enter 136 args) w:=enters_of Tryz.func136 δ rfl;have q:=AnyQ.slices_SortFunc Tryz.sortSp 2 Tryz.isAgg125 Tryz.sizeOf125 dV (fun _=>rfl) (fun x v E=>by simp[dV]at E;rcases E with rfl|rfl<;>rfl) qf EK 136 #[] g 0 d l.toArray w R
   (fun m os W _ x y=>E6 x y _) (yW h) K η
  rw[show(l.toArray).size=l.length by simp]at q;refine q.mono ?_;rintro e w' ⟨rfl,B,n,os,O,U,rfl⟩;have D:B.size=l.length:=by simpa using O.1
  refine⟨rfl,B.toList,⟨?_,?_⟩,?_,Ad.mono fun i _ e=>by rw[e];rfl⟩
  ·have:=O.2.2
   rw[show B.extract 0 l.length=B by rw[←D];simp,show l.toArray.extract 0 l.length=l.toArray by simp]at this
   simpa using this
  ·rw[List.pairwise_iff_getElem]
   intro i j hi N J;have:=U i j (Nat.zero_le _) J (by simpa[D]using N);rw[CE]at this;rw[getElem!_pos B j (by simpa using N),getElem!_pos B i (by simpa using hi)]at this;simp only[Array.getElem_toList];simp at this;omega
  ·have:=Bz (n:=n) (os:=os) h D
   rw[show B.toList.length=l.length by simpa using D];exact this
end
open Go.RowKit Go.IntWalk Ck
variable {w:World} {u:Value} {l:List Sp} {pb B:Nat} {L:List Wr}
theorem sC{fn:Func}{R:Ending→World→Prop}{a:Act}{t z:Nat}(h:fn.results = #[.cell t 119])(l:At a t (.pointer (some ⟨z,0,none⟩)))(j:t<a.tmps.size)(q:w.cell? ⟨z,0,none⟩=some u)(g:a.defers=[])(d:R (.returned (.agg #[u])) w):bodyPost Tryz.prog fn R .ret a w:=by
 refine bodyPost_ret (v := .agg #[u]) ?_ g d;have e:a.tmps.getD t undef=.pointer (some ⟨z,0,none⟩):=l.eval j;unfold results;simp only[h];go_simp
theorem xX{j:List Sp}(h:vq l j)(p:Nat):aj j p↔aj l p:=by
 unfold aj;constructor
 ·rintro⟨s,g,d⟩
  exact⟨s,h.1.mem_iff.1 g,d⟩
 ·rintro⟨s,g,d⟩
  exact⟨s,h.1.mem_iff.2 g,d⟩
theorem CK(l:List Sp)(p:Nat):aj (dN l) p↔aj l p:=by
 unfold aj dN;constructor
 ·rintro⟨s,g,d⟩
  exact⟨s,(List.mem_filter.1 g).1,d⟩
 ·rintro⟨s,g,d⟩
  exact⟨s,List.mem_filter.2 ⟨g,η⟩,d⟩
theorem ul{xs:List Sp}(hu:aK w pb u xs)(cw:pb<w.heap.size)(Y:∀s∈xs,s.1<lim∧s.2<lim):
 Calls Tryz.prog 111 #[u] w fun e w'=>∃u' l,e=.returned (.agg #[u'])∧fN l∧(∀p,aj l p↔aj xs p)∧(∀q,q<w.heap.size→aK w' q u' l)∧Kz w w':=by
 obtain⟨A,c,rfl,hr⟩:=hu;have hu:aK w pb (.slice A xs.length c) xs:=⟨A,c,rfl,hr⟩;have cu:=hr.2.1;have HU:=hh hu;have HL:=hh Y;clear hu hr Y;refine bU Tryz.func111 Tryz.ntmps111 rfl ξ fun a cj b3 J=>?_
 have h0:At a 0 (.slice A xs.length c):=J 0 _ rfl;clear J
 conv=>arg 2;whnf
 refine so (fun a1 w1=>aE (fun i=>i==2) a a1∧At a1 2 (.pointer (some ⟨w.heap.size,0,none⟩))∧w1=w.alloc (.cells #[.slice none 0 0] 119)) ?_ ?_
 ·obtain⟨T,d⟩:=a
  refine rl ?_;with_reducible refine st ?_;refine ln ?_
  refine⟨rfl,ag,aq,rfl⟩
 rintro a1 w1 ⟨O,k2,N⟩;have V:Kz w w1:=by rw[N];exact(aD.refl _ _).alloc _
 obtain⟨z,hz⟩:∃z,z=w.heap.size:=⟨_,rfl⟩;rw[←hz]at k2;have cm:w1.cell? ⟨z,0,none⟩=some (.slice none 0 0):=by rw[N,hz];exact aw w [.slice none 0 0] 119 0 _ rfl
 have b4:w1.frozen? ⟨z,0,none⟩=false:=by
  have cd:w1.heap[z]?=some (.cells #[.slice none 0 0] 119):=by rw[N,hz];exact Array.getElem?_push_size
  simp[World.frozen?,cd]
 have a9:z<w1.heap.size:=by rw[N,hz];simp
 have HZ:Hid (z=w.heap.size):=hz;have bt:=O.size.trans cj;have be:=O.defers.trans b3;have j0:=O.Q7 h0 rfl;clear N hz;refine so (fun a2 w2=>aE (fun i=>i==3) a1 a2∧At a2 3 (.slice none 0 0)∧w2=w1) ?_ ?_
 ·obtain⟨T,d⟩:=a1
  refine rl ?_;with_reducible refine st ?_;refine ln ?_
  refine⟨rfl,ag,aq,rfl⟩
 rintro a2 w2 ⟨H,k3,rfl⟩;have ad:=H.size.trans bt;have bs:pb<w2.heap.size:=by have:=V.size;omega
 refine wp_seq (yE (HU.out.keep (V.mono fun _ _ h=>h.elim)) bs a2 ad (H.Q7 j0 rfl) k3 _ (fun a3 w3 u3 Q l3 x b5=>?_));have bw:=Q.size.trans ad;have m2:=Q.Q7 (H.Q7 k2 rfl) rfl;have bf:=Q.defers.trans (H.defers.trans be);obtain⟨l,hl⟩:∃l,l=dN xs:=⟨_,rfl⟩;rw[←hl]at x;have bm:l.length≤4194304:=by have:=oY xs;rw[←hl]at this;omega
 have al:=hh hl;have bc:=hh x;have HS:=hh (Bi x bm);clear x hl;refine so (fun a4 w4=>aE (fun i=>i==24||i==25) a3 a4∧∃g,vq l g∧At a4 3 u3∧w4.ownsRow w2.heap.size 125 2 u3 g.length (spC g)∧aD (fun k=>u3.ownBlock=some k) w3 w4) ?_ ?_
 ·obtain⟨T,d⟩:=a3
  refine rl ?_;with_reducible refine st ?_;refine Lz (fun K hK=>?_)
  go_simp;refine HS.out.mono ?_;rintro e w4 ⟨rfl,g,h1,h2,h3⟩;have H1:=hh h1;have H2:=hh h2;have H3:=hh h3;clear h1 h2 h3;with_reducible refine hK _ _ ?_;clear hK K;refine ln ?_
  refine⟨rfl,?_,g,H1.out,?_,H2.out,H3.out⟩
  ·exact ag
  ·exact At.ne (At.ne l3 ψ) ψ
 rintro a4 w4 ⟨R,g,hS,cs,C,ca⟩;have bx:=R.size.trans bw;have hB:∀k,u3.ownBlock=some k→w2.heap.size≤k:=fun k hk=>(bc.out.lt k hk).1
 have D:Kz w2 w4:=b5.trans ca (fun i hi h=>by have:=hB i h;omega);clear HS bc;have L:g.length≤4194304:=by rw[hS.1.length_eq];exact bm
 have j:∀s∈g,s.1<lim∧s.2<lim:=fun s hs=>by
  have:=hS.1.mem_iff.1 hs;rw[al.out]at this;exact HL.out s (List.mem_filter.1 this).1
 have X:∀s∈g,s.1≤s.2:=fun s hs=>by
  have:=hS.1.mem_iff.1 hs;rw[al.out]at this
  simpa using(List.mem_filter.1 this).2
 have E:aK w4 pb u3 g:=dQ C L χ j;obtain⟨A4,c4,e4,_⟩:=E;subst e4;have E:aK w4 pb (.slice A4 g.length c4) g:=dQ C L χ j;have b1:=hh E;have HS:=hh hS;have bb:=hh j;have b0:=hh X;have bo:=R.defers.trans bf;clear hS E j X C hB;refine so (fun a5 w5=>aE (fun i=>i==6) a4 a5∧At a5 6 (.slice none 0 0)∧w5=w4) ?_ ?_
 ·obtain⟨T,d⟩:=a4
  refine rl ?_;with_reducible refine st ?_;refine ln ?_
  refine⟨rfl,ag,aq,rfl⟩
 rintro a5 w5 ⟨I,k6,rfl⟩;have af:=I.size.trans bx;have aa:pb<w5.heap.size:=by have:=D.size;omega
 refine wp_seq (AD b1.out aa bb.out a5 af (I.Q7 cs rfl) k6 _ (fun a6 w6 u6 U l6 y cb=>?_));have bz:=U.size.trans af;have n2:=U.Q7 (I.Q7 (R.Q7 m2 rfl) rfl) rfl;have bl:=U.defers.trans (I.defers.trans bo);have B:Kz w2 w6:=D.trans cb (fun _ _ h=>h);have x6:=(B.cell (p:=⟨z,0,none⟩) a9 (fun h=>h)).trans cm;have f6:=(B.frozen (p:=⟨z,0,none⟩) a9 (fun h=>h)).trans b4;have cx:z<w6.heap.size:=Nat.lt_of_lt_of_le a9 B.size;have Z:=mm _ g rfl b0.out HS.out.2;have cc:=iS g g.length (Nat.le_refl _);rw[List.take_length]at cc;have an:=iR _ g rfl bb.out;obtain⟨A6,c6,e6,_⟩:aK w6 pb u6 (ah g):=dQ y χ aa an;obtain⟨n6,a0⟩:∃n,n=(ah g).length:=⟨_,rfl⟩;rw[←a0]at e6;have cv:=hh a0;clear a0;subst e6;have cp:w5.heap.size≤z→False:=fun h=>by have:=D.size;omega
 have bp:∀k,(Value.slice A6 n6 c6).ownBlock=some k→k≠z:=fun k h e=>cp (by rw[←e];exact(y.lt k h).1)
 have ac:∀v q,q<w5.heap.size→aK (w6.setCell ⟨z,0,none⟩ v) q (.slice A6 n6 c6) (ah g):=fun v q hq=>by
  exact dQ (aN y (aD.setCell (S:=fun k=>k=z) (aD.refl _ _) (fun _=>rfl) v) (fun k h e=>bp k h e)) χ hq an
 have bd:=hh ac;have W:=hh Z;have HK:=hh (V.trans B (fun _ _ h=>h));clear ac Z an bp y V B U I R Q H O;refine so (fun a7 w7=>At a7 2 (.pointer (some ⟨z,0,none⟩))∧a7.tmps.size=80∧a7.defers=[]∧w7=w6.setCell ⟨z,0,none⟩ (.slice A6 n6 c6)) ?_ ?_
 ·obtain⟨T,d⟩:=a6
  refine rl ?_
  iterate 3 with_reducible refine st ?_
  with_reducible refine ln ?_
  refine⟨rfl,?_,by simpa using bz,bl,rfl⟩;exact At.ne (At.ne n2 ψ) ψ
 rintro a7 w7 ⟨h2,cf,b2,a8⟩;refine wp_ret ?_;refine sC (u := .slice A6 n6 c6) rfl h2 (by rw[cf];decide) ?_ b2 ⟨.slice A6 n6 c6,ah g,rfl,W.out.1,fun p=>?_,fun q hq=>?_,?_⟩
 ·rw[a8];exact World.cell?_setCell_same _ _ _ x6
 ·rw[W.out.2.1,xX HS.out,al.out,CK]
 ·rw[a8];exact bd.out _ q (by have h1:=D.size;have h2:=HZ.out;omega)
 ·rw[a8];exact HK.out.setCell (fun h=>by have:=HZ.out;have h:z<w.heap.size:=h;omega) _
theorem mn(a s:Nat):IntKind.u64.wrap (IntKind.u64.wrap ((a:Int)+(s:Int))-1)=(dM a s:Int):=by
 rw[IntKind.wrap_u64,IntKind.wrap_u64];show _=(((a+s+(18446744073709551616-1))%18446744073709551616:Nat):Int);omega
def nD(l:List Ck.Ram):List Sp:=l.map fun x=>(x.Q7,dM x.Q7 x.size)
def iu(P:aF):List Sp:=nD P.QF
theorem aK.set{z:Nat}{v:Value}(h:aK w pb u l)(y:aK w z u l):aK (w.setCell ⟨z,0,none⟩ v) pb u l:=by
 obtain⟨A,c,rfl,B,C,D⟩:=h;obtain⟨_,_,e,_,_,E⟩:=y
 cases e
 refine⟨A,c,rfl,B,C,fun j=>?_⟩;obtain⟨g,rfl,d,I,H⟩:=D j;obtain⟨_,e,_,q,_⟩:=E j
 cases e
 have hk:aD (fun k=>k=z) w (w.setCell ⟨z,0,none⟩ v):=aD.setCell (S:=fun k=>k=z) (aD.refl _ _) (fun _=>rfl) v;refine⟨g,rfl,Nat.lt_of_lt_of_le d hk.size,I,fun i s J=>?_⟩;obtain⟨c1,c2,x⟩:=H i s J;exact⟨(hk.cell (p:=⟨g,i*2,none⟩) d q).trans c1,(hk.cell (p:=⟨g,i*2+1,none⟩) d q).trans c2,x⟩
theorem ss{v:aY}{P:aF}{W:Int→Int}(h:aG B w pb v P W L)(a:Act)(bm:a.tmps.size=31)(h0:At a 0 (.pointer (some ⟨pb,0,none⟩)))(h3:At a 3 (.slice none 0 0))(Q:Exit→Act→World→Prop)
 (hQ:∀a' w' Y,aE (fun i=>i==3||(rg 5 28 i)) a a'→At a' 3 Y→w'.ownsRow w.heap.size 125 2 Y (iu P).length (spC (iu P))→P.QF.length≤4194304→Kz w w'→Q .normal a' w'):
 (b9 Tryz.f98 [1,1,0]).wp Tryz.prog Q a w:=by
 have hs:=h.QT.QF;obtain⟨A,c,hu,b3,bf,hl⟩:=hs;unfold top at bf;have b2:=h.lt;have b0:=h.base;have hq:w.cell? ⟨pb,2,none⟩=some v.QF:=h.cell rfl;rw[hu]at hq;clear hu
 conv=>arg 2;whnf
 refine so (fun y w1=>aE (fun i=>(rg 6 12 i)) a y∧At y 10 (.slice A P.QF.length c)∧At y 11 (.int .i64 P.QF.length)∧At y 12 (.int .i64 0)∧w1=w) ?_ ?_
 ·clear hl
  obtain⟨T,d⟩:=a;refine rl ?_
  iterate 7 with_reducible refine st ?_
  with_reducible refine ln ?_
  refine⟨rfl,ag,aq,aq,aq,rfl⟩
 rintro a0 w0 ⟨U,bx,bw,bs,rfl⟩;have an:=U.size.trans bm;replace h3:=U.Q7 h3 rfl;obtain⟨Z,hZ⟩:∃z,z=w0.heap.size:=⟨_,rfl⟩;rw[←hZ]at hQ;have HZ:=hh hZ;clear hZ;refine bh P.QF.length (fun i=>i==3||i==5||(rg 12 28 i)) (fun i=>i==3||i==5||(rg 14 27 i)) (fun k a' w'=>∃u,At a' 3 u∧w'.ownsRow Z 125 2 u (nD (P.QF.take k)).length (spC (nD (P.QF.take k)))∧Kz w0 w') χ bs bw ψ rfl
  ζ χ ψ (fun k y O w K ⟨u,h1,h2⟩=>⟨u,K.Q7 h1 rfl,h2⟩) ⟨_,h3,by simpa[spC,nD]using World.ownsRow_nil _ _ _ _,aD.refl _ _⟩ ?_ ?_
 ·rintro k y wr al K bt ⟨u,J,g,hk⟩
  obtain⟨bl,off,rfl,be,af⟩:=hl χ;obtain⟨x,hx⟩:=ge al;obtain⟨hc,bz⟩:=(aJ B _ _) _ _ _ _ _ (hk.below (B:=B) χ (fun _ hi e=>e)) be (af k x hx);have q0:=hc.c0;have q1:=hc 1 _ rfl;have q2:=hc 2 _ rfl;have a7:=K.Q7 bx rfl;have a3:=K.size.trans an;have a5:=hk.size;have ad:bl<wr.heap.size:=χ
  have b1:k≤c:=χ
  obtain⟨rs,H⟩:∃l,l=nD (P.QF.take k):=⟨_,rfl⟩;rw[←H]at g;have b4:rs.length=k:=by rw[H];simp[nD];omega
  have HR:Hid (nD (P.QF.take (k+1))=rs++[(x.Q7,dM x.Q7 x.size)]):=by
   refine hh ?_;rw[aP hx,H];simp[nD]
  have HO:=hh g;have HK:=hh hk;have HA:=hh K;clear hx g hk K af hc H hl;refine so (fun O w2=>aE (fun i=>i==14||i==15||i==5) y O∧At O 5 (.pointer (some ⟨wr.heap.size,0,none⟩))∧w2=wr.alloc (.cells #[.int .i64 x.pos,.int .u64 x.Q7,.int .u64 x.size] 91)) ?_ ?_
  ·obtain⟨T,d⟩:=y
   refine rl ?_
   iterate 4 with_reducible refine st ?_
   with_reducible refine ln ?_
   refine⟨rfl,ag,aq,rfl⟩
  rintro O wo ⟨C,bp,I⟩;obtain⟨z,hz⟩:∃z,z=wr.heap.size:=⟨_,rfl⟩;rw[←hz]at bp;have a6:aM wo z 0 [.int .i64 x.pos,.int .u64 x.Q7,.int .u64 x.size]:=by rw[I,hz];exact aw _ _ _
  have b5:z<wo.heap.size:=by rw[I,hz];simp
  have V:Kz wr wo:=by rw[I];exact(aD.refl _ _).alloc _
  have N:=C.size.trans a3;have ca:=C.Q7 J rfl;have ac:=hh (aN HO.out V (fun _ _ h=>h));have aa:=hh (HK.out.trans V (fun _ _ h=>h));have a8:Hid (aE (fun i=>i==3||i==5||(rg 14 27 i)) y O):=C.m;clear I hz V HO HK C q0 q1 q2 a7 J bt a5 ad;have q1:=a6 1 _ rfl;have q2:=a6 2 _ rfl;obtain⟨p,hp⟩:∃p,p=dM x.Q7 x.size:=⟨_,rfl⟩;have hw:=mn x.Q7 x.size;rw[←hp]at hw HR;have HP:=hh hp;clear hp;refine Code.wp_only (R:=fun a4 w4=>aE (fun i=>i==3||(rg 16 27 i)) O a4∧(∃Y,At a4 3 Y∧w4.ownsRow Z 125 2 Y (rs.length+1) (spC (rs++[(x.Q7,p)])))∧Kz w0 w4) ?_ ?_
  ·obtain⟨T,d⟩:=O
   refine rl ?_
   iterate 11 with_reducible refine st ?_
   have hb:=aw wo [.int .u64 x.Q7,.int .u64 p] 125;have E:Kz wo (wo.alloc (.cells #[.int .u64 x.Q7,.int .u64 p] 125)):=(aD.refl _ _).alloc _;have bb:=hh (aN ac.out E (fun _ _ h=>h));refine mW (p:=(x.Q7,p)) rfl rfl rfl (At.eval (by exact aq) (by have:=N;simp at this⊢; omega)) bb.out χ (At.eval (by exact aq) (by have:=N;simp at this⊢; omega)) hb.c0 (hb 1 _ rfl) (by have:=HZ.out;have:=E.size;have:=aa.out.size;omega) ?_;intro u2 w4 q D;have bc:=hh q;have a9:Hid (Kz w0 w4):=(aa.out.trans E (fun _ _ h=>h)).trans D (fun i hi h=>by have:=(ac.out.lt i h).1;have:=HZ.out;omega);clear q D hb E;simp only[Act.put];with_reducible refine st ?_;refine ln ?_
   refine⟨rfl,ag,⟨u2,aq,bc.out⟩,a9.out⟩
  rintro a4 w4 ⟨bd,⟨Y,bo,X⟩,D⟩;refine⟨a8.out.t bd,Y,bo,?_,D⟩;rw[HR.out,List.length_append];exact X
 ·rintro a' w' K ⟨u,J,g,hk⟩
  rw[List.take_length]at g;exact hQ _ _ _ ((U.m).t K) J g χ hk
theorem vR{v:aY}{P:aF}{W:Int→Int}(h:aG B w pb v P W L):
 Calls Tryz.prog 98 #[.pointer (some ⟨pb,0,none⟩)] w fun e w'=>∃u' l,e=.returned (.agg #[u'])∧fN l∧(∀p,aj l p↔aj (iu P) p)∧(∀q,q<w.heap.size→aK w' q u' l)∧Kz w w':=by
 have HH:=hh h;have bw:=h.lt;have Q:∀s∈iu P,s.1<lim∧s.2<lim:=by
  intro s hs;obtain⟨x,hx,rfl⟩:=List.mem_map.1 hs;obtain⟨A,c,_,_,_,hl⟩:=h.QT.QF;obtain⟨bl,off,_,_,a9⟩:=hl (List.length_pos_of_mem hx);obtain⟨k,hk⟩:=List.getElem?_of_mem hx;have ok:=(a9 k x hk).2;exact⟨ok.2.1,Nat.mod_lt _ ψ⟩
 have ac:=hh Q;clear h Q;refine bU Tryz.func98 Tryz.ntmps98 rfl ξ fun a bs bc C=>?_
 have h0:At a 0 (.pointer (some ⟨pb,0,none⟩)):=C 0 _ rfl;clear C
 conv=>arg 2;whnf
 refine so (fun a1 U=>aE (fun i=>i==2) a a1∧At a1 2 (.pointer (some ⟨w.heap.size,0,none⟩))∧U=w.alloc (.cells #[.slice none 0 0] 119)) ?_ ?_
 ·obtain⟨T,d⟩:=a
  refine rl ?_;with_reducible refine st ?_;refine ln ?_
  refine⟨rfl,ag,aq,rfl⟩
 rintro a1 U ⟨H,k2,E⟩;have j:Kz w U:=by rw[E];exact(aD.refl _ _).alloc _
 obtain⟨z,Y⟩:∃z,z=w.heap.size:=⟨_,rfl⟩;rw[←Y]at k2;have bt:U.cell? ⟨z,0,none⟩=some (.slice none 0 0):=by rw[E,Y];exact aw w [.slice none 0 0] 119 0 _ rfl
 have bd:U.frozen? ⟨z,0,none⟩=false:=by
  have bm:U.heap[z]?=some (.cells #[.slice none 0 0] 119):=by rw[E,Y];exact Array.getElem?_push_size
  simp[World.frozen?,bm]
 have X:z<U.heap.size:=by rw[E,Y];simp
 have HZ:Hid (z=w.heap.size):=Y;have a6:=H.size.trans bs;have ad:=H.defers.trans bc;have j0:=H.Q7 h0 rfl;clear E Y;refine so (fun a2 w2=>aE (fun i=>i==3) a1 a2∧At a2 3 (.slice none 0 0)∧w2=U) ?_ ?_
 ·obtain⟨T,d⟩:=a1
  refine rl ?_;with_reducible refine st ?_;refine ln ?_
  refine⟨rfl,ag,aq,rfl⟩
 rintro a2 w2 ⟨y,k3,rfl⟩;have R:=y.size.trans a6;have a0:pb<w2.heap.size:=by have:=j.size;omega
 refine wp_seq (ss (HH.out.new j) a2 R (y.Q7 j0 rfl) k3 _ (fun a3 w3 u3 I l3 D bo g=>?_));have a8:=I.size.trans R;have m2:=I.Q7 (y.Q7 k2 rfl) rfl;have af:=I.defers.trans (y.defers.trans ad);have a4:(iu P).length≤4194304:=by unfold iu nD;rw[List.length_map];exact bo
 have O:pb<w3.heap.size:=by have:=g.size;omega
 have HC:=hh (ul (dQ D a4 a0 ac.out) O ac.out);have x3:=(g.cell (p:=⟨z,0,none⟩) X (fun h=>h)).trans bt;have f3:=(g.frozen (p:=⟨z,0,none⟩) X (fun h=>h)).trans bd;have N:z<w3.heap.size:=Nat.lt_of_lt_of_le X g.size;have aa:=hh (j.trans g (fun _ _ h=>h));have bx:pb≠z:=by have:=HZ.out;omega
 clear D g I y H j;refine so (fun a7 w7=>At a7 2 (.pointer (some ⟨z,0,none⟩))∧a7.tmps.size=31∧a7.defers=[]∧∃u' l Z,w7=Z.setCell ⟨z,0,none⟩ u'∧fN l∧(∀p,aj l p↔aj (iu P) p)∧(∀q,q<w3.heap.size→aK Z q u' l)∧Kz w3 Z) ?_ ?_
 ·obtain⟨T,d⟩:=a3
  refine rl ?_;with_reducible refine st ?_;refine Lz (fun K hK=>?_)
  go_simp;refine HC.out.mono ?_;rintro e Z ⟨u6,l6,rfl,j,al,g,J⟩;have H1:=hh j;have H2:=hh al;have H3:=hh g;have H4:=hh J;obtain⟨A6,c6,rfl,_⟩:=g pb O;have x6:=(J.cell (p:=⟨z,0,none⟩) N (fun h=>h)).trans x3;have f6:=(J.frozen (p:=⟨z,0,none⟩) N (fun h=>h)).trans f3;clear j al J x3 f3;with_reducible refine hK _ _ ?_;clear hK K;refine st ?_;refine ln ?_
  refine⟨rfl,?_,by simpa using a8,af,_,l6,Z,rfl,H1.out,H2.out,H3.out,H4.out⟩;exact At.ne (At.ne m2 ψ) ψ
 rintro a7 w7 ⟨h2,bp,bb,u6,l6,Z,V,bf,be,a5,an⟩;refine wp_ret ?_;have x6:=(an.cell (p:=⟨z,0,none⟩) N (fun h=>h)).trans x3;refine sC (u:=u6) rfl h2 (by rw[bp];decide) ?_ bb ⟨u6,l6,rfl,bf,be,fun q hq=>?_,?_⟩
 ·rw[V];exact World.cell?_setCell_same _ _ _ x6
 ·rw[V];exact aK.set (a5 q (by have:=aa.out.size;omega)) (a5 z N)
 ·rw[V];exact((aa.out.trans an (fun _ _ h=>h))).setCell (fun h=>by have:=HZ.out;have h:z<w.heap.size:=h;omega) _
theorem zh{v:aY}{P:aF}(h:aG B w pb v P fH L){z:Nat}{x:Ck.Region}(g:aM w z 0 [.int .i64 x.pos,.string x.name,.int .u64 x.size,.bool x.fixed,.int .u64 x.Q7,.bool x.big,.bool x.wx,.int .u64 x.fill,.bool x.QP,.string x.text])(ok:x.Ok)(a:Act)(ac:a.tmps.size=119)(h0:At a 0 (.pointer (some ⟨pb,0,none⟩)))(h5:At a 5 (.pointer (some ⟨z,0,none⟩)))(Q:Exit→Act→World→Prop)
 (W:∀y w',aE (fun i=>(rg 19 32 i)) a y→aG B w' pb v P fH (say (decide ((x.size ||| x.Q7)%dP x.big=0)) x.pos 0++L)→aD (fun k=>k=pb) w w'→Q .normal y w'):
 (b9 Tryz.f28 [1,1,0,1,0,0,1,1,0,0,1,0]).wp Tryz.prog Q a w:=by
 obtain⟨ad,l,q,N,O,V⟩:=ok;unfold lim at l q N;unfold aW at O V;refine Code.wp_only (R:=fun y w'=>aE (fun i=>(rg 19 32 i)) a y∧aG B w' pb v P fH (say (decide ((x.size ||| x.Q7)%dP x.big=0)) x.pos 0++L)∧aD (fun k=>k=pb) w w') ?_ (fun Y w4 h=>W Y w4 h.1 h.2.1 h.2.2);clear W
 conv=>arg 2;whnf
 have q0:=g.c0;have q1:=g 1 _ rfl;have q2:=g 2 _ rfl;have q3:=g 3 _ rfl;have q4:=g 4 _ rfl;have q5:=g 5 _ rfl;have q6:=g 6 _ rfl;have q7:=g 7 _ rfl;have q8:=g 8 _ rfl;have q9:=g 9 _ rfl;obtain⟨U,D⟩:∃u,u=dP x.big:=⟨_,rfl⟩;have j:=fun w0=>tE (rf x.big w0)
 rw[←D]at j;have I:0<U:=by rw[D];unfold dP;split<;>omega
 have Z:¬ (U=0):=χ
 have aa:((U:Int)==0)=false:=η
 obtain⟨b,hb⟩:∃b,((bits .or .u64 (x.size:Int) (x.Q7:Int)).tmod (U:Int)==0)=b:=⟨_,rfl⟩;have X:Hid (say (decide ((x.size ||| x.Q7)%dP x.big=0)) x.pos 0=say b x.pos 0):=by
  refine hh ?_;rw[←hb,wN l q,←D,show(((x.size ||| x.Q7:Nat):Int).tmod (U:Int))=(((x.size ||| x.Q7)%U:Nat):Int) from rfl]
  congr 1
  rw[jq];exact decide_eq_decide.2 χ
 have E:=hh (h.new ((aD.refl _ w).drew));clear h g D I;obtain⟨T,d⟩:=a;refine wp_region_still_tail 13 δ δ ?_;simp only[List.take_succ_cons,List.take_zero,List.drop_succ_cons,List.drop_zero]
 iterate 8 with_reducible refine sl ?_
 with_reducible refine wpStill_step (fun K C=>?_)
 go_simp;with_reducible refine⟨_,j _,C _ ?_⟩;clear C K
 iterate 4 with_reducible refine sl ?_
 with_reducible refine wpStill_nil ?_;refine Lz (fun K C=>?_)
 go_simp;refine(aT _ _ 0 33 E.out rfl).mono ?_;rintro e w2 ⟨rfl,H,J⟩;with_reducible refine C _ _ (ln ?_)
 refine⟨rfl,?_,?_,?_⟩
 ·exact ag
 ·rw[X.out]
  exact H
 ·exact((aD.refl _ _).drew).trans J (fun _ _ e=>e)
theorem zi{v:aY}{P:aF}(h:aG B w pb v P fH L){z:Nat}{x:Ck.Region}(g:aM w z 0 [.int .i64 x.pos,.string x.name,.int .u64 x.size,.bool x.fixed,.int .u64 x.Q7,.bool x.big,.bool x.wx,.int .u64 x.fill,.bool x.QP,.string x.text])(ok:x.Ok)(a:Act)(W:a.tmps.size=119)(h0:At a 0 (.pointer (some ⟨pb,0,none⟩)))(h5:At a 5 (.pointer (some ⟨z,0,none⟩)))(Q:Exit→Act→World→Prop)
 (U:∀u w',aE (fun i=>(rg 33 44 i)) a u→aG B w' pb v P fH (say (decide (0<x.size)&&decide (x.size≤67108864)) x.pos 1++L)→aD (fun k=>k=pb) w w'→Q .normal u w'):
 (b9 Tryz.f28 [1,1,0,1,0,0,1,1,0,0,1,1,0]).wp Tryz.prog Q a w:=by
 obtain⟨Y,C,D,E,H,I⟩:=ok;unfold lim at C D E;unfold aW at H I;refine Code.wp_only (R:=fun u w'=>aE (fun i=>(rg 33 44 i)) a u∧aG B w' pb v P fH (say (decide (0<x.size)&&decide (x.size≤67108864)) x.pos 1++L)∧aD (fun k=>k=pb) w w') ?_ (fun V w4 h=>U V w4 h.1 h.2.1 h.2.2);clear U
 conv=>arg 2;whnf
 have q0:=g.c0;have q1:=g 1 _ rfl;have q2:=g 2 _ rfl;have q3:=g 3 _ rfl;have q4:=g 4 _ rfl;have q5:=g 5 _ rfl;have q6:=g 6 _ rfl;have q7:=g 7 _ rfl;have q8:=g 8 _ rfl;have q9:=g 9 _ rfl;obtain⟨b1,N⟩:∃b,decide (0<x.size)=b:=⟨_,rfl⟩;obtain⟨b2,O⟩:∃b,decide (x.size≤67108864)=b:=⟨_,rfl⟩;have J:Hid (say (decide (0<x.size)&&decide (x.size≤67108864)) x.pos 1=say (b1&&b2) x.pos 1):=by rw[N,O];exact hh rfl
 have e3:decide ((0:Int)<(x.size:Int))=b1:=by rw[←N];exact decide_eq_decide.2 χ
 have e4:decide ((x.size:Int)≤67108864)=b2:=by rw[←O];exact decide_eq_decide.2 χ
 have q:=hh h;have X:=aX;clear h g;obtain⟨T,d⟩:=a;refine rl ?_
 cases b1
 ·skip
  iterate 11 with_reducible refine st ?_
  with_reducible refine Lz (fun K y=>?_)
  go_simp;refine(aT _ _ 1 32 q.out rfl).mono ?_;rintro e Z ⟨rfl,j,l⟩;with_reducible refine y _ _ (ln ?_)
  refine⟨rfl,?_,?_,?_⟩
  ·exact ag
  ·rw[J.out]
   exact j
  ·exact l
 ·skip
  iterate 11 with_reducible refine st ?_
  with_reducible refine Lz (fun K y=>?_)
  go_simp;refine(aT _ _ 1 32 q.out rfl).mono ?_;rintro e Z ⟨rfl,j,l⟩;with_reducible refine y _ _ (ln ?_)
  refine⟨rfl,?_,?_,?_⟩
  ·exact ag
  ·rw[J.out]
   exact j
  ·exact l
theorem zk{v:aY}{P:aF}(h:aG B w pb v P fH L){z:Nat}{x:Ck.Region}(g:aM w z 0 [.int .i64 x.pos,.string x.name,.int .u64 x.size,.bool x.fixed,.int .u64 x.Q7,.bool x.big,.bool x.wx,.int .u64 x.fill,.bool x.QP,.string x.text])(ok:x.Ok)(a:Act)(aa:a.tmps.size=119)(h0:At a 0 (.pointer (some ⟨pb,0,none⟩)))(h5:At a 5 (.pointer (some ⟨z,0,none⟩)))(h6:At a 6 (.int .u64 x.text.size))(Q:Exit→Act→World→Prop)
 (hQ:∀D w',aE (fun i=>(rg 88 114 i)) a D→aG B w' pb v P fH (qe x++L)→aD (fun k=>k=pb) w w'→Q .normal D w'):
 (b9 Tryz.f28 [1,1,0,1,0,0,1,1,0,0,1,1,1,1,1]).wp Tryz.prog Q a w:=by
 obtain⟨ad,J,N,O,U,V⟩:=ok;unfold lim at J N O;unfold aW at U V;refine Code.wp_only (R:=fun D w'=>aE (fun i=>(rg 88 114 i)) a D∧aG B w' pb v P fH (qe x++L)∧aD (fun k=>k=pb) w w') ?_ (fun a4 w4 h=>hQ a4 w4 h.1 h.2.1 h.2.2);clear hQ
 conv=>arg 2;whnf
 have q0:=g.c0;have q1:=g 1 _ rfl;have q2:=g 2 _ rfl;have q3:=g 3 _ rfl;have q4:=g 4 _ rfl;have q5:=g 5 _ rfl;have q6:=g 6 _ rfl;have q7:=g 7 _ rfl;have q8:=g 8 _ rfl;have q9:=g 9 _ rfl;obtain⟨b1,X⟩:∃b,decide (x.fill<256)=b:=⟨_,rfl⟩;obtain⟨b2,Y⟩:∃b,decide (x.text.size≤x.size)=b:=⟨_,rfl⟩;obtain⟨H,e3⟩:∃b,decide (x.text.size≤1048576)=b:=⟨_,rfl⟩;obtain⟨I,e4⟩:∃b,decide (x.fill=0)=b:=⟨_,rfl⟩;obtain⟨W,Z⟩:∃b,decide (x.size≤1048576)=b:=⟨_,rfl⟩;have C:Hid (qe x=say (b1&&b2&&H&&(I||W)) x.pos 4):=by
  refine hh ?_;unfold qe;rw[X,Y,e3,e4,Z]
 have f1:decide ((x.fill:Int)<256)=b1:=by rw[←X];exact decide_eq_decide.2 χ
 have f2:decide ((x.text.size:Int)≤(x.size:Int))=b2:=by rw[←Y];exact decide_eq_decide.2 χ
 have f3:decide ((x.text.size:Int)≤1048576)=H:=by rw[←e3];exact decide_eq_decide.2 χ
 have f4:((x.fill:Int)==0)=I:=by rw[←e4];exact fA _ 0
 have f5:decide ((x.size:Int)≤1048576)=W:=by rw[←Z];exact decide_eq_decide.2 χ
 have q:=hh h;have ac:=aX;clear h g e4;obtain⟨T,d⟩:=a;refine rl ?_;have y:=C.out
 cases b1
 ·clear y
  iterate 26 with_reducible refine st ?_
  with_reducible refine Lz (fun K u=>?_)
  go_simp;refine(aT _ _ 4 105 q.out rfl).mono ?_;rintro e E ⟨rfl,j,l⟩;with_reducible refine u _ _ (ln ?_)
  refine⟨rfl,?_,?_,?_⟩
  ·exact ag
  ·rw[C.out]
   exact j
  ·exact l
 ·cases b2
  ·clear y
   iterate 26 with_reducible refine st ?_
   with_reducible refine Lz (fun K u=>?_)
   go_simp;refine(aT _ _ 4 105 q.out rfl).mono ?_;rintro e E ⟨rfl,j,l⟩;with_reducible refine u _ _ (ln ?_)
   refine⟨rfl,?_,?_,?_⟩
   ·exact ag
   ·rw[C.out]
    exact j
   ·exact l
  ·cases H
   ·clear y
    iterate 26 with_reducible refine st ?_
    with_reducible refine Lz (fun K u=>?_)
    go_simp;refine(aT _ _ 4 105 q.out rfl).mono ?_;rintro e E ⟨rfl,j,l⟩;with_reducible refine u _ _ (ln ?_)
    refine⟨rfl,?_,?_,?_⟩
    ·exact ag
    ·rw[C.out]
     exact j
    ·exact l
   ·clear y
    cases I
    ·skip
     iterate 26 with_reducible refine st ?_
     with_reducible refine Lz (fun K u=>?_)
     go_simp;refine(aT _ _ 4 105 q.out rfl).mono ?_;rintro e E ⟨rfl,j,l⟩;with_reducible refine u _ _ (ln ?_)
     refine⟨rfl,?_,?_,?_⟩
     ·exact ag
     ·rw[C.out]
      exact j
     ·exact l
    ·skip
     iterate 26 with_reducible refine st ?_
     with_reducible refine Lz (fun K u=>?_)
     go_simp;refine(aT _ _ 4 105 q.out rfl).mono ?_;rintro e E ⟨rfl,j,l⟩;with_reducible refine u _ _ (ln ?_)
     refine⟨rfl,?_,?_,?_⟩
     ·exact ag
     ·rw[C.out]
      exact j
     ·exact l
theorem mv{P:Program}(K:P=Tryz.prog){ops:Array Oper}{rest:List Oper}{o:Oper}{a:Act}{Q:Exit→Act→World→Prop}(y:o.guard=none){s x:Operand}
 (N:o.op=.call { callee := .builtin .append,args := #[s,x],argTypes := #[170,170] }){Z:Nat}{u:Value}{l:List df}(O:a.eval s=u)(q:w.ownsRow Z 172 3 u l.length (ai l))(Y:l.length≤8388608)
 {blk:Nat}{p:df}(U:a.eval x=.slice (some ⟨blk,0,none⟩) 1 1)(c0:aM w blk 0 p.cells)(L:Z≤w.heap.size)
 (h:∀E w',w'.ownsRow Z 172 3 E (l.length+1) (ai (l++[p]))→aD (fun k=>u.ownBlock=some k) w w'→wpList P ops Q rest (a.put o.dst E) w'):wpList P ops Q (o::rest) a w:=by
 subst K;obtain⟨V,hi,B,C,D⟩:=info_parts Tryz.info172;have d:∀j,(⟨blk,0,none⟩:Addr).add j=⟨blk,j,none⟩:=fun j=>by unfold Addr.add;split<;>simp_all
 refine wpList_append_lies w y s x 170 N Z 172 V (.agg #[.int .u64 0,.int .u64 0,.int .i64 0]) 3 24 Tryz.underlying170 hi B C D rfl χ u l.length (ai l) O q ⟨blk,0,none⟩ 1 1 p.cells U rfl (fun j v R=>?_) mB χ (by unfold maxLen;omega) χ L w.heap.size rfl ?_
 ·rw[d]
  have:=c0 j v R
  rwa[Nat.zero_add]at this
 ·intro g H w' I J W X
  refine h _ w' ?_ (aD.of_grown J (fun k e=>e));rw[fh];exact I
theorem Bl{v:aY}{P:aF}(h:aG B w pb v P fH L){z:Nat}{x:Ck.Region}(g:aM w z 0 [.int .i64 x.pos,.string x.name,.int .u64 x.size,.bool x.fixed,.int .u64 x.Q7,.bool x.big,.bool x.wx,.int .u64 x.fill,.bool x.QP,.string x.text])(a:Act)(E:a.tmps.size=119)(h5:At a 5 (.pointer (some ⟨z,0,none⟩))){Z:Nat}{u:Value}{l:List df}(h2:At a 2 u)(Y:Hid (w.ownsRow Z 172 3 u l.length (ai l)))(hl:l.length≤8388608)(hZ:Z≤w.heap.size)(U:B≤Z)(Q:Exit→Act→World→Prop)
 (V:∀O w' H,aE (fun i=>i==2||(rg 74 83 i)) a O→At O 2 H→w'.ownsRow Z 172 3 H (l.length+1) (ai (l++[⟨x.Q7,x.size,x.pos⟩]))→aG B w' pb v P fH L→aD (fun k=>u.ownBlock=some k) w w'→Q .normal O w'):
 (b9 Tryz.f28 [1,1,0,1,0,0,1,1,0,0,1,1,1,0,1,0,1]).wp Tryz.prog Q a w:=by
 conv=>arg 2;whnf
 refine Code.wp_only (R:=fun I D=>aE (fun i=>i==2||(rg 74 83 i)) a I∧(∃H,At I 2 H∧D.ownsRow Z 172 3 H (l.length+1) (ai (l++[⟨x.Q7,x.size,x.pos⟩])))∧aG B D pb v P fH L∧aD (fun k=>u.ownBlock=some k) w D) ?_ (fun I D h=>V I D h.2.1.choose h.1 h.2.1.choose_spec.1 h.2.1.choose_spec.2 h.2.2.1 h.2.2.2);clear V;have q0:=g.c0;have q1:=g 1 _ rfl;have q2:=g 2 _ rfl;have q3:=g 3 _ rfl;have q4:=g 4 _ rfl;have q5:=g 5 _ rfl;have q6:=g 6 _ rfl;have q7:=g 7 _ rfl;have q8:=g 8 _ rfl;have q9:=g 9 _ rfl;have X:=hh h;clear h g;obtain⟨T,d⟩:=a;refine rl ?_
 iterate 9 with_reducible refine st ?_
 have W:=aw w [.int .u64 x.Q7,.int .u64 x.size,.int .i64 x.pos] 172;have j:Kz w (w.alloc (.cells #[.int .u64 x.Q7,.int .u64 x.size,.int .i64 x.pos] 172)):=(aD.refl _ _).alloc _;have y:=hh (aN Y.out j (fun _ _ h=>h));refine mv (p:=⟨x.Q7,x.size,x.pos⟩) rfl rfl rfl (At.eval (by exact aq) (by have:=E;simp at this⊢; omega)) y.out χ (At.eval (by exact aq) (by have:=E;simp at this⊢; omega)) W (by have:=j.size;omega) ?_;intro u2 D q C;have N:=hh q;have J:Hid (aD (fun k=>u.ownBlock=some k) w D):=(j.mono fun _ _ h=>h.elim).trans C (fun i hi h=>h);have K:=hh ((X.out.new j).grown y.out U ψ C);clear q C W j y;simp only[Act.put];with_reducible refine st ?_;refine ln ?_
 refine⟨rfl,ag,⟨u2,aq,N.out⟩,K.out,J.out⟩
theorem tU{P:aF}(h:∀p,aj l p↔aj (iu P) p)(a b:Nat):dD l a b=fO P.QF a b:=by
 unfold dD fO;have e:∀p,aj l p↔∃r∈P.QF,r.Q7≤p∧p≤dM r.Q7 r.size:=fun p=>by
  rw[h];unfold aj iu nD;simp only[List.mem_map];constructor
  ·rintro⟨s,⟨r,g,rfl⟩,d⟩
   exact⟨r,g,d⟩
  ·rintro⟨r,g,d⟩
   exact⟨_,⟨r,g,rfl⟩,d⟩
 rw[Bool.eq_iff_iff];simp only[decide_eq_true_eq,e]
theorem xi{v:aY}{P:aF}(h:aG B w pb v P fH L){z:Nat}{x:Ck.Region}(H:aM w z 0 [.int .i64 x.pos,.string x.name,.int .u64 x.size,.bool x.fixed,.int .u64 x.Q7,.bool x.big,.bool x.wx,.int .u64 x.fill,.bool x.QP,.string x.text])(ok:x.Ok)(a:Act)(di:a.tmps.size=119)(h0:At a 0 (.pointer (some ⟨pb,0,none⟩)))(h5:At a 5 (.pointer (some ⟨z,0,none⟩)))(bp:z<w.heap.size)(dk:z≠pb){zs:Nat}{us:Value}{ad:List Sp}(h3:At a 3 (.pointer (some ⟨zs,0,none⟩)))(a5:w.cell? ⟨zs,0,none⟩=some us)(a6:zs<w.heap.size)(cp:zs≠pb)(U:aK w pb us ad)(a2:fN ad)(aa:∀p,aj ad p↔aj (iu P) p)(Q:Exit→Act→World→Prop)
 (hQ:∀g w',aE (fun i=>(rg 47 73 i)) a g→aG B w' pb v P fH (say (decide (x.size=0)||below x.Q7 x.size 4294967296&&fO P.QF x.Q7 (dM x.Q7 x.size)) x.pos 2++L)→aD (fun k=>k=pb) w w'→Q .normal g w'):
 (b9 Tryz.f28 [1,1,0,1,0,0,1,1,0,0,1,1,1,0,1,0,0]).wp Tryz.prog Q a w:=by
 obtain⟨ds,a7,a0,bs,bt,bw⟩:=ok;unfold lim at a7 a0 bs;unfold aW at bt bw;refine Code.wp_only (R:=fun g w'=>aE (fun i=>(rg 47 73 i)) a g∧aG B w' pb v P fH (say (decide (x.size=0)||below x.Q7 x.size 4294967296&&fO P.QF x.Q7 (dM x.Q7 x.size)) x.pos 2++L)∧aD (fun k=>k=pb) w w') ?_ (fun a4 w4 h=>hQ a4 w4 h.1 h.2.1 h.2.2);clear hQ
 conv=>arg 2;whnf
 have c8:=h.lt;have af:=hh (h.new ((aD.refl _ w).drew))
 by_cases hs0:x.size=0
 ·have HS:Hid (say (decide (x.size=0)||below x.Q7 x.size 4294967296&&fO P.QF x.Q7 (dM x.Q7 x.size)) x.pos 2=say true x.pos 2):=by rw[decide_eq_true hs0,Bool.true_or];exact hh rfl
  have q0:=H.c0;have q2:=H 2 _ rfl;rw[hs0]at q2;have C:=aX;clear h H U aa;obtain⟨T,d⟩:=a;refine wp_region_still_tail 26 δ δ ?_;simp only[List.take_succ_cons,List.take_zero,List.drop_succ_cons,List.drop_zero]
  iterate 26 with_reducible refine sl ?_
  with_reducible refine wpStill_nil ?_;refine Lz (fun K q=>?_)
  go_simp;refine(aT _ _ 2 109 af.out rfl).mono ?_;rintro e w2 ⟨rfl,J,E⟩;with_reducible refine q _ _ (ln ?_)
  refine⟨rfl,?_,?_,?_⟩
  ·exact ag
  ·rw[HS.out]
   exact J
  ·exact((aD.refl _ _).drew).trans E (fun _ _ e=>e)
 have ac:decide (x.size=0)=false:=decide_eq_false hs0;have dc:((x.size:Int)==0)=false:=by rw[jq];exact decide_eq_false χ
 obtain⟨bb,O⟩:∃b,b=below x.Q7 x.size 4294967296:=⟨_,rfl⟩;have Y:=fun w0=>jt x.Q7 x.size 4294967296 w0 a0 a7 ψ
 rw[←O]at Y
 cases bb
 ·have HS:Hid (say (decide (x.size=0)||below x.Q7 x.size 4294967296&&fO P.QF x.Q7 (dM x.Q7 x.size)) x.pos 2=say false x.pos 2):=by rw[←O,ac];exact hh rfl
  have q0:=H.c0;have q2:=H 2 _ rfl;have q4:=H 4 _ rfl;have bl:=fun w0=>tE (Y w0)
  have C:=aX;clear h H U aa O ac Y;obtain⟨T,d⟩:=a;refine wp_region_still_tail 26 δ δ ?_;simp only[List.take_succ_cons,List.take_zero,List.drop_succ_cons,List.drop_zero]
  iterate 9 with_reducible refine sl ?_
  with_reducible refine wpStill_step (fun K q=>?_)
  go_simp;with_reducible refine⟨_,bl _,q _ ?_⟩;clear q K
  iterate 16 with_reducible refine sl ?_
  with_reducible refine wpStill_nil ?_;refine Lz (fun K q=>?_)
  go_simp;refine(aT _ _ 2 109 af.out rfl).mono ?_;rintro e w2 ⟨rfl,J,E⟩;with_reducible refine q _ _ (ln ?_)
  refine⟨rfl,?_,?_,?_⟩
  ·exact ag
  ·rw[HS.out]
   exact J
  ·exact((aD.refl _ _).drew).trans E (fun _ _ e=>e)
 ·obtain⟨cv,Z⟩:∃b,b=dD ad x.Q7 (dM x.Q7 x.size):=⟨_,rfl⟩
  have HS:Hid (say (decide (x.size=0)||below x.Q7 x.size 4294967296&&fO P.QF x.Q7 (dM x.Q7 x.size)) x.pos 2=say cv x.pos 2):=by rw[←O,ac,Z,tU aa];exact hh rfl
  have bm:=mn x.Q7 x.size;obtain⟨la,al⟩:∃n,n=dM x.Q7 x.size:=⟨_,rfl⟩;rw[←al]at bm Z;have a1:la<lim:=by rw[al];exact Nat.mod_lt _ ψ
  have V:Hid (∀w',Kz w.drew w'→(w'.cell? ⟨z,0,none⟩=some (.int .i64 x.pos)∧w'.cell? ⟨z,2,none⟩=some (.int .u64 x.size)∧w'.cell? ⟨z,4,none⟩=some (.int .u64 x.Q7)∧w'.cell? ⟨zs,0,none⟩=some us)):=fun w' hk=>by
   have E:Kz w w':=((aD.refl _ w).drew).trans hk (fun _ _ h=>h);have an:=H.keep E bp (fun h=>h);exact⟨an.c0,an 2 _ rfl,an 4 _ rfl,(E.cell (p:=⟨zs,0,none⟩) a6 (fun h=>h)).trans a5⟩
  have bd:Hid (∀w',Kz w.drew w'→Calls Tryz.prog 61 #[.agg #[us],.agg #[.int .u64 x.Q7,.int .u64 la]] w' fun e w2=>e=.returned (.bool cv)∧Kz w' w2):=fun w' hk=>by
   have E:Kz w w':=((aD.refl _ w).drew).trans hk (fun _ _ h=>h);rw[Z];exact vZ (U.keep (E.mono fun _ _ h=>h.elim)) a2 _ _ a0 a1 (by have:=E.size;omega)
  have bo:∃A n c,us=.slice A n c:=by obtain⟨A,c,e,_⟩:=U;exact⟨A,_,c,e⟩
  obtain⟨A,n,c,rfl⟩:=bo;clear h H U aa O ac Z al a5;refine jB 26 (fun i=>([.pointer (some ⟨pb,0,none⟩),.pointer (some ⟨z,2,none⟩),.int .u64 x.size,.bool false,.bool false,.pointer (some ⟨z,4,none⟩),.int .u64 x.Q7,.pointer (some ⟨z,2,none⟩),.int .u64 x.size,.bool true,.bool true,.agg #[.slice A n c],.pointer (some ⟨z,4,none⟩),.int .u64 x.Q7,.pointer (some ⟨z,4,none⟩),.int .u64 x.Q7,.pointer (some ⟨z,2,none⟩),.int .u64 x.size,.int .u64 (IntKind.u64.wrap ((x.Q7:Int)+(x.size:Int))),.int .u64 la,.agg #[.int .u64 x.Q7,.int .u64 la],.bool cv,.bool cv,.bool cv,.pointer (some ⟨z,0,none⟩),.int .i64 x.pos]:List Value).getD i undef) (fun w'=>Kz w.drew w') δ δ ?_ ?_ ?_
  ·first|exact hWd|exact aD.refl _ _
  ·intro i o hi u g w' K y N l q
   have a3:g.tmps.size=119:=N.size.trans (by first|assumption|(simp only[Array.size_setIfInBounds];assumption));have a8:=N.Q7 h0 rfl;have bc:=N.Q7 h5 rfl;have a9:=N.Q7 h3 rfl
   match i,hi,u,l,q with
   | 0,_,u,l,q =>
    obtain rfl:=oi u;obtain⟨T,d⟩:=g;go_simp;exact q _ y
   | 1,_,u,l,q =>
    obtain rfl:=oi u;obtain⟨T,d⟩:=g;go_simp;exact q _ y
   | 2,_,u,l,q =>
    obtain rfl:=oi u;have cu:At g 48 (.pointer (some ⟨z,2,none⟩)):=l 1 δ ψ 48 rfl;obtain⟨c0,c2,W,X⟩:=V.out _ y;obtain⟨T,d⟩:=g;go_simp;exact q _ y
   | 3,_,u,l,q =>
    obtain rfl:=oi u;have cw:At g 49 (.int .u64 x.size):=l 2 δ ψ 49 rfl;obtain⟨T,d⟩:=g;go_simp;exact q _ y
   | 4,_,u,l,q =>
    obtain rfl:=oi u;have cx:At g 50 (.bool false):=l 3 δ ψ 50 rfl;obtain⟨T,d⟩:=g;go_simp;exact q _ y
   | 5,_,u,l,q =>
    obtain rfl:=oi u;have I:At g 51 (.bool false):=l 4 δ ψ 51 rfl;have C:=aX;obtain⟨T,d⟩:=g;go_simp;exact q _ y
   | 6,_,u,l,q =>
    obtain rfl:=oi u;have cy:At g 52 (.pointer (some ⟨z,4,none⟩)):=l 5 δ ψ 52 rfl;have I:At g 51 (.bool false):=l 4 δ ψ 51 rfl;obtain⟨c0,c2,W,X⟩:=V.out _ y;have C:=aX;obtain⟨T,d⟩:=g;go_simp;exact q _ y
   | 7,_,u,l,q =>
    obtain rfl:=oi u;have I:At g 51 (.bool false):=l 4 δ ψ 51 rfl;have C:=aX;obtain⟨T,d⟩:=g;go_simp;exact q _ y
   | 8,_,u,l,q =>
    obtain rfl:=oi u;have c5:At g 54 (.pointer (some ⟨z,2,none⟩)):=l 7 δ ψ 54 rfl;have I:At g 51 (.bool false):=l 4 δ ψ 51 rfl;obtain⟨c0,c2,W,X⟩:=V.out _ y;have C:=aX;obtain⟨T,d⟩:=g;go_simp;exact q _ y
   | 9,_,u,l,q =>
    obtain rfl:=oi u;have c3:At g 53 (.int .u64 x.Q7):=l 6 δ ψ 53 rfl;have c6:At g 55 (.int .u64 x.size):=l 8 δ ψ 55 rfl;have I:At g 51 (.bool false):=l 4 δ ψ 51 rfl;obtain⟨c0,c2,W,X⟩:=V.out _ y;have C:=aX;obtain⟨T,d⟩:=g;go_simp;refine(Y _).mono ?_;rintro e w2 ⟨rfl,rfl⟩;exact q _ y
   | 10,_,u,l,q =>
    obtain rfl:=oi u;have c7:At g 56 (.bool true):=l 9 δ ψ 56 rfl;have I:At g 51 (.bool false):=l 4 δ ψ 51 rfl;have C:=aX;obtain⟨T,d⟩:=g;go_simp;exact q _ y
   | 11,_,u,l,q =>
    obtain rfl:=oi u;have D:At g 57 (.bool true):=l 10 δ ψ 57 rfl;obtain⟨c0,c2,W,X⟩:=V.out _ y;have C:=aX;obtain⟨T,d⟩:=g;go_simp;exact q _ y
   | 12,_,u,l,q =>
    obtain rfl:=oi u;have D:At g 57 (.bool true):=l 10 δ ψ 57 rfl;have C:=aX;obtain⟨T,d⟩:=g;go_simp;exact q _ y
   | 13,_,u,l,q =>
    obtain rfl:=oi u;have bz:At g 59 (.pointer (some ⟨z,4,none⟩)):=l 12 δ ψ 59 rfl;have D:At g 57 (.bool true):=l 10 δ ψ 57 rfl;obtain⟨c0,c2,W,X⟩:=V.out _ y;have C:=aX;obtain⟨T,d⟩:=g;go_simp;exact q _ y
   | 14,_,u,l,q =>
    obtain rfl:=oi u;have D:At g 57 (.bool true):=l 10 δ ψ 57 rfl;have C:=aX;obtain⟨T,d⟩:=g;go_simp;exact q _ y
   | 15,_,u,l,q =>
    obtain rfl:=oi u;have b1:At g 61 (.pointer (some ⟨z,4,none⟩)):=l 14 δ ψ 61 rfl;have D:At g 57 (.bool true):=l 10 δ ψ 57 rfl;obtain⟨c0,c2,W,X⟩:=V.out _ y;have C:=aX;obtain⟨T,d⟩:=g;go_simp;exact q _ y
   | 16,_,u,l,q =>
    obtain rfl:=oi u;have D:At g 57 (.bool true):=l 10 δ ψ 57 rfl;have C:=aX;obtain⟨T,d⟩:=g;go_simp;exact q _ y
   | 17,_,u,l,q =>
    obtain rfl:=oi u;have b3:At g 63 (.pointer (some ⟨z,2,none⟩)):=l 16 δ ψ 63 rfl;have D:At g 57 (.bool true):=l 10 δ ψ 57 rfl;obtain⟨c0,c2,W,X⟩:=V.out _ y;have C:=aX;obtain⟨T,d⟩:=g;go_simp;exact q _ y
   | 18,_,u,l,q =>
    obtain rfl:=oi u;have b2:At g 62 (.int .u64 x.Q7):=l 15 δ ψ 62 rfl;have b4:At g 64 (.int .u64 x.size):=l 17 δ ψ 64 rfl;have D:At g 57 (.bool true):=l 10 δ ψ 57 rfl;have C:=aX;obtain⟨T,d⟩:=g;go_simp;exact q _ y
   | 19,_,u,l,q =>
    obtain rfl:=oi u;have b5:At g 65 (.int .u64 (IntKind.u64.wrap ((x.Q7:Int)+(x.size:Int)))):=l 18 δ ψ 65 rfl;have D:At g 57 (.bool true):=l 10 δ ψ 57 rfl;have C:=aX;obtain⟨T,d⟩:=g;go_simp;exact q _ y
   | 20,_,u,l,q =>
    obtain rfl:=oi u;have b0:At g 60 (.int .u64 x.Q7):=l 13 δ ψ 60 rfl;have ca:At g 66 (.int .u64 la):=l 19 δ ψ 66 rfl;have D:At g 57 (.bool true):=l 10 δ ψ 57 rfl;have C:=aX;obtain⟨T,d⟩:=g;go_simp;exact q _ y
   | 21,_,u,l,q =>
    obtain rfl:=oi u;have bx:At g 58 (.agg #[.slice A n c]):=l 11 δ ψ 58 rfl;have cb:At g 67 (.agg #[.int .u64 x.Q7,.int .u64 la]):=l 20 δ ψ 67 rfl;have D:At g 57 (.bool true):=l 10 δ ψ 57 rfl;obtain⟨c0,c2,W,X⟩:=V.out _ y;have C:=aX;obtain⟨T,d⟩:=g;go_simp;refine(bd.out _ y).mono ?_;rintro e w2 ⟨rfl,E⟩;exact q _ (y.trans E (fun _ _ h=>h))
   | 22,_,u,l,q =>
    obtain rfl:=oi u;have D:At g 57 (.bool true):=l 10 δ ψ 57 rfl;have cc:At g 68 (.bool cv):=l 21 δ ψ 68 rfl;have I:At g 51 (.bool false):=l 4 δ ψ 51 rfl;have C:=aX;obtain⟨T,d⟩:=g;go_simp;exact q _ y
   | 23,_,u,l,q =>
    obtain rfl:=oi u;have I:At g 51 (.bool false):=l 4 δ ψ 51 rfl;have cd:At g 69 (.bool cv):=l 22 δ ψ 69 rfl;obtain⟨T,d⟩:=g;go_simp;exact q _ y
   | 24,_,u,l,q =>
    obtain rfl:=oi u;obtain⟨T,d⟩:=g;go_simp;exact q _ y
   | 25,_,u,l,q =>
    obtain rfl:=oi u;have cj:At g 71 (.pointer (some ⟨z,0,none⟩)):=l 24 δ ψ 71 rfl;obtain⟨c0,c2,W,X⟩:=V.out _ y;obtain⟨T,d⟩:=g;go_simp;exact q _ y
   | i+26,hi,_,_,_=>omega
  ·intro o u g w' y N l
   obtain rfl:=oi u;have a3:g.tmps.size=119:=N.size.trans (by first|assumption|(simp only[Array.size_setIfInBounds];assumption));have a8:=N.Q7 h0 rfl;have bc:=N.Q7 h5 rfl;have a9:=N.Q7 h3 rfl;have cs:At g 47 (.pointer (some ⟨pb,0,none⟩)):=l 0 ψ 47 rfl;have cf:At g 70 (.bool cv):=l 23 ψ 70 rfl;have cm:At g 72 (.int .i64 x.pos):=l 25 ψ 72 rfl;have bf:=hh (af.out.new y);have be:Hid (aD (fun k=>k=pb) w w'):=((aD.refl (fun k=>k=pb) w).drew).trans y (fun _ _ h=>h.elim);have HB:=hh N;clear y N l;obtain⟨T,d⟩:=g;with_reducible refine Lz (fun K q=>?_)
   go_simp;refine(aT _ _ 2 109 bf.out rfl).mono ?_;rintro e w2 ⟨rfl,J,E⟩;with_reducible refine q _ _ (ln ?_)
   refine⟨rfl,(HB.out.agree (ws:=fun i=>rg 47 73 i) δ).trans (vs:=fun i=>i==73) ?_ ζ,?_,be.out.trans E (fun _ _ e=>e)⟩
   ·exact ag
   ·rw[HS.out];exact J
def ia(l:List Ck.Region):List df:=(l.filter Ck.Region.fixed).map fun x=>⟨x.Q7,x.size,x.pos⟩
theorem yg(l:List Ck.Region)(x:Ck.Region):ia (l++[x])=if x.fixed then ia l++[⟨x.Q7,x.size,x.pos⟩]else ia l:=by
 unfold ia;rw[List.filter_append]
 by_cases h:x.fixed<;>simp[h]
theorem tG(l:List Ck.Region):(ia l).length≤l.length:=by unfold ia;rw[List.length_map];exact List.length_filter_le _ _
theorem zj{v:aY}{P:aF}(h:aG B w pb v P fH [])(a:Act)(d9:a.tmps.size=119)(h0:At a 0 (.pointer (some ⟨pb,0,none⟩)))(h2:At a 2 (.slice none 0 0)){zs:Nat}{us:Value}{ca:List Sp}(h3:At a 3 (.pointer (some ⟨zs,0,none⟩)))(ea:w.cell? ⟨zs,0,none⟩=some us)(bx:zs<w.heap.size)(bz:zs≠pb)(b3:aK w pb us ca)(bt:fN ca)(b1:∀p,aj ca p↔aj (iu P) p)(Q:Exit→Act→World→Prop)
 (hQ:∀a' w' u',aE (fun i=>i==2||i==5||i==6||(rg 9 115 i)) a a'→At a' 2 u'→w'.ownsRow w.heap.size 172 3 u' (ia P.Q3).length (ai (ia P.Q3))→P.Q3.length≤8388608→aG B w' pb v P fH (P.Q3.flatMap (li P))→aD (fun k=>k=pb) w w'→Q .normal a' w'):
 (b9 Tryz.f28 [1,1,0]).wp Tryz.prog Q a w:=by
 have hs:=h.QT.Q3;obtain⟨A,c,hu,ex,d8,hl⟩:=hs;unfold top at d8;have ew:=h.lt;have es:=h.base;have hq:w.cell? ⟨pb,4,none⟩=some v.Q3:=h.cell rfl;rw[hu]at hq;clear hu
 conv=>arg 2;whnf
 refine so (fun X w1=>aE (fun i=>(rg 9 15 i)) a X∧At X 13 (.slice A P.Q3.length c)∧At X 14 (.int .i64 P.Q3.length)∧At X 15 (.int .i64 0)∧w1=w) ?_ ?_
 ·clear hl b3 b1
  obtain⟨T,d⟩:=a;refine rl ?_
  iterate 7 with_reducible refine st ?_
  with_reducible refine ln ?_
  refine⟨rfl,ag,aq,aq,aq,rfl⟩
 rintro a0 w0 ⟨Y,eq,eo,eg,rfl⟩;have c4:=Y.size.trans d9;replace h0:=Y.Q7 h0 rfl;replace h2:=Y.Q7 h2 rfl;replace h3:=Y.Q7 h3 rfl;obtain⟨Z,hZ⟩:∃z,z=w0.heap.size:=⟨_,rfl⟩;rw[←hZ]at hQ;have HZ:=hh hZ;clear hZ;have d1:=hh b3;have ds:=hh b1;have cj:=hh bt;clear b3 b1 bt;refine bh P.Q3.length (fun i=>i==2||i==5||i==6||(rg 15 115 i)) (fun i=>i==2||i==5||i==6||(rg 17 114 i)) (fun k a' w'=>∃u,At a' 2 u∧w'.ownsRow Z 172 3 u (ia (P.Q3.take k)).length (ai (ia (P.Q3.take k)))∧aG B w' pb v P fH ((P.Q3.take k).flatMap (li P))∧aD (fun k=>k=pb) w0 w') χ eg eo ψ rfl
  ζ χ ψ (fun k X a2 w hA ⟨u,h1,h2⟩=>⟨u,hA.Q7 h1 rfl,h2⟩) ⟨_,h2,by simpa[ia,ai]using World.ownsRow_nil _ _ _ _,by simpa using h,aD.refl _ _⟩ ?_ ?_
 ·rintro k X wr c3 hA en ⟨u,D,I,hL,hk⟩
  obtain⟨bl,off,rfl,d7,cw⟩:=hl χ;obtain⟨x,hx⟩:=ge c3;obtain⟨hc,L⟩:=(aJ B _ _) _ _ _ _ _ (hk.below (B:=B) χ (fun _ hi e=>χ)) d7 (cw k x hx);have q0:=hc.c0;have q1:=hc 1 _ rfl;have q2:=hc 2 _ rfl;have q3:=hc 3 _ rfl;have q4:=hc 4 _ rfl;have q5:=hc 5 _ rfl;have q6:=hc 6 _ rfl;have q7:=hc 7 _ rfl;have q8:=hc 8 _ rfl;have q9:=hc 9 _ rfl;have y:=hA.Q7 h0 rfl;have K:=hA.Q7 h3 rfl;have dk:=hA.Q7 eq rfl;have c5:=hA.size.trans c4;have c8:=hk.size;have cv:bl<wr.heap.size:=χ
  have eu:k≤c:=χ
  obtain⟨fs,bd⟩:∃l,l=ia (P.Q3.take k):=⟨_,rfl⟩;rw[←bd]at I;have ey:fs.length≤k:=by have:=tG (P.Q3.take k);rw[←bd,List.length_take]at this;omega
  have HR:Hid (ia (P.Q3.take (k+1))=if x.fixed then fs++[⟨x.Q7,x.size,x.pos⟩]else fs):=by
   refine hh ?_;rw[aP hx,yg,bd]
  have HX:=hh hx;have HO:=hh I;have HL:=hh hL;have HK:=hh hk;have HA:=hh hA;clear hx I hk hA cw hc bd hl hL;refine so (fun a2 w2=>aE (fun i=>i==17||i==18||i==5) X a2∧At a2 5 (.pointer (some ⟨wr.heap.size,0,none⟩))∧w2=wr.alloc (.cells #[.int .i64 x.pos,.string x.name,.int .u64 x.size,.bool x.fixed,.int .u64 x.Q7,.bool x.big,.bool x.wx,.int .u64 x.fill,.bool x.QP,.string x.text] 53)) ?_ ?_
  ·obtain⟨T,d⟩:=X
   refine rl ?_
   iterate 4 with_reducible refine st ?_
   with_reducible refine ln ?_
   refine⟨rfl,ag,aq,rfl⟩
  rintro a2 wo ⟨W,C,bo⟩;obtain⟨z,hz⟩:∃z,z=wr.heap.size:=⟨_,rfl⟩;rw[←hz]at C;have q:aM wo z 0 [.int .i64 x.pos,.string x.name,.int .u64 x.size,.bool x.fixed,.int .u64 x.Q7,.bool x.big,.bool x.wx,.int .u64 x.fill,.bool x.QP,.string x.text]:=by rw[bo,hz];exact aw _ _ _
  have H:z<wo.heap.size:=by rw[bo,hz];simp
  have bm:Kz wr wo:=by rw[bo];exact(aD.refl _ _).alloc _
  have U:z≠pb:=χ
  have g:=W.size.trans c5;have y:=W.Q7 y rfl;have K:=W.Q7 K rfl;have D:=W.Q7 D rfl;have bb:Hid (∀k,u.ownBlock=some k→k<z∧k≠pb):=fun k hk=>by have h1:=(HO.out.lt k hk);have:=HZ.out;omega
  have HO:=hh (aN HO.out bm (fun _ _ h=>h));have N:=hh (HL.out.new bm);have E:=hh (HK.out.trans bm (fun _ _ h=>h.elim));have V:Hid (aE (fun i=>i==2||i==5||i==6||(rg 17 114 i)) X a2):=W.m;clear bo hz bm HL HK W dk en c8 cv q0 q1 q2 q3 q4 q5 q6 q7 q8 q9;refine wp_seq (zh N.out q L a2 g y C _ (fun a3 w3 O cp af=>?_));have q:=q.keep af H U;have H:z<w3.heap.size:=Nat.lt_of_lt_of_le H af.size;have HO:=hh (aN HO.out af (fun j hj e=>(bb.out j hj).2 e));have N:=hh cp;have E:=hh (E.out.trans af (fun _ _ e=>e));have y:=O.Q7 y rfl;have D:=O.Q7 D rfl;have K:=O.Q7 K rfl;have C:=O.Q7 C rfl;have g:=O.size.trans g;have V:Hid (aE (fun i=>i==2||i==5||i==6||(rg 17 114 i)) X a3):=V.out.t O;clear O cp af;refine wp_seq (zi N.out q L a3 g y C _ (fun a4 w4 R cs al=>?_));have q:=q.keep al H U;have H:z<w4.heap.size:=Nat.lt_of_lt_of_le H al.size;have HO:=hh (aN HO.out al (fun j hj e=>(bb.out j hj).2 e));have N:=hh cs;have E:=hh (E.out.trans al (fun _ _ e=>e));have y:=R.Q7 y rfl;have D:=R.Q7 D rfl;have K:=R.Q7 K rfl;have C:=R.Q7 C rfl;have g:=R.size.trans g;have V:Hid (aE (fun i=>i==2||i==5||i==6||(rg 17 114 i)) X a4):=V.out.t R;clear R cs al;refine so (fun a' w'=>aE (fun i=>i==2||(rg 45 83 i)) a4 a'∧(∃u',At a' 2 u'∧w'.ownsRow Z 172 3 u' (ia (P.Q3.take (k+1))).length (ai (ia (P.Q3.take (k+1)))))∧aG B w' pb v P fH (kV P x++(say (decide (0<x.size)&&decide (x.size≤67108864)) x.pos 1++(say (decide ((x.size ||| x.Q7)%dP x.big=0)) x.pos 0++(P.Q3.take k).flatMap (li P))))∧aD (fun k=>k=pb) w0 w'∧aM w' z 0 [.int .i64 x.pos,.string x.name,.int .u64 x.size,.bool x.fixed,.int .u64 x.Q7,.bool x.big,.bool x.wx,.int .u64 x.fill,.bool x.QP,.string x.text]) ?_ ?_
  ·refine so (fun a5 w5=>aE (fun i=>i==45||i==46) a4 a5∧At a5 46 (.bool x.fixed)∧w5=w4) ?_ ?_
   ·have q3:=q 3 _ rfl
    clear q;obtain⟨T,d⟩:=a4;refine rl ?_
    iterate 2 with_reducible refine st ?_
    with_reducible refine ln ?_
    refine⟨rfl,ag,aq,rfl⟩
   rintro a5 w5 ⟨J,ed,rfl⟩;have bw:=J.size.trans g;have b0:=ed.eval χ;obtain⟨bf,ad⟩:∃b,x.fixed=b:=⟨_,rfl⟩;rw[ad]at b0
   cases bf
   ·refine wp_cond_false b0 (wp_skip ?_)
    repeat with_reducible apply bT
    refine⟨rfl,J.m,⟨u,J.Q7 D rfl,?_⟩,?_,E.out,q⟩
    ·rw[HR.out,ad];exact HO.out
    ·unfold kV;rw[ad];simpa using N.out
   ·refine wp_cond_true b0 ?_
    have di:=(E.out.cell (p:=⟨zs,0,none⟩) bx bz).trans ea;have b5:zs<w5.heap.size:=Nat.lt_of_lt_of_le bx E.out.size;refine wp_seq (xi N.out q L a5 bw (J.Q7 y rfl) (J.Q7 C rfl) H U (J.Q7 K rfl) di b5 bz (d1.out.keep E.out) cj.out ds.out _ (fun a6 w6 bc d3 be=>?_))
    repeat with_reducible apply bT
    have c9:=q.keep be H U;have dc:z<w6.heap.size:=Nat.lt_of_lt_of_le H be.size;have cd:=hh (aN HO.out be (fun j hj e=>(bb.out j hj).2 e));have cc:=hh (E.out.trans be (fun _ _ e=>e));have c6:=bc.size.trans bw;refine Bl d3 c9 a6 c6 (bc.Q7 (J.Q7 C rfl) rfl) (bc.Q7 (J.Q7 D rfl) rfl) cd χ (by have:=cc.out.size;have:=HZ.out;omega) (by have:=HZ.out;omega) _ (fun a7 w7 u7 d2 k2 b2 d4 cx=>?_);refine⟨rfl,((J.m).t bc).t d2,⟨u7,k2,?_⟩,?_,cc.out.trans cx (fun j hj e=>?_),c9.keep cx dc (fun e=>?_)⟩
    ·rw[HR.out,ad];simp only[if_true,List.length_append];exact b2
    ·unfold kV;rw[ad];simpa using d4
    ·have:=(cd.out.lt j e).1;have:=HZ.out;omega
    ·have:=(bb.out z e).1;omega
  rintro a8 w8 ⟨aa,⟨u8,eb,an⟩,cu,cy,b4⟩;have cf:=hh an;have d0:=hh cu;have dt:=hh cy;have y:=aa.Q7 y rfl;have C:=aa.Q7 C rfl;have c7:=aa.size.trans g;have cb:Hid (aE (fun i=>i==2||i==5||i==6||(rg 17 114 i)) X a8):=V.out.t aa;clear an cu cy aa V q H HO N E D K;refine so (fun a9 w9=>aE (fun i=>i==6||(rg 84 87 i)) a8 a9∧At a9 6 (.int .u64 x.text.size)∧w9=w8) ?_ ?_
  ·have q9:=b4 9 _ rfl
   have ez:IntKind.u64.wrap (x.text.size:Int)=(x.text.size:Int):=u64_in _ (by have:=L.2.2.2.2.2;unfold aW at this;omega);clear b4;obtain⟨T,d⟩:=a8;refine rl ?_
   iterate 5 with_reducible refine st ?_
   with_reducible refine ln ?_
   refine⟨rfl,ag,aq,rfl⟩
  rintro a9 w9 ⟨ac,ee,rfl⟩;refine zk d0.out b4 L a9 (ac.size.trans c7) (ac.Q7 y rfl) (ac.Q7 C rfl) ee _ (fun er e0 bp cm bs=>?_);refine⟨(cb.out.t ac).t bp,u8,bp.Q7 (ac.Q7 eb rfl) rfl,aN cf.out bs (fun j hj e=>?_),cm.congr fun p=>?_,dt.out.trans bs (fun _ _ e=>e)⟩
  ·have:=(cf.out.lt j hj).1;have:=HZ.out;omega
  ·rw[aP HX.out,List.flatMap_append,List.flatMap_cons,List.flatMap_nil,List.append_nil]
   simp only[List.mem_append,li]
   try simp only[or_assoc,or_comm,or_left_comm]
 ·rintro a' w' hA ⟨u,D,I,hL,hk⟩
  rw[List.take_length]at I hL;exact hQ _ _ _ ((Y.m).t hA) D I χ hL hk
theorem Dn{v:aY}{P:aF}(h:ax B w v P):∀x∈ia P.Q3,x.Ok:=by
 intro s l;obtain⟨x,d,rfl⟩:=List.mem_map.1 l;have d:=(List.mem_filter.1 d).1;obtain⟨A,c,_,_,_,j⟩:=h.Q3;obtain⟨q,off,_,_,g⟩:=j (List.length_pos_of_mem d);obtain⟨k,hk⟩:=List.getElem?_of_mem d;have ok:=(g k x hk).2;exact⟨ok.2.2.1,ok.2.1,ok.1⟩
theorem ry{v:aY}{P:aF}(h:aG B w pb v P fH []):
 Calls Tryz.prog 28 #[.pointer (some ⟨pb,0,none⟩)] w fun e w'=>e=.returned (.tuple #[])∧aG B w' pb v P fH (fg P)∧aD (fun k=>k=pb) w w':=by
 have an:=h.lt;have HH:=hh h;have HG:=hh (vR h);clear h;refine bU Tryz.func28 Tryz.ntmps28 rfl ξ fun a a0 al j=>?_
 have h0:At a 0 (.pointer (some ⟨pb,0,none⟩)):=j 0 _ rfl;clear j
 conv=>arg 2;whnf
 refine so (fun Q w1=>aE (fun i=>i==2) a Q∧At Q 2 (.slice none 0 0)∧w1=w) ?_ ?_
 ·obtain⟨T,d⟩:=a
  refine rl ?_;with_reducible refine st ?_;refine ln ?_
  refine⟨rfl,ag,aq,rfl⟩
 rintro Q w1 ⟨x,k2,rfl⟩;have ac:=x.size.trans a0;have U:=x.defers.trans al;have j0:=x.Q7 h0 rfl;refine so (fun a2 w2=>aE (fun i=>i==3||i==7||i==8) Q a2∧∃u us l,At a2 3 (.pointer (some ⟨u.heap.size,0,none⟩))∧fN l∧(∀p,aj l p↔aj (iu P) p)∧aK u pb us l∧Kz w1 u∧w2=u.alloc (.cells #[us] 119)) ?_ ?_
 ·obtain⟨T,d⟩:=Q
  refine rl ?_;with_reducible refine st ?_;refine Lz (fun K hK=>?_)
  go_simp;refine HG.out.mono ?_;rintro e u ⟨us,l,rfl,h1,h2,h3,h4⟩;have h3:=h3 pb an;have H1:=hh h1;have H2:=hh h2;have H3:=hh h3;have H4:=hh h4;obtain⟨A,c,rfl,_⟩:=h3;clear h1 h2 h4;with_reducible refine hK _ _ ?_;clear hK K
  iterate 2 with_reducible refine st ?_
  with_reducible refine ln ?_
  refine⟨rfl,ag,u,_,l,aq,H1.out,H2.out,H3.out,H4.out,rfl⟩
 rintro a2 w2 ⟨g,u,us,l,k3,C,X,aa,O,rfl⟩;have E:=g.size.trans ac;have V:=g.defers.trans U;have N:Kz u (u.alloc (.cells #[us] 119)):=(aD.refl _ _).alloc _;have J:=O.trans N (fun _ _ h=>h);have D:aK (u.alloc (.cells #[us] 119)) pb us l:=aa.keep (N.mono fun _ _ h=>h.elim);have ad:=aw u [us] 119 0 us rfl;have a6:=O.size;refine wp_seq (zj (HH.out.new J) a2 E (g.Q7 j0 rfl) (g.Q7 k2 rfl) k3 ad ξ χ D C X _ (fun a3 w3 u3 y l2 q a7 H Y=>?_));have a4:=y.size.trans E;have W:=y.defers.trans V;have l0:=y.Q7 (g.Q7 j0 rfl) rfl;have a5:=tG P.Q3;have Z:fE w3 pb u3 (ia P.Q3):=fS q (Dn H.QT) χ η;have HC:=hh (mX H Z 3 rfl);have HK:=hh ((J.mono fun _ _ h=>h.elim:aD (fun k=>k=pb) w1 _).trans Y (fun _ _ e=>e));clear Z q H Y D aa N J O C X ad y g x;refine Code.wp_only (R:=fun a9 w9=>a9.defers=[]∧aG B w9 pb v P fH (db 3 (ia P.Q3)++P.Q3.flatMap (li P))∧aD (fun k=>k=pb) w3 w9) ?_ ?_
 ·obtain⟨T,d⟩:=a3
  refine rl ?_
  iterate 2 with_reducible refine st ?_
  with_reducible refine Lz (fun K hK=>?_)
  go_simp;refine HC.out.mono ?_;rintro e w9 ⟨rfl,I,L⟩;with_reducible refine hK _ _ (ln ?_)
  exact⟨rfl,W,I,L⟩
 rintro a9 w9 ⟨af,I,L⟩;refine ec rfl af ⟨rfl,I.congr fun p=>?_,HK.out.trans L (fun _ _ e=>e)⟩;unfold fg;rw[show P.fixed=ia P.Q3 from rfl];simp only[List.mem_append,or_comm]
theorem AN{v:aY}{P:aF}(h:aG B w pb v P eT L){z y:Nat}{x:Ck.Map}{t:iB}(g:aM w z 0 [.int .i64 x.pos,.string x.of,.int .u64 x.Q7,.bool x.write,.bool x.exec])(j:aM w y 0 [.int .u64 t.size,.bool t.big,.bool t.wx])(O:x.Q7<lim)(N:t.size<lim)(a:Act)(ac:a.tmps.size=108)(h0:At a 0 (.pointer (some ⟨pb,0,none⟩)))(h9:At a 9 (.pointer (some ⟨z,0,none⟩)))(Y:At a 10 (.pointer (some ⟨y,0,none⟩)))(Q:Exit→Act→World→Prop)
 (V:∀q w',aE (fun i=>(rg 42 52 i)) a q→aG B w' pb v P eT (say (decide (x.Q7%dP t.big=0)) x.pos 0++L)→aD (fun k=>k=pb) w w'→Q .normal q w'):
 (b9 Tryz.f29 [1,1,1,0,0,1,1,0,0,1,1,1,0,1,0,0,1,1,0,0,1,1,0]).wp Tryz.prog Q a w:=by
 unfold lim at O N;refine Code.wp_only (R:=fun q w'=>aE (fun i=>(rg 42 52 i)) a q∧aG B w' pb v P eT (say (decide (x.Q7%dP t.big=0)) x.pos 0++L)∧aD (fun k=>k=pb) w w') ?_ (fun X w4 h=>V X w4 h.1 h.2.1 h.2.2);clear V
 conv=>arg 2;whnf
 have q0:=g.c0;have q1:=g 1 _ rfl;have q2:=g 2 _ rfl;have q3:=g 3 _ rfl;have q4:=g 4 _ rfl;have y0:=j.c0;have y1:=j 1 _ rfl;have y2:=j 2 _ rfl;obtain⟨U,D⟩:∃u,u=dP t.big:=⟨_,rfl⟩;have l:=fun w0=>tE (rf t.big w0)
 rw[←D]at l;have I:0<U:=by rw[D];unfold dP;split<;>omega
 have Z:¬ (U=0):=χ
 have aa:((U:Int)==0)=false:=η
 obtain⟨b,hb⟩:∃b,((x.Q7:Int).tmod (U:Int)==0)=b:=⟨_,rfl⟩;have W:Hid (say (decide (x.Q7%dP t.big=0)) x.pos 0=say b x.pos 0):=by
  refine hh ?_;rw[←hb,←D,show((x.Q7:Int).tmod (U:Int))=((x.Q7%U:Nat):Int) from rfl]
  congr 1
  rw[jq];exact decide_eq_decide.2 χ
 have E:=hh (h.new ((aD.refl _ w).drew));clear h g j D I;obtain⟨T,d⟩:=a;refine wp_region_still_tail 10 δ δ ?_;simp only[List.take_succ_cons,List.take_zero,List.drop_succ_cons,List.drop_zero]
 iterate 5 with_reducible refine sl ?_
 with_reducible refine wpStill_step (fun K C=>?_)
 go_simp;with_reducible refine⟨_,l _,C _ ?_⟩;clear C K
 iterate 4 with_reducible refine sl ?_
 with_reducible refine wpStill_nil ?_;refine Lz (fun K C=>?_)
 go_simp;refine(aT _ _ 0 33 E.out rfl).mono ?_;rintro e w2 ⟨rfl,H,J⟩;with_reducible refine C _ _ (ln ?_)
 refine⟨rfl,?_,?_,?_⟩
 ·exact ag
 ·rw[W.out]
  exact H
 ·exact((aD.refl _ _).drew).trans J (fun _ _ e=>e)
theorem yK{v:aY}{P:aF}(h:aG B w pb v P eT L){z y:Nat}{x:Ck.Map}{t:iB}(g:aM w z 0 [.int .i64 x.pos,.string x.of,.int .u64 x.Q7,.bool x.write,.bool x.exec])(j:aM w y 0 [.int .u64 t.size,.bool t.big,.bool t.wx])(u:x.Q7<lim)(q:t.size<lim)(a:Act)(W:a.tmps.size=108)(Z:At a 0 (.pointer (some ⟨pb,0,none⟩)))(h9:At a 9 (.pointer (some ⟨z,0,none⟩)))(V:At a 10 (.pointer (some ⟨y,0,none⟩)))(Q:Exit→Act→World→Prop)
 (N:∀C w',aE (fun i=>(rg 53 61 i)) a C→aG B w' pb v P eT (say (below x.Q7 t.size 549755813888) x.pos 1++L)→aD (fun k=>k=pb) w w'→Q .normal C w'):
 (b9 Tryz.f29 [1,1,1,0,0,1,1,0,0,1,1,1,0,1,0,0,1,1,0,0,1,1,1,0]).wp Tryz.prog Q a w:=by
 unfold lim at u q;refine Code.wp_only (R:=fun C w'=>aE (fun i=>(rg 53 61 i)) a C∧aG B w' pb v P eT (say (below x.Q7 t.size 549755813888) x.pos 1++L)∧aD (fun k=>k=pb) w w') ?_ (fun U Y h=>N U Y h.1 h.2.1 h.2.2);clear N
 conv=>arg 2;whnf
 have q0:=g.c0;have q1:=g 1 _ rfl;have q2:=g 2 _ rfl;have q3:=g 3 _ rfl;have q4:=g 4 _ rfl;have y0:=j.c0;have y1:=j 1 _ rfl;have y2:=j 2 _ rfl;obtain⟨b,I⟩:∃b,b=below x.Q7 t.size 549755813888:=⟨_,rfl⟩;have l:=fun X=>tE (jt x.Q7 t.size 549755813888 X u q ψ)
 rw[←I]at l;have O:Hid (say (below x.Q7 t.size 549755813888) x.pos 1=say b x.pos 1):=by rw[←I];exact hh rfl
 have E:=hh (h.new ((aD.refl _ w).drew));clear h g j I;obtain⟨T,d⟩:=a;refine wp_region_still_tail 8 δ δ ?_;simp only[List.take_succ_cons,List.take_zero,List.drop_succ_cons,List.drop_zero]
 iterate 5 with_reducible refine sl ?_
 with_reducible refine wpStill_step (fun K D=>?_)
 go_simp;with_reducible refine⟨_,l _,D _ ?_⟩;clear D K
 iterate 2 with_reducible refine sl ?_
 with_reducible refine wpStill_nil ?_;refine Lz (fun K D=>?_)
 go_simp;refine(aT _ _ 1 40 E.out rfl).mono ?_;rintro e w2 ⟨rfl,H,J⟩;with_reducible refine D _ _ (ln ?_)
 refine⟨rfl,?_,?_,?_⟩
 ·exact ag
 ·rw[O.out]
  exact H
 ·exact((aD.refl _ _).drew).trans J (fun _ _ e=>e)
theorem AO{v:aY}{P:aF}(h:aG B w pb v P eT L){z y:Nat}{x:Ck.Map}{t:iB}(l:aM w z 0 [.int .i64 x.pos,.string x.of,.int .u64 x.Q7,.bool x.write,.bool x.exec])(u:aM w y 0 [.int .u64 t.size,.bool t.big,.bool t.wx])(N:x.Q7<lim)(J:t.size<lim)(a:Act)(Y:a.tmps.size=108)(h0:At a 0 (.pointer (some ⟨pb,0,none⟩)))(h9:At a 9 (.pointer (some ⟨z,0,none⟩)))(X:At a 10 (.pointer (some ⟨y,0,none⟩))){dv:Bool}(h6:At a 6 (.bool dv))(Q:Exit→Act→World→Prop)
 (U:∀E w',aE (fun i=>(rg 62 81 i)) a E→aG B w' pb v P eT (say (!x.exec || !dv&&(t.wx || !x.write)) x.pos 3++L)→aD (fun k=>k=pb) w w'→Q .normal E w'):
 (b9 Tryz.f29 [1,1,1,0,0,1,1,0,0,1,1,1,0,1,0,0,1,1,0,0,1,1,1,1,0]).wp Tryz.prog Q a w:=by
 unfold lim at N J;refine Code.wp_only (R:=fun E w'=>aE (fun i=>(rg 62 81 i)) a E∧aG B w' pb v P eT (say (!x.exec || !dv&&(t.wx || !x.write)) x.pos 3++L)∧aD (fun k=>k=pb) w w') ?_ (fun V w4 h=>U V w4 h.1 h.2.1 h.2.2);clear U
 conv=>arg 2;whnf
 have q0:=l.c0;have q1:=l 1 _ rfl;have q2:=l 2 _ rfl;have q3:=l 3 _ rfl;have q4:=l 4 _ rfl;have y0:=u.c0;have y1:=u 1 _ rfl;have y2:=u 2 _ rfl;obtain⟨b1,H⟩:∃b,x.exec=b:=⟨_,rfl⟩;obtain⟨b2,I⟩:∃b,t.wx=b:=⟨_,rfl⟩;obtain⟨W,e3⟩:∃b,x.write=b:=⟨_,rfl⟩;rw[H]at q4;rw[I]at y2;rw[e3]at q3;have D:Hid (say (!x.exec || !dv&&(t.wx || !x.write)) x.pos 3=say (!b1 || !dv&&(b2 || !W)) x.pos 3):=by rw[H,I,e3];exact hh rfl
 have q:=hh h;have Z:=aX;clear h l u H I e3;obtain⟨T,d⟩:=a;refine rl ?_
 cases b1
 ·skip
  iterate 19 with_reducible refine st ?_
  with_reducible refine Lz (fun K C=>?_)
  go_simp;refine(aT _ _ 3 104 q.out rfl).mono ?_;rintro e O ⟨rfl,g,j⟩;with_reducible refine C _ _ (ln ?_)
  refine⟨rfl,?_,?_,?_⟩
  ·exact ag
  ·rw[D.out]
   exact g
  ·exact j
 ·cases dv
  ·cases b2
   ·skip
    iterate 19 with_reducible refine st ?_
    with_reducible refine Lz (fun K C=>?_)
    go_simp;refine(aT _ _ 3 104 q.out rfl).mono ?_;rintro e O ⟨rfl,g,j⟩;with_reducible refine C _ _ (ln ?_)
    refine⟨rfl,?_,?_,?_⟩
    ·exact ag
    ·rw[D.out]
     simpa using g
    ·exact j
   ·skip
    iterate 19 with_reducible refine st ?_
    with_reducible refine Lz (fun K C=>?_)
    go_simp;refine(aT _ _ 3 104 q.out rfl).mono ?_;rintro e O ⟨rfl,g,j⟩;with_reducible refine C _ _ (ln ?_)
    refine⟨rfl,?_,?_,?_⟩
    ·exact ag
    ·rw[D.out]
     simpa using g
    ·exact j
  ·skip
   iterate 19 with_reducible refine st ?_
   with_reducible refine Lz (fun K C=>?_)
   go_simp;refine(aT _ _ 3 104 q.out rfl).mono ?_;rintro e O ⟨rfl,g,j⟩;with_reducible refine C _ _ (ln ?_)
   refine⟨rfl,?_,?_,?_⟩
   ·exact ag
   ·rw[D.out]
    exact g
   ·exact j
theorem yJ{v:aY}{P:aF}(h:aG B w pb v P eT L){z y:Nat}{x:Ck.Map}{t:iB}(g:aM w z 0 [.int .i64 x.pos,.string x.of,.int .u64 x.Q7,.bool x.write,.bool x.exec])(j:aM w y 0 [.int .u64 t.size,.bool t.big,.bool t.wx])(E:x.Q7<lim)(D:t.size<lim)(a:Act)(V:a.tmps.size=108)(Y:At a 0 (.pointer (some ⟨pb,0,none⟩)))(h9:At a 9 (.pointer (some ⟨z,0,none⟩)))(O:At a 10 (.pointer (some ⟨y,0,none⟩))){n:Nat}(Z:At a 3 (.int .u64 n))(Q:Exit→Act→World→Prop)
 (I:∀l w',aE (fun i=>(rg 87 92 i)) a l→aG B w' pb v P eT (say (decide (n≤131072)) x.pos 4++L)→aD (fun k=>k=pb) w w'→Q .normal l w'):
 (b9 Tryz.f29 [1,1,1,0,0,1,1,0,0,1,1,1,0,1,0,0,1,1,0,0,1,1,1,1,1,1,0]).wp Tryz.prog Q a w:=by
 unfold lim at E D;refine Code.wp_only (R:=fun l w'=>aE (fun i=>(rg 87 92 i)) a l∧aG B w' pb v P eT (say (decide (n≤131072)) x.pos 4++L)∧aD (fun k=>k=pb) w w') ?_ (fun N W h=>I N W h.1 h.2.1 h.2.2);clear I
 conv=>arg 2;whnf
 have q0:=g.c0;have q1:=g 1 _ rfl;have q2:=g 2 _ rfl;have q3:=g 3 _ rfl;have q4:=g 4 _ rfl;have y0:=j.c0;have y1:=j 1 _ rfl;have y2:=j 2 _ rfl;obtain⟨b1,H⟩:∃b,decide (n≤131072)=b:=⟨_,rfl⟩;have J:Hid (say (decide (n≤131072)) x.pos 4=say b1 x.pos 4):=by rw[H];exact hh rfl
 have X:decide ((n:Int)≤131072)=b1:=by rw[←H];exact decide_eq_decide.2 χ
 have q:=hh h;clear h g j;obtain⟨T,d⟩:=a;refine rl ?_
 iterate 5 with_reducible refine st ?_
 with_reducible refine Lz (fun K U=>?_)
 go_simp;refine(aT _ _ 4 4 q.out rfl).mono ?_;rintro e w2 ⟨rfl,u,C⟩;with_reducible refine U _ _ (ln ?_)
 refine⟨rfl,?_,?_,?_⟩
 ·exact ag
 ·rw[J.out]
  exact u
 ·exact C
theorem CB{v:aY}{P:aF}(h:aG B w pb v P eT L){z y:Nat}{x:Ck.Map}{t:iB}(D:aM w z 0 [.int .i64 x.pos,.string x.of,.int .u64 x.Q7,.bool x.write,.bool x.exec])(I:aM w y 0 [.int .u64 t.size,.bool t.big,.bool t.wx])(a:Act)(H:a.tmps.size=108)(h9:At a 9 (.pointer (some ⟨z,0,none⟩)))(aa:At a 10 (.pointer (some ⟨y,0,none⟩))){Z:Nat}{u:Value}{l:List df}(h7:At a 7 u)(HO:Hid (w.ownsRow Z 172 3 u l.length (ai l)))(hl:l.length≤8388608)(hZ:Z≤w.heap.size)(W:B≤Z)(Q:Exit→Act→World→Prop)
 (X:∀V w' J,aE (fun i=>i==7||(rg 93 102 i)) a V→At V 7 J→w'.ownsRow Z 172 3 J (l.length+1) (ai (l++[⟨x.Q7,t.size,x.pos⟩]))→aG B w' pb v P eT L→aD (fun k=>u.ownBlock=some k) w w'→Q .normal V w'):
 (b9 Tryz.f29 [1,1,1,0,0,1,1,0,0,1,1,1,0,1,0,0,1,1,0,0,1,1,1,1,1,1,1]).wp Tryz.prog Q a w:=by
 conv=>arg 2;whnf
 refine Code.wp_only (R:=fun K E=>aE (fun i=>i==7||(rg 93 102 i)) a K∧(∃J,At K 7 J∧E.ownsRow Z 172 3 J (l.length+1) (ai (l++[⟨x.Q7,t.size,x.pos⟩])))∧aG B E pb v P eT L∧aD (fun k=>u.ownBlock=some k) w E) ?_ (fun K E h=>X K E h.2.1.choose h.1 h.2.1.choose_spec.1 h.2.1.choose_spec.2 h.2.2.1 h.2.2.2);clear X;have q0:=D.c0;have q2:=D 2 _ rfl;have y0:=I.c0;have HL:=hh h;clear h D I;obtain⟨T,d⟩:=a;refine rl ?_
 iterate 9 with_reducible refine st ?_
 have Y:=aw w [.int .u64 x.Q7,.int .u64 t.size,.int .i64 x.pos] 172;have g:Kz w (w.alloc (.cells #[.int .u64 x.Q7,.int .u64 t.size,.int .i64 x.pos] 172)):=(aD.refl _ _).alloc _;have q:=hh (aN HO.out g (fun _ _ h=>h));refine mv (p:=⟨x.Q7,t.size,x.pos⟩) rfl rfl rfl (At.eval (by exact aq) (by have:=H;simp at this⊢; omega)) q.out χ (At.eval (by exact aq) (by have:=H;simp at this⊢; omega)) Y (by have:=g.size;omega) ?_;intro u2 E j C;have U:=hh j;have N:Hid (aD (fun k=>u.ownBlock=some k) w E):=(g.mono fun _ _ h=>h.elim).trans C (fun i hi h=>h);have O:=hh ((HL.out.new g).grown q.out W ψ C);clear j C Y g q;simp only[Act.put];with_reducible refine st ?_;refine ln ?_
 refine⟨rfl,ag,⟨u2,aq,U.out⟩,O.out,N.out⟩
def rG(P:aF)(dv:Bool)(n:Nat)(x:Ck.Map):List Wr:=
 say (decide (x.Q7%dP (aR P x.of).big=0)) x.pos 0++say (below x.Q7 (aR P x.of).size 549755813888) x.pos 1++say (!x.exec || !dv&&((aR P x.of).wx || !x.write)) x.pos 3++say (decide ((n+(aR P x.of).size / 4096)%M64≤131072)) x.pos 4
theorem mf(P:aF)(dv:Bool)(x:Ck.Map):∀(l:List Ck.Map) (n:Nat),bK P dv n (l++[x])=((bK P dv n l).1++rG P dv (bK P dv n l).2 x,((bK P dv n l).2+(aR P x.of).size / 4096)%M64)
 | [],n=>by simp[bK,rG];rfl
 | m::t,n=>by
  have d:=mf P dv x t ((n+(aR P m.of).size / 4096)%M64);simp only[List.cons_append,bK,d,List.append_assoc]
theorem lf(P:aF)(dv:Bool):∀(l:List Ck.Map) (n:Nat),n<lim→(bK P dv n l).2<lim
 | [],n,h=>h
 | m::t,n,h=>lf P dv t _ (Nat.mod_lt _ ψ)
theorem ph(P:aF)(l:List Ck.Map)(x:Ck.Map):bP P (l++[x])=bP P l++[⟨x.Q7,(aR P x.of).size,x.pos⟩]:=by simp[bP]
theorem vI{v:aY}{P:aF}(h:aG B w pb v P eT L){mb:Nat}(hm:gC w mb P)(ed:mb<w.heap.size)(dk:mb≠pb)(c4:∀s,(aR P s).size<lim){A:Option Addr}{c:Nat}{l:List Ck.Map}(hs:aL B 5 dO w (.slice A l.length c) l){n0:Nat}(ds:n0<lim){dv:Bool}(a:Act)(d0:a.tmps.size=108)(h0:At a 0 (.pointer (some ⟨pb,0,none⟩)))(h2:At a 2 (.map (some mb)))(h3:At a 3 (.int .u64 n0))(h5:At a 5 (.slice A l.length c))(h6:At a 6 (.bool dv))(h7:At a 7 (.slice none 0 0))(Q:Exit→Act→World→Prop)
 (hQ:∀a' w' u',aE (fun i=>i==3||i==7||i==9||i==10||(rg 32 103 i)) a a'→At a' 7 u'→w'.ownsRow w.heap.size 172 3 u' (bP P l).length (ai (bP P l))→l.length≤8388608→At a' 3 (.int .u64 (bK P dv n0 l).2)→aG B w' pb v P eT ((bK P dv n0 l).1++L)→aD (fun k=>k=pb) w w'→Q .normal a' w'):
 (b9 Tryz.f29 [1,1,1,0,0,1,1,0,0,1,1,1,0]).wp Tryz.prog Q a w:=by
 obtain⟨_,_,e,ee,hn,hl⟩:=hs
 cases e
 unfold top at hn;have eb:=h.lt;have d9:=h.base;have HM:=hh hm;have c7:=hh c4;clear hm c4
 conv=>arg 2;whnf
 refine so (fun a1 w1=>aE (fun i=>(rg 32 34 i)) a a1∧At a1 32 (.slice A l.length c)∧At a1 33 (.int .i64 l.length)∧At a1 34 (.int .i64 0)∧w1=w) ?_ ?_
 ·clear hl
  obtain⟨T,d⟩:=a;refine rl ?_
  iterate 3 with_reducible refine st ?_
  with_reducible refine ln ?_
  refine⟨rfl,ag,aq,aq,aq,rfl⟩
 rintro a0 w0 ⟨bd,d7,d4,d2,rfl⟩;have cx:=bd.size.trans d0;replace h0:=bd.Q7 h0 rfl;replace h2:=bd.Q7 h2 rfl;replace h3:=bd.Q7 h3 rfl;replace h6:=bd.Q7 h6 rfl;replace h7:=bd.Q7 h7 rfl;obtain⟨Z,hZ⟩:∃z,z=w0.heap.size:=⟨_,rfl⟩;rw[←hZ]at hQ;have HZ:=hh hZ;clear hZ;refine bh l.length (fun i=>i==3||i==7||i==9||i==10||(rg 34 103 i)) (fun i=>i==3||i==7||i==9||i==10||(rg 36 102 i)) (fun k a' w'=>∃u,At a' 7 u∧w'.ownsRow Z 172 3 u (bP P (l.take k)).length (ai (bP P (l.take k)))∧At a' 3 (.int .u64 (bK P dv n0 (l.take k)).2)∧aG B w' pb v P eT ((bK P dv n0 (l.take k)).1++L)∧aD (fun k=>k=pb) w0 w') χ d2 d4 ψ rfl
  ζ χ ψ (fun k a1 a2 w hA ⟨u,h1,h2,h3,h4⟩=>⟨u,hA.Q7 h1 rfl,h2,hA.Q7 h3 rfl,h4⟩) ⟨_,h7,by simpa[bP,ai]using World.ownsRow_nil _ _ _ _,by simpa[bK]using h3,by simpa[bK]using h,aD.refl _ _⟩ ?_ ?_
 ·rintro k a1 wr cs hA d3 ⟨u,J,af,D,hL,hk⟩
  obtain⟨bl,off,rfl,dc,cm⟩:=hl χ;obtain⟨x,hx⟩:=ge cs;obtain⟨hc,bc⟩:=(aJ B _ _) _ _ _ _ _ (hk.below (B:=B) χ (fun _ hi e=>χ)) dc (cm k x hx);have q0:=hc.c0;have q1:=hc 1 _ rfl;have q2:=hc 2 _ rfl;have q3:=hc 3 _ rfl;have q4:=hc 4 _ rfl;have H:=hA.Q7 h0 rfl;have R:=hA.Q7 h2 rfl;have O:=hA.Q7 h6 rfl;have c5:=hA.Q7 d7 rfl;have cy:=hA.size.trans cx;have c3:=hk.size;have cj:bl<wr.heap.size:=χ
  have ea:k≤c:=χ
  have bt:Hid (bK P dv n0 (l.take (k+1))=((bK P dv n0 (l.take k)).1++rG P dv (bK P dv n0 (l.take k)).2 x,((bK P dv n0 (l.take k)).2+(aR P x.of).size / 4096)%M64)):=by
   refine hh ?_;rw[aP hx,mf]
  have HR:Hid (bP P (l.take (k+1))=bP P (l.take k)++[⟨x.Q7,(aR P x.of).size,x.pos⟩]):=by
   refine hh ?_;rw[aP hx,ph]
  have dt:(bP P (l.take k)).length≤k:=by simp[bP];omega
  have cu:=lf P dv (l.take k) n0 ds;obtain⟨fs,cp⟩:∃q,q=bP P (l.take k):=⟨_,rfl⟩;rw[←cp]at af HR dt;clear cp;obtain⟨⟨S,n⟩,cw⟩:∃q,q=bK P dv n0 (l.take k):=⟨_,rfl⟩;rw[←cw]at D hL bt cu;clear cw
  dsimp only at D hL bt cu
  obtain⟨t,ht⟩:∃t,t=aR P x.of:=⟨_,rfl⟩;have bx:t.size<lim:=by rw[ht];exact c7.out _
  rw[←ht]at HR bt;have HT:=hh ht;have HO:=hh af;have HL:=hh hL;have HK:=hh hk;have HA:=hh hA;clear hx af hk hA cm hc hl hL ht;refine so (fun a2 w2=>aE (fun i=>i==36||i==37||i==9) a1 a2∧At a2 9 (.pointer (some ⟨wr.heap.size,0,none⟩))∧w2=wr.alloc (.cells #[.int .i64 x.pos,.string x.of,.int .u64 x.Q7,.bool x.write,.bool x.exec] 93)) ?_ ?_
  ·obtain⟨T,d⟩:=a1
   refine rl ?_
   iterate 4 with_reducible refine st ?_
   with_reducible refine ln ?_
   refine⟨rfl,ag,aq,rfl⟩
  rintro a2 wo ⟨bb,I,b3⟩;obtain⟨z,hz⟩:∃z,z=wr.heap.size:=⟨_,rfl⟩;rw[←hz]at I;have E:aM wo z 0 [.int .i64 x.pos,.string x.of,.int .u64 x.Q7,.bool x.write,.bool x.exec]:=by rw[b3,hz];exact aw _ _ _
  have N:z<wo.heap.size:=by rw[b3,hz];simp
  have b0:Kz wr wo:=by rw[b3];exact(aD.refl _ _).alloc _
  have bs:z≠pb:=χ
  have d8:pb<z:=χ
  have g:=bb.size.trans cy;have H:=bb.Q7 H rfl;have R:=bb.Q7 R rfl;have D:=bb.Q7 D rfl;have O:=bb.Q7 O rfl;have J:=bb.Q7 J rfl;have bz:Hid (∀k,u.ownBlock=some k→k<z∧k≠pb):=fun k hk=>by have h1:=(HO.out.lt k hk);have:=HZ.out;omega
  have HO:=hh (aN HO.out b0 (fun _ _ h=>h));have X:=hh (HL.out.new b0);have V:=hh (HK.out.trans b0 (fun _ _ h=>h.elim));have U:Hid (aE (fun i=>i==3||i==7||i==9||i==10||(rg 36 102 i)) a1 a2):=bb.m;clear b3 hz b0 HL HK bb c5 d3 c3 cj q0 q1 q2 q3 q4;obtain⟨nm,cv⟩:=HM.out;have b5:=hh (cv.keep V.out dk);clear cv;refine so (fun a3 w3=>aE (fun i=>i==10||(rg 38 41 i)) a2 a3∧At a3 10 (.pointer (some ⟨wo.heap.size,0,none⟩))∧w3=wo.alloc (.cells #[.int .u64 t.size,.bool t.big,.bool t.wx] 178)) ?_ ?_
  ·have q1:=E 1 _ rfl
   clear E;obtain⟨T,d⟩:=a2;refine rl ?_
   iterate 3 with_reducible refine st ?_
   refine ci.lookup rfl b5.out rfl rfl Tryz.underlying133 wA (At.eval (by exact aq) (by have:=g;simp at this⊢; omega)) (At.eval (by exact aq) (by have:=g;simp at this⊢; omega)) (by have:=bc.2.2;unfold aW at this;unfold maxLen;omega) ?_;rw[←HT.out];simp only[Act.put,yj]
   iterate 2 with_reducible refine st ?_
   with_reducible refine ln ?_
   refine⟨rfl,ag,aq,rfl⟩
  rintro a3 w3 ⟨al,C,b2⟩;obtain⟨y,hy⟩:∃y,y=wo.heap.size:=⟨_,rfl⟩;rw[←hy]at C;have K:aM w3 y 0 [.int .u64 t.size,.bool t.big,.bool t.wx]:=by rw[b2,hy];exact aw _ _ _
  have W:y<w3.heap.size:=by rw[b2,hy];simp
  have bw:Kz wo w3:=by rw[b2];exact(aD.refl _ _).alloc _
  have bp:y≠pb:=χ
  have eg:z<y:=χ
  have E:=E.keep bw N (fun h=>h);have N:z<w3.heap.size:=Nat.lt_of_lt_of_le N bw.size;have HO:=hh (aN HO.out bw (fun _ _ h=>h));have X:=hh (X.out.new bw);have V:=hh (V.out.trans bw (fun _ _ h=>h.elim));have c8:True:=trivial;clear b2 hy;have H:=al.Q7 H rfl;have R:=al.Q7 R rfl;have D:=al.Q7 D rfl;have O:=al.Q7 O rfl;have J:=al.Q7 J rfl;have I:=al.Q7 I rfl;have g:=al.size.trans g;have U:Hid (aE (fun i=>i==3||i==7||i==9||i==10||(rg 36 102 i)) a1 a3):=U.out.t al;clear al bw b5 c8;refine wp_seq (AN X.out E K bc.2.1 bx a3 g H I C _ (fun a4 w4 Y cb be=>?_));have E:=E.keep be N bs;have N:z<w4.heap.size:=Nat.lt_of_lt_of_le N be.size;have K:=K.keep be W bp;have W:y<w4.heap.size:=Nat.lt_of_lt_of_le W be.size;have HO:=hh (aN HO.out be (fun j hj e=>(bz.out j hj).2 e));have X:=hh cb;have V:=hh (V.out.trans be (fun _ _ e=>e));have H:=Y.Q7 H rfl;have R:=Y.Q7 R rfl;have D:=Y.Q7 D rfl;have O:=Y.Q7 O rfl;have J:=Y.Q7 J rfl;have I:=Y.Q7 I rfl;have C:=Y.Q7 C rfl;have g:=Y.size.trans g;have U:Hid (aE (fun i=>i==3||i==7||i==9||i==10||(rg 36 102 i)) a1 a4):=U.out.t Y;clear Y cb be;refine wp_seq (yK X.out E K bc.2.1 bx a4 g H I C _ (fun a5 w5 aa cc bf=>?_));have E:=E.keep bf N bs;have N:z<w5.heap.size:=Nat.lt_of_lt_of_le N bf.size;have K:=K.keep bf W bp;have W:y<w5.heap.size:=Nat.lt_of_lt_of_le W bf.size;have HO:=hh (aN HO.out bf (fun j hj e=>(bz.out j hj).2 e));have X:=hh cc;have V:=hh (V.out.trans bf (fun _ _ e=>e));have H:=aa.Q7 H rfl;have R:=aa.Q7 R rfl;have D:=aa.Q7 D rfl;have O:=aa.Q7 O rfl;have J:=aa.Q7 J rfl;have I:=aa.Q7 I rfl;have C:=aa.Q7 C rfl;have g:=aa.size.trans g;have U:Hid (aE (fun i=>i==3||i==7||i==9||i==10||(rg 36 102 i)) a1 a5):=U.out.t aa;clear aa cc bf;refine wp_seq (AO X.out E K bc.2.1 bx a5 g H I C O _ (fun a6 w6 ac cd bm=>?_));have E:=E.keep bm N bs;have N:z<w6.heap.size:=Nat.lt_of_lt_of_le N bm.size;have K:=K.keep bm W bp;have W:y<w6.heap.size:=Nat.lt_of_lt_of_le W bm.size;have HO:=hh (aN HO.out bm (fun j hj e=>(bz.out j hj).2 e));have X:=hh cd;have V:=hh (V.out.trans bm (fun _ _ e=>e));have H:=ac.Q7 H rfl;have R:=ac.Q7 R rfl;have D:=ac.Q7 D rfl;have O:=ac.Q7 O rfl;have J:=ac.Q7 J rfl;have I:=ac.Q7 I rfl;have C:=ac.Q7 C rfl;have g:=ac.size.trans g;have U:Hid (aE (fun i=>i==3||i==7||i==9||i==10||(rg 36 102 i)) a1 a6):=U.out.t ac;clear ac cd bm;obtain⟨n2,b1⟩:∃m,m=(n+t.size / 4096)%M64:=⟨_,rfl⟩;have d1:IntKind.u64.wrap ((n:Int)+IntKind.u64.wrap ((t.size:Int) / 4096))=(n2:Int):=by
   unfold lim at bx;rw[b1,IntKind.wrap_u64,IntKind.wrap_u64];show _=(((n+t.size / 4096)%18446744073709551616:Nat):Int);omega
  rw[←b1]at bt;have c6:=hh b1;clear b1;refine so (fun a7 w7=>aE (fun i=>i==3||(rg 82 86 i)) a6 a7∧At a7 3 (.int .u64 n2)∧w7=w6) ?_ ?_
  ·have y0:=K.c0
   clear E K;obtain⟨T,d⟩:=a6;refine rl ?_
   iterate 6 with_reducible refine st ?_
   with_reducible refine ln ?_
   refine⟨rfl,ag,aq,rfl⟩
  rintro a7 w7 ⟨an,D,rfl⟩;have H:=an.Q7 H rfl;have R:=an.Q7 R rfl;have O:=an.Q7 O rfl;have J:=an.Q7 J rfl;have I:=an.Q7 I rfl;have C:=an.Q7 C rfl;have g:=an.size.trans g;have U:Hid (aE (fun i=>i==3||i==7||i==9||i==10||(rg 36 102 i)) a1 a7):=U.out.t an;clear an d1;refine wp_seq (yJ X.out E K bc.2.1 bx a7 g H I C D _ (fun a8 w8 ad cf bo=>?_));have E:=E.keep bo N bs;have N:z<w8.heap.size:=Nat.lt_of_lt_of_le N bo.size;have K:=K.keep bo W bp;have W:y<w8.heap.size:=Nat.lt_of_lt_of_le W bo.size;have HO:=hh (aN HO.out bo (fun j hj e=>(bz.out j hj).2 e));have X:=hh cf;have V:=hh (V.out.trans bo (fun _ _ e=>e));have H:=ad.Q7 H rfl;have R:=ad.Q7 R rfl;have D:=ad.Q7 D rfl;have O:=ad.Q7 O rfl;have J:=ad.Q7 J rfl;have I:=ad.Q7 I rfl;have C:=ad.Q7 C rfl;have g:=ad.size.trans g;have U:Hid (aE (fun i=>i==3||i==7||i==9||i==10||(rg 36 102 i)) a1 a8):=U.out.t ad;clear ad cf bo;refine CB X.out E K a8 g I C J HO χ (by have:=V.out.size;have:=HZ.out;omega) (by have:=HZ.out;omega) _ (fun a9 w9 u9 ca k7 b4 c9 di=>?_);refine⟨U.out.t ca,u9,k7,?_,?_,c9.congr fun p=>?_,V.out.trans di (fun j hj e=>?_)⟩
  ·rw[HR.out,List.length_append];exact b4
  ·rw[bt.out];exact ca.Q7 D rfl
  ·rw[bt.out]
   simp only[List.mem_append,rG,←HT.out,←c6.out]
   try simp only[or_assoc,or_comm,or_left_comm]
  ·have:=(HO.out.lt j e).1;have:=HZ.out;omega
 ·rintro a' w' hA ⟨u,J,af,D,hL,hk⟩
  rw[List.take_length]at af hL D;exact hQ _ _ _ ((bd.m).t hA) J af χ D hL hk
def fR(P:aF):Nat→List Wr×Nat
 | 0=>([],0)
 | k+1=>match P.spaces[k]? with
  | some l=>(db 2 (bP P l)++((bK P (decide (P.Q4.length≤k)) (fR P k).2 l).1++(fR P k).1),(bK P (decide (P.Q4.length≤k)) (fR P k).2 l).2)
  | none=>fR P k
theorem qw(P:aF):∀k,(fR P k).2<lim
 | 0=>by simp[fR]
 | k+1=>by
  unfold fR;split
  ·exact lf P _ _ _ (qw P k)
  ·exact qw P k
theorem iK(P:aF)(dv:Bool)(l:List Ck.Map):∀(t:List (List Ck.Map)) (n:Nat),bX P dv n (t++[l])=((bX P dv n t).1++((bK P dv (bX P dv n t).2 l).1++db 2 (bP P l)),(bK P dv (bX P dv n t).2 l).2)
 | [],n=>by simp[bX]
 | m::t,n=>by
  have d:=iK P dv l t (bK P dv n m).2;simp only[List.cons_append,bX,d,List.append_assoc]
theorem qP(P:aF):∀k,k≤P.Q4.length→(fR P k).2=(bX P false 0 ((P.Q4.map aZ.QA).take k)).2∧∀p,p∈(fR P k).1↔p∈(bX P false 0 ((P.Q4.map aZ.QA).take k)).1
 | 0,_=>by simp[fR,bX]
 | k+1,h=>by
  obtain⟨i1,i2⟩:=qP P k χ;have hk:k<(P.Q4.map aZ.QA).length:=by rw[List.length_map];omega
  have d:P.spaces[k]?=some (P.Q4.map aZ.QA)[k]:=by unfold aF.spaces;rw[List.getElem?_append_left hk,Ez hk]
  have g:(P.Q4.map aZ.QA).take (k+1)=(P.Q4.map aZ.QA).take k++[(P.Q4.map aZ.QA)[k]]:=List.take_succ_eq_append_getElem hk;have e3:decide (P.Q4.length≤k)=false:=η
  rw[g,iK];unfold fR;rw[d,e3]
  dsimp only
  rw[i1];refine⟨rfl,fun p=>?_⟩;simp only[List.mem_append,i2];constructor
  ·rintro(h|h|h)
   ·exact .inr (.inr h)
   ·exact .inr (.inl h)
   ·exact .inl h
  ·rintro(h|h|h)
   ·exact .inr (.inr h)
   ·exact .inr (.inl h)
   ·exact .inl h
theorem qQ(P:aF):∀k,k≤P.Q5.length→(fR P (P.Q4.length+k)).2=(bX P true (bX P false 0 (P.Q4.map aZ.QA)).2 ((P.Q5.map bB.QA).take k)).2∧∀p,p∈(fR P (P.Q4.length+k)).1↔p∈(bX P false 0 (P.Q4.map aZ.QA)).1++(bX P true (bX P false 0 (P.Q4.map aZ.QA)).2 ((P.Q5.map bB.QA).take k)).1
 | 0,_=>by
  obtain⟨i1,i2⟩:=qP P P.Q4.length (Nat.le_refl _);rw[List.take_of_length_le (by rw[List.length_map];exact Nat.le_refl _)]at i1 i2;refine⟨by simpa[bX]using i1,fun p=>?_⟩
  simpa[bX]using i2 p
 | k+1,h=>by
  obtain⟨i1,i2⟩:=qQ P k χ;have hk:k<(P.Q5.map bB.QA).length:=by rw[List.length_map];omega
  have d:P.spaces[P.Q4.length+k]?=some (P.Q5.map bB.QA)[k]:=by
   unfold aF.spaces;rw[List.getElem?_append_right ξ,List.length_map,Nat.add_sub_cancel_left,Ez hk]
  have g:(P.Q5.map bB.QA).take (k+1)=(P.Q5.map bB.QA).take k++[(P.Q5.map bB.QA)[k]]:=List.take_succ_eq_append_getElem hk;have e3:decide (P.Q4.length≤P.Q4.length+k)=true:=ξ
  rw[g,iK,←Nat.add_assoc];unfold fR;rw[d,e3]
  dsimp only
  rw[i1];refine⟨rfl,fun p=>?_⟩;have:=i2 p;simp only[List.mem_append]at this⊢;rw[this];constructor
  ·rintro(h|h|h|h)
   ·exact .inr (.inr (.inr h))
   ·exact .inr (.inr (.inl h))
   ·exact .inl h
   ·exact .inr (.inl h)
  ·rintro(h|h|h|h)
   ·exact .inr (.inr (.inl h))
   ·exact .inr (.inr (.inr h))
   ·exact .inr (.inl h)
   ·exact .inl h
theorem zO(P:aF)(p:Wr):p∈(fR P P.spaces.length).1↔p∈l8 P:=by
 have h:=(qQ P P.Q5.length (Nat.le_refl _)).2 p;rw[List.take_of_length_le (by rw[List.length_map];exact Nat.le_refl _)]at h;have e:P.spaces.length=P.Q4.length+P.Q5.length:=by simp[aF.spaces]
 rw[e,h];rfl
theorem yI{v:aY}{P:aF}(h:aG B w pb v P eT []){mb:Nat}(hm:gC w mb P)(eo:mb<w.heap.size)(b4:mb≠pb)(a:Act)(dc:a.tmps.size=108)(h0:At a 0 (.pointer (some ⟨pb,0,none⟩)))(h2:At a 2 (.map (some mb)))(h3:At a 3 (.int .u64 (0:Nat)))(Q:Exit→Act→World→Prop)
 (hQ:∀a' w',aE (fun i=>i==3||i==4||i==5||i==6||i==7||i==9||i==10||(rg 16 107 i)) a a'→aG B w' pb v P eT (l8 P)→aD (fun k=>k=pb) w w'→Q .normal a' w'):
 (b9 Tryz.f29 [1,1]).wp Tryz.prog Q a w:=by
 have en:=h.lt;have eg:=h.base;have cj:=fun s=>rh h.QT s
 have cy:=hh (nr h);have HH:=hh h;have HM:=hh hm;have bw:=hh cj;clear h hm cj
 conv=>arg 2;whnf
 refine so (fun W w1=>aE (fun i=>(rg 16 19 i)) a W∧∃A c C,At W 17 (.slice A P.spaces.length c)∧At W 18 (.int .i64 P.spaces.length)∧At W 19 (.int .i64 0)∧w1.ownsRow w.heap.size 42 1 (.slice A P.spaces.length c) P.spaces.length C∧SpV B w C P.spaces∧Kz w w1) ?_ ?_
 ·obtain⟨T,d⟩:=a
  refine rl ?_;with_reducible refine st ?_;refine Lz (fun K hK=>?_)
  go_simp;refine cy.out.mono ?_;rintro e w1 ⟨u,C,rfl,y,I,af⟩;have HV:=hh I;rw[I.1]at y;have HO:=hh y;have cw:=hh (jg af rfl);obtain⟨A,c,rfl⟩:∃A c,u=.slice A P.spaces.length c:=by
   rcases y.2 with⟨e1,e2⟩|⟨g,c3,c4,e1,_⟩
   ·exact⟨_,_,by rw[e1,e2]⟩
   ·exact⟨_,_,e1⟩
  clear y I af;with_reducible refine hK _ _ ?_;clear hK K
  iterate 2 with_reducible refine st ?_
  with_reducible refine ln ?_
  refine⟨rfl,ag,A,c,C,aq,aq,aq,HO.out,HV.out,cw.out⟩
 rintro a0 w0 ⟨N,A,c,C,d3,d2,d0,y,I,ac⟩;have cc:=N.size.trans dc;replace h0:=N.Q7 h0 rfl;replace h2:=N.Q7 h2 rfl;replace h3:=N.Q7 h3 rfl;have cx:=hh (HH.out.new ac);have a8:=hh y;have bs:=hh I;have di:=ac.size;have L:=hh ac;have eb:P.spaces.length≤4194304:=by
  obtain⟨_,_,_,_,c7,_⟩:=HH.out.QT.Q4;obtain⟨_,_,_,_,c8,_⟩:=HH.out.QT.Q5;unfold top at c7 c8;simp only[aF.spaces,List.length_append,List.length_map];omega
 clear y I ac;refine bh P.spaces.length (fun i=>i==3||i==4||i==5||i==6||i==7||i==9||i==10||(rg 19 107 i)) (fun i=>i==3||i==4||i==5||i==6||i==7||i==9||i==10||(rg 21 106 i)) (fun k a' w'=>At a' 3 (.int .u64 (fR P k).2)∧aG B w' pb v P eT (fR P k).1∧aD (fun k=>k=pb) w0 w') χ d0 d2 ψ rfl
  ζ χ ψ (fun k W a2 w X ⟨h1,h2⟩=>⟨X.Q7 h1 rfl,h2⟩) ⟨by simpa[fR]using h3,by simpa[fR]using cx.out,aD.refl _ _⟩ ?_ ?_
 ·rintro k W wr al X d1 ⟨J,Z,hk⟩
  have ad:=X.Q7 h0 rfl;have bl:=X.Q7 h2 rfl;have cp:=X.Q7 d3 rfl;have cd:=X.size.trans cc;have ee:=hk.size;obtain⟨g,c3,hv,hB,b1⟩:=a8.out.form χ
  cases hv
  have d7:P.spaces.length≤c:=by
   rcases a8.out.2 with⟨e1,_⟩|⟨g1,d4,c4,e1,_,_,c6,_⟩
   ·cases e1
   ·cases e1;exact c6
  obtain⟨ls,bd⟩:=ge al;obtain⟨uv,bf⟩:∃x,C[k]?=some x:=⟨_,Ez (by rw[bs.out.1];exact al)⟩;have V:=(bs.out.2 k uv ls bf bd).below (aJ _ _ _) (((L.out.mono fun _ _ h=>h.elim:aD (fun k=>k=pb) w w0).trans hk (fun _ _ e=>e)).below (B:=B) χ (fun _ hi e=>χ));have q0:wr.cell? ⟨g,k,none⟩=some uv:=(hk.cell (p:=⟨g,k,none⟩) b1 (by show g≠pb;omega)).trans ((a8.out.cellAt k χ).trans bf);have a6:=Db V;obtain⟨A5,c5,rfl,ca⟩:=V;have V:aL B 5 dO wr (.slice A5 ls.length c5) ls:=⟨A5,c5,rfl,ca⟩;have O:fR P (k+1)=(db 2 (bP P ls)++((bK P (decide (P.Q4.length≤k)) (fR P k).2 ls).1++(fR P k).1),(bK P (decide (P.Q4.length≤k)) (fR P k).2 ls).2):=by
   show(match P.spaces[k]? with|some l=>_|none=>_)=_;rw[bd]
  have be:=qw P k;obtain⟨⟨S,n⟩,cb⟩:∃q,q=fR P k:=⟨_,rfl⟩;rw[←cb]at J Z O be;clear cb
  dsimp only at J Z O be
  obtain⟨dv,aa⟩:∃b,b=decide (P.Q4.length≤k):=⟨_,rfl⟩;rw[←aa]at O;have bt:=hh O;have bp:=hh V;have bo:=hh a6;have HL:=hh Z;have HK:=hh hk;have HA:=hh X;have d8:decide ((P.Q4.length:Int)≤(k:Int))=dv:=by rw[aa];exact decide_eq_decide.2 χ
  have b0:decide (P.Q4.length≤k)=dv:=aa.symm;obtain⟨As,cs,cm,_,_,_⟩:=Z.QT.Q4;have q5:wr.cell? ⟨pb,5,none⟩=some v.Q4:=Z.cell rfl;rw[cm]at q5;have ea:pb<wr.heap.size:=Z.lt;clear O V ca a6 Z hk X aa cm bd bf;refine so (fun a2 w2=>aE (fun i=>i==4||i==5||(rg 21 23 i)) W a2∧At a2 4 (.int .i64 k)∧At a2 5 (.slice A5 ls.length c5)∧w2=wr) ?_ ?_
  ·obtain⟨T,d⟩:=W
   refine rl ?_
   iterate 5 with_reducible refine st ?_
   with_reducible refine ln ?_
   refine⟨rfl,ag,aq,aq,rfl⟩
  rintro a2 w2 ⟨H,eq,dk,rfl⟩;have cf:=H.size.trans cd;have ad:=H.Q7 ad rfl;have bl:=H.Q7 bl rfl;have J:=H.Q7 J rfl;have cu:Hid (aE (fun i=>i==3||i==4||i==5||i==6||i==7||i==9||i==10||(rg 21 106 i)) W a2):=H.m;clear H cp d1 q0;refine so (fun a3 w3=>aE (fun i=>i==6||(rg 24 31 i)) a2 a3∧At a3 6 (.bool dv)∧w3=w2) ?_ ?_
  ·obtain⟨T,d⟩:=a2
   refine rl ?_
   iterate 9 with_reducible refine st ?_
   with_reducible refine ln ?_
   refine⟨rfl,?_,?_,rfl⟩
   ·exact ag
   ·first|done|(repeat (first|with_reducible exact At.self|with_reducible apply At.ne))
    all_goals first|decide|(rw[←b0];exact At.self)
  rintro a3 w3 ⟨E,ds,rfl⟩;refine so (fun a4 w4=>aE (fun i=>i==7) a3 a4∧At a4 7 (.slice none 0 0)∧w4=w3) ?_ ?_
  ·obtain⟨T,d⟩:=a3
   refine rl ?_;with_reducible refine st ?_;refine ln ?_
   refine⟨rfl,ag,aq,rfl⟩
  rintro a4 w4 ⟨D,dt,rfl⟩;have a7:=D.size.trans (E.size.trans cf);obtain⟨nm,c9⟩:=HM.out;have b3:gC w4 mb P:=⟨nm,c9.keep ((L.out.mono fun _ _ h=>h.elim:aD (fun k=>k=pb) w w0).trans HK.out (fun _ _ e=>e)) b4⟩;have an:mb<w4.heap.size:=χ
  have an:mb<w4.heap.size:=χ
  refine wp_seq (vI HL.out b3 an b4 bw.out bp.out be a4 a7 (D.Q7 (E.Q7 ad rfl) rfl) (D.Q7 (E.Q7 bl rfl) rfl) (D.Q7 (E.Q7 J rfl) rfl) (D.Q7 (E.Q7 dk rfl) rfl) (D.Q7 ds rfl) dt _ (fun a5 w5 u5 Y k7 U d9 k3 bz b2=>?_));have ed:=Y.size.trans a7;have er:=Y.Q7 (D.Q7 (E.Q7 ad rfl) rfl) rfl;have b5:fE w5 pb u5 (bP P ls):=fS U (fun q hq=>by
   obtain⟨x,hx,rfl⟩:=List.mem_map.1 hq;have ok:=bo.out x hx;exact⟨ok.2.1,bw.out _,ok.1⟩) (by simp[bP];omega) χ
  have HC:=hh (mX bz b5 2 rfl);have bm:Hid (aE (fun i=>i==3||i==4||i==5||i==6||i==7||i==9||i==10||(rg 21 106 i)) W a5):=((cu.out.t E).t D).t Y;have cv:=hh (HK.out.trans b2 (fun _ _ e=>e));clear b5 U bz b2 Y D E b3 bp;refine Code.wp_only (R:=fun a9 w9=>aE (fun i=>(rg 104 106 i)) a5 a9∧aG B w9 pb v P eT (db 2 (bP P ls)++((bK P dv n ls).1++S))∧aD (fun k=>k=pb) w5 w9) ?_ ?_
  ·obtain⟨T,d⟩:=a5
   refine rl ?_
   iterate 2 with_reducible refine st ?_
   with_reducible refine Lz (fun K hK=>?_)
   go_simp;refine HC.out.mono ?_;rintro e w9 ⟨rfl,bb,bc⟩;with_reducible refine hK _ _ (ln ?_)
   refine⟨rfl,?_,bb,bc⟩;exact ag
  rintro a9 w9 ⟨bx,bb,bc⟩;refine⟨bm.out.t bx,?_,?_,cv.out.trans bc (fun _ _ e=>e)⟩
  ·rw[bt.out];exact bx.Q7 k3 rfl
  ·rw[bt.out];exact bb
 ·rintro a' w' X ⟨J,Z,hk⟩
  exact hQ _ _ ((N.m).t X) (Z.congr fun p=>zO P p) ((L.out.mono fun _ _ h=>h.elim:aD (fun k=>k=pb) w w0).trans hk (fun _ _ e=>e))
theorem AM(hT:pK){B:Nat}{w:World}{pb:Nat}{v:aY}{P:aF}(h:aG B w pb v P eT []):
 Calls Tryz.prog 29 #[.pointer (some ⟨pb,0,none⟩)] w fun e w'=>e=.returned (.tuple #[])∧aG B w' pb v P eT (l8 P)∧aD (fun k=>k=pb) w w':=by
 have ad:=h.lt;have ac:=h.base;have HC:=hh (hT h.QT χ);have HH:=hh h;have q0:=h.cell (j:=0) rfl;have q1:=h.cell (j:=1) rfl;have q2:=h.cell (j:=2) rfl;have q3:=h.cell (j:=3) rfl;have q4:=h.cell (j:=4) rfl;have q5:=h.cell (j:=5) rfl;have q6:=h.cell (j:=6) rfl;have q7:=h.cell (j:=7) rfl;have q8:=h.cell (j:=8) rfl;have q9:=h.cell (j:=9) rfl;have R:=h.cell (j:=10) rfl;have U:=h.cell (j:=11) rfl;have V:=h.cell (j:=12) rfl;have W:=h.cell (j:=13) rfl;clear h;refine bU Tryz.func29 Tryz.ntmps29 rfl ξ fun a Q N g=>?_
 have h0:At a 0 (.pointer (some ⟨pb,0,none⟩)):=g 0 _ rfl;clear g
 conv=>arg 2;whnf
 refine so (fun y x=>aE (fun i=>i==2||(rg 11 15 i)) a y∧∃u,At y 2 (.map (some u))∧w.heap.size≤u∧u<x.heap.size∧gC x u P∧Kz w x) ?_ ?_
 ·obtain⟨T,d⟩:=a
  refine rl ?_
  iterate 4 with_reducible refine st ?_
  with_reducible refine Lz (fun K hK=>?_)
  go_simp;refine HC.out.mono ?_;rintro e x ⟨u,rfl,h1,h2,Y,Z⟩;have H3:=hh Y;have H4:=hh Z;clear Y Z;with_reducible refine hK _ _ ?_;clear hK K;refine st ?_;refine ln ?_
  refine⟨rfl,ag,u,aq,h1,h2,H3.out,H4.out⟩
 rintro y x ⟨q,u,k2,aa,E,hm,D⟩;have H:=q.size.trans Q;have C:=q.defers.trans N;clear q0 q1 q2 q3 q4 q5 q6 q7 q8 q9 R U V W;refine so (fun I X=>aE (fun i=>i==3) y I∧At I 3 (.int .u64 0)∧X=x) ?_ ?_
 ·obtain⟨T,d⟩:=y
  refine rl ?_;with_reducible refine st ?_;refine ln ?_
  refine⟨rfl,ag,aq,rfl⟩
 rintro I X ⟨l,k3,rfl⟩;refine yI (HH.out.new D) hm E χ I (l.size.trans H) (l.Q7 (q.Q7 h0 rfl) rfl) (l.Q7 k2 rfl) k3 _ (fun a3 w3 J L O=>?_);exact ec rfl (J.defers.trans (l.defers.trans C)) ⟨rfl,L,(D.mono fun _ _ h=>h.elim:aD (fun k=>k=pb) w X).trans O (fun _ _ e=>e)⟩
