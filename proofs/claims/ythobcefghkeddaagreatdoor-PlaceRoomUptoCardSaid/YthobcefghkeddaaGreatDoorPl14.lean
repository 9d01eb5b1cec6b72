import Derived.Test.YthobcefghkeddaaGreatDoorSortL
import Derived.Test.YthobcefghkeddaaGreatDoorNames
set_option maxRecDepth 100000
set_option linter.all false
set_option maxHeartbeats 4000000
namespace Go.Proofs.YthobcefghkeddaaGreatDoor
section
open Go.Shelf Go.RowKit Go.Lib Go.Sort Go.IntWalk Ck
variable {w:World} {Z g:Nat} {l:List Sp}
def qn(x y:Sp):Int:=if x.1<y.1 then -1 else if y.1<x.1 then 1 else 0
theorem C8(x y:Sp):ltOf qn x y=decide (x.1<y.1):=by
 unfold ltOf qn
 by_cases h1:x.1<y.1
 ·simp[h1]
 ·by_cases h2:y.1<x.1<;>simp[h1,h2]
theorem E9:SWO (ltOf qn):={
 irrefl:=fun x=>by rw[C8];simp
 trans:=fun x y z d g=>by rw[C8]at *; simp at *; omega
 ntrans:=fun x y z d g=>by rw[C8]at *; simp at *; omega }
theorem Do(x y:Sp)(W:World):Calls Tryz.prog 136 #[.agg #[.int .u64 x.1,.int .u64 x.2],.agg #[.int .u64 y.1,.int .u64 y.2]] W fun e w'=>e=.returned (.int .i64 (qn x y))∧∃q d,w'=grow (W.drewN q) d:=by
 unfold qn;obtain⟨p,q⟩:=x;obtain⟨r,s⟩:=y
 by_cases h1:p<r
 ·go_enter Tryz.func136,Tryz.ntmps136
  go_wp2
  go_ret
  exact⟨by simp[h1],0,_,by rw[alloc_eq_grow,alloc_eq_grow,grow_grow];rfl⟩
 ·by_cases h2:r<p
  ·go_enter Tryz.func136,Tryz.ntmps136
   go_wp2
   go_ret
   exact⟨by simp[h1,h2],0,_,by rw[alloc_eq_grow,alloc_eq_grow,grow_grow];rfl⟩
  ·go_enter Tryz.func136,Tryz.ntmps136
   go_wp2
   go_ret
   exact⟨by simp[h1,h2],0,_,by rw[alloc_eq_grow,alloc_eq_grow,grow_grow];rfl⟩
def wC(l l':List Sp):Prop:=l'.Perm l∧l'.Pairwise fun a b=>a.1≤b.1
theorem qk(d:Array Sp):(flatK dR 2 d).toList=spC d.toList:=by
 apply List.ext_getElem?
 intro t
 by_cases ht:t<d.size*2
 ·have j:(flatK dR 2 d).toList[t]?=some (flatK dR 2 d)[t]!:=by
   have h:t<(flatK dR 2 d).size:=by rw[size_flatK];exact ht
   rw[Array.getElem?_toList,getElem!_pos _ t h,Array.getElem?_eq_getElem h]
  rw[j,get_flatK _ _ _ _ ht];have hi:t / 2<d.size:=χ
  obtain⟨s,g⟩:∃s,d.toList[t / 2]?=some s:=⟨_,Ez (by simpa using hi)⟩;obtain⟨l,q⟩:=oE _ _ _ g;have u:(d[t / 2]!)=s:=by
   rw[getElem!_pos d _ hi];have:=g;rw[Array.getElem?_toList,Array.getElem?_eq_getElem hi]at this;exact ι this
  rw[u]
  rcases Nat.mod_two_eq_zero_or_one t with h|h
  ·rw[h]
   have:t=t / 2*2:=χ
   conv=>rhs;rw[this]
   exact l.symm
  ·rw[h]
   have:t=t / 2*2+1:=χ
   conv=>rhs;rw[this]
   exact q.symm
 ·rw[List.getElem?_eq_none (by simp[size_flatK];omega),List.getElem?_eq_none (by rw[jr];simp;omega)]
theorem yS{d:Nat}(h:w.ownsRow Z 125 2 (.slice (some ⟨g,0,none⟩) l.length d) l.length (spC l)):HoldsK dR 2 w g 0 l.toArray:=by
 intro j q;have u:j<l.length*2:=by simpa[size_flatK]using q
 refine⟨?_,?_⟩
 ·rw[Nat.zero_add,h.cellAt j u,getElem!_pos _ j q]
  have:=qk l.toArray;have e:(flatK dR 2 l.toArray)[j]?=(spC l)[j]?:=by rw[←Array.getElem?_toList,this]
  rw[←e,Array.getElem?_eq_getElem q];rfl
 ·rw[Nat.zero_add];exact h.frozenAt j
theorem Bv{j n:Nat}{d:Array Sp}{os:Array Obj}(h:w.ownsRow Z 125 2 (.slice (some ⟨g,0,none⟩) l.length j) l.length (spC l))(y:d.size=l.length):
 (sortWorldK dR 2 w g 0 n d os).ownsRow Z 125 2 (.slice (some ⟨g,0,none⟩) l.length j) l.length (spC d.toList):=by
 rcases h.2 with⟨v,_⟩|⟨L,E,q,v,J,I,C,x,u,D⟩
 ·simp at v
 simp only[Value.slice.injEq,Option.some.injEq,Addr.mk.injEq,and_true,true_and]at v;obtain⟨rfl,rfl⟩:=v;have B:g<w.heap.size:=(ϱ.1 I).1;refine⟨by rw[jr];simp[y],.inr ⟨g,j,putCells id 0 (flatK dR 2 d) q,rfl,J,?_,C,x,by simp[putCells,u],?_⟩⟩
 ·show((putRowK dR 2 (Sort.ahead w n) g 0 d).heap++os)[g]?=_
  rw[Array.getElem?_append_left (by simpa[putRowK,putRow,mapBlock,Sort.ahead]using B)];simp only[putRowK,putRow,mapBlock,Sort.ahead,Array.getElem?_modify,if_true,I,Option.map_some,onCells]
 ·rw[←qk]
  apply List.ext_getElem?
  intro t;rw[List.getElem?_take]
  by_cases ht:t<l.length*2
  ·have H:t<(flatK dR 2 d).size:=by rw[size_flatK,y];exact ht
   have K:t<q.size:=by rw[u];omega
   rw[if_pos ht,Array.getElem?_toList,Array.getElem?_toList];simp only[putCells,Array.getElem?_mapIdx,Array.getElem?_eq_getElem K,Option.map_some];rw[if_pos ⟨Nat.zero_le _,χ⟩,Nat.sub_zero,getElem!_pos _ t H,Array.getElem?_eq_getElem H];rfl
  ·rw[if_neg ht,List.getElem?_eq_none (by simp[size_flatK,y];omega)]
theorem Aa{n:Nat}{d:Array Sp}{os:Array Obj}:aD (fun k=>k=g) w (sortWorldK dR 2 w g 0 n d os):=by
 refine⟨rfl,rfl,rfl,?_,fun k hk h=>?_⟩
 ·show _≤((putRowK dR 2 (Sort.ahead w n) g 0 d).heap++os).size
  simp[putRowK,putRow,mapBlock,Sort.ahead]
 ·show((putRowK dR 2 (Sort.ahead w n) g 0 d).heap++os)[k]?=_
  rw[Array.getElem?_append_left (by simpa[putRowK,putRow,mapBlock,Sort.ahead]using hk)];simp only[putRowK,putRow,mapBlock,Sort.ahead,Array.getElem?_modify];rw[if_neg (fun e=>h e.symm)]
theorem Bd{u:Value}(h:w.ownsRow Z 125 2 u l.length (spC l))(Y:l.length≤4194304):
 Calls Tryz.prog 135 #[u,.func (.func 136) #[] #[]] w fun e w'=>e=.returned (.tuple #[])∧∃L,wC l L∧w'.ownsRow Z 125 2 u L.length (spC L)∧aD (fun k=>u.ownBlock=some k) w w':=by
 rcases ϑ l.length with I|I
 ·have C:l=[]:=List.length_eq_zero_iff.1 I
  subst C;obtain⟨p,d,V⟩:∃p d,u=.slice p 0 d:=by
   rcases h.2 with⟨H,_⟩|⟨g,d,Q,H,_⟩
   ·exact⟨_,_,H⟩
   ·exact⟨_,_,H⟩
  subst V;refine(AnyF.slices_SortFunc_none Tryz.sortSp p d (.func (.func 136) #[] #[]) w).mono ?_;rintro e w' ⟨rfl,rfl⟩;exact⟨rfl,[],⟨.refl _,.nil⟩,h,aD.refl _ _⟩
 ·obtain⟨g,d,E,X,K⟩:=h.form I
  subst E;have R:∀args w,(callFunc 136 args).run Tryz.prog w=.ok (.enter 136 args) w:=enters_of Tryz.func136 δ rfl;have q:=AnyQ.slices_SortFunc Tryz.sortSp 2 Tryz.isAgg125 Tryz.sizeOf125 dR (fun _=>rfl) (fun x v E=>by simp[dR]at E;rcases E with rfl|rfl<;>rfl) qn E9 136 #[] g 0 d l.toArray w R
   (fun m os W _ x y=>Do x y _) (yS h) K η
  rw[show(l.toArray).size=l.length by simp]at q;refine q.mono ?_;rintro e w' ⟨rfl,B,n,os,O,U,rfl⟩;have D:B.size=l.length:=by simpa using O.1
  refine⟨rfl,B.toList,⟨?_,?_⟩,?_,Aa.mono fun i _ e=>by rw[e];rfl⟩
  ·have:=O.2.2
   rw[show B.extract 0 l.length=B by rw[←D];simp,show l.toArray.extract 0 l.length=l.toArray by simp]at this
   simpa using this
  ·rw[List.pairwise_iff_getElem]
   intro i j hi N J;have:=U i j (Nat.zero_le _) J (by simpa[D]using N);rw[C8]at this;rw[getElem!_pos B j (by simpa using N),getElem!_pos B i (by simpa using hi)]at this;simp only[Array.getElem_toList];simp at this;omega
  ·have:=Bv (n:=n) (os:=os) h D
   rw[show B.toList.length=l.length by simpa using D];exact this
end
section
open Go.RowKit Go.IntWalk Ck
theorem sQ{fn:Func}{R:Ending→World→Prop}{a:Act}{w:World}{t z:Nat}{u:Value}(h:fn.results = #[.cell t 119])(l:At a t (.pointer (some ⟨z,0,none⟩)))(j:t<a.tmps.size)(q:w.cell? ⟨z,0,none⟩=some u)(g:a.defers=[])(d:R (.returned (.agg #[u])) w):bodyPost Tryz.prog fn R .ret a w:=by
 refine bodyPost_ret (v := .agg #[u]) ?_ g d;have e:a.tmps.getD t undef=.pointer (some ⟨z,0,none⟩):=l.eval j;unfold results;simp only[h];go_simp
theorem xd{l j:List Sp}(h:wC l j)(p:Nat):aW j p↔aW l p:=by
 unfold aW;constructor
 ·rintro⟨s,g,d⟩
  exact⟨s,h.1.mem_iff.1 g,d⟩
 ·rintro⟨s,g,d⟩
  exact⟨s,h.1.mem_iff.2 g,d⟩
theorem CG(l:List Sp)(p:Nat):aW (dI l) p↔aW l p:=by
 unfold aW dI;constructor
 ·rintro⟨s,g,d⟩
  exact⟨s,(List.mem_filter.1 g).1,d⟩
 ·rintro⟨s,g,d⟩
  exact⟨s,List.mem_filter.2 ⟨g,η⟩,d⟩
theorem ut{w:World}{pb:Nat}{u:Value}{xs:List Sp}(hu:aJ w pb u xs)(cv:pb<w.heap.size)(Y:∀s∈xs,s.1<lim∧s.2<lim):
 Calls Tryz.prog 111 #[u] w fun e w'=>∃u' l,e=.returned (.agg #[u'])∧dS l∧(∀p,aW l p↔aW xs p)∧(∀q,q<w.heap.size→aJ w' q u' l)∧Kz w w':=by
 obtain⟨A,c,rfl,hr⟩:=hu;have hu:aJ w pb (.slice A xs.length c) xs:=⟨A,c,rfl,hr⟩;have cs:=hr.2.1;have HU:=hh hu;have HL:=hh Y;clear hu hr Y;refine bL Tryz.func111 Tryz.ntmps111 rfl ξ fun a cf b3 J=>?_
 have h0:At a 0 (.slice A xs.length c):=J 0 _ rfl;clear J
 conv=>arg 2;whnf
 refine so (fun a1 w1=>aE (fun i=>i==2) a a1∧At a1 2 (.pointer (some ⟨w.heap.size,0,none⟩))∧w1=w.alloc (.cells #[.slice none 0 0] 119)) ?_ ?_
 ·obtain⟨T,d⟩:=a
  refine rl ?_;with_reducible refine st ?_;refine ln ?_
  refine⟨rfl,ag,aq,rfl⟩
 rintro a1 w1 ⟨O,k2,N⟩;have V:Kz w w1:=by rw[N];exact(aD.refl _ _).alloc _
 obtain⟨z,hz⟩:∃z,z=w.heap.size:=⟨_,rfl⟩;rw[←hz]at k2;have cj:w1.cell? ⟨z,0,none⟩=some (.slice none 0 0):=by rw[N,hz];exact ap w [.slice none 0 0] 119 0 _ rfl
 have b4:w1.frozen? ⟨z,0,none⟩=false:=by
  have cc:w1.heap[z]?=some (.cells #[.slice none 0 0] 119):=by rw[N,hz];exact Array.getElem?_push_size
  simp[World.frozen?,cc]
 have bb:z<w1.heap.size:=by rw[N,hz];simp
 have HZ:Hid (z=w.heap.size):=hz;have bt:=O.size.trans cf;have bf:=O.defers.trans b3;have j0:=O.Q7 h0 rfl;clear N hz;refine so (fun a2 w2=>aE (fun i=>i==3) a1 a2∧At a2 3 (.slice none 0 0)∧w2=w1) ?_ ?_
 ·obtain⟨T,d⟩:=a1
  refine rl ?_;with_reducible refine st ?_;refine ln ?_
  refine⟨rfl,ag,aq,rfl⟩
 rintro a2 w2 ⟨H,k3,rfl⟩;have af:=H.size.trans bt;have bs:pb<w2.heap.size:=by have:=V.size;omega
 refine wp_seq (yD (HU.out.keep (V.mono fun _ _ h=>h.elim)) bs a2 af (H.Q7 j0 rfl) k3 _ (fun a3 w3 u3 Q l3 x b5=>?_));have bw:=Q.size.trans af;have m2:=Q.Q7 (H.Q7 k2 rfl) rfl;have bg:=Q.defers.trans (H.defers.trans bf);obtain⟨l,hl⟩:∃l,l=dI xs:=⟨_,rfl⟩;rw[←hl]at x;have bm:l.length≤4194304:=by have:=om xs;rw[←hl]at this;omega
 have an:=hh hl;have bd:=hh x;have HS:=hh (Bd x bm);clear x hl;refine so (fun a4 w4=>aE (fun i=>i==24||i==25) a3 a4∧∃g,wC l g∧At a4 3 u3∧w4.ownsRow w2.heap.size 125 2 u3 g.length (spC g)∧aD (fun k=>u3.ownBlock=some k) w3 w4) ?_ ?_
 ·obtain⟨T,d⟩:=a3
  refine rl ?_;with_reducible refine st ?_;refine Lz (fun K hK=>?_)
  go_simp;refine HS.out.mono ?_;rintro e w4 ⟨rfl,g,h1,h2,h3⟩;have H1:=hh h1;have H2:=hh h2;have H3:=hh h3;clear h1 h2 h3;with_reducible refine hK _ _ ?_;clear hK K;refine ln ?_
  refine⟨rfl,?_,g,H1.out,?_,H2.out,H3.out⟩
  ·exact ag
  ·exact At.ne (At.ne l3 ψ) ψ
 rintro a4 w4 ⟨R,g,hS,cp,C,b6⟩;have bx:=R.size.trans bw;have hB:∀k,u3.ownBlock=some k→w2.heap.size≤k:=fun k hk=>(bd.out.lt k hk).1
 have D:Kz w2 w4:=b5.trans b6 (fun i hi h=>by have:=hB i h;omega);clear HS bd;have L:g.length≤4194304:=by rw[hS.1.length_eq];exact bm
 have j:∀s∈g,s.1<lim∧s.2<lim:=fun s hs=>by
  have:=hS.1.mem_iff.1 hs;rw[an.out]at this;exact HL.out s (List.mem_filter.1 this).1
 have X:∀s∈g,s.1≤s.2:=fun s hs=>by
  have:=hS.1.mem_iff.1 hs;rw[an.out]at this
  simpa using(List.mem_filter.1 this).2
 have E:aJ w4 pb u3 g:=dK C L χ j;obtain⟨A4,c4,e4,_⟩:=E;subst e4;have E:aJ w4 pb (.slice A4 g.length c4) g:=dK C L χ j;have b1:=hh E;have HS:=hh hS;have bc:=hh j;have b0:=hh X;have bo:=R.defers.trans bg;clear hS E j X C hB;refine so (fun a5 w5=>aE (fun i=>i==6) a4 a5∧At a5 6 (.slice none 0 0)∧w5=w4) ?_ ?_
 ·obtain⟨T,d⟩:=a4
  refine rl ?_;with_reducible refine st ?_;refine ln ?_
  refine⟨rfl,ag,aq,rfl⟩
 rintro a5 w5 ⟨I,k6,rfl⟩;have al:=I.size.trans bx;have ac:pb<w5.heap.size:=by have:=D.size;omega
 refine wp_seq (AC b1.out ac bc.out a5 al (I.Q7 cp rfl) k6 _ (fun a6 w6 u6 U l6 y ca=>?_));have bz:=U.size.trans al;have n2:=U.Q7 (I.Q7 (R.Q7 m2 rfl) rfl) rfl;have bl:=U.defers.trans (I.defers.trans bo);have B:Kz w2 w6:=D.trans ca (fun _ _ h=>h);have x6:=(B.cell (p:=⟨z,0,none⟩) bb (fun h=>h)).trans cj;have f6:=(B.frozen (p:=⟨z,0,none⟩) bb (fun h=>h)).trans b4;have cw:z<w6.heap.size:=Θ bb B.size;have Z:=mr _ g rfl b0.out HS.out.2;have cb:=iU g g.length (Γ _);rw[List.take_length]at cb;have a0:=iT _ g rfl bc.out;obtain⟨A6,c6,e6,_⟩:aJ w6 pb u6 (aZ g):=dK y χ ac a0;obtain⟨n6,a8⟩:∃n,n=(aZ g).length:=⟨_,rfl⟩;rw[←a8]at e6;have cu:=hh a8;clear a8;subst e6;have cm:w5.heap.size≤z→False:=fun h=>by have:=D.size;omega
 have bp:∀k,(Value.slice A6 n6 c6).ownBlock=some k→k≠z:=fun k h e=>cm (by rw[←e];exact(y.lt k h).1)
 have ad:∀v q,q<w5.heap.size→aJ (w6.setCell ⟨z,0,none⟩ v) q (.slice A6 n6 c6) (aZ g):=fun v q hq=>by
  exact dK (aK y (aD.setCell (S:=fun k=>k=z) (aD.refl _ _) (fun _=>rfl) v) (fun k h e=>bp k h e)) χ hq a0
 have be:=hh ad;have W:=hh Z;have HK:=hh (V.trans B (fun _ _ h=>h));clear ad Z a0 bp y V B U I R Q H O;refine so (fun a7 w7=>At a7 2 (.pointer (some ⟨z,0,none⟩))∧a7.tmps.size=80∧a7.defers=[]∧w7=w6.setCell ⟨z,0,none⟩ (.slice A6 n6 c6)) ?_ ?_
 ·obtain⟨T,d⟩:=a6
  refine rl ?_
  iterate 3 with_reducible refine st ?_
  with_reducible refine ln ?_
  refine⟨rfl,?_,by simpa using bz,bl,rfl⟩;exact At.ne (At.ne n2 ψ) ψ
 rintro a7 w7 ⟨h2,cd,b2,a9⟩;refine wp_ret ?_;refine sQ (u := .slice A6 n6 c6) rfl h2 (by rw[cd];decide) ?_ b2 ⟨.slice A6 n6 c6,aZ g,rfl,W.out.1,fun p=>?_,fun q hq=>?_,?_⟩
 ·rw[a9];exact World.cell?_setCell_same _ _ _ x6
 ·rw[W.out.2.1,xd HS.out,an.out,CG]
 ·rw[a9];exact be.out _ q (by have h1:=D.size;have h2:=HZ.out;omega)
 ·rw[a9];exact HK.out.setCell (fun h=>by have:=HZ.out;have h:z<w.heap.size:=h;omega) _
end
namespace Rs
open Go.RowKit Ck
variable {w:World}
def bS(x y:Bool):Sta where
 b j:=match j with|0=>x|_=>y
theorem Bz(b1 b2:Bool)(w:World):Calls Tryz.prog 137 #[.bool b1,.bool b2] w fun e w'=>e=.returned (.bool (b1||b2))∧Kz w w':=by
 refine fnE (bS b1 b2) (fun _=>(0,0)) [.one (.b (.x 0)),.one (.b (.x 1))] Tryz.func137 Tryz.ntmps137 rfl rfl ψ H0 (fun _ h=>h.elim) trivial fun a j hh=>?_
 cases b1 with
 | true =>
  refine dU 3 τ [(4,.one (.b (.c true)))] [] 0 [] hPp δ (hh.fa [(.x 0,true)] (fa1 rfl)) fun u l q g d=>?_
  exact fj 4 rfl g.has rfl (d.agree.defers.trans j) ⟨rfl,d.keep⟩
 | false =>
  refine dU 3 τ [(4,.one (.b (.x 1)))] [] 0 [] hPp δ (hh.fa [(.x 0,false)] (fa1 rfl)) fun u l q g d=>?_
  exact fj 4 rfl g.has rfl (d.agree.defers.trans j) ⟨rfl,d.keep⟩
theorem yK(b1 b2:Bool)(w:World):Calls Tryz.prog 134 #[.bool b1,.bool b2] w fun e w'=>e=.returned (.bool (b1 && !b2))∧Kz w w':=by
 refine fnE (bS b1 b2) (fun _=>(0,0)) [.one (.b (.x 0)),.one (.b (.x 1))] Tryz.func134 Tryz.ntmps134 rfl rfl ψ H0 (fun _ h=>h.elim) trivial fun a j hh=>?_
 cases b1 with
 | true =>
  refine dU 3 τ [(4,.one (.b (.not (.x 1))))] [] 0 [] hPp δ (hh.fa [(.x 0,true)] (fa1 rfl)) fun u l q g d=>?_
  exact fj 4 rfl g.has rfl (d.agree.defers.trans j) ⟨rfl,d.keep⟩
 | false =>
  refine dU 3 τ [(4,.one (.b (.c false)))] [] 0 [] hPp δ (hh.fa [(.x 0,false)] (fa1 rfl)) fun u l q g d=>?_
  exact fj 4 rfl g.has rfl (d.agree.defers.trans j) ⟨rfl,d.keep⟩
def xg(AA AB:Option Addr)(na ca nb cb:Nat):Sta where
 a j:=match j with|1=>AA|_=>AB
 n j:=match j with|1=>na|2=>ca|3=>nb|_=>cb
def lW(w0:World)(b:Nat)(φ:Nat→Prop)(w:World):Prop:=∃u l,Row w b [u]∧au w u l∧(∀q,q<w0.heap.size→aJ w q u l)∧dP l∧∀q,aW l q↔φ q
theorem lW.keep{w0 w':World}{b:Nat}{φ:Nat→Prop}(hk:Kz w w')(h:lW w0 b φ w):lW w0 b φ w':=by
 obtain⟨u,l,d,g,x,j,v⟩:=h;exact⟨u,l,d.keep hk id,g.keep hk,fun q y=>aJ.keep (x q y) (hk.mono fun _ _ h=>h.elim),j,v⟩
def setH(w0:World)(b:Nat)(φ:Nat→Prop):Gh:=Gh.two (fun g=>g=b) (fun w=>∃v,Row w b [v]) (lW w0 b φ) (fun _ _ hk ⟨v,h⟩=>⟨v,h.keep hk id⟩) (fun _ _ hk h=>h.keep hk)
theorem lW.of{w0 j w:World}{b:Nat}{φ:Nat→Prop}{e:Ending}(V:w0.heap.size≤j.heap.size)(d:∃v,Row j b [v])(h:ip j φ e w):∃vs:List Value,e=.returned (.agg vs.toArray)∧vs.length=1∧(∀u∈vs,u.oneCell'=true)∧Kz j w∧∃cs E0,w.heap[b]?=some (.cells cs E0 (0,0))∧0+0+1≤cs.size∧lW w0 b φ (w.setRow b (bk cs (0+0) vs)):=by
 obtain⟨v,d⟩:=d;obtain⟨u,l,J,K,y,L,N,hk⟩:=h;obtain⟨cs,E0,c1,c2,C⟩:=(d.keep hk id).all (vs:=[u]) rfl;refine⟨[u],J,rfl,fun x O=>?_,hk,cs,E0,c1,c2,u,l,C,?_,fun q U=>?_,L,N⟩
 ·obtain rfl:=ρ.1 O
  obtain⟨A,c,rfl,_⟩:=K;rfl
 ·exact aJ.r (aJ.keep (y b d.lt) (ch _ _ _ rfl))
 ·obtain⟨A,c,D,Q,e3,e4⟩:=y q χ
  refine aJ.other (aJ.keep (y b d.lt) (ch _ _ _ rfl)) fun I g n c B=>?_
  rw[D]at B
  cases B
  obtain⟨R,E,_,H,_⟩:=e4 I
  cases E
  exact H
theorem uk{A B:List Sp}{Z uB:Value}(O:au w Z A)(Q:au w uB B)(pA:dP A)(pB:dP B):Calls Tryz.prog 115 #[.agg #[Z],.agg #[uB]] w (ip w fun q=>aW A q∨aW B q):=by
 obtain⟨R,U⟩:∃R:Ending→World→Prop,R=ip w fun q=>aW A q∨aW B q:=⟨_,rfl⟩
 rw[←U];obtain⟨AA,H,eA,lA,ac,_⟩:=id O;obtain⟨AB,I,eB,lB,ad,_⟩:=id Q;subst eA eB;refine fnE (xg AA AB A.length H B.length I) (fun _=>(0,0)) [.ag [.sl 1 1 2],.ag [.sl 2 3 4]] Tryz.func115 Tryz.ntmps115 rfl rfl ψ H0 (fun _ h=>h.elim) trivial fun a hd hh=>?_
 refine fb (CL:={}) τ [(2,.one (.p 0 0)),(3,.one (.p 1 0)),(4,.one (.p 2 0))] [(0,[.sl 1 1 2]),(1,[.sl 2 3 4]),(2,[.l (.slice none 0 0)])] 3 [] δ hh dV fun C a1 w1 X D=>?_
 obtain⟨x1,x2,x3⟩:=D.new.row X.mem (r:=2) rfl ψ ψ;have n2:=((X.own D 2 (l:=[.l (.slice none 0 0)]) rfl ψ ψ [(0,[.sl 1 1 2]),(1,[.sl 2 3 4])] (fun _=>none) 1 rfl δ rfl δ (fun q m hm hq=>absurd hq (Nat.not_lt_zero _)) (fun vs h=>by cases h)).1).setH (setH w (C 2).1 fun q=>aW A q∨aW B q) (fun _=>Iff.rfl) [] ⟨_,x1⟩;have W:∀{w'},aD (fun g=>g=(C 2).1) w1 w'→Kz w w':=fun{w'} hk=>aS D.keep hk fun g J=>by rw[show g=(C 2).1 from J];exact x3
 refine EE (CL:={}) 2 2 0 1 133 [.ag [.sl 1 1 2],.ag [.sl 2 3 4],.one (.l (.func (.func 137) #[] #[]))] [] τ [(4,.one (.p 2 0))] [] 3 δ n2 dV rfl (fun w2 hk J=>?_) fun κ3 a3 w3 Y K=>kB ?_
 ·rw[x2]
  have d:=W hk;refine(su (keep:=fun x y=>x||y) (.inl rfl) (O.keep d) (Q.keep d) pA pB rfl (fun b1 b2 w=>Bz b1 b2 w)).mono fun e w4 h=>lW.of d.size J ?_
  obtain⟨u,l,h1,h2,h3,h4,h5,h6⟩:=h;exact⟨u,l,h1,h2,h3,h4,fun q=>(h5 q).trans (by simp[iZ,←Bool.not_eq_true]),h6⟩
 ·have V:=K.upto 2 ψ
  obtain⟨u,l,g1,N,g3,g4,g5⟩:=(show lW w (C 2).1 (fun q=>aW A q∨aW B q) w3 from Y.gh);obtain⟨A',L,rfl,_⟩:=id N;have f4:Has (xg AA AB A.length H B.length I |>.put 16 { a:=fun _=>A',n:=fun j=>match j with|0=>l.length|_=>L }) κ3 8 [(4,.one (.p 2 0))] a3:=Y.has.on (aQ _ 16 _) δ;have hM:fP (xg AA AB A.length H B.length I |>.put 16 { a:=fun _=>A',n:=fun j=>match j with|0=>l.length|_=>L }) κ3 [(2,[.sl 16 16 17])] w3:=Row.memF (b:=(C 2).1) (Prod.ext (by rw[V]) (by rw[V];exact x2)) g1;refine oK (t:=4) (r:=2) (E:=119) (v := .ag [.sl 16 16 17]) rfl f4 rfl δ hM (K.agree.defers.trans (D.agree.defers.trans hd)) ?_;rw[U];exact⟨_,l,rfl,N,g3,g4,g5,W K.keep⟩
theorem fw{A B:List Sp}{Z uB:Value}(O:au w Z A)(Q:au w uB B)(pA:dP A)(pB:dP B):Calls Tryz.prog 110 #[.agg #[Z],.agg #[uB]] w (ip w fun q=>aW A q∧¬ aW B q):=by
 obtain⟨R,U⟩:∃R:Ending→World→Prop,R=ip w fun q=>aW A q∧¬ aW B q:=⟨_,rfl⟩
 rw[←U];obtain⟨AA,H,eA,lA,ac,_⟩:=id O;obtain⟨AB,I,eB,lB,ad,_⟩:=id Q;subst eA eB;refine fnE (xg AA AB A.length H B.length I) (fun _=>(0,0)) [.ag [.sl 1 1 2],.ag [.sl 2 3 4]] Tryz.func110 Tryz.ntmps110 rfl rfl ψ H0 (fun _ h=>h.elim) trivial fun a hd hh=>?_
 refine fb (CL:={}) τ [(2,.one (.p 0 0)),(3,.one (.p 1 0)),(4,.one (.p 2 0))] [(0,[.sl 1 1 2]),(1,[.sl 2 3 4]),(2,[.l (.slice none 0 0)])] 3 [] δ hh dV fun C a1 w1 X D=>?_
 obtain⟨x1,x2,x3⟩:=D.new.row X.mem (r:=2) rfl ψ ψ;have n2:=((X.own D 2 (l:=[.l (.slice none 0 0)]) rfl ψ ψ [(0,[.sl 1 1 2]),(1,[.sl 2 3 4])] (fun _=>none) 1 rfl δ rfl δ (fun q m hm hq=>absurd hq (Nat.not_lt_zero _)) (fun vs h=>by cases h)).1).setH (setH w (C 2).1 fun q=>aW A q∧¬ aW B q) (fun _=>Iff.rfl) [] ⟨_,x1⟩;have W:∀{w'},aD (fun g=>g=(C 2).1) w1 w'→Kz w w':=fun{w'} hk=>aS D.keep hk fun g J=>by rw[show g=(C 2).1 from J];exact x3
 refine EE (CL:={}) 2 2 0 1 133 [.ag [.sl 1 1 2],.ag [.sl 2 3 4],.one (.l (.func (.func 134) #[] #[]))] [] τ [(4,.one (.p 2 0))] [] 3 δ n2 dV rfl (fun w2 hk J=>?_) fun κ3 a3 w3 Y K=>kB ?_
 ·rw[x2]
  have d:=W hk;refine(su (keep:=fun x y=>x && !y) (.inr rfl) (O.keep d) (Q.keep d) pA pB rfl (fun b1 b2 w=>yK b1 b2 w)).mono fun e w4 h=>lW.of d.size J ?_
  obtain⟨u,l,h1,h2,h3,h4,h5,h6⟩:=h;exact⟨u,l,h1,h2,h3,h4,fun q=>(h5 q).trans (by simp[iZ,←Bool.not_eq_true]),h6⟩
 ·have V:=K.upto 2 ψ
  obtain⟨u,l,g1,N,g3,g4,g5⟩:=(show lW w (C 2).1 (fun q=>aW A q∧¬ aW B q) w3 from Y.gh);obtain⟨A',L,rfl,_⟩:=id N;have f4:Has (xg AA AB A.length H B.length I |>.put 16 { a:=fun _=>A',n:=fun j=>match j with|0=>l.length|_=>L }) κ3 8 [(4,.one (.p 2 0))] a3:=Y.has.on (aQ _ 16 _) δ;have hM:fP (xg AA AB A.length H B.length I |>.put 16 { a:=fun _=>A',n:=fun j=>match j with|0=>l.length|_=>L }) κ3 [(2,[.sl 16 16 17])] w3:=Row.memF (b:=(C 2).1) (Prod.ext (by rw[V]) (by rw[V];exact x2)) g1;refine oK (t:=4) (r:=2) (E:=119) (v := .ag [.sl 16 16 17]) rfl f4 rfl δ hM (K.agree.defers.trans (D.agree.defers.trans hd)) ?_;rw[U];exact⟨_,l,rfl,N,g3,g4,g5,W K.keep⟩
end Rs
namespace Rs
open Go.RowKit Ck
variable {w:World}
theorem Bp{l:List Sp}(h:dS l)(H:∀p q,p / 4096=q / 4096→aW l p→aW l q)(y:∀p,aW l p→p<4294967296):dP l:=by
 refine⟨h,fun s x=>?_⟩;obtain⟨i,hi⟩:=List.getElem?_of_mem x;have K:=h.some_ s x;have C:aW l s.1:=⟨s,x,χ,χ⟩;have v:aW l s.2:=⟨s,x,χ,χ⟩;have w:∀(j:Nat) (t:Sp),l[j]?=some t→j≠i→t.2+1<s.1∨s.2+1<t.1:=fun j t B g=>by
  obtain⟨d,D⟩:=ο.1 hi;obtain⟨u,E⟩:=ο.1 B
  rcases Nat.lt_trichotomy i j with c|c|c
  ·have:=List.pairwise_iff_getElem.1 h.apart i j d u c
   rw[D,E]at this;exact .inr this
  ·exact absurd c.symm g
  ·have:=List.pairwise_iff_getElem.1 h.apart j i u d c
   rw[D,E]at this;exact .inl this
 have own:∀q,aW l q→s.1≤q+1→q≤s.2+1→s.1≤q∧q≤s.2:=fun q ⟨t,B,I,J⟩ L N=>by
  obtain⟨j,g⟩:=List.getElem?_of_mem B
  by_cases c:j=i
  ·subst c;rw[hi]at g;obtain rfl:=ι g;exact⟨I,J⟩
  ·rcases w j t g c with c|c<;>omega
 refine⟨?_,?_,y _ v⟩
 ·rcases ϑ (s.1%4096)with c|c
  ·exact c
  ·have:=own (s.1-1) (H s.1 (s.1-1) χ C) χ χ
   omega
 ·rcases ϑ ((s.2+1)%4096)with c|c
  ·exact c
  ·have:=own (s.2+1) (H s.2 (s.2+1) χ v) χ χ
   omega
structure XOk (x:Sp):Prop where
 l1:x.1<lim
 l2:x.2<lim
 ok:x.1≤x.2→x.1%4096=0∧(x.2+1)%4096=0∧x.2<4294967296
theorem XOk.set{x:Sp}(h:XOk x){l:List Sp}(w:dS l)(d:∀p,aW l p↔aW [x] p):dP l:=by
 have one:∀p,aW [x] p↔x.1≤p∧p≤x.2:=fun p=>by simp[aW]
 refine Bp w (fun p q e g=>?_) fun p g=>?_
 ·rw[d,one]at g⊢
  obtain⟨j,u,v⟩:=h.ok χ;omega
 ·rw[d,one]at g
  obtain⟨j,u,v⟩:=h.ok χ;omega
def wiS(AA:Option Addr)(na ca:Nat)(x:Sp):Sta where
 a _:=AA
 n j:=match j with|1=>na|_=>ca
 i j:=match j with|0=>x.1|_=>x.2
def wiF:Fr:=[(2,.one (.p 0 0)),(3,.one (.p 1 0)),(4,.one (.p 2 0)),(5,.ag [.sl 1 1 2]),(6,.ag [.i .u64 (.x 0),.i .u64 (.x 1)])]
def wiV(w0:World)(b:Nat)(x:Sp)(φ:Nat→Prop)(j:Nat)(w:World)(v:Value):Prop:=
 match j with
 | 2=>aJ w b v [x]
 | 3=>∃u l,v=.agg #[u]∧au w u l∧dP l∧∀q,aW l q↔aW [x] q
 | _=>∃u l,v=.agg #[u]∧au w u l∧(∀q,q<w0.heap.size∨q=b→aJ w q u l)∧dP l∧∀q,aW l q↔φ q
theorem zC{w0:World}{b:Nat}{x:Sp}{φ:Nat→Prop}(j:Nat)(w w':World)(v:Value)(hk:Kz w w')(h:wiV w0 b x φ j w v):wiV w0 b x φ j w' v:=by
 match j,h with
 | 2,h=>exact aJ.keep h (hk.mono fun _ _ h=>h.elim)
 | 3,⟨u,l,h1,h2,h3⟩=>exact⟨u,l,h1,h2.keep hk,h3⟩
 | 0,⟨u,l,h1,h2,h3,h4⟩=>exact⟨u,l,h1,h2.keep hk,fun q d=>aJ.keep (h3 q d) (hk.mono fun _ _ h=>h.elim),h4⟩
 | 1,⟨u,l,h1,h2,h3,h4⟩=>exact⟨u,l,h1,h2.keep hk,fun q d=>aJ.keep (h3 q d) (hk.mono fun _ _ h=>h.elim),h4⟩
 | n+4,⟨u,l,h1,h2,h3,h4⟩=>exact⟨u,l,h1,h2.keep hk,fun q d=>aJ.keep (h3 q d) (hk.mono fun _ _ h=>h.elim),h4⟩
theorem qO{w:World}{b:Nat}{x:Sp}(j:b<w.heap.size)(g:x.1<lim)(h:x.2<lim)(E:TypeId):aJ (w.alloc (.cells #[.int .u64 x.1,.int .u64 x.2] E)) b (.slice (some ⟨w.heap.size,0,none⟩) 1 1) [x]:=by
 refine⟨_,1,rfl,ξ,ξ,fun _=>⟨_,rfl,ξ,χ,fun i s d=>?_⟩⟩
 match i,d with
 | 0,d =>
  obtain rfl:=ι d;exact⟨by rw[World.cell?_alloc_at _ _ _ _ rfl];rfl,by rw[World.cell?_alloc_at _ _ _ _ rfl];rfl,g,h⟩
theorem ni{A:List Sp}{uA:Value}{x:Sp}(hA:au w uA A)(pA:dP A)(V:XOk x):Calls Tryz.prog 63 #[.agg #[uA],.agg #[.int .u64 x.1,.int .u64 x.2]] w (ip w fun q=>aW A q∨(x.1≤q∧q≤x.2)):=by
 obtain⟨R,hR⟩:∃R:Ending→World→Prop,R=ip w fun q=>aW A q∨(x.1≤q∧q≤x.2):=⟨_,rfl⟩
 rw[←hR];obtain⟨AA,cA,eA,lA,al,_⟩:=id hA;subst eA;refine fnE (wiS AA A.length cA x) (fun _=>(0,0)) [.ag [.sl 1 1 2],.ag [.i .u64 (.x 0),.i .u64 (.x 1)]] Tryz.func63 Tryz.ntmps63 rfl rfl ψ H0 (fun _ h=>h.elim) trivial fun a hd hh=>?_
 refine fb (CL:={}) τ [(2,.one (.p 0 0)),(3,.one (.p 1 0)),(4,.one (.p 2 0))] [(0,[.sl 1 1 2]),(1,[.i .u64 (.x 0),.i .u64 (.x 1)]),(2,[.l (.slice none 0 0)])] 3 [] δ hh dV fun Z a1 w1 n1 W=>?_
 obtain⟨N,x2,x3⟩:=W.new.row n1.mem (r:=2) rfl ψ ψ;obtain⟨b,hb⟩:∃b,b=(Z 2).1:=⟨_,rfl⟩;rw[←hb]at N x3;have ad:∀q,aW [x] q↔x.1≤q∧q≤x.2:=fun q=>by simp[aW]
 refine wv 2 5 wiF (wiV w b x fun q=>aW A q∨(x.1≤q∧q≤x.2)) hPp δ n1 zC (fun i o h2 h5 J d w' K hk C hv Q=>?_) fun o J d w' hk H C hv=>?_
 ·rcases(show i=2∨i=3∨i=4 by omega)with rfl|rfl|rfl
  ·obtain rfl:=ι J
   obtain⟨it,zt,i1,i2,i3,i4,i5⟩:=(show yv Tryz.prog 117 125 2 16 from⟨Tryz.underlying117,δ,ψ,ψ⟩).info;have e6:d.eval (.tmp 6)=.agg #[.int .u64 x.1,.int .u64 x.2]:=C.ev (x := .tmp 6) (v := .ag [.i .u64 (.x 0),.i .u64 (.x 1)]) δ;refine wp_buildSlice 117 125 1 _ rfl #[.int .u64 x.1,.int .u64 x.2] it zt Tryz.underlying117 i1 i2 (by rw[i3];decide) (by rw[i3];decide) ?_ ?_
   ·simp only[List.map_toArray,List.map_cons,List.map_nil]
    rw[i3,e6,lP 2 _ _ rfl ξ];rfl
   ·exact Q _ _ ((aD.refl _ _).alloc _) (qO (by have:=N.lt;have:=hk.size;omega) V.l1 V.l2 125)
  ·obtain⟨v,h7,O⟩:=hv 2 7 ψ ψ (by rw[show o=_ from(ι J).symm];kernel_rfl) rfl
   obtain rfl:=ι J;have O:aJ w' b v [x]:=O;unfold Oper.wp;rw[execOp_call_go,cC (f:=111) δ];have e7:d.eval (.tmp 7)=v:=h7.eval (by rw[C.size];decide);rw[show(#[]++(#[Operand.tmp 7]:Array Operand).map d.eval ++ #[]:Array Value) = #[d.eval (.tmp 7)] from ξ,e7];refine(ut O (by have:=N.lt;have:=hk.size;omega) (fun s hs=>by
    obtain rfl:=ρ.1 hs;exact⟨V.l1,V.l2⟩)).mono fun e w2 ⟨u,l,he,X,D,Y,q4⟩=>?_
   subst he;exact Q _ _ q4 ⟨u,l,rfl,aJ.r (Y b (by have:=N.lt;have:=hk.size;omega)),V.set X D,D⟩
  ·obtain⟨v,h7,O⟩:=hv 3 8 ψ ψ (by rw[show o=_ from(ι J).symm];kernel_rfl) rfl
   obtain rfl:=ι J;obtain⟨u,l,rfl,X,D,Y⟩:=(show ∃u l,v=.agg #[u]∧au w' u l∧dP l∧∀q,aW l q↔aW [x] q from O);unfold Oper.wp;rw[execOp_call_go,cC (f:=115) δ];have e8:d.eval (.tmp 8)=.agg #[u]:=h7.eval (by rw[C.size];decide);have e5:d.eval (.tmp 5)=.agg #[.slice AA A.length cA]:=C.ev (x := .tmp 5) (v := .ag [.sl 1 1 2]) δ;rw[show(#[]++(#[Operand.tmp 5,Operand.tmp 8]:Array Operand).map d.eval ++ #[]:Array Value) = #[d.eval (.tmp 5),d.eval (.tmp 8)] from ξ,e5,e8];refine(uk (hA.keep (W.keep.trans hk fun _ _ h=>h)) X pA D).mono fun e w2 ⟨u2,l2,he,y1,y2,y3,y4,y5⟩=>?_
   subst he;refine Q _ _ y5 ⟨u2,l2,rfl,y1,fun q U=>y2 q ?_,y3,fun q=>(y4 q).trans (by simp only[Y,ad])⟩;have:=N.lt;have:=hk.size;have:=W.keep.size
   rcases U with U|U<;>omega
 ·obtain⟨v,h9,ac⟩:=hv 4 9 ψ ψ rfl
  obtain rfl:=ι J;obtain⟨u,l,rfl,X,D,Y,q4⟩:=(show ∃u l,v=.agg #[u]∧au w' u l∧(∀q,q<w.heap.size∨q=b→aJ w' q u l)∧dP l∧∀q,aW l q↔aW A q∨(x.1≤q∧q≤x.2) from ac);obtain⟨A',B,rfl,_⟩:=id X;have e9:d.eval (.tmp 9)=.agg #[.slice A' l.length B]:=h9.eval (by rw[C.size];decide);have e4:d.eval (.tmp 4)=.pointer (some ⟨b,0,none⟩):=by
   rw[C.ev (x := .tmp 4) (v := .one (.p 2 0)) δ];show Value.pointer (some ⟨(Z 2).1,(Z 2).2+0,none⟩)=_;rw[←hb,x2]
  obtain⟨cs,E0,c1,c2,c3⟩:=(N.keep hk (fun h=>h)).all (vs:=[Value.slice A' l.length B]) rfl;refine bF rfl fun K Q=>?_
  unfold Oper.wp;rw[cY (vs:=[Value.slice A' l.length B]) (b:=b) (off:=0) (x := .tmp 4) (y := .tmp 9) (cs:=cs) (E0:=E0) rfl e4 (by rw[e9];rfl) (fun u L=>by obtain rfl:=ρ.1 L;rfl) δ (Nat.one_pos) c1 (by simpa using c2)];have I:aD (fun g=>g=b) w' (w'.setRow b (bk cs 0 [Value.slice A' l.length B])):=ch _ _ _ rfl;refine Q _ _ (ln (kB ?_));have f4:Has (wiS AA A.length cA x |>.put 16 { a:=fun _=>A',n:=fun j=>match j with|0=>l.length|_=>B }) Z 10 [(4,.one (.p 2 0))] d:=(C.sub δ).on (aQ _ 16 _) δ;have hM:fP (wiS AA A.length cA x |>.put 16 { a:=fun _=>A',n:=fun j=>match j with|0=>l.length|_=>B }) Z [(2,[.sl 16 16 17])] (w'.setRow b (bk cs 0 [Value.slice A' l.length B])):=Row.memF (b:=b) (Prod.ext hb.symm x2) c3;refine oK (t:=4) (r:=2) (E:=119) (v := .ag [.sl 16 16 17]) rfl f4 rfl δ hM (H.defers.trans (W.agree.defers.trans hd)) ?_;rw[hR];refine⟨_,l,rfl,aJ.r (aJ.keep (D b (.inr rfl)) I),fun q U=>aJ.other (aJ.keep (D b (.inr rfl)) I) fun h0 g n c L=>?_,Y,q4,aS (W.keep.trans hk fun _ _ h=>h) I fun g hg=>by rw[show g=b from hg];exact x3⟩;obtain⟨A2,af,e1,_,_,e2⟩:=D q (.inl U);obtain⟨g',e3,_,e4,_⟩:=e2 h0;have L:Value.slice A' l.length B=.slice (some ⟨g,0,none⟩) n c:=L;rw[e1,e3]at L
  cases L
  exact e4
theorem ml{A:List Sp}{uA:Value}{x:Sp}(hA:au w uA A)(pA:dP A)(V:XOk x):Calls Tryz.prog 53 #[.agg #[uA],.agg #[.int .u64 x.1,.int .u64 x.2]] w (ip w fun q=>aW A q∧¬ (x.1≤q∧q≤x.2)):=by
 obtain⟨R,hR⟩:∃R:Ending→World→Prop,R=ip w fun q=>aW A q∧¬ (x.1≤q∧q≤x.2):=⟨_,rfl⟩
 rw[←hR];obtain⟨AA,cA,eA,lA,al,_⟩:=id hA;subst eA;refine fnE (wiS AA A.length cA x) (fun _=>(0,0)) [.ag [.sl 1 1 2],.ag [.i .u64 (.x 0),.i .u64 (.x 1)]] Tryz.func53 Tryz.ntmps53 rfl rfl ψ H0 (fun _ h=>h.elim) trivial fun a hd hh=>?_
 refine fb (CL:={}) τ [(2,.one (.p 0 0)),(3,.one (.p 1 0)),(4,.one (.p 2 0))] [(0,[.sl 1 1 2]),(1,[.i .u64 (.x 0),.i .u64 (.x 1)]),(2,[.l (.slice none 0 0)])] 3 [] δ hh dV fun Z a1 w1 n1 W=>?_
 obtain⟨N,x2,x3⟩:=W.new.row n1.mem (r:=2) rfl ψ ψ;obtain⟨b,hb⟩:∃b,b=(Z 2).1:=⟨_,rfl⟩;rw[←hb]at N x3;have ad:∀q,aW [x] q↔x.1≤q∧q≤x.2:=fun q=>by simp[aW]
 refine wv 2 5 wiF (wiV w b x fun q=>aW A q∧¬ (x.1≤q∧q≤x.2)) hPp δ n1 zC (fun i o h2 h5 J d w' K hk C hv Q=>?_) fun o J d w' hk H C hv=>?_
 ·rcases(show i=2∨i=3∨i=4 by omega)with rfl|rfl|rfl
  ·obtain rfl:=ι J
   obtain⟨it,zt,i1,i2,i3,i4,i5⟩:=(show yv Tryz.prog 117 125 2 16 from⟨Tryz.underlying117,δ,ψ,ψ⟩).info;have e6:d.eval (.tmp 6)=.agg #[.int .u64 x.1,.int .u64 x.2]:=C.ev (x := .tmp 6) (v := .ag [.i .u64 (.x 0),.i .u64 (.x 1)]) δ;refine wp_buildSlice 117 125 1 _ rfl #[.int .u64 x.1,.int .u64 x.2] it zt Tryz.underlying117 i1 i2 (by rw[i3];decide) (by rw[i3];decide) ?_ ?_
   ·simp only[List.map_toArray,List.map_cons,List.map_nil]
    rw[i3,e6,lP 2 _ _ rfl ξ];rfl
   ·exact Q _ _ ((aD.refl _ _).alloc _) (qO (by have:=N.lt;have:=hk.size;omega) V.l1 V.l2 125)
  ·obtain⟨v,h7,O⟩:=hv 2 7 ψ ψ (by rw[show o=_ from(ι J).symm];kernel_rfl) rfl
   obtain rfl:=ι J;have O:aJ w' b v [x]:=O;unfold Oper.wp;rw[execOp_call_go,cC (f:=111) δ];have e7:d.eval (.tmp 7)=v:=h7.eval (by rw[C.size];decide);rw[show(#[]++(#[Operand.tmp 7]:Array Operand).map d.eval ++ #[]:Array Value) = #[d.eval (.tmp 7)] from ξ,e7];refine(ut O (by have:=N.lt;have:=hk.size;omega) (fun s hs=>by
    obtain rfl:=ρ.1 hs;exact⟨V.l1,V.l2⟩)).mono fun e w2 ⟨u,l,he,X,D,Y,q4⟩=>?_
   subst he;exact Q _ _ q4 ⟨u,l,rfl,aJ.r (Y b (by have:=N.lt;have:=hk.size;omega)),V.set X D,D⟩
  ·obtain⟨v,h7,O⟩:=hv 3 8 ψ ψ (by rw[show o=_ from(ι J).symm];kernel_rfl) rfl
   obtain rfl:=ι J;obtain⟨u,l,rfl,X,D,Y⟩:=(show ∃u l,v=.agg #[u]∧au w' u l∧dP l∧∀q,aW l q↔aW [x] q from O);unfold Oper.wp;rw[execOp_call_go,cC (f:=110) δ];have e8:d.eval (.tmp 8)=.agg #[u]:=h7.eval (by rw[C.size];decide);have e5:d.eval (.tmp 5)=.agg #[.slice AA A.length cA]:=C.ev (x := .tmp 5) (v := .ag [.sl 1 1 2]) δ;rw[show(#[]++(#[Operand.tmp 5,Operand.tmp 8]:Array Operand).map d.eval ++ #[]:Array Value) = #[d.eval (.tmp 5),d.eval (.tmp 8)] from ξ,e5,e8];refine(fw (hA.keep (W.keep.trans hk fun _ _ h=>h)) X pA D).mono fun e w2 ⟨u2,l2,he,y1,y2,y3,y4,y5⟩=>?_
   subst he;refine Q _ _ y5 ⟨u2,l2,rfl,y1,fun q U=>y2 q ?_,y3,fun q=>(y4 q).trans (by simp only[Y,ad])⟩;have:=N.lt;have:=hk.size;have:=W.keep.size
   rcases U with U|U<;>omega
 ·obtain⟨v,h9,ac⟩:=hv 4 9 ψ ψ rfl
  obtain rfl:=ι J;obtain⟨u,l,rfl,X,D,Y,q4⟩:=(show ∃u l,v=.agg #[u]∧au w' u l∧(∀q,q<w.heap.size∨q=b→aJ w' q u l)∧dP l∧∀q,aW l q↔aW A q∧¬ (x.1≤q∧q≤x.2) from ac);obtain⟨A',B,rfl,_⟩:=id X;have e9:d.eval (.tmp 9)=.agg #[.slice A' l.length B]:=h9.eval (by rw[C.size];decide);have e4:d.eval (.tmp 4)=.pointer (some ⟨b,0,none⟩):=by
   rw[C.ev (x := .tmp 4) (v := .one (.p 2 0)) δ];show Value.pointer (some ⟨(Z 2).1,(Z 2).2+0,none⟩)=_;rw[←hb,x2]
  obtain⟨cs,E0,c1,c2,c3⟩:=(N.keep hk (fun h=>h)).all (vs:=[Value.slice A' l.length B]) rfl;refine bF rfl fun K Q=>?_
  unfold Oper.wp;rw[cY (vs:=[Value.slice A' l.length B]) (b:=b) (off:=0) (x := .tmp 4) (y := .tmp 9) (cs:=cs) (E0:=E0) rfl e4 (by rw[e9];rfl) (fun u L=>by obtain rfl:=ρ.1 L;rfl) δ (Nat.one_pos) c1 (by simpa using c2)];have I:aD (fun g=>g=b) w' (w'.setRow b (bk cs 0 [Value.slice A' l.length B])):=ch _ _ _ rfl;refine Q _ _ (ln (kB ?_));have f4:Has (wiS AA A.length cA x |>.put 16 { a:=fun _=>A',n:=fun j=>match j with|0=>l.length|_=>B }) Z 10 [(4,.one (.p 2 0))] d:=(C.sub δ).on (aQ _ 16 _) δ;have hM:fP (wiS AA A.length cA x |>.put 16 { a:=fun _=>A',n:=fun j=>match j with|0=>l.length|_=>B }) Z [(2,[.sl 16 16 17])] (w'.setRow b (bk cs 0 [Value.slice A' l.length B])):=Row.memF (b:=b) (Prod.ext hb.symm x2) c3;refine oK (t:=4) (r:=2) (E:=119) (v := .ag [.sl 16 16 17]) rfl f4 rfl δ hM (H.defers.trans (W.agree.defers.trans hd)) ?_;rw[hR];refine⟨_,l,rfl,aJ.r (aJ.keep (D b (.inr rfl)) I),fun q U=>aJ.other (aJ.keep (D b (.inr rfl)) I) fun h0 g n c L=>?_,Y,q4,aS (W.keep.trans hk fun _ _ h=>h) I fun g hg=>by rw[show g=b from hg];exact x3⟩;obtain⟨A2,af,e1,_,_,e2⟩:=D q (.inl U);obtain⟨g',e3,_,e4,_⟩:=e2 h0;have L:Value.slice A' l.length B=.slice (some ⟨g,0,none⟩) n c:=L;rw[e1,e3]at L
  cases L
  exact e4
end Rs
namespace Rs
open Go.RowKit Ck
variable {w w0:World} {b:Nat} {φ:Nat→Prop}
def wB(P:Program)(C:Ctx)(N:Nat)(l:List Oper)(s:St)(c:Nat)(f:FuncId)(r:Nat)(v1 v2:SV)(F1:Fr):Bool:=
 dvB P C N l s c (c+1) F1&&(Nat.beq l.length (c+2)&&match l[c]?,l[c+1]? with
  | some ⟨some d,.call ⟨.value (.func g),xs,ts⟩,ty,ps,af,gd⟩,some ⟨none,.store E (.tmp t) (.tmp y),_,_,_,none⟩ =>
   match xs.toList with
   | [.tmp x1,.tmp x2]=>Nat.beq g f&&(ga P f&&(Nat.beq y d&&(Nat.ble (d+1) N&&(Nat.beq (P.cellsOf E) 1&&((match gt (eN l ⟨some d,.call ⟨.value (.func g),xs,ts⟩,ty,ps,af,gd⟩ F1) x1 with|some v=>SV.same v v1|none=>false)&&((match gt (eN l ⟨some d,.call ⟨.value (.func g),xs,ts⟩,ty,ps,af,gd⟩ F1) x2 with|some v=>SV.same v v2|none=>false) &&
    (match gt F1 t with|some v=>SV.same v (.one (.p r 0))|none=>false)))))))
   | _=>false
  | _,_=>false)
theorem Be{S:Sta}{N:Nat}{P:Program}{C:Ctx}{H:Gh}{id:Nat}{ops:Array Oper}{rest:List Code}{Q:Exit→Act→World→Prop}{s:St}{κ:Kap}{a:Act}(c:Nat)(f:FuncId)(r:Nat)(v1 v2:SV)(F1:Fr)(φ:Nat→Prop)(w0:World)(b:Nat)(hP:P.follows .mixedOrders=true)
 (hB:wB P C N ops.toList s c f r v1 v2 F1=true)(hn:Now S κ N P C H s a w)(hκ:κ r=(b,0))(V:∃v,Row w b [v])(h0:w0.heap.size≤w.heap.size)
 (hf:∀w',Kz w w'→Calls P f #[v1.den S κ,v2.den S κ] w' (ip w' φ))
 (hQ:∀j w',Has S κ N F1 j→lW w0 b φ w'→aD (fun g=>g=b) w w'→j.defers=a.defers→wpL P Q rest j w'):wpL P Q (Code.region id ops true::rest) a w:=by
 obtain⟨l,hl⟩:∃l,l=ops.toList:=⟨_,rfl⟩;obtain rfl:ops=l.toArray:=by rw[hl]
 rw[←hl]at hB;clear hl;simp only[wB,Bool.and_eq_true]at hB;obtain⟨hd,D,L⟩:=hB;have D:=π D;split at L
 ·rename_i d g xs ts ty ps af gd E t y q1 q2 q3 e1 e2
  split at L
  ·rename_i Y Z ac
   simp only[Bool.and_eq_true]at L;obtain⟨m1,m2,m3,m4,m5,m6,m7,m8⟩:=L;have m1:=π m1;have m3:=π m3;have m4:=ω m4;have m5:=π m5;subst m1 m3;obtain rfl:xs = #[.tmp Y,.tmp Z]:=Array.ext' ac;obtain⟨v,hv⟩:=V;refine wv c (c+1) F1 (fun _ w' u'=>∃u l,u'=.agg #[u]∧au w' u l∧(∀q,q<w.heap.size→aJ w' q u l)∧dP l∧∀q,aW l q↔φ q) hP hd hn (fun _ w' an _ hk ⟨u,l,h1,h2,h3,h4⟩=>⟨u,l,h1,h2.keep hk,fun q hq=>aJ.keep (h3 q hq) (hk.mono fun _ _ h=>h.elim),h4⟩) (fun i o h2 h5 U j w' K hk J X hK=>?_) fun o U j w' hk I J X=>?_
   ·obtain rfl:i=c:=χ
    rw[e1]at U;obtain rfl:=ι U;unfold Oper.wp;rw[execOp_call_go,cC m2];have k1:j.eval (.tmp Y)=v1.den S κ:=by
     split at m6
     ·rename_i v' B
      rw[J.ev (x := .tmp Y) B,SV.same_ok m6]
     ·cases m6
    have k2:j.eval (.tmp Z)=v2.den S κ:=by
     split at m7
     ·rename_i v' B
      rw[J.ev (x := .tmp Z) B,SV.same_ok m7]
     ·cases m7
    rw[show(#[]++(#[Operand.tmp Y,Operand.tmp Z]:Array Operand).map j.eval ++ #[]:Array Value) = #[j.eval (.tmp Y),j.eval (.tmp Z)] from ξ,k1,k2];refine(hf w' hk).mono fun e w2 ⟨u2,l2,he,y1,y2,y3,y4,y5⟩=>?_
    subst he;exact hK _ _ y5 ⟨u2,l2,rfl,y1,fun q hq=>y2 q (by have:=hk.size;omega),y3,y4⟩
   ·have O:aN l c=some y:=by unfold aN;rw[e1];rfl
    obtain⟨v',h9,u,l2,rfl,z1,z2,z3,z4⟩:=X c y (Γ _) (Nat.lt_succ_self _) O;rw[e2]at U;obtain rfl:=ι U;have ad:j.eval (.tmp y)=.agg #[u]:=h9.eval (by rw[J.size];exact m4);have ht:j.eval (.tmp t)=.pointer (some ⟨b,0,none⟩):=by
     split at m8
     ·rename_i v' B
      rw[J.ev (x := .tmp t) B,SV.same_ok m8];show Value.pointer (some ⟨(κ r).1,(κ r).2+0,none⟩)=_;rw[hκ]
     ·cases m8
    obtain⟨cs,E0,c1,c2,c3⟩:=(hv.keep hk (fun h=>h)).all (vs:=[u]) rfl;refine bF rfl fun K hK=>?_
    unfold Oper.wp;rw[cY (P:=P) (vs:=[u]) (b:=b) (off:=0) (cs:=cs) (E0:=E0) (x := .tmp t) (y := .tmp y) rfl ht (by rw[ad];rfl) (fun x hx=>by
     obtain rfl:=ρ.1 hx;obtain⟨A,c,rfl,_⟩:=z1;rfl) m5 Nat.one_pos c1 (by simpa using c2)]
    have R:aD (fun g=>g=b) w' (w'.setRow b (bk cs 0 [u])):=ch _ _ _ rfl;have W:=aJ.keep (z2 b hv.lt) R;refine hK _ _ (ln (hQ _ _ J ⟨u,l2,c3,aJ.r W,fun q hq=>aJ.other W fun h0 g n c hu e=>?_,z3,z4⟩ ((hk.mono fun _ _ h=>h.elim).trans R fun _ _ h=>h) I.defers));obtain⟨A2,al,e3,_,_,e4⟩:=z2 q χ;obtain⟨g',e5,_,e6,_⟩:=e4 h0;rw[e3,e5]at hu
    cases hu
    exact e6 e
  ·cases L
 ·cases L
theorem qu{a s:Nat}(j:a%4096=0)(l:s%4096=0)(d:a<lim):XOk (cS a s):=by
 refine⟨(xD d).1,(xD d).2,fun h=>?_⟩;unfold cS at h⊢;split at h
 ·simp at h
 ·rename_i g
  rw[if_neg g];simp only;omega
structure SlE where
 A:Option Addr
 n:Nat
 c:Nat
def slD(e:SlE):Sta where
 a _:=e.A
 n j:=match j with|0=>0|1=>e.n|_=>e.c
def dB(w0:World)(b:Nat)(φ:Nat→Prop)(e:SlE)(w:World):Prop:=Row w b [.slice e.A e.n e.c]∧∃l,e.n=l.length∧au w (.slice e.A e.n e.c) l∧(∀q,q<w0.heap.size→aJ w q (.slice e.A e.n e.c) l)∧dP l∧∀q,aW l q↔φ q
theorem dB.keep{w':World}{e:SlE}(hk:Kz w w')(h:dB w0 b φ e w):dB w0 b φ e w':=by
 obtain⟨d,l,g,j,u,v⟩:=h;exact⟨d.keep hk id,l,g,j.keep hk,fun q x=>aJ.keep (u q x) (hk.mono fun _ _ h=>h.elim),v⟩
theorem lW.e(h:lW w0 b φ w):∃e,dB w0 b φ e w:=by
 obtain⟨u,l,g,d,j,q⟩:=h;obtain⟨A,c,rfl,_⟩:=id d;exact⟨⟨A,l.length,c⟩,g,l,rfl,d,j,q⟩
theorem dB.nil(h:Row w b [.slice none 0 0])(d:∀q,¬ φ q):dB w0 b φ ⟨none,0,0⟩ w:=
 ⟨h,[],rfl,⟨none,0,rfl,Γ _,ξ,fun h=>by cases h⟩,fun _ _=>⟨none,0,rfl,Γ _,ξ,fun h=>by cases h⟩,sP,fun q=>⟨fun⟨_,h,_⟩=>(by cases h),fun h=>absurd h (d q)⟩⟩
theorem jq{w':World}{u:Value}{l:List Sp}(h:∀q,q<w0.heap.size→aJ w q u l)(B:b<w0.heap.size)(hk:aD (fun g=>g=b) w w'):au w' u l∧∀q,q<w0.heap.size→aJ w' q u l:=by
 have d:=aJ.keep (h b B) hk;refine⟨aJ.r d,fun q C=>aJ.other d fun y g n c j e=>?_⟩;obtain⟨A,c2,v,_,_,x⟩:=h q C;obtain⟨D,e3,_,e4,_⟩:=x y;rw[v,e3]at j
 cases j
 exact e4 e
structure BM (P:aF):Prop where
 Qe:∀r∈P.QD,r.Q7%4096=0∧r.size%4096=0
 reg:∀x∈P.Q3,x.size%4096=0∧(x.fixed=true→x.Q7%4096=0)
def kV(P:aF)(k:Nat):Nat→Prop:=fun q=>∃r∈P.QD.take k,rng r.Q7 r.size q
theorem qV{P:aF}{k:Nat}{x:Ck.Ram}(g:P.QD[k]?=some x)(q:Nat):kV P (k+1) q↔kV P k q∨rng x.Q7 x.size q:=by
 unfold kV;rw[List.take_add_one,g];constructor
 ·rintro⟨r,d,h⟩
  rcases Ω.1 d with d|d
  ·exact .inl ⟨r,d,h⟩
  ·obtain rfl:r=x:=by simpa using d
   exact .inr h
 ·rintro(⟨r,d,h⟩|h)
  ·exact⟨r,List.mem_append_left _ d,h⟩
  ·exact⟨x,List.mem_append_right _ ξ,h⟩
def sp2(x:Sp):Sta where
 i j:=match j with|0=>x.1|_=>x.2
def rmR:Fr:=[(8,.one (.i .i64 (.ln 0))),(7,.one (.sl 0 0 12)),(1,.one (.p 0 0)),(2,.one (.p 1 0)),(3,.one (.p 2 0))]
theorem Bn{B:Nat}{v:ae}{P:aF}(h:bD B w v P)(hB:B≤w.heap.size)(D:BM P):Calls Tryz.prog 58 #[.agg (v.cells P).toArray] w (ip w (co P)):=by
 obtain⟨R,hR⟩:∃R:Ending→World→Prop,R=ip w (co P):=⟨_,rfl⟩;rw[←hR];have bd:P.QD.length≤2097152:=by obtain⟨_,_,_,_,hl,_⟩:=h.QD;exact hl
 refine fnE (cE v P) (fun _=>(0,0)) [.ag ah] Tryz.func58 Tryz.ntmps58 rfl (by rw[List.map_cons,bT h (Agr.refl _ _)];rfl) ψ H0 (fun _ h=>h.elim) trivial fun a hd hh=>?_
 refine fb (CL:={}) τ [(1,.one (.p 0 0)),(2,.one (.p 1 0))] [(0,ah),(1,[.l (.slice none 0 0)])] 2 [] δ hh dV fun L a1 w1 n1 p1=>?_
 refine fb (CL:={}) τ [(1,.one (.p 0 0)),(2,.one (.p 1 0)),(3,.one (.p 2 0))] [(0,ah),(1,[.l (.slice none 0 0)]),(2,[.l (.slice none 0 0)])] 3 [] δ n1 dV fun κ2 a2 C n2 J=>?_
 obtain⟨x1,x2,x3⟩:=p1.new.row n1.mem (r:=1) rfl ψ ψ;obtain⟨y1,y2,y3⟩:=J.new.row n2.mem (r:=2) rfl ψ ψ;have u:∀q,q<2→(L q).1<w1.heap.size:=fun q O=>by
  match q,O with
  | 0,_=>exact(n1.mem.get 0 _ rfl).1.1
  | 1,_=>exact(n1.mem.get 1 _ rfl).1.1
 have e1:κ2 1=L 1:=J.upto 1 ψ;obtain⟨b,I⟩:∃b,b=(κ2 2).1:=⟨_,rfl⟩;rw[←I]at y1 y3;have bb:κ2 2=(b,0):=Prod.ext I.symm y2;have n3:=(n2.own J 2 (l:=[.l (.slice none 0 0)]) rfl ψ ψ [(0,ah),(1,[.l (.slice none 0 0)])] (fun _=>some [.slice none 0 0]) 1 rfl δ rfl δ (fun q m hm O=>by rw[J.upto q O];exact u q O) (fun vs h=>by cases h;rfl)).1;have V:Kz w C:=p1.keep.trans J.keep fun _ _ h=>h
 refine b7 1 τ ((9,.one (.i .i64 (.c 0)))::rmR) [(0,ah),(1,[.l (.slice none 0 0)])] 3 [] hPp δ n3 fun κ3 a3 w3 n4 p3=>?_
 have H:κ3 2=(b,0):=(p3.upto 2 ψ).trans bb;have af:aD (fun g=>g=b) C w3:=p3.keep.mono fun g _ h=>by rw[I];exact h
 have b2:b<C.heap.size:=y1.lt;have ac:w.heap.size≤b:=by have:=p1.keep.size;omega
 have i0:dB C b (kV P 0) ⟨none,0,0⟩ w3:=by
  obtain⟨us,u1,u2,u3⟩:=n4.gh;rw[u3 _ rfl,←I]at u2;exact dB.nil u2 fun q ⟨r,hr,_⟩=>by simp at hr
 refine az (ow n4 P.QD.length 24 9 0 rmR τ slD (fun k e w=>dB C b (kV P k) e w) (fun _ _ _ _ hk h=>h.keep hk) ⟨none,0,0⟩ hPp δ rfl χ i0 (n4.has.re ⟨rfl,rfl,rfl,rfl,rfl,rfl,trivial⟩) (fun k e a4 K hk n5 hA hK=>?_) fun e a4 K n5 hA hK=>?_)
 ·obtain⟨x,W⟩:=ge hk
  have d:aD (fun g=>g=b) C K:=af.trans (hK.mono fun g _ h=>by rw[I];exact h) fun _ _ h=>h
  have N:Kz w K:=aS V d fun g D=>by rw[show g=b from D];exact ac
  obtain⟨g,o,h1,h2,h3⟩:=cW h.QD (aI _ _ _) hB N W;have be:g<w.heap.size:=by
   obtain⟨g',o',Y,a0,_⟩:=cW h.QD (aI _ _ _) hB (aD.refl (fun _=>False) w) W;rw[h1]at Y
   cases Y
   exact a0
  obtain⟨κ5,u5,n6⟩:=n5.elem (j:=0) (x:=kU x) (cl:=Bo 32) h1 ⟨h2,fun e=>by have e:g=(κ2 2).1:=e;rw[←I]at e;omega⟩ hk h3.1 rfl δ;refine aY (b7 1 τ ((5,.one (.p 4 0))::fx 24 9 rmR) [(4,Bo 32)] 5 [] hPp δ n6 fun κ6 a6 w6 X p6=>?_);have al:κ6 2=(b,0):=(p6.upto 2 ψ).trans ((u5 2 ψ).trans H);have Q:=h3.2;have n8:=X.lay 48 (sp2 (cS x.Q7 x.size)) δ;have n9:=(n8.more [] [(54,[.one (.i .u64 (.x 33)),.one (.i .u64 (.x 34))],.ag [.i .u64 (.x 48),.i .u64 (.x 49)])] [] dg (fun y hy w' hw=>by
   obtain rfl:=ρ.1 hy;exact rf x.Q7 x.size Q.2.1 Q.2.2 w') (fun i x W=>by cases W)).ghm [(2,[.sl 24 25 26])] fun es w' hw D=>Row.memF al D.1
  obtain⟨r1,l,r2,r3,r4,r5,r6⟩:=(show dB C b (kV P k) e w6 from X.gh);have ad:=D.Qe x (γ W);refine Be 6 63 2 (.ag [.sl 24 25 26]) (.ag [.i .u64 (.x 48),.i .u64 (.x 49)]) ((13,.ag [.sl 24 25 26])::(18,.ag [.i .u64 (.x 48),.i .u64 (.x 49)])::fx 24 9 rmR) (kV P (k+1)) C b hPp δ n9 al ⟨_,r1⟩ (by have:=d.size;have:=p6.keep.size;omega) (fun w' hw=>?_) fun a7 w7 f7 g7 k7 d7=>cM rfl ?_
  ·refine(ni (r3.keep hw) r5 (qu ad.1 ad.2 Q.2.1)).mono fun e2 bf ⟨u2,l2,z1,z2,z3,z4,z5,z6⟩=>⟨u2,l2,z1,z2,z3,z4,fun q=>(z5 q).trans ?_,z6⟩
   rw[qV W,←r6,←rd]
  ·obtain⟨e',a8⟩:=g7.e
   refine⟨e',κ6,a8,fun r hr=>(p6.upto r (by show r<4;omega)).trans (u5 r hr),f7.re ⟨rfl,rfl,rfl,rfl,rfl,rfl,trivial⟩,?_,?_⟩
   ·exact hA.trans (p6.agree.trans ⟨f7.size.trans X.has.size.symm,d7,fun _ h=>by cases h⟩ fun _ h=>h) fun _ h=>h
   ·exact hK.trans ((p6.keep.mono fun _ _ h=>h).trans (k7.mono fun g _ h=>by show g=(κ2 2).1;rw[←I];exact h) fun _ _ h=>h) fun _ _ h=>h
 ·have d:aD (fun g=>g=b) C K:=af.trans (hK.mono fun g _ h=>by rw[I];exact h) fun _ _ h=>h
  obtain⟨r1,l,r2,r3,r4,r5,r6⟩:=(show dB C b (kV P P.QD.length) e K from n5.gh);have U:κ3 1=L 1:=(p3.upto 1 ψ).trans e1;have a9:(L 1).1<C.heap.size:=by have:=u 1 ψ;have:=J.keep.size;omega
  have Z:(L 1).1≠b:=by have:=u 1 ψ;omega
  have n6:=((n5.mute H0 [(1,[.l (.slice none 0 0)])] [] δ (fun _ _ _ h=>h) (fun _ h=>h.elim) trivial).row 2 [.sl 24 25 26] (by rw[H]) (by rw[H];exact r1));have xz:Row K (κ3 1).1 [.slice none 0 0]:=by
   rw[U];exact(x1.keep J.keep (fun h=>h)).keep d Z
  refine lr (CL:={}) 1 1 [2] τ [(2,.one (.p 1 0))] [(1,[.sl 24 25 26])] 3 [] δ n6 dV (fun _=>xz.some) (fun q O=>by
   obtain rfl:=ρ.1 O;rw[H,U];exact⟨r1.lt,fun _ e=>Z e.symm⟩) (fun _ _ _ _ _ _ _=>trivial) fun κ5 a5 w5 X u7 k7 g7 _ _=>kB ?_
  have bc:κ5 1=L 1:=(u7 1 ψ).trans U;refine oK (t:=2) (r:=1) (E:=119) (v := .ag [.sl 24 25 26]) rfl X.has rfl δ X.mem.f (g7.defers.trans (hA.defers.trans (p3.agree.defers.trans (J.agree.defers.trans (p1.agree.defers.trans hd))))) ?_;rw[hR];have an:aD (fun g=>g=(L 1).1) K w5:=k7.mono fun g _ h=>by rcases h with h|h;exact h.elim;rw[bc]at h;exact h
  obtain⟨z1,z2⟩:=jq r4 a9 an;refine⟨.slice e.A e.n e.c,l,rfl,z1,fun q O=>z2 q (by have:=V.size;omega),r5,fun q=>(r6 q).trans ?_,?_⟩
  ·unfold kV co
   rw[List.take_length]
  ·have N:Kz w K:=aS V d fun g D=>by rw[show g=b from D];exact ac
   exact aS N an fun g D=>by rw[show g=(L 1).1 from D];exact x3
end Rs
namespace Rs
open Go.RowKit Ck
def wF(w:World)(u:Value)(l:List Nat):Prop:=∃A c,u=.slice A l.length c∧l.length≤c∧l.length≤4194304∧(0<l.length→∃g,A=some ⟨g,0,none⟩∧g<w.heap.size∧∀(i x:Nat),l[i]?=some x→w.cell? ⟨g,i,none⟩=some (.int .u64 x))
theorem wF.keep{w w':World}{u:Value}{l:List Nat}(h:wF w u l)(hk:Kz w w'):wF w' u l:=by
 obtain⟨A,c,e,q,v,y⟩:=h;refine⟨A,c,e,q,v,fun j=>?_⟩;obtain⟨g,e,d,B⟩:=y j;exact⟨g,e,Θ d hk.size,fun i x C=>(hk.cell (p:=⟨_,_,none⟩) d id).trans (B i x C)⟩
theorem AF{w:World}{Z:Nat}{u:Value}{l:List Nat}(h:w.ownsRow Z 41 1 u l.length (l.map fun(x:Nat)=>Value.int .u64 x))(y:l.length≤4194304):wF w u l:=by
 rcases h.2 with⟨j,q⟩|⟨g,C,d,j,q,v,D,H,I,E⟩
 ·exact⟨none,0,by rw[j,q],χ,y,fun h=>χ⟩
 ·refine⟨_,_,j,D,y,fun _=>⟨g,rfl,fh v,fun i x B=>?_⟩⟩
  refine ji v ?_;have hi:=(ο.1 B).1;have:(d.toList.take (l.length*1))[i]?=some (Value.int .u64 (x:Nat)):=by rw[E,List.getElem?_map,B];rfl
  rw[List.getElem?_take_of_lt χ,Array.getElem?_toList]at this;exact this
def lL(P:aF)(k:Nat):Nat→Prop:=fun q=>co P q∧∀x∈P.Q3.take k,x.fixed=true→¬ rng x.Q7 x.size q
theorem ou{P:aF}{k:Nat}{x:Ck.Region}(l:P.Q3[k]?=some x)(q:Nat):lL P (k+1) q↔lL P k q∧(x.fixed=true→¬ rng x.Q7 x.size q):=by
 unfold lL;rw[List.take_add_one,l];constructor
 ·rintro⟨h,g⟩
  exact⟨⟨h,fun y d=>g y (List.mem_append_left _ d)⟩,g x (List.mem_append_right _ ξ)⟩
 ·rintro⟨⟨h,g⟩,j⟩
  refine⟨h,fun y d=>?_⟩
  rcases Ω.1 d with d|d
  ·exact g y d
  ·obtain rfl:y=x:=by simpa using d
   exact j
def frR:Fr:=[(10,.one (.i .i64 (.ln 2))),(9,.one (.sl 2 2 14)),(1,.one (.p 0 0)),(2,.one (.p 1 0)),(3,.one (.p 2 0))]
theorem tR{B:Nat}{w:World}{v:ae}{P:aF}(h:bD B w v P)(hB:B≤w.heap.size)(C:BM P):Calls Tryz.prog 50 #[.agg (v.cells P).toArray] w (ip w (ay P)):=by
 obtain⟨R,hR⟩:∃R:Ending→World→Prop,R=ip w (ay P):=⟨_,rfl⟩;rw[←hR];have bs:P.Q3.length≤2097152:=by obtain⟨_,_,_,_,V,_⟩:=h.Q3;exact V
 refine fnE (cE v P) (fun _=>(0,0)) [.ag ah] Tryz.func50 Tryz.ntmps50 rfl (by rw[List.map_cons,bT h (Agr.refl _ _)];rfl) ψ H0 (fun _ h=>h.elim) trivial fun a hd hh=>?_
 refine fb (CL:={}) τ [(1,.one (.p 0 0)),(2,.one (.p 1 0))] [(0,ah),(1,[.l (.slice none 0 0)])] 2 [] δ hh dV fun Q a1 N n1 p1=>?_
 obtain⟨x1,x2,x3⟩:=p1.new.row n1.mem (r:=1) rfl ψ ψ;refine sF 1 58 [.ag ah] (.ag [.sl 24 25 26]) 24 (fun d w2=>∃e:SlE,d=slD e∧∃l,e.n=l.length∧au w2 (.slice e.A e.n e.c) l∧(∀q,q<N.heap.size→aJ w2 q (.slice e.A e.n e.c) l)∧dP l∧∀q,aW l q↔co P q) τ [(1,.one (.p 0 0)),(2,.one (.p 1 0)),(3,.one (.p 2 0))] [(0,ah),(1,[.l (.slice none 0 0)]),(2,[.sl 24 25 26])] 3 δ n1 (fun w' al=>?_) fun κ2 a2 w2 d wt ⟨e0,bf,l0,l1,l2,l3,l4,l5⟩ kt n2 Z=>?_
 ·rw[List.map_cons,bT h (Agr.refl _ _)]
  have hk:=K3 p1.keep al;refine(Bn (bD.kept h hB hk) (by have:=hk.size;omega) C).mono fun e bp ⟨u,l,y1,y2,y3,y4,y5,y6⟩=>?_
  obtain⟨A',c',rfl,_⟩:=id y2;exact⟨_,⟨⟨A',l.length,c'⟩,rfl,l,rfl,y2,fun q W=>y3 q (by have:=al.size;omega),y4,y5⟩,y1,y6⟩
 subst bf;obtain⟨y1,y2,y3⟩:=Z.new.row n2.mem (r:=2) rfl ψ ψ;obtain⟨b,hb⟩:∃b,b=(κ2 2).1:=⟨_,rfl⟩;rw[←hb]at y1 y3;have bm:κ2 2=(b,0):=Prod.ext hb.symm y2;have H:∀q,q<2→(Q q).1<N.heap.size:=fun q W=>by
  match q,W with
  | 0,_=>exact(n1.mem.get 0 _ rfl).1.1
  | 1,_=>exact(n1.mem.get 1 _ rfl).1.1
 have e1:κ2 1=Q 1:=Z.upto 1 ψ;have bd:Kz w w2:=p1.keep.trans Z.keep fun _ _ h=>h
 refine b7 1 τ ((11,.one (.i .i64 (.c 0)))::frR) [(0,ah),(1,[.l (.slice none 0 0)]),(2,[.sl 24 25 26])] 3 [] hPp δ n2 fun κ3 a3 w3 n3 p3=>?_
 have K:κ3 2=(b,0):=(p3.upto 2 ψ).trans bm;have an:w.heap.size≤b:=by have:=p1.keep.size;omega
 have bt:N.heap.size≤b:=y3;have I:=y1.keep p3.keep (fun h=>h);have n4:=n3.mute (gB b 1 fun _=>none) [(0,ah),(1,[.l (.slice none 0 0)])] [] δ (fun r l V e=>by
  have e:(κ3 r).1=b:=e;have hr:r<2:=by
   rw[cL]at V;split at V
   ·omega
   ·rw[cL]at V
    split at V
    ·omega
    ·cases V
  rw[p3.upto r (by show r<3;omega),Z.upto r hr]at e;have:=H r hr;omega) (fun g C=>by rw[show g=b from C];exact I.lt) ⟨_,rfl,I,fun vs h=>by cases h⟩
 have a8:aD (fun g=>g=b) w2 w3:=p3.keep.mono fun g _ h=>h.elim
 have i0:dB N b (lL P 0) e0 w3:=by
  have bc:Kz wt w3:=kt.trans p3.keep fun _ _ h=>h
  exact⟨I,l0,l1,l2.keep bc,fun q W=>aJ.keep (l3 q W) (bc.mono fun _ _ h=>h.elim),l4,fun q=>(l5 q).trans ⟨fun h=>⟨h,fun x J=>by simp at J⟩,fun h=>h.1⟩⟩
 refine az (ow n4 P.Q3.length 32 11 2 frR τ slD (fun k e w=>dB N b (lL P k) e w) (fun _ _ _ _ hk h=>h.keep hk) e0 hPp δ rfl χ i0 (n4.has.re ⟨rfl,rfl,rfl,rfl,rfl,rfl,trivial⟩) (fun k e a4 O hk n5 hA hK=>?_) fun e a4 O n5 hA hK=>?_)
 ·obtain⟨x,J⟩:=ge hk
  have D:aD (fun g=>g=b) w2 O:=a8.trans (hK.mono fun g _ h=>h) fun _ _ h=>h
  have U:Kz w O:=aS bd D fun g C=>by rw[show g=b from C];exact an
  obtain⟨g,o,h1,h2,h3⟩:=cW h.Q3 (aI _ _ _) hB U J;have bw:g<w.heap.size:=by
   obtain⟨g',o',ac,be,_⟩:=cW h.Q3 (aI _ _ _) hB (aD.refl (fun _=>False) w) J;rw[h1]at ac
   cases ac
   exact be
  obtain⟨κ5,u5,n6⟩:=n5.elem (j:=2) (x:=ly x) (cl:=nK 40) h1 ⟨h2,fun e=>by have e:g=b:=e;omega⟩ hk h3.1 rfl δ;refine aY (b7 2 τ ((5,.one (.p 4 0))::(16,.one (.b (.x 40)))::fx 32 11 frR) [(4,nK 40)] 5 [] hPp δ n6 fun κ6 a6 w6 L p6=>?_);have a9:κ6 2=(b,0):=(p6.upto 2 ψ).trans ((u5 2 ψ).trans K);have X:=h3.2;have a0:=C.reg x (γ J);obtain⟨r1,l,r2,r3,r4,r5,r6⟩:=(show dB N b (lL P k) e w6 from L.gh);have af:∀r,r<3→κ6 r=κ3 r:=fun r hr=>(p6.upto r (by show r<4;omega)).trans (u5 r hr)
  cases hfx:x.fixed with
  | false =>
   refine cG false L rfl hfx (fZ (cM rfl ?_));refine⟨e,κ6,⟨r1,l,r2,r3,r4,r5,fun q=>(r6 q).trans ?_⟩,af,L.has.re ⟨rfl,rfl,rfl,rfl,rfl,rfl,trivial⟩,hA.trans p6.agree fun _ h=>h,hK.trans p6.keep fun _ _ h=>h⟩;rw[ou J];simp[hfx]
  | true =>
   refine cG true L rfl hfx ?_;have n8:=L.lay 56 (sp2 (cS x.Q7 x.size)) δ;have n9:=(n8.more [] [(54,[.one (.i .u64 (.x 42)),.one (.i .u64 (.x 41))],.ag [.i .u64 (.x 56),.i .u64 (.x 57)])] [] dg (fun y hy w' hw=>by
    obtain rfl:=ρ.1 hy;exact rf x.Q7 x.size X.2.2.1 X.2.1 w') (fun i x J=>by cases J)).ghm [(2,[.sl 32 33 34])] fun es w' hw C=>Row.memF a9 C.1
   refine Be 6 53 2 (.ag [.sl 32 33 34]) (.ag [.i .u64 (.x 56),.i .u64 (.x 57)]) ((17,.ag [.sl 32 33 34])::(22,.ag [.i .u64 (.x 56),.i .u64 (.x 57)])::fx 32 11 frR) (lL P (k+1)) N b hPp δ n9 a9 ⟨_,r1⟩ (by have:=D.size;have:=p6.keep.size;have:=Z.keep.size;omega) (fun w' hw=>?_) fun a7 w7 f7 g7 k7 d7=>cM rfl ?_
   ·refine(ml (r3.keep hw) r5 (qu (a0.2 hfx) a0.1 X.2.2.1)).mono fun e2 bp ⟨u2,l2,z1,z2,z3,z4,z5,z6⟩=>⟨u2,l2,z1,z2,z3,z4,fun q=>(z5 q).trans ?_,z6⟩
    rw[ou J,←r6,←rd];simp[hfx]
   ·obtain⟨e',bg⟩:=g7.e
    refine⟨e',κ6,bg,af,f7.re ⟨rfl,rfl,rfl,rfl,rfl,rfl,trivial⟩,?_,?_⟩
    ·exact hA.trans (p6.agree.trans ⟨f7.size.trans L.has.size.symm,d7,fun _ h=>by cases h⟩ fun _ h=>h) fun _ h=>h
    ·exact hK.trans ((p6.keep.mono fun _ _ h=>h).trans (k7.mono fun g _ h=>h) fun _ _ h=>h) fun _ _ h=>h
 ·have D:aD (fun g=>g=b) w2 O:=a8.trans (hK.mono fun g _ h=>h) fun _ _ h=>h
  obtain⟨r1,l,r2,r3,r4,r5,r6⟩:=(show dB N b (lL P P.Q3.length) e O from n5.gh);have Y:κ3 1=Q 1:=(p3.upto 1 ψ).trans e1;have bl:(Q 1).1<N.heap.size:=H 1 ψ;have ad:(Q 1).1≠b:=by have:=H 1 ψ;omega
  have n6:=((n5.mute H0 [(1,[.l (.slice none 0 0)])] [] δ (fun _ _ _ h=>h) (fun _ h=>h.elim) trivial).row 2 [.sl 32 33 34] (by rw[K]) (by rw[K];exact r1));have xz:Row O (κ3 1).1 [.slice none 0 0]:=by
   rw[Y];exact(x1.keep Z.keep (fun h=>h)).keep D ad
  refine lr (CL:={}) 1 1 [2] τ [(2,.one (.p 1 0))] [(1,[.sl 32 33 34])] 3 [] δ n6 dV (fun _=>xz.some) (fun q W=>by
   obtain rfl:=ρ.1 W;rw[K,Y];exact⟨r1.lt,fun _ e=>ad e.symm⟩) (fun _ _ _ _ _ _ _=>trivial) fun κ5 a5 w5 L u7 k7 g7 _ _=>kB ?_
  have bo:κ5 1=Q 1:=(u7 1 ψ).trans Y;refine oK (t:=2) (r:=1) (E:=119) (v := .ag [.sl 32 33 34]) rfl L.has rfl δ L.mem.f (g7.defers.trans (hA.defers.trans (p3.agree.defers.trans (Z.agree.defers.trans (p1.agree.defers.trans hd))))) ?_;rw[hR];have bb:aD (fun g=>g=(Q 1).1) O w5:=k7.mono fun g _ h=>by rcases h with h|h;exact h.elim;rw[bo]at h;exact h
  obtain⟨z1,z2⟩:=jq r4 bl bb;refine⟨.slice e.A e.n e.c,l,rfl,z1,fun q W=>z2 q (by have:=p1.keep.size;omega),r5,fun q=>(r6 q).trans ?_,?_⟩
  ·unfold lL ay
   rw[List.take_length]
  ·have U:Kz w O:=aS bd D fun g C=>by rw[show g=b from C];exact an
   exact aS U bb fun g C=>by rw[show g=(Q 1).1 from C];exact x3
end Rs
section
open Go.RowKit Go.IntWalk Ck
variable {w:World} {pb B:Nat} {L:List Wr}
theorem mt(a s:Nat):IntKind.u64.wrap (IntKind.u64.wrap ((a:Int)+(s:Int))-1)=(cz a s:Int):=by
 rw[IntKind.wrap_u64,IntKind.wrap_u64];show _=(((a+s+(18446744073709551616-1))%18446744073709551616:Nat):Int);omega
def kU(l:List Ck.Ram):List Sp:=l.map fun x=>(x.Q7,cz x.Q7 x.size)
def jA(P:aF):List Sp:=kU P.QD
theorem aJ.set{z:Nat}{u v:Value}{l:List Sp}(h:aJ w pb u l)(y:aJ w z u l):aJ (w.setCell ⟨z,0,none⟩ v) pb u l:=by
 obtain⟨A,c,rfl,B,C,D⟩:=h;obtain⟨_,_,e,_,_,E⟩:=y
 cases e
 refine⟨A,c,rfl,B,C,fun j=>?_⟩;obtain⟨g,rfl,d,I,H⟩:=D j;obtain⟨_,e,_,q,_⟩:=E j
 cases e
 have hk:aD (fun k=>k=z) w (w.setCell ⟨z,0,none⟩ v):=aD.setCell (S:=fun k=>k=z) (aD.refl _ _) (fun _=>rfl) v;refine⟨g,rfl,Θ d hk.size,I,fun i s J=>?_⟩;obtain⟨c1,c2,x⟩:=H i s J;exact⟨(hk.cell (p:=⟨g,i*2,none⟩) d q).trans c1,(hk.cell (p:=⟨g,i*2+1,none⟩) d q).trans c2,x⟩
theorem tL{v:ae}{P:aF}{W:Int→Int}(h:aG B w pb v P W L)(a:Act)(bm:a.tmps.size=31)(h0:At a 0 (.pointer (some ⟨pb,0,none⟩)))(h3:At a 3 (.slice none 0 0))(Q:Exit→Act→World→Prop)
 (hQ:∀a' w' Y,aE (fun i=>i==3||(rg 5 28 i)) a a'→At a' 3 Y→w'.ownsRow w.heap.size 125 2 Y (jA P).length (spC (jA P))→P.QD.length≤4194304→Kz w w'→Q .normal a' w'):
 (ax Tryz.f98 [1,1,0]).wp Tryz.prog Q a w:=by
 have hs:=h.QU.QD;obtain⟨A,c,hu,b3,bg,hl⟩:=hs;unfold top at bg;have b2:=h.lt;have b0:=h.base;have hq:w.cell? ⟨pb,2,none⟩=some v.QD:=h.cell rfl;rw[hu]at hq;clear hu
 conv=>arg 2;whnf
 refine so (fun y w1=>aE (fun i=>(rg 6 12 i)) a y∧At y 10 (.slice A P.QD.length c)∧At y 11 (.int .i64 P.QD.length)∧At y 12 (.int .i64 0)∧w1=w) ?_ ?_
 ·clear hl
  obtain⟨T,d⟩:=a;refine rl ?_
  iterate 7 with_reducible refine st ?_
  with_reducible refine ln ?_
  refine⟨rfl,ag,aq,aq,aq,rfl⟩
 rintro a0 w0 ⟨U,bx,bw,bs,rfl⟩;have a3:=U.size.trans bm;replace h3:=U.Q7 h3 rfl;obtain⟨Z,hZ⟩:∃z,z=w0.heap.size:=⟨_,rfl⟩;rw[←hZ]at hQ;have HZ:=hh hZ;clear hZ;refine bX P.QD.length (fun i=>i==3||i==5||(rg 12 28 i)) (fun i=>i==3||i==5||(rg 14 27 i)) (fun k a' w'=>∃u,At a' 3 u∧w'.ownsRow Z 125 2 u (kU (P.QD.take k)).length (spC (kU (P.QD.take k)))∧Kz w0 w') χ bs bw ψ rfl
  ζ χ ψ (fun k y O w K ⟨u,h1,h2⟩=>⟨u,K.Q7 h1 rfl,h2⟩) ⟨_,h3,by simpa[spC,kU]using World.ownsRow_nil _ _ _ _,aD.refl _ _⟩ ?_ ?_
 ·rintro k y wr an K bt ⟨u,J,g,hk⟩
  obtain⟨bl,off,rfl,bf,al⟩:=hl χ;obtain⟨x,hx⟩:=ge an;obtain⟨hc,bz⟩:=(aI B _ _) _ _ _ _ _ (hk.below (B:=B) χ (fun _ hi e=>e)) bf (al k x hx);have q0:=hc.c0;have q1:=hc 1 _ rfl;have q2:=hc 2 _ rfl;have a8:=K.Q7 bx rfl;have a5:=K.size.trans a3;have a6:=hk.size;have af:bl<wr.heap.size:=χ
  have b1:k≤c:=χ
  obtain⟨rs,H⟩:∃l,l=kU (P.QD.take k):=⟨_,rfl⟩;rw[←H]at g;have b4:rs.length=k:=by rw[H];simp[kU];omega
  have HR:Hid (kU (P.QD.take (k+1))=rs++[(x.Q7,cz x.Q7 x.size)]):=by
   refine hh ?_;rw[aO hx,H];simp[kU]
  have HO:=hh g;have HK:=hh hk;have HA:=hh K;clear hx g hk K al hc H hl;refine so (fun O w2=>aE (fun i=>i==14||i==15||i==5) y O∧At O 5 (.pointer (some ⟨wr.heap.size,0,none⟩))∧w2=wr.alloc (.cells #[.int .i64 x.pos,.int .u64 x.Q7,.int .u64 x.size] 91)) ?_ ?_
  ·obtain⟨T,d⟩:=y
   refine rl ?_
   iterate 4 with_reducible refine st ?_
   with_reducible refine ln ?_
   refine⟨rfl,ag,aq,rfl⟩
  rintro O wo ⟨C,bp,I⟩;obtain⟨z,hz⟩:∃z,z=wr.heap.size:=⟨_,rfl⟩;rw[←hz]at bp;have a7:aL wo z 0 [.int .i64 x.pos,.int .u64 x.Q7,.int .u64 x.size]:=by rw[I,hz];exact ap _ _ _
  have b5:z<wo.heap.size:=by rw[I,hz];simp
  have V:Kz wr wo:=by rw[I];exact(aD.refl _ _).alloc _
  have N:=C.size.trans a5;have b6:=C.Q7 J rfl;have ad:=hh (aK HO.out V (fun _ _ h=>h));have ac:=hh (HK.out.trans V (fun _ _ h=>h));have a9:Hid (aE (fun i=>i==3||i==5||(rg 14 27 i)) y O):=C.m;clear I hz V HO HK C q0 q1 q2 a8 J bt a6 af;have q1:=a7 1 _ rfl;have q2:=a7 2 _ rfl;obtain⟨p,hp⟩:∃p,p=cz x.Q7 x.size:=⟨_,rfl⟩;have hw:=mt x.Q7 x.size;rw[←hp]at hw HR;have HP:=hh hp;clear hp;refine Code.wp_only (R:=fun a4 w4=>aE (fun i=>i==3||(rg 16 27 i)) O a4∧(∃Y,At a4 3 Y∧w4.ownsRow Z 125 2 Y (rs.length+1) (spC (rs++[(x.Q7,p)])))∧Kz w0 w4) ?_ ?_
  ·obtain⟨T,d⟩:=O
   refine rl ?_
   iterate 11 with_reducible refine st ?_
   have hb:=ap wo [.int .u64 x.Q7,.int .u64 p] 125;have E:Kz wo (wo.alloc (.cells #[.int .u64 x.Q7,.int .u64 p] 125)):=(aD.refl _ _).alloc _;have bc:=hh (aK ad.out E (fun _ _ h=>h));refine md (p:=(x.Q7,p)) rfl rfl rfl (At.eval (by exact aq) (by have:=N;simp at this⊢; omega)) bc.out χ (At.eval (by exact aq) (by have:=N;simp at this⊢; omega)) hb.c0 (hb 1 _ rfl) (by have:=HZ.out;have:=E.size;have:=ac.out.size;omega) ?_;intro u2 w4 q D;have bd:=hh q;have bb:Hid (Kz w0 w4):=(ac.out.trans E (fun _ _ h=>h)).trans D (fun i hi h=>by have:=(ad.out.lt i h).1;have:=HZ.out;omega);clear q D hb E;simp only[Act.put];with_reducible refine st ?_;refine ln ?_
   refine⟨rfl,ag,⟨u2,aq,bd.out⟩,bb.out⟩
  rintro a4 w4 ⟨be,⟨Y,bo,X⟩,D⟩;refine⟨a9.out.t be,Y,bo,?_,D⟩;rw[HR.out,List.length_append];exact X
 ·rintro a' w' K ⟨u,J,g,hk⟩
  rw[List.take_length]at g;exact hQ _ _ _ ((U.m).t K) J g χ hk
theorem vU{v:ae}{P:aF}{W:Int→Int}(h:aG B w pb v P W L):
 Calls Tryz.prog 98 #[.pointer (some ⟨pb,0,none⟩)] w fun e w'=>∃u' l,e=.returned (.agg #[u'])∧dS l∧(∀p,aW l p↔aW (jA P) p)∧(∀q,q<w.heap.size→aJ w' q u' l)∧Kz w w':=by
 have HH:=hh h;have bw:=h.lt;have Q:∀s∈jA P,s.1<lim∧s.2<lim:=by
  intro s hs;obtain⟨x,hx,rfl⟩:=List.mem_map.1 hs;obtain⟨A,c,_,_,_,hl⟩:=h.QU.QD;obtain⟨bl,off,_,_,bb⟩:=hl (List.length_pos_of_mem hx);obtain⟨k,hk⟩:=List.getElem?_of_mem hx;have ok:=(bb k x hk).2;exact⟨ok.2.1,Nat.mod_lt _ ψ⟩
 have ad:=hh Q;clear h Q;refine bL Tryz.func98 Tryz.ntmps98 rfl ξ fun a bs bd C=>?_
 have h0:At a 0 (.pointer (some ⟨pb,0,none⟩)):=C 0 _ rfl;clear C
 conv=>arg 2;whnf
 refine so (fun a1 U=>aE (fun i=>i==2) a a1∧At a1 2 (.pointer (some ⟨w.heap.size,0,none⟩))∧U=w.alloc (.cells #[.slice none 0 0] 119)) ?_ ?_
 ·obtain⟨T,d⟩:=a
  refine rl ?_;with_reducible refine st ?_;refine ln ?_
  refine⟨rfl,ag,aq,rfl⟩
 rintro a1 U ⟨H,k2,E⟩;have j:Kz w U:=by rw[E];exact(aD.refl _ _).alloc _
 obtain⟨z,Y⟩:∃z,z=w.heap.size:=⟨_,rfl⟩;rw[←Y]at k2;have bt:U.cell? ⟨z,0,none⟩=some (.slice none 0 0):=by rw[E,Y];exact ap w [.slice none 0 0] 119 0 _ rfl
 have be:U.frozen? ⟨z,0,none⟩=false:=by
  have bm:U.heap[z]?=some (.cells #[.slice none 0 0] 119):=by rw[E,Y];exact Array.getElem?_push_size
  simp[World.frozen?,bm]
 have X:z<U.heap.size:=by rw[E,Y];simp
 have HZ:Hid (z=w.heap.size):=Y;have a8:=H.size.trans bs;have af:=H.defers.trans bd;have j0:=H.Q7 h0 rfl;clear E Y;refine so (fun a2 w2=>aE (fun i=>i==3) a1 a2∧At a2 3 (.slice none 0 0)∧w2=U) ?_ ?_
 ·obtain⟨T,d⟩:=a1
  refine rl ?_;with_reducible refine st ?_;refine ln ?_
  refine⟨rfl,ag,aq,rfl⟩
 rintro a2 w2 ⟨y,k3,rfl⟩;have R:=y.size.trans a8;have a4:pb<w2.heap.size:=by have:=j.size;omega
 refine wp_seq (tL (HH.out.new j) a2 R (y.Q7 j0 rfl) k3 _ (fun a3 w3 u3 I l3 D bo g=>?_));have a9:=I.size.trans R;have m2:=I.Q7 (y.Q7 k2 rfl) rfl;have al:=I.defers.trans (y.defers.trans af);have a5:(jA P).length≤4194304:=by unfold jA kU;rw[List.length_map];exact bo
 have O:pb<w3.heap.size:=by have:=g.size;omega
 have HC:=hh (ut (dK D a5 a4 ad.out) O ad.out);have x3:=(g.cell (p:=⟨z,0,none⟩) X (fun h=>h)).trans bt;have f3:=(g.frozen (p:=⟨z,0,none⟩) X (fun h=>h)).trans be;have N:z<w3.heap.size:=Θ X g.size;have ac:=hh (j.trans g (fun _ _ h=>h));have bx:pb≠z:=by have:=HZ.out;omega
 clear D g I y H j;refine so (fun a7 w7=>At a7 2 (.pointer (some ⟨z,0,none⟩))∧a7.tmps.size=31∧a7.defers=[]∧∃u' l Z,w7=Z.setCell ⟨z,0,none⟩ u'∧dS l∧(∀p,aW l p↔aW (jA P) p)∧(∀q,q<w3.heap.size→aJ Z q u' l)∧Kz w3 Z) ?_ ?_
 ·obtain⟨T,d⟩:=a3
  refine rl ?_;with_reducible refine st ?_;refine Lz (fun K hK=>?_)
  go_simp;refine HC.out.mono ?_;rintro e Z ⟨u6,l6,rfl,j,an,g,J⟩;have H1:=hh j;have H2:=hh an;have H3:=hh g;have H4:=hh J;obtain⟨A6,c6,rfl,_⟩:=g pb O;have x6:=(J.cell (p:=⟨z,0,none⟩) N (fun h=>h)).trans x3;have f6:=(J.frozen (p:=⟨z,0,none⟩) N (fun h=>h)).trans f3;clear j an J x3 f3;with_reducible refine hK _ _ ?_;clear hK K;refine st ?_;refine ln ?_
  refine⟨rfl,?_,by simpa using a9,al,_,l6,Z,rfl,H1.out,H2.out,H3.out,H4.out⟩;exact At.ne (At.ne m2 ψ) ψ
 rintro a7 w7 ⟨h2,bp,bc,u6,l6,Z,V,bg,bf,a6,a0⟩;refine wp_ret ?_;have x6:=(a0.cell (p:=⟨z,0,none⟩) N (fun h=>h)).trans x3;refine sQ (u:=u6) rfl h2 (by rw[bp];decide) ?_ bc ⟨u6,l6,rfl,bg,bf,fun q hq=>?_,?_⟩
 ·rw[V];exact World.cell?_setCell_same _ _ _ x6
 ·rw[V];exact aJ.set (a6 q (by have:=ac.out.size;omega)) (a6 z N)
 ·rw[V];exact((ac.out.trans a0 (fun _ _ h=>h))).setCell (fun h=>by have:=HZ.out;have h:z<w.heap.size:=h;omega) _
theorem zh{v:ae}{P:aF}(h:aG B w pb v P fB L){z:Nat}{x:Ck.Region}(g:aL w z 0 [.int .i64 x.pos,.string x.name,.int .u64 x.size,.bool x.fixed,.int .u64 x.Q7,.bool x.big,.bool x.wx,.int .u64 x.fill,.bool x.QQ,.string x.text])(ok:x.Ok)(a:Act)(ad:a.tmps.size=119)(h0:At a 0 (.pointer (some ⟨pb,0,none⟩)))(h5:At a 5 (.pointer (some ⟨z,0,none⟩)))(Q:Exit→Act→World→Prop)
 (W:∀y w',aE (fun i=>(rg 19 32 i)) a y→aG B w' pb v P fB (say (decide ((x.size ||| x.Q7)%cX x.big=0)) x.pos 0++L)→aD (fun k=>k=pb) w w'→Q .normal y w'):
 (ax Tryz.f28 [1,1,0,1,0,0,1,1,0,0,1,0]).wp Tryz.prog Q a w:=by
 obtain⟨af,l,q,N,O,V⟩:=ok;unfold lim at l q N;unfold aV at O V;refine Code.wp_only (R:=fun y w'=>aE (fun i=>(rg 19 32 i)) a y∧aG B w' pb v P fB (say (decide ((x.size ||| x.Q7)%cX x.big=0)) x.pos 0++L)∧aD (fun k=>k=pb) w w') ?_ (fun Y w4 h=>W Y w4 h.1 h.2.1 h.2.2);clear W
 conv=>arg 2;whnf
 have q0:=g.c0;have q1:=g 1 _ rfl;have q2:=g 2 _ rfl;have q3:=g 3 _ rfl;have q4:=g 4 _ rfl;have q5:=g 5 _ rfl;have q6:=g 6 _ rfl;have q7:=g 7 _ rfl;have q8:=g 8 _ rfl;have q9:=g 9 _ rfl;obtain⟨U,D⟩:∃u,u=cX x.big:=⟨_,rfl⟩;have j:=fun w0=>tW (rq x.big w0)
 rw[←D]at j;have I:0<U:=by rw[D];unfold cX;split<;>omega
 have Z:¬ (U=0):=χ
 have ac:((U:Int)==0)=false:=η
 obtain⟨b,hb⟩:∃b,((bits .or .u64 (x.size:Int) (x.Q7:Int)).tmod (U:Int)==0)=b:=⟨_,rfl⟩;have X:Hid (say (decide ((x.size ||| x.Q7)%cX x.big=0)) x.pos 0=say b x.pos 0):=by
  refine hh ?_;rw[←hb,wS l q,←D,show(((x.size ||| x.Q7:Nat):Int).tmod (U:Int))=(((x.size ||| x.Q7)%U:Nat):Int) from rfl]
  congr 1
  rw[jv];exact decide_eq_decide.2 χ
 have E:=hh (h.new ((aD.refl _ w).drew));clear h g D I;obtain⟨T,d⟩:=a;refine wp_region_still_tail 13 δ δ ?_;simp only[List.take_succ_cons,List.take_zero,List.drop_succ_cons,List.drop_zero]
 iterate 8 with_reducible refine sl ?_
 with_reducible refine wpStill_step (fun K C=>?_)
 go_simp;with_reducible refine⟨_,j _,C _ ?_⟩;clear C K
 iterate 4 with_reducible refine sl ?_
 with_reducible refine wpStill_nil ?_;refine Lz (fun K C=>?_)
 go_simp;refine(aR _ _ 0 33 E.out rfl).mono ?_;rintro e w2 ⟨rfl,H,J⟩;with_reducible refine C _ _ (ln ?_)
 refine⟨rfl,?_,?_,?_⟩
 ·exact ag
 ·rw[X.out]
  exact H
 ·exact((aD.refl _ _).drew).trans J (fun _ _ e=>e)
theorem zi{v:ae}{P:aF}(h:aG B w pb v P fB L){z:Nat}{x:Ck.Region}(g:aL w z 0 [.int .i64 x.pos,.string x.name,.int .u64 x.size,.bool x.fixed,.int .u64 x.Q7,.bool x.big,.bool x.wx,.int .u64 x.fill,.bool x.QQ,.string x.text])(ok:x.Ok)(a:Act)(W:a.tmps.size=119)(h0:At a 0 (.pointer (some ⟨pb,0,none⟩)))(h5:At a 5 (.pointer (some ⟨z,0,none⟩)))(Q:Exit→Act→World→Prop)
 (U:∀u w',aE (fun i=>(rg 33 44 i)) a u→aG B w' pb v P fB (say (decide (0<x.size)&&decide (x.size≤67108864)) x.pos 1++L)→aD (fun k=>k=pb) w w'→Q .normal u w'):
 (ax Tryz.f28 [1,1,0,1,0,0,1,1,0,0,1,1,0]).wp Tryz.prog Q a w:=by
 obtain⟨Y,C,D,E,H,I⟩:=ok;unfold lim at C D E;unfold aV at H I;refine Code.wp_only (R:=fun u w'=>aE (fun i=>(rg 33 44 i)) a u∧aG B w' pb v P fB (say (decide (0<x.size)&&decide (x.size≤67108864)) x.pos 1++L)∧aD (fun k=>k=pb) w w') ?_ (fun V w4 h=>U V w4 h.1 h.2.1 h.2.2);clear U
 conv=>arg 2;whnf
 have q0:=g.c0;have q1:=g 1 _ rfl;have q2:=g 2 _ rfl;have q3:=g 3 _ rfl;have q4:=g 4 _ rfl;have q5:=g 5 _ rfl;have q6:=g 6 _ rfl;have q7:=g 7 _ rfl;have q8:=g 8 _ rfl;have q9:=g 9 _ rfl;obtain⟨b1,N⟩:∃b,decide (0<x.size)=b:=⟨_,rfl⟩;obtain⟨b2,O⟩:∃b,decide (x.size≤67108864)=b:=⟨_,rfl⟩;have J:Hid (say (decide (0<x.size)&&decide (x.size≤67108864)) x.pos 1=say (b1&&b2) x.pos 1):=by rw[N,O];exact hh rfl
 have e3:decide ((0:Int)<(x.size:Int))=b1:=by rw[←N];exact decide_eq_decide.2 χ
 have e4:decide ((x.size:Int)≤67108864)=b2:=by rw[←O];exact decide_eq_decide.2 χ
 have q:=hh h;have X:=aU;clear h g;obtain⟨T,d⟩:=a;refine rl ?_
 cases b1
 ·skip
  iterate 11 with_reducible refine st ?_
  with_reducible refine Lz (fun K y=>?_)
  go_simp;refine(aR _ _ 1 32 q.out rfl).mono ?_;rintro e Z ⟨rfl,j,l⟩;with_reducible refine y _ _ (ln ?_)
  refine⟨rfl,?_,?_,?_⟩
  ·exact ag
  ·rw[J.out]
   exact j
  ·exact l
 ·skip
  iterate 11 with_reducible refine st ?_
  with_reducible refine Lz (fun K y=>?_)
  go_simp;refine(aR _ _ 1 32 q.out rfl).mono ?_;rintro e Z ⟨rfl,j,l⟩;with_reducible refine y _ _ (ln ?_)
  refine⟨rfl,?_,?_,?_⟩
  ·exact ag
  ·rw[J.out]
   exact j
  ·exact l
theorem zk{v:ae}{P:aF}(h:aG B w pb v P fB L){z:Nat}{x:Ck.Region}(g:aL w z 0 [.int .i64 x.pos,.string x.name,.int .u64 x.size,.bool x.fixed,.int .u64 x.Q7,.bool x.big,.bool x.wx,.int .u64 x.fill,.bool x.QQ,.string x.text])(ok:x.Ok)(a:Act)(ac:a.tmps.size=119)(h0:At a 0 (.pointer (some ⟨pb,0,none⟩)))(h5:At a 5 (.pointer (some ⟨z,0,none⟩)))(h6:At a 6 (.int .u64 x.text.size))(Q:Exit→Act→World→Prop)
 (hQ:∀D w',aE (fun i=>(rg 88 114 i)) a D→aG B w' pb v P fB (ql x++L)→aD (fun k=>k=pb) w w'→Q .normal D w'):
 (ax Tryz.f28 [1,1,0,1,0,0,1,1,0,0,1,1,1,1,1]).wp Tryz.prog Q a w:=by
 obtain⟨af,J,N,O,U,V⟩:=ok;unfold lim at J N O;unfold aV at U V;refine Code.wp_only (R:=fun D w'=>aE (fun i=>(rg 88 114 i)) a D∧aG B w' pb v P fB (ql x++L)∧aD (fun k=>k=pb) w w') ?_ (fun a4 w4 h=>hQ a4 w4 h.1 h.2.1 h.2.2);clear hQ
 conv=>arg 2;whnf
 have q0:=g.c0;have q1:=g 1 _ rfl;have q2:=g 2 _ rfl;have q3:=g 3 _ rfl;have q4:=g 4 _ rfl;have q5:=g 5 _ rfl;have q6:=g 6 _ rfl;have q7:=g 7 _ rfl;have q8:=g 8 _ rfl;have q9:=g 9 _ rfl;obtain⟨b1,X⟩:∃b,decide (x.fill<256)=b:=⟨_,rfl⟩;obtain⟨b2,Y⟩:∃b,decide (x.text.size≤x.size)=b:=⟨_,rfl⟩;obtain⟨H,e3⟩:∃b,decide (x.text.size≤1048576)=b:=⟨_,rfl⟩;obtain⟨I,e4⟩:∃b,decide (x.fill=0)=b:=⟨_,rfl⟩;obtain⟨W,Z⟩:∃b,decide (x.size≤1048576)=b:=⟨_,rfl⟩;have C:Hid (ql x=say (b1&&b2&&H&&(I||W)) x.pos 4):=by
  refine hh ?_;unfold ql;rw[X,Y,e3,e4,Z]
 have f1:decide ((x.fill:Int)<256)=b1:=by rw[←X];exact decide_eq_decide.2 χ
 have f2:decide ((x.text.size:Int)≤(x.size:Int))=b2:=by rw[←Y];exact decide_eq_decide.2 χ
 have f3:decide ((x.text.size:Int)≤1048576)=H:=by rw[←e3];exact decide_eq_decide.2 χ
 have f4:((x.fill:Int)==0)=I:=by rw[←e4];exact eh _ 0
 have f5:decide ((x.size:Int)≤1048576)=W:=by rw[←Z];exact decide_eq_decide.2 χ
 have q:=hh h;have ad:=aU;clear h g e4;obtain⟨T,d⟩:=a;refine rl ?_;have y:=C.out
 cases b1
 ·clear y
  iterate 26 with_reducible refine st ?_
  with_reducible refine Lz (fun K u=>?_)
  go_simp;refine(aR _ _ 4 105 q.out rfl).mono ?_;rintro e E ⟨rfl,j,l⟩;with_reducible refine u _ _ (ln ?_)
  refine⟨rfl,?_,?_,?_⟩
  ·exact ag
  ·rw[C.out]
   exact j
  ·exact l
 ·cases b2
  ·clear y
   iterate 26 with_reducible refine st ?_
   with_reducible refine Lz (fun K u=>?_)
   go_simp;refine(aR _ _ 4 105 q.out rfl).mono ?_;rintro e E ⟨rfl,j,l⟩;with_reducible refine u _ _ (ln ?_)
   refine⟨rfl,?_,?_,?_⟩
   ·exact ag
   ·rw[C.out]
    exact j
   ·exact l
  ·cases H
   ·clear y
    iterate 26 with_reducible refine st ?_
    with_reducible refine Lz (fun K u=>?_)
    go_simp;refine(aR _ _ 4 105 q.out rfl).mono ?_;rintro e E ⟨rfl,j,l⟩;with_reducible refine u _ _ (ln ?_)
    refine⟨rfl,?_,?_,?_⟩
    ·exact ag
    ·rw[C.out]
     exact j
    ·exact l
   ·clear y
    cases I
    ·skip
     iterate 26 with_reducible refine st ?_
     with_reducible refine Lz (fun K u=>?_)
     go_simp;refine(aR _ _ 4 105 q.out rfl).mono ?_;rintro e E ⟨rfl,j,l⟩;with_reducible refine u _ _ (ln ?_)
     refine⟨rfl,?_,?_,?_⟩
     ·exact ag
     ·rw[C.out]
      exact j
     ·exact l
    ·skip
     iterate 26 with_reducible refine st ?_
     with_reducible refine Lz (fun K u=>?_)
     go_simp;refine(aR _ _ 4 105 q.out rfl).mono ?_;rintro e E ⟨rfl,j,l⟩;with_reducible refine u _ _ (ln ?_)
     refine⟨rfl,?_,?_,?_⟩
     ·exact ag
     ·rw[C.out]
      exact j
     ·exact l
theorem nD{P:Program}(K:P=Tryz.prog){ops:Array Oper}{rest:List Oper}{o:Oper}{a:Act}{Q:Exit→Act→World→Prop}(y:o.guard=none){s x:Operand}
 (N:o.op=.call { callee := .builtin .append,args := #[s,x],argTypes := #[170,170] }){Z:Nat}{u:Value}{l:List db}(O:a.eval s=u)(q:w.ownsRow Z 172 3 u l.length (ab l))(Y:l.length≤8388608)
 {blk:Nat}{p:db}(U:a.eval x=.slice (some ⟨blk,0,none⟩) 1 1)(c0:aL w blk 0 p.cells)(L:Z≤w.heap.size)
 (h:∀E w',w'.ownsRow Z 172 3 E (l.length+1) (ab (l++[p]))→aD (fun k=>u.ownBlock=some k) w w'→wpList P ops Q rest (a.put o.dst E) w'):wpList P ops Q (o::rest) a w:=by
 subst K;obtain⟨V,hi,B,C,D⟩:=info_parts Tryz.info172;have d:∀j,(⟨blk,0,none⟩:Addr).add j=⟨blk,j,none⟩:=fun j=>by unfold Addr.add;split<;>simp_all
 refine wpList_append_lies w y s x 170 N Z 172 V (.agg #[.int .u64 0,.int .u64 0,.int .i64 0]) 3 24 Tryz.underlying170 hi B C D rfl χ u l.length (ab l) O q ⟨blk,0,none⟩ 1 1 p.cells U rfl (fun j v R=>?_) mG χ (by unfold maxLen;omega) χ L w.heap.size rfl ?_
 ·rw[d]
  have:=c0 j v R
  rwa[Nat.zero_add]at this
 ·intro g H w' I J W X
  refine h _ w' ?_ (aD.of_grown J (fun k e=>e));rw[fq];exact I
theorem Bj{v:ae}{P:aF}(h:aG B w pb v P fB L){z:Nat}{x:Ck.Region}(g:aL w z 0 [.int .i64 x.pos,.string x.name,.int .u64 x.size,.bool x.fixed,.int .u64 x.Q7,.bool x.big,.bool x.wx,.int .u64 x.fill,.bool x.QQ,.string x.text])(a:Act)(E:a.tmps.size=119)(h5:At a 5 (.pointer (some ⟨z,0,none⟩))){Z:Nat}{u:Value}{l:List db}(h2:At a 2 u)(Y:Hid (w.ownsRow Z 172 3 u l.length (ab l)))(hl:l.length≤8388608)(hZ:Z≤w.heap.size)(U:B≤Z)(Q:Exit→Act→World→Prop)
 (V:∀O w' H,aE (fun i=>i==2||(rg 74 83 i)) a O→At O 2 H→w'.ownsRow Z 172 3 H (l.length+1) (ab (l++[⟨x.Q7,x.size,x.pos⟩]))→aG B w' pb v P fB L→aD (fun k=>u.ownBlock=some k) w w'→Q .normal O w'):
 (ax Tryz.f28 [1,1,0,1,0,0,1,1,0,0,1,1,1,0,1,0,1]).wp Tryz.prog Q a w:=by
 conv=>arg 2;whnf
 refine Code.wp_only (R:=fun I D=>aE (fun i=>i==2||(rg 74 83 i)) a I∧(∃H,At I 2 H∧D.ownsRow Z 172 3 H (l.length+1) (ab (l++[⟨x.Q7,x.size,x.pos⟩])))∧aG B D pb v P fB L∧aD (fun k=>u.ownBlock=some k) w D) ?_ (fun I D h=>V I D h.2.1.choose h.1 h.2.1.choose_spec.1 h.2.1.choose_spec.2 h.2.2.1 h.2.2.2);clear V;have q0:=g.c0;have q1:=g 1 _ rfl;have q2:=g 2 _ rfl;have q3:=g 3 _ rfl;have q4:=g 4 _ rfl;have q5:=g 5 _ rfl;have q6:=g 6 _ rfl;have q7:=g 7 _ rfl;have q8:=g 8 _ rfl;have q9:=g 9 _ rfl;have X:=hh h;clear h g;obtain⟨T,d⟩:=a;refine rl ?_
 iterate 9 with_reducible refine st ?_
 have W:=ap w [.int .u64 x.Q7,.int .u64 x.size,.int .i64 x.pos] 172;have j:Kz w (w.alloc (.cells #[.int .u64 x.Q7,.int .u64 x.size,.int .i64 x.pos] 172)):=(aD.refl _ _).alloc _;have y:=hh (aK Y.out j (fun _ _ h=>h));refine nD (p:=⟨x.Q7,x.size,x.pos⟩) rfl rfl rfl (At.eval (by exact aq) (by have:=E;simp at this⊢; omega)) y.out χ (At.eval (by exact aq) (by have:=E;simp at this⊢; omega)) W (by have:=j.size;omega) ?_;intro u2 D q C;have N:=hh q;have J:Hid (aD (fun k=>u.ownBlock=some k) w D):=(j.mono fun _ _ h=>h.elim).trans C (fun i hi h=>h);have K:=hh ((X.out.new j).grown y.out U ψ C);clear q C W j y;simp only[Act.put];with_reducible refine st ?_;refine ln ?_
 refine⟨rfl,ag,⟨u2,aq,N.out⟩,K.out,J.out⟩
theorem tq{l:List Sp}{P:aF}(h:∀p,aW l p↔aW (jA P) p)(a b:Nat):dA l a b=eY P.QD a b:=by
 unfold dA eY;have e:∀p,aW l p↔∃r∈P.QD,r.Q7≤p∧p≤cz r.Q7 r.size:=fun p=>by
  rw[h];unfold aW jA kU;simp only[List.mem_map];constructor
  ·rintro⟨s,⟨r,g,rfl⟩,d⟩
   exact⟨r,g,d⟩
  ·rintro⟨r,g,d⟩
   exact⟨_,⟨r,g,rfl⟩,d⟩
 rw[Bool.eq_iff_iff];simp only[decide_eq_true_eq,e]
theorem xl{v:ae}{P:aF}(h:aG B w pb v P fB L){z:Nat}{x:Ck.Region}(H:aL w z 0 [.int .i64 x.pos,.string x.name,.int .u64 x.size,.bool x.fixed,.int .u64 x.Q7,.bool x.big,.bool x.wx,.int .u64 x.fill,.bool x.QQ,.string x.text])(ok:x.Ok)(a:Act)(dc:a.tmps.size=119)(h0:At a 0 (.pointer (some ⟨pb,0,none⟩)))(h5:At a 5 (.pointer (some ⟨z,0,none⟩)))(bp:z<w.heap.size)(di:z≠pb){zs:Nat}{us:Value}{af:List Sp}(h3:At a 3 (.pointer (some ⟨zs,0,none⟩)))(a6:w.cell? ⟨zs,0,none⟩=some us)(a7:zs<w.heap.size)(cm:zs≠pb)(U:aJ w pb us af)(a3:dS af)(ac:∀p,aW af p↔aW (jA P) p)(Q:Exit→Act→World→Prop)
 (hQ:∀g w',aE (fun i=>(rg 47 73 i)) a g→aG B w' pb v P fB (say (decide (x.size=0)||below x.Q7 x.size 4294967296&&eY P.QD x.Q7 (cz x.Q7 x.size)) x.pos 2++L)→aD (fun k=>k=pb) w w'→Q .normal g w'):
 (ax Tryz.f28 [1,1,0,1,0,0,1,1,0,0,1,1,1,0,1,0,0]).wp Tryz.prog Q a w:=by
 obtain⟨dk,a8,a1,bs,bt,bw⟩:=ok;unfold lim at a8 a1 bs;unfold aV at bt bw;refine Code.wp_only (R:=fun g w'=>aE (fun i=>(rg 47 73 i)) a g∧aG B w' pb v P fB (say (decide (x.size=0)||below x.Q7 x.size 4294967296&&eY P.QD x.Q7 (cz x.Q7 x.size)) x.pos 2++L)∧aD (fun k=>k=pb) w w') ?_ (fun a4 w4 h=>hQ a4 w4 h.1 h.2.1 h.2.2);clear hQ
 conv=>arg 2;whnf
 have c7:=h.lt;have al:=hh (h.new ((aD.refl _ w).drew))
 by_cases hs0:x.size=0
 ·have HS:Hid (say (decide (x.size=0)||below x.Q7 x.size 4294967296&&eY P.QD x.Q7 (cz x.Q7 x.size)) x.pos 2=say true x.pos 2):=by rw[decide_eq_true hs0,Bool.true_or];exact hh rfl
  have q0:=H.c0;have q2:=H 2 _ rfl;rw[hs0]at q2;have C:=aU;clear h H U ac;obtain⟨T,d⟩:=a;refine wp_region_still_tail 26 δ δ ?_;simp only[List.take_succ_cons,List.take_zero,List.drop_succ_cons,List.drop_zero]
  iterate 26 with_reducible refine sl ?_
  with_reducible refine wpStill_nil ?_;refine Lz (fun K q=>?_)
  go_simp;refine(aR _ _ 2 109 al.out rfl).mono ?_;rintro e w2 ⟨rfl,J,E⟩;with_reducible refine q _ _ (ln ?_)
  refine⟨rfl,?_,?_,?_⟩
  ·exact ag
  ·rw[HS.out]
   exact J
  ·exact((aD.refl _ _).drew).trans E (fun _ _ e=>e)
 have ad:decide (x.size=0)=false:=decide_eq_false hs0;have c8:((x.size:Int)==0)=false:=by rw[jv];exact decide_eq_false χ
 obtain⟨bb,O⟩:∃b,b=below x.Q7 x.size 4294967296:=⟨_,rfl⟩;have Y:=fun w0=>jx x.Q7 x.size 4294967296 w0 a1 a8 ψ
 rw[←O]at Y
 cases bb
 ·have HS:Hid (say (decide (x.size=0)||below x.Q7 x.size 4294967296&&eY P.QD x.Q7 (cz x.Q7 x.size)) x.pos 2=say false x.pos 2):=by rw[←O,ad];exact hh rfl
  have q0:=H.c0;have q2:=H 2 _ rfl;have q4:=H 4 _ rfl;have bl:=fun w0=>tW (Y w0)
  have C:=aU;clear h H U ac O ad Y;obtain⟨T,d⟩:=a;refine wp_region_still_tail 26 δ δ ?_;simp only[List.take_succ_cons,List.take_zero,List.drop_succ_cons,List.drop_zero]
  iterate 9 with_reducible refine sl ?_
  with_reducible refine wpStill_step (fun K q=>?_)
  go_simp;with_reducible refine⟨_,bl _,q _ ?_⟩;clear q K
  iterate 16 with_reducible refine sl ?_
  with_reducible refine wpStill_nil ?_;refine Lz (fun K q=>?_)
  go_simp;refine(aR _ _ 2 109 al.out rfl).mono ?_;rintro e w2 ⟨rfl,J,E⟩;with_reducible refine q _ _ (ln ?_)
  refine⟨rfl,?_,?_,?_⟩
  ·exact ag
  ·rw[HS.out]
   exact J
  ·exact((aD.refl _ _).drew).trans E (fun _ _ e=>e)
 ·obtain⟨cv,Z⟩:∃b,b=dA af x.Q7 (cz x.Q7 x.size):=⟨_,rfl⟩
  have HS:Hid (say (decide (x.size=0)||below x.Q7 x.size 4294967296&&eY P.QD x.Q7 (cz x.Q7 x.size)) x.pos 2=say cv x.pos 2):=by rw[←O,ad,Z,tq ac];exact hh rfl
  have bm:=mt x.Q7 x.size;obtain⟨la,an⟩:∃n,n=cz x.Q7 x.size:=⟨_,rfl⟩;rw[←an]at bm Z;have a2:la<lim:=by rw[an];exact Nat.mod_lt _ ψ
  have V:Hid (∀w',Kz w.drew w'→(w'.cell? ⟨z,0,none⟩=some (.int .i64 x.pos)∧w'.cell? ⟨z,2,none⟩=some (.int .u64 x.size)∧w'.cell? ⟨z,4,none⟩=some (.int .u64 x.Q7)∧w'.cell? ⟨zs,0,none⟩=some us)):=fun w' hk=>by
   have E:Kz w w':=((aD.refl _ w).drew).trans hk (fun _ _ h=>h);have a0:=H.keep E bp (fun h=>h);exact⟨a0.c0,a0 2 _ rfl,a0 4 _ rfl,(E.cell (p:=⟨zs,0,none⟩) a7 (fun h=>h)).trans a6⟩
  have be:Hid (∀w',Kz w.drew w'→Calls Tryz.prog 61 #[.agg #[us],.agg #[.int .u64 x.Q7,.int .u64 la]] w' fun e w2=>e=.returned (.bool cv)∧Kz w' w2):=fun w' hk=>by
   have E:Kz w w':=((aD.refl _ w).drew).trans hk (fun _ _ h=>h);rw[Z];exact pI (U.keep (E.mono fun _ _ h=>h.elim)) a3 _ _ a1 a2 (by have:=E.size;omega)
  have bo:∃A n c,us=.slice A n c:=by obtain⟨A,c,e,_⟩:=U;exact⟨A,_,c,e⟩
  obtain⟨A,n,c,rfl⟩:=bo;clear h H U ac O ad Z an a6;refine jG 26 (fun i=>([.pointer (some ⟨pb,0,none⟩),.pointer (some ⟨z,2,none⟩),.int .u64 x.size,.bool false,.bool false,.pointer (some ⟨z,4,none⟩),.int .u64 x.Q7,.pointer (some ⟨z,2,none⟩),.int .u64 x.size,.bool true,.bool true,.agg #[.slice A n c],.pointer (some ⟨z,4,none⟩),.int .u64 x.Q7,.pointer (some ⟨z,4,none⟩),.int .u64 x.Q7,.pointer (some ⟨z,2,none⟩),.int .u64 x.size,.int .u64 (IntKind.u64.wrap ((x.Q7:Int)+(x.size:Int))),.int .u64 la,.agg #[.int .u64 x.Q7,.int .u64 la],.bool cv,.bool cv,.bool cv,.pointer (some ⟨z,0,none⟩),.int .i64 x.pos]:List Value).getD i undef) (fun w'=>Kz w.drew w') δ δ ?_ ?_ ?_
  ·first|exact hWd|exact aD.refl _ _
  ·intro i o hi u g w' K y N l q
   have a5:g.tmps.size=119:=N.size.trans (by first|assumption|(simp only[Array.size_setIfInBounds];assumption));have a9:=N.Q7 h0 rfl;have bd:=N.Q7 h5 rfl;have bc:=N.Q7 h3 rfl
   match i,hi,u,l,q with
   | 0,_,u,l,q =>
    obtain rfl:=oi u;obtain⟨T,d⟩:=g;go_simp;exact q _ y
   | 1,_,u,l,q =>
    obtain rfl:=oi u;obtain⟨T,d⟩:=g;go_simp;exact q _ y
   | 2,_,u,l,q =>
    obtain rfl:=oi u;have cs:At g 48 (.pointer (some ⟨z,2,none⟩)):=l 1 δ ψ 48 rfl;obtain⟨c0,c2,W,X⟩:=V.out _ y;obtain⟨T,d⟩:=g;go_simp;exact q _ y
   | 3,_,u,l,q =>
    obtain rfl:=oi u;have cu:At g 49 (.int .u64 x.size):=l 2 δ ψ 49 rfl;obtain⟨T,d⟩:=g;go_simp;exact q _ y
   | 4,_,u,l,q =>
    obtain rfl:=oi u;have cw:At g 50 (.bool false):=l 3 δ ψ 50 rfl;obtain⟨T,d⟩:=g;go_simp;exact q _ y
   | 5,_,u,l,q =>
    obtain rfl:=oi u;have I:At g 51 (.bool false):=l 4 δ ψ 51 rfl;have C:=aU;obtain⟨T,d⟩:=g;go_simp;exact q _ y
   | 6,_,u,l,q =>
    obtain rfl:=oi u;have cx:At g 52 (.pointer (some ⟨z,4,none⟩)):=l 5 δ ψ 52 rfl;have I:At g 51 (.bool false):=l 4 δ ψ 51 rfl;obtain⟨c0,c2,W,X⟩:=V.out _ y;have C:=aU;obtain⟨T,d⟩:=g;go_simp;exact q _ y
   | 7,_,u,l,q =>
    obtain rfl:=oi u;have I:At g 51 (.bool false):=l 4 δ ψ 51 rfl;have C:=aU;obtain⟨T,d⟩:=g;go_simp;exact q _ y
   | 8,_,u,l,q =>
    obtain rfl:=oi u;have c3:At g 54 (.pointer (some ⟨z,2,none⟩)):=l 7 δ ψ 54 rfl;have I:At g 51 (.bool false):=l 4 δ ψ 51 rfl;obtain⟨c0,c2,W,X⟩:=V.out _ y;have C:=aU;obtain⟨T,d⟩:=g;go_simp;exact q _ y
   | 9,_,u,l,q =>
    obtain rfl:=oi u;have cy:At g 53 (.int .u64 x.Q7):=l 6 δ ψ 53 rfl;have c5:At g 55 (.int .u64 x.size):=l 8 δ ψ 55 rfl;have I:At g 51 (.bool false):=l 4 δ ψ 51 rfl;obtain⟨c0,c2,W,X⟩:=V.out _ y;have C:=aU;obtain⟨T,d⟩:=g;go_simp;refine(Y _).mono ?_;rintro e w2 ⟨rfl,rfl⟩;exact q _ y
   | 10,_,u,l,q =>
    obtain rfl:=oi u;have c6:At g 56 (.bool true):=l 9 δ ψ 56 rfl;have I:At g 51 (.bool false):=l 4 δ ψ 51 rfl;have C:=aU;obtain⟨T,d⟩:=g;go_simp;exact q _ y
   | 11,_,u,l,q =>
    obtain rfl:=oi u;have D:At g 57 (.bool true):=l 10 δ ψ 57 rfl;obtain⟨c0,c2,W,X⟩:=V.out _ y;have C:=aU;obtain⟨T,d⟩:=g;go_simp;exact q _ y
   | 12,_,u,l,q =>
    obtain rfl:=oi u;have D:At g 57 (.bool true):=l 10 δ ψ 57 rfl;have C:=aU;obtain⟨T,d⟩:=g;go_simp;exact q _ y
   | 13,_,u,l,q =>
    obtain rfl:=oi u;have bz:At g 59 (.pointer (some ⟨z,4,none⟩)):=l 12 δ ψ 59 rfl;have D:At g 57 (.bool true):=l 10 δ ψ 57 rfl;obtain⟨c0,c2,W,X⟩:=V.out _ y;have C:=aU;obtain⟨T,d⟩:=g;go_simp;exact q _ y
   | 14,_,u,l,q =>
    obtain rfl:=oi u;have D:At g 57 (.bool true):=l 10 δ ψ 57 rfl;have C:=aU;obtain⟨T,d⟩:=g;go_simp;exact q _ y
   | 15,_,u,l,q =>
    obtain rfl:=oi u;have b1:At g 61 (.pointer (some ⟨z,4,none⟩)):=l 14 δ ψ 61 rfl;have D:At g 57 (.bool true):=l 10 δ ψ 57 rfl;obtain⟨c0,c2,W,X⟩:=V.out _ y;have C:=aU;obtain⟨T,d⟩:=g;go_simp;exact q _ y
   | 16,_,u,l,q =>
    obtain rfl:=oi u;have D:At g 57 (.bool true):=l 10 δ ψ 57 rfl;have C:=aU;obtain⟨T,d⟩:=g;go_simp;exact q _ y
   | 17,_,u,l,q =>
    obtain rfl:=oi u;have b3:At g 63 (.pointer (some ⟨z,2,none⟩)):=l 16 δ ψ 63 rfl;have D:At g 57 (.bool true):=l 10 δ ψ 57 rfl;obtain⟨c0,c2,W,X⟩:=V.out _ y;have C:=aU;obtain⟨T,d⟩:=g;go_simp;exact q _ y
   | 18,_,u,l,q =>
    obtain rfl:=oi u;have b2:At g 62 (.int .u64 x.Q7):=l 15 δ ψ 62 rfl;have b4:At g 64 (.int .u64 x.size):=l 17 δ ψ 64 rfl;have D:At g 57 (.bool true):=l 10 δ ψ 57 rfl;have C:=aU;obtain⟨T,d⟩:=g;go_simp;exact q _ y
   | 19,_,u,l,q =>
    obtain rfl:=oi u;have b5:At g 65 (.int .u64 (IntKind.u64.wrap ((x.Q7:Int)+(x.size:Int)))):=l 18 δ ψ 65 rfl;have D:At g 57 (.bool true):=l 10 δ ψ 57 rfl;have C:=aU;obtain⟨T,d⟩:=g;go_simp;exact q _ y
   | 20,_,u,l,q =>
    obtain rfl:=oi u;have b0:At g 60 (.int .u64 x.Q7):=l 13 δ ψ 60 rfl;have b6:At g 66 (.int .u64 la):=l 19 δ ψ 66 rfl;have D:At g 57 (.bool true):=l 10 δ ψ 57 rfl;have C:=aU;obtain⟨T,d⟩:=g;go_simp;exact q _ y
   | 21,_,u,l,q =>
    obtain rfl:=oi u;have bx:At g 58 (.agg #[.slice A n c]):=l 11 δ ψ 58 rfl;have ca:At g 67 (.agg #[.int .u64 x.Q7,.int .u64 la]):=l 20 δ ψ 67 rfl;have D:At g 57 (.bool true):=l 10 δ ψ 57 rfl;obtain⟨c0,c2,W,X⟩:=V.out _ y;have C:=aU;obtain⟨T,d⟩:=g;go_simp;refine(be.out _ y).mono ?_;rintro e w2 ⟨rfl,E⟩;exact q _ (y.trans E (fun _ _ h=>h))
   | 22,_,u,l,q =>
    obtain rfl:=oi u;have D:At g 57 (.bool true):=l 10 δ ψ 57 rfl;have cb:At g 68 (.bool cv):=l 21 δ ψ 68 rfl;have I:At g 51 (.bool false):=l 4 δ ψ 51 rfl;have C:=aU;obtain⟨T,d⟩:=g;go_simp;exact q _ y
   | 23,_,u,l,q =>
    obtain rfl:=oi u;have I:At g 51 (.bool false):=l 4 δ ψ 51 rfl;have cc:At g 69 (.bool cv):=l 22 δ ψ 69 rfl;obtain⟨T,d⟩:=g;go_simp;exact q _ y
   | 24,_,u,l,q =>
    obtain rfl:=oi u;obtain⟨T,d⟩:=g;go_simp;exact q _ y
   | 25,_,u,l,q =>
    obtain rfl:=oi u;have cf:At g 71 (.pointer (some ⟨z,0,none⟩)):=l 24 δ ψ 71 rfl;obtain⟨c0,c2,W,X⟩:=V.out _ y;obtain⟨T,d⟩:=g;go_simp;exact q _ y
   | i+26,hi,_,_,_=>omega
  ·intro o u g w' y N l
   obtain rfl:=oi u;have a5:g.tmps.size=119:=N.size.trans (by first|assumption|(simp only[Array.size_setIfInBounds];assumption));have a9:=N.Q7 h0 rfl;have bd:=N.Q7 h5 rfl;have bc:=N.Q7 h3 rfl;have cp:At g 47 (.pointer (some ⟨pb,0,none⟩)):=l 0 ψ 47 rfl;have cd:At g 70 (.bool cv):=l 23 ψ 70 rfl;have cj:At g 72 (.int .i64 x.pos):=l 25 ψ 72 rfl;have bg:=hh (al.out.new y);have bf:Hid (aD (fun k=>k=pb) w w'):=((aD.refl (fun k=>k=pb) w).drew).trans y (fun _ _ h=>h.elim);have HB:=hh N;clear y N l;obtain⟨T,d⟩:=g;with_reducible refine Lz (fun K q=>?_)
   go_simp;refine(aR _ _ 2 109 bg.out rfl).mono ?_;rintro e w2 ⟨rfl,J,E⟩;with_reducible refine q _ _ (ln ?_)
   refine⟨rfl,(HB.out.agree (ws:=fun i=>rg 47 73 i) δ).trans (vs:=fun i=>i==73) ?_ ζ,?_,bf.out.trans E (fun _ _ e=>e)⟩
   ·exact ag
   ·rw[HS.out];exact J
def ig(l:List Ck.Region):List db:=(l.filter Ck.Region.fixed).map fun x=>⟨x.Q7,x.size,x.pos⟩
theorem yY(l:List Ck.Region)(x:Ck.Region):ig (l++[x])=if x.fixed then ig l++[⟨x.Q7,x.size,x.pos⟩]else ig l:=by
 unfold ig;rw[List.filter_append]
 by_cases h:x.fixed<;>simp[h]
theorem tY(l:List Ck.Region):(ig l).length≤l.length:=by unfold ig;rw[List.length_map];exact List.length_filter_le _ _
theorem zj{v:ae}{P:aF}(h:aG B w pb v P fB [])(a:Act)(d8:a.tmps.size=119)(h0:At a 0 (.pointer (some ⟨pb,0,none⟩)))(h2:At a 2 (.slice none 0 0)){zs:Nat}{us:Value}{b6:List Sp}(h3:At a 3 (.pointer (some ⟨zs,0,none⟩)))(d9:w.cell? ⟨zs,0,none⟩=some us)(bx:zs<w.heap.size)(bz:zs≠pb)(b3:aJ w pb us b6)(bt:dS b6)(b1:∀p,aW b6 p↔aW (jA P) p)(Q:Exit→Act→World→Prop)
 (hQ:∀a' w' u',aE (fun i=>i==2||i==5||i==6||(rg 9 115 i)) a a'→At a' 2 u'→w'.ownsRow w.heap.size 172 3 u' (ig P.Q3).length (ab (ig P.Q3))→P.Q3.length≤8388608→aG B w' pb v P fB (P.Q3.flatMap (lu P))→aD (fun k=>k=pb) w w'→Q .normal a' w'):
 (ax Tryz.f28 [1,1,0]).wp Tryz.prog Q a w:=by
 have hs:=h.QU.Q3;obtain⟨A,c,hu,er,d7,hl⟩:=hs;unfold top at d7;have eq:=h.lt;have en:=h.base;have hq:w.cell? ⟨pb,4,none⟩=some v.Q3:=h.cell rfl;rw[hu]at hq;clear hu
 conv=>arg 2;whnf
 refine so (fun X w1=>aE (fun i=>(rg 9 15 i)) a X∧At X 13 (.slice A P.Q3.length c)∧At X 14 (.int .i64 P.Q3.length)∧At X 15 (.int .i64 0)∧w1=w) ?_ ?_
 ·clear hl b3 b1
  obtain⟨T,d⟩:=a;refine rl ?_
  iterate 7 with_reducible refine st ?_
  with_reducible refine ln ?_
  refine⟨rfl,ag,aq,aq,aq,rfl⟩
 rintro a0 w0 ⟨Y,ei,eg,ed,rfl⟩;have c3:=Y.size.trans d8;replace h0:=Y.Q7 h0 rfl;replace h2:=Y.Q7 h2 rfl;replace h3:=Y.Q7 h3 rfl;obtain⟨Z,hZ⟩:∃z,z=w0.heap.size:=⟨_,rfl⟩;rw[←hZ]at hQ;have HZ:=hh hZ;clear hZ;have d0:=hh b3;have dk:=hh b1;have cf:=hh bt;clear b3 b1 bt;refine bX P.Q3.length (fun i=>i==2||i==5||i==6||(rg 15 115 i)) (fun i=>i==2||i==5||i==6||(rg 17 114 i)) (fun k a' w'=>∃u,At a' 2 u∧w'.ownsRow Z 172 3 u (ig (P.Q3.take k)).length (ab (ig (P.Q3.take k)))∧aG B w' pb v P fB ((P.Q3.take k).flatMap (lu P))∧aD (fun k=>k=pb) w0 w') χ ed eg ψ rfl
  ζ χ ψ (fun k X a2 w hA ⟨u,h1,h2⟩=>⟨u,hA.Q7 h1 rfl,h2⟩) ⟨_,h2,by simpa[ig,ab]using World.ownsRow_nil _ _ _ _,by simpa using h,aD.refl _ _⟩ ?_ ?_
 ·rintro k X wr cy hA ee ⟨u,D,I,hL,hk⟩
  obtain⟨bl,off,rfl,d4,cv⟩:=hl χ;obtain⟨x,hx⟩:=ge cy;obtain⟨hc,L⟩:=(aI B _ _) _ _ _ _ _ (hk.below (B:=B) χ (fun _ hi e=>χ)) d4 (cv k x hx);have q0:=hc.c0;have q1:=hc 1 _ rfl;have q2:=hc 2 _ rfl;have q3:=hc 3 _ rfl;have q4:=hc 4 _ rfl;have q5:=hc 5 _ rfl;have q6:=hc 6 _ rfl;have q7:=hc 7 _ rfl;have q8:=hc 8 _ rfl;have q9:=hc 9 _ rfl;have y:=hA.Q7 h0 rfl;have K:=hA.Q7 h3 rfl;have di:=hA.Q7 ei rfl;have c4:=hA.size.trans c3;have c7:=hk.size;have cu:bl<wr.heap.size:=χ
  have eo:k≤c:=χ
  obtain⟨fs,be⟩:∃l,l=ig (P.Q3.take k):=⟨_,rfl⟩;rw[←be]at I;have es:fs.length≤k:=by have:=tY (P.Q3.take k);rw[←be,List.length_take]at this;omega
  have HR:Hid (ig (P.Q3.take (k+1))=if x.fixed then fs++[⟨x.Q7,x.size,x.pos⟩]else fs):=by
   refine hh ?_;rw[aO hx,yY,be]
  have HX:=hh hx;have HO:=hh I;have HL:=hh hL;have HK:=hh hk;have HA:=hh hA;clear hx I hk hA cv hc be hl hL;refine so (fun a2 w2=>aE (fun i=>i==17||i==18||i==5) X a2∧At a2 5 (.pointer (some ⟨wr.heap.size,0,none⟩))∧w2=wr.alloc (.cells #[.int .i64 x.pos,.string x.name,.int .u64 x.size,.bool x.fixed,.int .u64 x.Q7,.bool x.big,.bool x.wx,.int .u64 x.fill,.bool x.QQ,.string x.text] 53)) ?_ ?_
  ·obtain⟨T,d⟩:=X
   refine rl ?_
   iterate 4 with_reducible refine st ?_
   with_reducible refine ln ?_
   refine⟨rfl,ag,aq,rfl⟩
  rintro a2 wo ⟨W,C,bo⟩;obtain⟨z,hz⟩:∃z,z=wr.heap.size:=⟨_,rfl⟩;rw[←hz]at C;have q:aL wo z 0 [.int .i64 x.pos,.string x.name,.int .u64 x.size,.bool x.fixed,.int .u64 x.Q7,.bool x.big,.bool x.wx,.int .u64 x.fill,.bool x.QQ,.string x.text]:=by rw[bo,hz];exact ap _ _ _
  have H:z<wo.heap.size:=by rw[bo,hz];simp
  have bm:Kz wr wo:=by rw[bo];exact(aD.refl _ _).alloc _
  have U:z≠pb:=χ
  have g:=W.size.trans c4;have y:=W.Q7 y rfl;have K:=W.Q7 K rfl;have D:=W.Q7 D rfl;have bc:Hid (∀k,u.ownBlock=some k→k<z∧k≠pb):=fun k hk=>by have h1:=(HO.out.lt k hk);have:=HZ.out;omega
  have HO:=hh (aK HO.out bm (fun _ _ h=>h));have N:=hh (HL.out.new bm);have E:=hh (HK.out.trans bm (fun _ _ h=>h.elim));have V:Hid (aE (fun i=>i==2||i==5||i==6||(rg 17 114 i)) X a2):=W.m;clear bo hz bm HL HK W di ee c7 cu q0 q1 q2 q3 q4 q5 q6 q7 q8 q9;refine wp_seq (zh N.out q L a2 g y C _ (fun a3 w3 O cm al=>?_));have q:=q.keep al H U;have H:z<w3.heap.size:=Θ H al.size;have HO:=hh (aK HO.out al (fun j hj e=>(bc.out j hj).2 e));have N:=hh cm;have E:=hh (E.out.trans al (fun _ _ e=>e));have y:=O.Q7 y rfl;have D:=O.Q7 D rfl;have K:=O.Q7 K rfl;have C:=O.Q7 C rfl;have g:=O.size.trans g;have V:Hid (aE (fun i=>i==2||i==5||i==6||(rg 17 114 i)) X a3):=V.out.t O;clear O cm al;refine wp_seq (zi N.out q L a3 g y C _ (fun a4 w4 R cp an=>?_));have q:=q.keep an H U;have H:z<w4.heap.size:=Θ H an.size;have HO:=hh (aK HO.out an (fun j hj e=>(bc.out j hj).2 e));have N:=hh cp;have E:=hh (E.out.trans an (fun _ _ e=>e));have y:=R.Q7 y rfl;have D:=R.Q7 D rfl;have K:=R.Q7 K rfl;have C:=R.Q7 C rfl;have g:=R.size.trans g;have V:Hid (aE (fun i=>i==2||i==5||i==6||(rg 17 114 i)) X a4):=V.out.t R;clear R cp an;refine so (fun a' w'=>aE (fun i=>i==2||(rg 45 83 i)) a4 a'∧(∃u',At a' 2 u'∧w'.ownsRow Z 172 3 u' (ig (P.Q3.take (k+1))).length (ab (ig (P.Q3.take (k+1)))))∧aG B w' pb v P fB (kg P x++(say (decide (0<x.size)&&decide (x.size≤67108864)) x.pos 1++(say (decide ((x.size ||| x.Q7)%cX x.big=0)) x.pos 0++(P.Q3.take k).flatMap (lu P))))∧aD (fun k=>k=pb) w0 w'∧aL w' z 0 [.int .i64 x.pos,.string x.name,.int .u64 x.size,.bool x.fixed,.int .u64 x.Q7,.bool x.big,.bool x.wx,.int .u64 x.fill,.bool x.QQ,.string x.text]) ?_ ?_
  ·refine so (fun a5 w5=>aE (fun i=>i==45||i==46) a4 a5∧At a5 46 (.bool x.fixed)∧w5=w4) ?_ ?_
   ·have q3:=q 3 _ rfl
    clear q;obtain⟨T,d⟩:=a4;refine rl ?_
    iterate 2 with_reducible refine st ?_
    with_reducible refine ln ?_
    refine⟨rfl,ag,aq,rfl⟩
   rintro a5 w5 ⟨J,eb,rfl⟩;have bw:=J.size.trans g;have b0:=eb.eval χ;obtain⟨bf,af⟩:∃b,x.fixed=b:=⟨_,rfl⟩;rw[af]at b0
   cases bf
   ·refine wp_cond_false b0 (wp_skip ?_)
    repeat with_reducible apply bK
    refine⟨rfl,J.m,⟨u,J.Q7 D rfl,?_⟩,?_,E.out,q⟩
    ·rw[HR.out,af];exact HO.out
    ·unfold kg;rw[af];simpa using N.out
   ·refine wp_cond_true b0 ?_
    have dc:=(E.out.cell (p:=⟨zs,0,none⟩) bx bz).trans d9;have b5:zs<w5.heap.size:=Θ bx E.out.size;refine wp_seq (xl N.out q L a5 bw (J.Q7 y rfl) (J.Q7 C rfl) H U (J.Q7 K rfl) dc b5 bz (d0.out.keep E.out) cf.out dk.out _ (fun a6 w6 bd d2 bg=>?_))
    repeat with_reducible apply bK
    have c8:=q.keep bg H U;have c9:z<w6.heap.size:=Θ H bg.size;have cc:=hh (aK HO.out bg (fun j hj e=>(bc.out j hj).2 e));have cb:=hh (E.out.trans bg (fun _ _ e=>e));have c5:=bd.size.trans bw;refine Bj d2 c8 a6 c5 (bd.Q7 (J.Q7 C rfl) rfl) (bd.Q7 (J.Q7 D rfl) rfl) cc χ (by have:=cb.out.size;have:=HZ.out;omega) (by have:=HZ.out;omega) _ (fun a7 w7 u7 d1 k2 b2 d3 cw=>?_);refine⟨rfl,((J.m).t bd).t d1,⟨u7,k2,?_⟩,?_,cb.out.trans cw (fun j hj e=>?_),c8.keep cw c9 (fun e=>?_)⟩
    ·rw[HR.out,af];simp only[if_true,List.length_append];exact b2
    ·unfold kg;rw[af];simpa using d3
    ·have:=(cc.out.lt j e).1;have:=HZ.out;omega
    ·have:=(bc.out z e).1;omega
  rintro a8 w8 ⟨ac,⟨u8,ea,bb⟩,cs,cx,b4⟩;have cd:=hh bb;have dt:=hh cs;have ds:=hh cx;have y:=ac.Q7 y rfl;have C:=ac.Q7 C rfl;have c6:=ac.size.trans g;have ca:Hid (aE (fun i=>i==2||i==5||i==6||(rg 17 114 i)) X a8):=V.out.t ac;clear bb cs cx ac V q H HO N E D K;refine so (fun a9 w9=>aE (fun i=>i==6||(rg 84 87 i)) a8 a9∧At a9 6 (.int .u64 x.text.size)∧w9=w8) ?_ ?_
  ·have q9:=b4 9 _ rfl
   have eu:IntKind.u64.wrap (x.text.size:Int)=(x.text.size:Int):=u64_in _ (by have:=L.2.2.2.2.2;unfold aV at this;omega);clear b4;obtain⟨T,d⟩:=a8;refine rl ?_
   iterate 5 with_reducible refine st ?_
   with_reducible refine ln ?_
   refine⟨rfl,ag,aq,rfl⟩
  rintro a9 w9 ⟨ad,ec,rfl⟩;refine zk dt.out b4 L a9 (ad.size.trans c6) (ad.Q7 y rfl) (ad.Q7 C rfl) ec _ (fun ej ew bp cj bs=>?_);refine⟨(ca.out.t ad).t bp,u8,bp.Q7 (ad.Q7 ea rfl) rfl,aK cd.out bs (fun j hj e=>?_),cj.congr fun p=>?_,ds.out.trans bs (fun _ _ e=>e)⟩
  ·have:=(cd.out.lt j hj).1;have:=HZ.out;omega
  ·rw[aO HX.out,List.flatMap_append,List.flatMap_cons,List.flatMap_nil,List.append_nil]
   simp only[List.mem_append,lu]
   try simp only[or_assoc,or_comm,or_left_comm]
 ·rintro a' w' hA ⟨u,D,I,hL,hk⟩
  rw[List.take_length]at I hL;exact hQ _ _ _ ((Y.m).t hA) D I χ hL hk
theorem Dc{v:ae}{P:aF}(h:bD B w v P):∀x∈ig P.Q3,x.Ok:=by
 intro s l;obtain⟨x,d,rfl⟩:=List.mem_map.1 l;have d:=(List.mem_filter.1 d).1;obtain⟨A,c,_,_,_,j⟩:=h.Q3;obtain⟨q,off,_,_,g⟩:=j (List.length_pos_of_mem d);obtain⟨k,hk⟩:=List.getElem?_of_mem d;have ok:=(g k x hk).2;exact⟨ok.2.2.1,ok.2.1,ok.1⟩
theorem sM{v:ae}{P:aF}(h:aG B w pb v P fB []):
 Calls Tryz.prog 28 #[.pointer (some ⟨pb,0,none⟩)] w fun e w'=>e=.returned (.tuple #[])∧aG B w' pb v P fB (fo P)∧aD (fun k=>k=pb) w w':=by
 have a0:=h.lt;have HH:=hh h;have HG:=hh (vU h);clear h;refine bL Tryz.func28 Tryz.ntmps28 rfl ξ fun a a4 an j=>?_
 have h0:At a 0 (.pointer (some ⟨pb,0,none⟩)):=j 0 _ rfl;clear j
 conv=>arg 2;whnf
 refine so (fun Q w1=>aE (fun i=>i==2) a Q∧At Q 2 (.slice none 0 0)∧w1=w) ?_ ?_
 ·obtain⟨T,d⟩:=a
  refine rl ?_;with_reducible refine st ?_;refine ln ?_
  refine⟨rfl,ag,aq,rfl⟩
 rintro Q w1 ⟨x,k2,rfl⟩;have ad:=x.size.trans a4;have U:=x.defers.trans an;have j0:=x.Q7 h0 rfl;refine so (fun a2 w2=>aE (fun i=>i==3||i==7||i==8) Q a2∧∃u us l,At a2 3 (.pointer (some ⟨u.heap.size,0,none⟩))∧dS l∧(∀p,aW l p↔aW (jA P) p)∧aJ u pb us l∧Kz w1 u∧w2=u.alloc (.cells #[us] 119)) ?_ ?_
 ·obtain⟨T,d⟩:=Q
  refine rl ?_;with_reducible refine st ?_;refine Lz (fun K hK=>?_)
  go_simp;refine HG.out.mono ?_;rintro e u ⟨us,l,rfl,h1,h2,h3,h4⟩;have h3:=h3 pb a0;have H1:=hh h1;have H2:=hh h2;have H3:=hh h3;have H4:=hh h4;obtain⟨A,c,rfl,_⟩:=h3;clear h1 h2 h4;with_reducible refine hK _ _ ?_;clear hK K
  iterate 2 with_reducible refine st ?_
  with_reducible refine ln ?_
  refine⟨rfl,ag,u,_,l,aq,H1.out,H2.out,H3.out,H4.out,rfl⟩
 rintro a2 w2 ⟨g,u,us,l,k3,C,X,ac,O,rfl⟩;have E:=g.size.trans ad;have V:=g.defers.trans U;have N:Kz u (u.alloc (.cells #[us] 119)):=(aD.refl _ _).alloc _;have J:=O.trans N (fun _ _ h=>h);have D:aJ (u.alloc (.cells #[us] 119)) pb us l:=ac.keep (N.mono fun _ _ h=>h.elim);have af:=ap u [us] 119 0 us rfl;have a7:=O.size;refine wp_seq (zj (HH.out.new J) a2 E (g.Q7 j0 rfl) (g.Q7 k2 rfl) k3 af ξ χ D C X _ (fun a3 w3 u3 y l2 q a8 H Y=>?_));have a5:=y.size.trans E;have W:=y.defers.trans V;have l0:=y.Q7 (g.Q7 j0 rfl) rfl;have a6:=tY P.Q3;have Z:f8 w3 pb u3 (ig P.Q3):=fN q (Dc H.QU) χ η;have HC:=hh (me H Z 3 rfl);have HK:=hh ((J.mono fun _ _ h=>h.elim:aD (fun k=>k=pb) w1 _).trans Y (fun _ _ e=>e));clear Z q H Y D ac N J O C X af y g x;refine Code.wp_only (R:=fun a9 w9=>a9.defers=[]∧aG B w9 pb v P fB (dZ 3 (ig P.Q3)++P.Q3.flatMap (lu P))∧aD (fun k=>k=pb) w3 w9) ?_ ?_
 ·obtain⟨T,d⟩:=a3
  refine rl ?_
  iterate 2 with_reducible refine st ?_
  with_reducible refine Lz (fun K hK=>?_)
  go_simp;refine HC.out.mono ?_;rintro e w9 ⟨rfl,I,L⟩;with_reducible refine hK _ _ (ln ?_)
  exact⟨rfl,W,I,L⟩
 rintro a9 w9 ⟨al,I,L⟩;refine dL rfl al ⟨rfl,I.congr fun p=>?_,HK.out.trans L (fun _ _ e=>e)⟩;unfold fo;rw[show P.fixed=ig P.Q3 from rfl];simp only[List.mem_append,or_comm]
theorem AM{v:ae}{P:aF}(h:aG B w pb v P eL L){z y:Nat}{x:Ck.Map}{t:jl}(g:aL w z 0 [.int .i64 x.pos,.string x.of,.int .u64 x.Q7,.bool x.write,.bool x.exec])(j:aL w y 0 [.int .u64 t.size,.bool t.big,.bool t.wx])(O:x.Q7<lim)(N:t.size<lim)(a:Act)(ad:a.tmps.size=108)(h0:At a 0 (.pointer (some ⟨pb,0,none⟩)))(h9:At a 9 (.pointer (some ⟨z,0,none⟩)))(Y:At a 10 (.pointer (some ⟨y,0,none⟩)))(Q:Exit→Act→World→Prop)
 (V:∀q w',aE (fun i=>(rg 42 52 i)) a q→aG B w' pb v P eL (say (decide (x.Q7%cX t.big=0)) x.pos 0++L)→aD (fun k=>k=pb) w w'→Q .normal q w'):
 (ax Tryz.f29 [1,1,1,0,0,1,1,0,0,1,1,1,0,1,0,0,1,1,0,0,1,1,0]).wp Tryz.prog Q a w:=by
 unfold lim at O N;refine Code.wp_only (R:=fun q w'=>aE (fun i=>(rg 42 52 i)) a q∧aG B w' pb v P eL (say (decide (x.Q7%cX t.big=0)) x.pos 0++L)∧aD (fun k=>k=pb) w w') ?_ (fun X w4 h=>V X w4 h.1 h.2.1 h.2.2);clear V
 conv=>arg 2;whnf
 have q0:=g.c0;have q1:=g 1 _ rfl;have q2:=g 2 _ rfl;have q3:=g 3 _ rfl;have q4:=g 4 _ rfl;have y0:=j.c0;have y1:=j 1 _ rfl;have y2:=j 2 _ rfl;obtain⟨U,D⟩:∃u,u=cX t.big:=⟨_,rfl⟩;have l:=fun w0=>tW (rq t.big w0)
 rw[←D]at l;have I:0<U:=by rw[D];unfold cX;split<;>omega
 have Z:¬ (U=0):=χ
 have ac:((U:Int)==0)=false:=η
 obtain⟨b,hb⟩:∃b,((x.Q7:Int).tmod (U:Int)==0)=b:=⟨_,rfl⟩;have W:Hid (say (decide (x.Q7%cX t.big=0)) x.pos 0=say b x.pos 0):=by
  refine hh ?_;rw[←hb,←D,show((x.Q7:Int).tmod (U:Int))=((x.Q7%U:Nat):Int) from rfl]
  congr 1
  rw[jv];exact decide_eq_decide.2 χ
 have E:=hh (h.new ((aD.refl _ w).drew));clear h g j D I;obtain⟨T,d⟩:=a;refine wp_region_still_tail 10 δ δ ?_;simp only[List.take_succ_cons,List.take_zero,List.drop_succ_cons,List.drop_zero]
 iterate 5 with_reducible refine sl ?_
 with_reducible refine wpStill_step (fun K C=>?_)
 go_simp;with_reducible refine⟨_,l _,C _ ?_⟩;clear C K
 iterate 4 with_reducible refine sl ?_
 with_reducible refine wpStill_nil ?_;refine Lz (fun K C=>?_)
 go_simp;refine(aR _ _ 0 33 E.out rfl).mono ?_;rintro e w2 ⟨rfl,H,J⟩;with_reducible refine C _ _ (ln ?_)
 refine⟨rfl,?_,?_,?_⟩
 ·exact ag
 ·rw[W.out]
  exact H
 ·exact((aD.refl _ _).drew).trans J (fun _ _ e=>e)
theorem yI{v:ae}{P:aF}(h:aG B w pb v P eL L){z y:Nat}{x:Ck.Map}{t:jl}(g:aL w z 0 [.int .i64 x.pos,.string x.of,.int .u64 x.Q7,.bool x.write,.bool x.exec])(j:aL w y 0 [.int .u64 t.size,.bool t.big,.bool t.wx])(u:x.Q7<lim)(q:t.size<lim)(a:Act)(W:a.tmps.size=108)(Y:At a 0 (.pointer (some ⟨pb,0,none⟩)))(Z:At a 9 (.pointer (some ⟨z,0,none⟩)))(V:At a 10 (.pointer (some ⟨y,0,none⟩)))(Q:Exit→Act→World→Prop)
 (N:∀C w',aE (fun i=>(rg 53 61 i)) a C→aG B w' pb v P eL (say (below x.Q7 t.size 549755813888) x.pos 1++L)→aD (fun k=>k=pb) w w'→Q .normal C w'):
 (ax Tryz.f29 [1,1,1,0,0,1,1,0,0,1,1,1,0,1,0,0,1,1,0,0,1,1,1,0]).wp Tryz.prog Q a w:=by
 unfold lim at u q;refine Code.wp_only (R:=fun C w'=>aE (fun i=>(rg 53 61 i)) a C∧aG B w' pb v P eL (say (below x.Q7 t.size 549755813888) x.pos 1++L)∧aD (fun k=>k=pb) w w') ?_ (fun U X h=>N U X h.1 h.2.1 h.2.2);clear N
 conv=>arg 2;whnf
 have q0:=g.c0;have q1:=g 1 _ rfl;have q2:=g 2 _ rfl;have q3:=g 3 _ rfl;have q4:=g 4 _ rfl;have y0:=j.c0;have y1:=j 1 _ rfl;have y2:=j 2 _ rfl;obtain⟨b,I⟩:∃b,b=below x.Q7 t.size 549755813888:=⟨_,rfl⟩;have l:=fun w0=>tW (jx x.Q7 t.size 549755813888 w0 u q ψ)
 rw[←I]at l;have O:Hid (say (below x.Q7 t.size 549755813888) x.pos 1=say b x.pos 1):=by rw[←I];exact hh rfl
 have E:=hh (h.new ((aD.refl _ w).drew));clear h g j I;obtain⟨T,d⟩:=a;refine wp_region_still_tail 8 δ δ ?_;simp only[List.take_succ_cons,List.take_zero,List.drop_succ_cons,List.drop_zero]
 iterate 5 with_reducible refine sl ?_
 with_reducible refine wpStill_step (fun K D=>?_)
 go_simp;with_reducible refine⟨_,l _,D _ ?_⟩;clear D K
 iterate 2 with_reducible refine sl ?_
 with_reducible refine wpStill_nil ?_;refine Lz (fun K D=>?_)
 go_simp;refine(aR _ _ 1 40 E.out rfl).mono ?_;rintro e w2 ⟨rfl,H,J⟩;with_reducible refine D _ _ (ln ?_)
 refine⟨rfl,?_,?_,?_⟩
 ·exact ag
 ·rw[O.out]
  exact H
 ·exact((aD.refl _ _).drew).trans J (fun _ _ e=>e)
theorem AN{v:ae}{P:aF}(h:aG B w pb v P eL L){z y:Nat}{x:Ck.Map}{t:jl}(l:aL w z 0 [.int .i64 x.pos,.string x.of,.int .u64 x.Q7,.bool x.write,.bool x.exec])(u:aL w y 0 [.int .u64 t.size,.bool t.big,.bool t.wx])(N:x.Q7<lim)(J:t.size<lim)(a:Act)(Y:a.tmps.size=108)(h0:At a 0 (.pointer (some ⟨pb,0,none⟩)))(h9:At a 9 (.pointer (some ⟨z,0,none⟩)))(X:At a 10 (.pointer (some ⟨y,0,none⟩))){dv:Bool}(h6:At a 6 (.bool dv))(Q:Exit→Act→World→Prop)
 (U:∀E w',aE (fun i=>(rg 62 81 i)) a E→aG B w' pb v P eL (say (!x.exec || !dv&&(t.wx || !x.write)) x.pos 3++L)→aD (fun k=>k=pb) w w'→Q .normal E w'):
 (ax Tryz.f29 [1,1,1,0,0,1,1,0,0,1,1,1,0,1,0,0,1,1,0,0,1,1,1,1,0]).wp Tryz.prog Q a w:=by
 unfold lim at N J;refine Code.wp_only (R:=fun E w'=>aE (fun i=>(rg 62 81 i)) a E∧aG B w' pb v P eL (say (!x.exec || !dv&&(t.wx || !x.write)) x.pos 3++L)∧aD (fun k=>k=pb) w w') ?_ (fun V w4 h=>U V w4 h.1 h.2.1 h.2.2);clear U
 conv=>arg 2;whnf
 have q0:=l.c0;have q1:=l 1 _ rfl;have q2:=l 2 _ rfl;have q3:=l 3 _ rfl;have q4:=l 4 _ rfl;have y0:=u.c0;have y1:=u 1 _ rfl;have y2:=u 2 _ rfl;obtain⟨b1,H⟩:∃b,x.exec=b:=⟨_,rfl⟩;obtain⟨b2,I⟩:∃b,t.wx=b:=⟨_,rfl⟩;obtain⟨W,e3⟩:∃b,x.write=b:=⟨_,rfl⟩;rw[H]at q4;rw[I]at y2;rw[e3]at q3;have D:Hid (say (!x.exec || !dv&&(t.wx || !x.write)) x.pos 3=say (!b1 || !dv&&(b2 || !W)) x.pos 3):=by rw[H,I,e3];exact hh rfl
 have q:=hh h;have Z:=aU;clear h l u H I e3;obtain⟨T,d⟩:=a;refine rl ?_
 cases b1
 ·skip
  iterate 19 with_reducible refine st ?_
  with_reducible refine Lz (fun K C=>?_)
  go_simp;refine(aR _ _ 3 104 q.out rfl).mono ?_;rintro e O ⟨rfl,g,j⟩;with_reducible refine C _ _ (ln ?_)
  refine⟨rfl,?_,?_,?_⟩
  ·exact ag
  ·rw[D.out]
   exact g
  ·exact j
 ·cases dv
  ·cases b2
   ·skip
    iterate 19 with_reducible refine st ?_
    with_reducible refine Lz (fun K C=>?_)
    go_simp;refine(aR _ _ 3 104 q.out rfl).mono ?_;rintro e O ⟨rfl,g,j⟩;with_reducible refine C _ _ (ln ?_)
    refine⟨rfl,?_,?_,?_⟩
    ·exact ag
    ·rw[D.out]
     simpa using g
    ·exact j
   ·skip
    iterate 19 with_reducible refine st ?_
    with_reducible refine Lz (fun K C=>?_)
    go_simp;refine(aR _ _ 3 104 q.out rfl).mono ?_;rintro e O ⟨rfl,g,j⟩;with_reducible refine C _ _ (ln ?_)
    refine⟨rfl,?_,?_,?_⟩
    ·exact ag
    ·rw[D.out]
     simpa using g
    ·exact j
  ·skip
   iterate 19 with_reducible refine st ?_
   with_reducible refine Lz (fun K C=>?_)
   go_simp;refine(aR _ _ 3 104 q.out rfl).mono ?_;rintro e O ⟨rfl,g,j⟩;with_reducible refine C _ _ (ln ?_)
   refine⟨rfl,?_,?_,?_⟩
   ·exact ag
   ·rw[D.out]
    exact g
   ·exact j
theorem yH{v:ae}{P:aF}(h:aG B w pb v P eL L){z y:Nat}{x:Ck.Map}{t:jl}(g:aL w z 0 [.int .i64 x.pos,.string x.of,.int .u64 x.Q7,.bool x.write,.bool x.exec])(j:aL w y 0 [.int .u64 t.size,.bool t.big,.bool t.wx])(E:x.Q7<lim)(D:t.size<lim)(a:Act)(V:a.tmps.size=108)(Y:At a 0 (.pointer (some ⟨pb,0,none⟩)))(h9:At a 9 (.pointer (some ⟨z,0,none⟩)))(O:At a 10 (.pointer (some ⟨y,0,none⟩))){n:Nat}(Z:At a 3 (.int .u64 n))(Q:Exit→Act→World→Prop)
 (I:∀l w',aE (fun i=>(rg 87 92 i)) a l→aG B w' pb v P eL (say (decide (n≤131072)) x.pos 4++L)→aD (fun k=>k=pb) w w'→Q .normal l w'):
 (ax Tryz.f29 [1,1,1,0,0,1,1,0,0,1,1,1,0,1,0,0,1,1,0,0,1,1,1,1,1,1,0]).wp Tryz.prog Q a w:=by
 unfold lim at E D;refine Code.wp_only (R:=fun l w'=>aE (fun i=>(rg 87 92 i)) a l∧aG B w' pb v P eL (say (decide (n≤131072)) x.pos 4++L)∧aD (fun k=>k=pb) w w') ?_ (fun N W h=>I N W h.1 h.2.1 h.2.2);clear I
 conv=>arg 2;whnf
 have q0:=g.c0;have q1:=g 1 _ rfl;have q2:=g 2 _ rfl;have q3:=g 3 _ rfl;have q4:=g 4 _ rfl;have y0:=j.c0;have y1:=j 1 _ rfl;have y2:=j 2 _ rfl;obtain⟨b1,H⟩:∃b,decide (n≤131072)=b:=⟨_,rfl⟩;have J:Hid (say (decide (n≤131072)) x.pos 4=say b1 x.pos 4):=by rw[H];exact hh rfl
 have X:decide ((n:Int)≤131072)=b1:=by rw[←H];exact decide_eq_decide.2 χ
 have q:=hh h;clear h g j;obtain⟨T,d⟩:=a;refine rl ?_
 iterate 5 with_reducible refine st ?_
 with_reducible refine Lz (fun K U=>?_)
 go_simp;refine(aR _ _ 4 4 q.out rfl).mono ?_;rintro e w2 ⟨rfl,u,C⟩;with_reducible refine U _ _ (ln ?_)
 refine⟨rfl,?_,?_,?_⟩
 ·exact ag
 ·rw[J.out]
  exact u
 ·exact C
theorem C5{v:ae}{P:aF}(h:aG B w pb v P eL L){z y:Nat}{x:Ck.Map}{t:jl}(D:aL w z 0 [.int .i64 x.pos,.string x.of,.int .u64 x.Q7,.bool x.write,.bool x.exec])(I:aL w y 0 [.int .u64 t.size,.bool t.big,.bool t.wx])(a:Act)(H:a.tmps.size=108)(h9:At a 9 (.pointer (some ⟨z,0,none⟩)))(ac:At a 10 (.pointer (some ⟨y,0,none⟩))){Z:Nat}{u:Value}{l:List db}(h7:At a 7 u)(HO:Hid (w.ownsRow Z 172 3 u l.length (ab l)))(hl:l.length≤8388608)(hZ:Z≤w.heap.size)(W:B≤Z)(Q:Exit→Act→World→Prop)
 (X:∀V w' J,aE (fun i=>i==7||(rg 93 102 i)) a V→At V 7 J→w'.ownsRow Z 172 3 J (l.length+1) (ab (l++[⟨x.Q7,t.size,x.pos⟩]))→aG B w' pb v P eL L→aD (fun k=>u.ownBlock=some k) w w'→Q .normal V w'):
 (ax Tryz.f29 [1,1,1,0,0,1,1,0,0,1,1,1,0,1,0,0,1,1,0,0,1,1,1,1,1,1,1]).wp Tryz.prog Q a w:=by
 conv=>arg 2;whnf
 refine Code.wp_only (R:=fun K E=>aE (fun i=>i==7||(rg 93 102 i)) a K∧(∃J,At K 7 J∧E.ownsRow Z 172 3 J (l.length+1) (ab (l++[⟨x.Q7,t.size,x.pos⟩])))∧aG B E pb v P eL L∧aD (fun k=>u.ownBlock=some k) w E) ?_ (fun K E h=>X K E h.2.1.choose h.1 h.2.1.choose_spec.1 h.2.1.choose_spec.2 h.2.2.1 h.2.2.2);clear X;have q0:=D.c0;have q2:=D 2 _ rfl;have y0:=I.c0;have HL:=hh h;clear h D I;obtain⟨T,d⟩:=a;refine rl ?_
 iterate 9 with_reducible refine st ?_
 have Y:=ap w [.int .u64 x.Q7,.int .u64 t.size,.int .i64 x.pos] 172;have g:Kz w (w.alloc (.cells #[.int .u64 x.Q7,.int .u64 t.size,.int .i64 x.pos] 172)):=(aD.refl _ _).alloc _;have q:=hh (aK HO.out g (fun _ _ h=>h));refine nD (p:=⟨x.Q7,t.size,x.pos⟩) rfl rfl rfl (At.eval (by exact aq) (by have:=H;simp at this⊢; omega)) q.out χ (At.eval (by exact aq) (by have:=H;simp at this⊢; omega)) Y (by have:=g.size;omega) ?_;intro u2 E j C;have U:=hh j;have N:Hid (aD (fun k=>u.ownBlock=some k) w E):=(g.mono fun _ _ h=>h.elim).trans C (fun i hi h=>h);have O:=hh ((HL.out.new g).grown q.out W ψ C);clear j C Y g q;simp only[Act.put];with_reducible refine st ?_;refine ln ?_
 refine⟨rfl,ag,⟨u2,aq,U.out⟩,O.out,N.out⟩
def rM(P:aF)(dv:Bool)(n:Nat)(x:Ck.Map):List Wr:=
 say (decide (x.Q7%cX (aP P x.of).big=0)) x.pos 0++say (below x.Q7 (aP P x.of).size 549755813888) x.pos 1++say (!x.exec || !dv&&((aP P x.of).wx || !x.write)) x.pos 3++say (decide ((n+(aP P x.of).size / 4096)%M64≤131072)) x.pos 4
theorem mm(P:aF)(dv:Bool)(x:Ck.Map):∀(l:List Ck.Map) (n:Nat),bH P dv n (l++[x])=((bH P dv n l).1++rM P dv (bH P dv n l).2 x,((bH P dv n l).2+(aP P x.of).size / 4096)%M64)
 | [],n=>by simp[bH,rM];rfl
 | m::t,n=>by
  have d:=mm P dv x t ((n+(aP P m.of).size / 4096)%M64);simp only[List.cons_append,bH,d,List.append_assoc]
theorem lj(P:aF)(dv:Bool):∀(l:List Ck.Map) (n:Nat),n<lim→(bH P dv n l).2<lim
 | [],n,h=>h
 | m::t,n,h=>lj P dv t _ (Nat.mod_lt _ ψ)
theorem pr(P:aF)(l:List Ck.Map)(x:Ck.Map):bJ P (l++[x])=bJ P l++[⟨x.Q7,(aP P x.of).size,x.pos⟩]:=by simp[bJ]
theorem vI{v:ae}{P:aF}(h:aG B w pb v P eL L){mb:Nat}(hm:gN w mb P)(eb:mb<w.heap.size)(di:mb≠pb)(c3:∀s,(aP P s).size<lim){A:Option Addr}{c:Nat}{l:List Ck.Map}(hs:aM B 5 eK w (.slice A l.length c) l){n0:Nat}(dk:n0<lim){dv:Bool}(a:Act)(dt:a.tmps.size=108)(h0:At a 0 (.pointer (some ⟨pb,0,none⟩)))(h2:At a 2 (.map (some mb)))(h3:At a 3 (.int .u64 n0))(h5:At a 5 (.slice A l.length c))(h6:At a 6 (.bool dv))(h7:At a 7 (.slice none 0 0))(Q:Exit→Act→World→Prop)
 (hQ:∀a' w' u',aE (fun i=>i==3||i==7||i==9||i==10||(rg 32 103 i)) a a'→At a' 7 u'→w'.ownsRow w.heap.size 172 3 u' (bJ P l).length (ab (bJ P l))→l.length≤8388608→At a' 3 (.int .u64 (bH P dv n0 l).2)→aG B w' pb v P eL ((bH P dv n0 l).1++L)→aD (fun k=>k=pb) w w'→Q .normal a' w'):
 (ax Tryz.f29 [1,1,1,0,0,1,1,0,0,1,1,1,0]).wp Tryz.prog Q a w:=by
 obtain⟨_,_,e,ec,hn,hl⟩:=hs
 cases e
 unfold top at hn;have ea:=h.lt;have d8:=h.base;have HM:=hh hm;have c6:=hh c3;clear hm c3
 conv=>arg 2;whnf
 refine so (fun a1 w1=>aE (fun i=>(rg 32 34 i)) a a1∧At a1 32 (.slice A l.length c)∧At a1 33 (.int .i64 l.length)∧At a1 34 (.int .i64 0)∧w1=w) ?_ ?_
 ·clear hl
  obtain⟨T,d⟩:=a;refine rl ?_
  iterate 3 with_reducible refine st ?_
  with_reducible refine ln ?_
  refine⟨rfl,ag,aq,aq,aq,rfl⟩
 rintro a0 w0 ⟨be,d4,d3,d1,rfl⟩;have cw:=be.size.trans dt;replace h0:=be.Q7 h0 rfl;replace h2:=be.Q7 h2 rfl;replace h3:=be.Q7 h3 rfl;replace h6:=be.Q7 h6 rfl;replace h7:=be.Q7 h7 rfl;obtain⟨Z,hZ⟩:∃z,z=w0.heap.size:=⟨_,rfl⟩;rw[←hZ]at hQ;have HZ:=hh hZ;clear hZ;refine bX l.length (fun i=>i==3||i==7||i==9||i==10||(rg 34 103 i)) (fun i=>i==3||i==7||i==9||i==10||(rg 36 102 i)) (fun k a' w'=>∃u,At a' 7 u∧w'.ownsRow Z 172 3 u (bJ P (l.take k)).length (ab (bJ P (l.take k)))∧At a' 3 (.int .u64 (bH P dv n0 (l.take k)).2)∧aG B w' pb v P eL ((bH P dv n0 (l.take k)).1++L)∧aD (fun k=>k=pb) w0 w') χ d1 d3 ψ rfl
  ζ χ ψ (fun k a1 a2 w hA ⟨u,h1,h2,h3,h4⟩=>⟨u,hA.Q7 h1 rfl,h2,hA.Q7 h3 rfl,h4⟩) ⟨_,h7,by simpa[bJ,ab]using World.ownsRow_nil _ _ _ _,by simpa[bH]using h3,by simpa[bH]using h,aD.refl _ _⟩ ?_ ?_
 ·rintro k a1 wr cp hA d2 ⟨u,J,al,D,hL,hk⟩
  obtain⟨bl,off,rfl,c9,cj⟩:=hl χ;obtain⟨x,hx⟩:=ge cp;obtain⟨hc,bd⟩:=(aI B _ _) _ _ _ _ _ (hk.below (B:=B) χ (fun _ hi e=>χ)) c9 (cj k x hx);have q0:=hc.c0;have q1:=hc 1 _ rfl;have q2:=hc 2 _ rfl;have q3:=hc 3 _ rfl;have q4:=hc 4 _ rfl;have H:=hA.Q7 h0 rfl;have R:=hA.Q7 h2 rfl;have O:=hA.Q7 h6 rfl;have c4:=hA.Q7 d4 rfl;have cx:=hA.size.trans cw;have cy:=hk.size;have cf:bl<wr.heap.size:=χ
  have d9:k≤c:=χ
  have bt:Hid (bH P dv n0 (l.take (k+1))=((bH P dv n0 (l.take k)).1++rM P dv (bH P dv n0 (l.take k)).2 x,((bH P dv n0 (l.take k)).2+(aP P x.of).size / 4096)%M64)):=by
   refine hh ?_;rw[aO hx,mm]
  have HR:Hid (bJ P (l.take (k+1))=bJ P (l.take k)++[⟨x.Q7,(aP P x.of).size,x.pos⟩]):=by
   refine hh ?_;rw[aO hx,pr]
  have ds:(bJ P (l.take k)).length≤k:=by simp[bJ];omega
  have cs:=lj P dv (l.take k) n0 dk;obtain⟨fs,cm⟩:∃q,q=bJ P (l.take k):=⟨_,rfl⟩;rw[←cm]at al HR ds;clear cm;obtain⟨⟨S,n⟩,cv⟩:∃q,q=bH P dv n0 (l.take k):=⟨_,rfl⟩;rw[←cv]at D hL bt cs;clear cv
  dsimp only at D hL bt cs
  obtain⟨t,ht⟩:∃t,t=aP P x.of:=⟨_,rfl⟩;have bx:t.size<lim:=by rw[ht];exact c6.out _
  rw[←ht]at HR bt;have HT:=hh ht;have HO:=hh al;have HL:=hh hL;have HK:=hh hk;have HA:=hh hA;clear hx al hk hA cj hc hl hL ht;refine so (fun a2 w2=>aE (fun i=>i==36||i==37||i==9) a1 a2∧At a2 9 (.pointer (some ⟨wr.heap.size,0,none⟩))∧w2=wr.alloc (.cells #[.int .i64 x.pos,.string x.of,.int .u64 x.Q7,.bool x.write,.bool x.exec] 93)) ?_ ?_
  ·obtain⟨T,d⟩:=a1
   refine rl ?_
   iterate 4 with_reducible refine st ?_
   with_reducible refine ln ?_
   refine⟨rfl,ag,aq,rfl⟩
  rintro a2 wo ⟨bc,I,b3⟩;obtain⟨z,hz⟩:∃z,z=wr.heap.size:=⟨_,rfl⟩;rw[←hz]at I;have E:aL wo z 0 [.int .i64 x.pos,.string x.of,.int .u64 x.Q7,.bool x.write,.bool x.exec]:=by rw[b3,hz];exact ap _ _ _
  have N:z<wo.heap.size:=by rw[b3,hz];simp
  have b0:Kz wr wo:=by rw[b3];exact(aD.refl _ _).alloc _
  have bs:z≠pb:=χ
  have d7:pb<z:=χ
  have g:=bc.size.trans cx;have H:=bc.Q7 H rfl;have R:=bc.Q7 R rfl;have D:=bc.Q7 D rfl;have O:=bc.Q7 O rfl;have J:=bc.Q7 J rfl;have bz:Hid (∀k,u.ownBlock=some k→k<z∧k≠pb):=fun k hk=>by have h1:=(HO.out.lt k hk);have:=HZ.out;omega
  have HO:=hh (aK HO.out b0 (fun _ _ h=>h));have X:=hh (HL.out.new b0);have V:=hh (HK.out.trans b0 (fun _ _ h=>h.elim));have U:Hid (aE (fun i=>i==3||i==7||i==9||i==10||(rg 36 102 i)) a1 a2):=bc.m;clear b3 hz b0 HL HK bc c4 d2 cy cf q0 q1 q2 q3 q4;obtain⟨nm,cu⟩:=HM.out;have b5:=hh (cu.keep V.out di);clear cu;refine so (fun a3 w3=>aE (fun i=>i==10||(rg 38 41 i)) a2 a3∧At a3 10 (.pointer (some ⟨wo.heap.size,0,none⟩))∧w3=wo.alloc (.cells #[.int .u64 t.size,.bool t.big,.bool t.wx] 178)) ?_ ?_
  ·have q1:=E 1 _ rfl
   clear E;obtain⟨T,d⟩:=a2;refine rl ?_
   iterate 3 with_reducible refine st ?_
   refine cV.lookup rfl b5.out rfl rfl Tryz.underlying133 wH (At.eval (by exact aq) (by have:=g;simp at this⊢; omega)) (At.eval (by exact aq) (by have:=g;simp at this⊢; omega)) (by have:=bd.2.2;unfold aV at this;unfold maxLen;omega) ?_;rw[←HT.out];simp only[Act.put,yf]
   iterate 2 with_reducible refine st ?_
   with_reducible refine ln ?_
   refine⟨rfl,ag,aq,rfl⟩
  rintro a3 w3 ⟨an,C,b2⟩;obtain⟨y,hy⟩:∃y,y=wo.heap.size:=⟨_,rfl⟩;rw[←hy]at C;have K:aL w3 y 0 [.int .u64 t.size,.bool t.big,.bool t.wx]:=by rw[b2,hy];exact ap _ _ _
  have W:y<w3.heap.size:=by rw[b2,hy];simp
  have bw:Kz wo w3:=by rw[b2];exact(aD.refl _ _).alloc _
  have bp:y≠pb:=χ
  have ed:z<y:=χ
  have E:=E.keep bw N (fun h=>h);have N:z<w3.heap.size:=Θ N bw.size;have HO:=hh (aK HO.out bw (fun _ _ h=>h));have X:=hh (X.out.new bw);have V:=hh (V.out.trans bw (fun _ _ h=>h.elim));have c7:True:=trivial;clear b2 hy;have H:=an.Q7 H rfl;have R:=an.Q7 R rfl;have D:=an.Q7 D rfl;have O:=an.Q7 O rfl;have J:=an.Q7 J rfl;have I:=an.Q7 I rfl;have g:=an.size.trans g;have U:Hid (aE (fun i=>i==3||i==7||i==9||i==10||(rg 36 102 i)) a1 a3):=U.out.t an;clear an bw b5 c7;refine wp_seq (AM X.out E K bd.2.1 bx a3 g H I C _ (fun a4 w4 Y ca bf=>?_));have E:=E.keep bf N bs;have N:z<w4.heap.size:=Θ N bf.size;have K:=K.keep bf W bp;have W:y<w4.heap.size:=Θ W bf.size;have HO:=hh (aK HO.out bf (fun j hj e=>(bz.out j hj).2 e));have X:=hh ca;have V:=hh (V.out.trans bf (fun _ _ e=>e));have H:=Y.Q7 H rfl;have R:=Y.Q7 R rfl;have D:=Y.Q7 D rfl;have O:=Y.Q7 O rfl;have J:=Y.Q7 J rfl;have I:=Y.Q7 I rfl;have C:=Y.Q7 C rfl;have g:=Y.size.trans g;have U:Hid (aE (fun i=>i==3||i==7||i==9||i==10||(rg 36 102 i)) a1 a4):=U.out.t Y;clear Y ca bf;refine wp_seq (yI X.out E K bd.2.1 bx a4 g H I C _ (fun a5 w5 ac cb bg=>?_));have E:=E.keep bg N bs;have N:z<w5.heap.size:=Θ N bg.size;have K:=K.keep bg W bp;have W:y<w5.heap.size:=Θ W bg.size;have HO:=hh (aK HO.out bg (fun j hj e=>(bz.out j hj).2 e));have X:=hh cb;have V:=hh (V.out.trans bg (fun _ _ e=>e));have H:=ac.Q7 H rfl;have R:=ac.Q7 R rfl;have D:=ac.Q7 D rfl;have O:=ac.Q7 O rfl;have J:=ac.Q7 J rfl;have I:=ac.Q7 I rfl;have C:=ac.Q7 C rfl;have g:=ac.size.trans g;have U:Hid (aE (fun i=>i==3||i==7||i==9||i==10||(rg 36 102 i)) a1 a5):=U.out.t ac;clear ac cb bg;refine wp_seq (AN X.out E K bd.2.1 bx a5 g H I C O _ (fun a6 w6 ad cc bm=>?_));have E:=E.keep bm N bs;have N:z<w6.heap.size:=Θ N bm.size;have K:=K.keep bm W bp;have W:y<w6.heap.size:=Θ W bm.size;have HO:=hh (aK HO.out bm (fun j hj e=>(bz.out j hj).2 e));have X:=hh cc;have V:=hh (V.out.trans bm (fun _ _ e=>e));have H:=ad.Q7 H rfl;have R:=ad.Q7 R rfl;have D:=ad.Q7 D rfl;have O:=ad.Q7 O rfl;have J:=ad.Q7 J rfl;have I:=ad.Q7 I rfl;have C:=ad.Q7 C rfl;have g:=ad.size.trans g;have U:Hid (aE (fun i=>i==3||i==7||i==9||i==10||(rg 36 102 i)) a1 a6):=U.out.t ad;clear ad cc bm;obtain⟨n2,b1⟩:∃m,m=(n+t.size / 4096)%M64:=⟨_,rfl⟩;have d0:IntKind.u64.wrap ((n:Int)+IntKind.u64.wrap ((t.size:Int) / 4096))=(n2:Int):=by
   unfold lim at bx;rw[b1,IntKind.wrap_u64,IntKind.wrap_u64];show _=(((n+t.size / 4096)%18446744073709551616:Nat):Int);omega
  rw[←b1]at bt;have c5:=hh b1;clear b1;refine so (fun a7 w7=>aE (fun i=>i==3||(rg 82 86 i)) a6 a7∧At a7 3 (.int .u64 n2)∧w7=w6) ?_ ?_
  ·have y0:=K.c0
   clear E K;obtain⟨T,d⟩:=a6;refine rl ?_
   iterate 6 with_reducible refine st ?_
   with_reducible refine ln ?_
   refine⟨rfl,ag,aq,rfl⟩
  rintro a7 w7 ⟨bb,D,rfl⟩;have H:=bb.Q7 H rfl;have R:=bb.Q7 R rfl;have O:=bb.Q7 O rfl;have J:=bb.Q7 J rfl;have I:=bb.Q7 I rfl;have C:=bb.Q7 C rfl;have g:=bb.size.trans g;have U:Hid (aE (fun i=>i==3||i==7||i==9||i==10||(rg 36 102 i)) a1 a7):=U.out.t bb;clear bb d0;refine wp_seq (yH X.out E K bd.2.1 bx a7 g H I C D _ (fun a8 w8 af cd bo=>?_));have E:=E.keep bo N bs;have N:z<w8.heap.size:=Θ N bo.size;have K:=K.keep bo W bp;have W:y<w8.heap.size:=Θ W bo.size;have HO:=hh (aK HO.out bo (fun j hj e=>(bz.out j hj).2 e));have X:=hh cd;have V:=hh (V.out.trans bo (fun _ _ e=>e));have H:=af.Q7 H rfl;have R:=af.Q7 R rfl;have D:=af.Q7 D rfl;have O:=af.Q7 O rfl;have J:=af.Q7 J rfl;have I:=af.Q7 I rfl;have C:=af.Q7 C rfl;have g:=af.size.trans g;have U:Hid (aE (fun i=>i==3||i==7||i==9||i==10||(rg 36 102 i)) a1 a8):=U.out.t af;clear af cd bo;refine C5 X.out E K a8 g I C J HO χ (by have:=V.out.size;have:=HZ.out;omega) (by have:=HZ.out;omega) _ (fun a9 w9 u9 b6 k7 b4 c8 dc=>?_);refine⟨U.out.t b6,u9,k7,?_,?_,c8.congr fun p=>?_,V.out.trans dc (fun j hj e=>?_)⟩
  ·rw[HR.out,List.length_append];exact b4
  ·rw[bt.out];exact b6.Q7 D rfl
  ·rw[bt.out]
   simp only[List.mem_append,rM,←HT.out,←c5.out]
   try simp only[or_assoc,or_comm,or_left_comm]
  ·have:=(HO.out.lt j e).1;have:=HZ.out;omega
 ·rintro a' w' hA ⟨u,J,al,D,hL,hk⟩
  rw[List.take_length]at al hL D;exact hQ _ _ _ ((be.m).t hA) J al χ D hL hk
def fL(P:aF):Nat→List Wr×Nat
 | 0=>([],0)
 | k+1=>match P.spaces[k]? with
  | some l=>(dZ 2 (bJ P l)++((bH P (decide (P.Q4.length≤k)) (fL P k).2 l).1++(fL P k).1),(bH P (decide (P.Q4.length≤k)) (fL P k).2 l).2)
  | none=>fL P k
theorem rB(P:aF):∀k,(fL P k).2<lim
 | 0=>by simp[fL]
 | k+1=>by
  unfold fL;split
  ·exact lj P _ _ _ (rB P k)
  ·exact rB P k
theorem iM(P:aF)(dv:Bool)(l:List Ck.Map):∀(t:List (List Ck.Map)) (n:Nat),bM P dv n (t++[l])=((bM P dv n t).1++((bH P dv (bM P dv n t).2 l).1++dZ 2 (bJ P l)),(bH P dv (bM P dv n t).2 l).2)
 | [],n=>by simp[bM]
 | m::t,n=>by
  have d:=iM P dv l t (bH P dv n m).2;simp only[List.cons_append,bM,d,List.append_assoc]
theorem qR(P:aF):∀k,k≤P.Q4.length→(fL P k).2=(bM P false 0 ((P.Q4.map ak.QA).take k)).2∧∀p,p∈(fL P k).1↔p∈(bM P false 0 ((P.Q4.map ak.QA).take k)).1
 | 0,_=>by simp[fL,bM]
 | k+1,h=>by
  obtain⟨j,l⟩:=qR P k χ;have hk:k<(P.Q4.map ak.QA).length:=by rw[List.length_map];omega
  have d:P.spaces[k]?=some (P.Q4.map ak.QA)[k]:=by unfold aF.spaces;rw[List.getElem?_append_left hk,Ez hk]
  have g:(P.Q4.map ak.QA).take (k+1)=(P.Q4.map ak.QA).take k++[(P.Q4.map ak.QA)[k]]:=List.take_succ_eq_append_getElem hk;have e3:decide (P.Q4.length≤k)=false:=η
  rw[g,iM];unfold fL;rw[d,e3]
  dsimp only
  rw[j];refine⟨rfl,fun p=>?_⟩;simp only[List.mem_append,l];constructor
  ·rintro(h|h|h)
   ·exact .inr (.inr h)
   ·exact .inr (.inl h)
   ·exact .inl h
  ·rintro(h|h|h)
   ·exact .inr (.inr h)
   ·exact .inr (.inl h)
   ·exact .inl h
theorem qS(P:aF):∀k,k≤P.Q5.length→(fL P (P.Q4.length+k)).2=(bM P true (bM P false 0 (P.Q4.map ak.QA)).2 ((P.Q5.map bR.QA).take k)).2∧∀p,p∈(fL P (P.Q4.length+k)).1↔p∈(bM P false 0 (P.Q4.map ak.QA)).1++(bM P true (bM P false 0 (P.Q4.map ak.QA)).2 ((P.Q5.map bR.QA).take k)).1
 | 0,_=>by
  obtain⟨d,g⟩:=qR P P.Q4.length (Γ _);rw[List.take_of_length_le (by rw[List.length_map];exact Γ _)]at d g;refine⟨by simpa[bM]using d,fun p=>?_⟩
  simpa[bM]using g p
 | k+1,h=>by
  obtain⟨d,g⟩:=qS P k χ;have hk:k<(P.Q5.map bR.QA).length:=by rw[List.length_map];omega
  have j:P.spaces[P.Q4.length+k]?=some (P.Q5.map bR.QA)[k]:=by
   unfold aF.spaces;rw[List.getElem?_append_right ξ,List.length_map,Nat.add_sub_cancel_left,Ez hk]
  have l:(P.Q5.map bR.QA).take (k+1)=(P.Q5.map bR.QA).take k++[(P.Q5.map bR.QA)[k]]:=List.take_succ_eq_append_getElem hk;have e3:decide (P.Q4.length≤P.Q4.length+k)=true:=ξ
  rw[l,iM,←Nat.add_assoc];unfold fL;rw[j,e3]
  dsimp only
  rw[d];refine⟨rfl,fun p=>?_⟩;have:=g p;simp only[List.mem_append]at this⊢;rw[this];constructor
  ·rintro(h|h|h|h)
   ·exact .inr (.inr (.inr h))
   ·exact .inr (.inr (.inl h))
   ·exact .inl h
   ·exact .inr (.inl h)
  ·rintro(h|h|h|h)
   ·exact .inr (.inr (.inl h))
   ·exact .inr (.inr (.inr h))
   ·exact .inr (.inl h)
   ·exact .inl h
theorem zN(P:aF)(p:Wr):p∈(fL P P.spaces.length).1↔p∈lF P:=by
 have h:=(qS P P.Q5.length (Γ _)).2 p;rw[List.take_of_length_le (by rw[List.length_map];exact Γ _)]at h;have e:P.spaces.length=P.Q4.length+P.Q5.length:=by simp[aF.spaces]
 rw[e,h];rfl
theorem yG{v:ae}{P:aF}(h:aG B w pb v P eL []){mb:Nat}(hm:gN w mb P)(ee:mb<w.heap.size)(b3:mb≠pb)(a:Act)(c8:a.tmps.size=108)(h0:At a 0 (.pointer (some ⟨pb,0,none⟩)))(h2:At a 2 (.map (some mb)))(h3:At a 3 (.int .u64 (0:Nat)))(Q:Exit→Act→World→Prop)
 (hQ:∀a' w',aE (fun i=>i==3||i==4||i==5||i==6||i==7||i==9||i==10||(rg 16 107 i)) a a'→aG B w' pb v P eL (lF P)→aD (fun k=>k=pb) w w'→Q .normal a' w'):
 (ax Tryz.f29 [1,1]).wp Tryz.prog Q a w:=by
 have ed:=h.lt;have ec:=h.base;have cd:=fun s=>ru h.QU s
 have cw:=hh (oD h);have HH:=hh h;have HM:=hh hm;have bt:=hh cd;clear h hm cd
 conv=>arg 2;whnf
 refine so (fun V w1=>aE (fun i=>(rg 16 19 i)) a V∧∃A c vals,At V 17 (.slice A P.spaces.length c)∧At V 18 (.int .i64 P.spaces.length)∧At V 19 (.int .i64 0)∧w1.ownsRow w.heap.size 42 1 (.slice A P.spaces.length c) P.spaces.length vals∧SpV B w vals P.spaces∧Kz w w1) ?_ ?_
 ·obtain⟨T,d⟩:=a
  refine rl ?_;with_reducible refine st ?_;refine Lz (fun K hK=>?_)
  go_simp;refine cw.out.mono ?_;rintro e w1 ⟨u,vals,rfl,y,H,af⟩;have HV:=hh H;rw[H.1]at y;have HO:=hh y;have cu:=hh (jj af rfl);obtain⟨A,c,rfl⟩:∃A c,u=.slice A P.spaces.length c:=by
   rcases y.2 with⟨e1,e2⟩|⟨g,cx,cy,e1,_⟩
   ·exact⟨_,_,by rw[e1,e2]⟩
   ·exact⟨_,_,e1⟩
  clear y H af;with_reducible refine hK _ _ ?_;clear hK K
  iterate 2 with_reducible refine st ?_
  with_reducible refine ln ?_
  refine⟨rfl,ag,A,c,vals,aq,aq,aq,HO.out,HV.out,cu.out⟩
 rintro a0 w0 ⟨L,A,c,vals,d1,d0,ds,y,H,ac⟩;have ca:=L.size.trans c8;replace h0:=L.Q7 h0 rfl;replace h2:=L.Q7 h2 rfl;replace h3:=L.Q7 h3 rfl;have cv:=hh (HH.out.new ac);have a8:=hh y;have bp:=hh H;have c9:=ac.size;have J:=hh ac;have d9:P.spaces.length≤4194304:=by
  obtain⟨_,_,_,_,c4,_⟩:=HH.out.QU.Q4;obtain⟨_,_,_,_,c6,_⟩:=HH.out.QU.Q5;unfold top at c4 c6;simp only[aF.spaces,List.length_append,List.length_map];omega
 clear y H ac;refine bX P.spaces.length (fun i=>i==3||i==4||i==5||i==6||i==7||i==9||i==10||(rg 19 107 i)) (fun i=>i==3||i==4||i==5||i==6||i==7||i==9||i==10||(rg 21 106 i)) (fun k a' w'=>At a' 3 (.int .u64 (fL P k).2)∧aG B w' pb v P eL (fL P k).1∧aD (fun k=>k=pb) w0 w') χ ds d0 ψ rfl
  ζ χ ψ (fun k V a2 w W ⟨h1,h2⟩=>⟨W.Q7 h1 rfl,h2⟩) ⟨by simpa[fL]using h3,by simpa[fL]using cv.out,aD.refl _ _⟩ ?_ ?_
 ·rintro k V wr al W dt ⟨I,Y,hk⟩
  have ad:=W.Q7 h0 rfl;have bg:=W.Q7 h2 rfl;have cj:=W.Q7 d1 rfl;have cb:=W.size.trans ca;have eb:=hk.size;obtain⟨g,cx,hv,hB,b0⟩:=a8.out.form χ
  cases hv
  have d3:P.spaces.length≤c:=by
   rcases a8.out.2 with⟨e1,_⟩|⟨g1,d2,cy,e1,_,_,c3,_⟩
   ·cases e1
   ·cases e1;exact c3
  obtain⟨ls,bd⟩:=ge al;obtain⟨uv,bf⟩:∃x,vals[k]?=some x:=⟨_,Ez (by rw[bp.out.1];exact al)⟩;have U:=(bp.out.2 k uv ls bf bd).below (aI _ _ _) (((J.out.mono fun _ _ h=>h.elim:aD (fun k=>k=pb) w w0).trans hk (fun _ _ e=>e)).below (B:=B) χ (fun _ hi e=>χ));have q0:wr.cell? ⟨g,k,none⟩=some uv:=(hk.cell (p:=⟨g,k,none⟩) b0 (by show g≠pb;omega)).trans ((a8.out.cellAt k χ).trans bf);have a6:=DM U;obtain⟨A5,c5,rfl,b5⟩:=U;have U:aM B 5 eK wr (.slice A5 ls.length c5) ls:=⟨A5,c5,rfl,b5⟩;have N:fL P (k+1)=(dZ 2 (bJ P ls)++((bH P (decide (P.Q4.length≤k)) (fL P k).2 ls).1++(fL P k).1),(bH P (decide (P.Q4.length≤k)) (fL P k).2 ls).2):=by
   show(match P.spaces[k]? with|some l=>_|none=>_)=_;rw[bd]
  have be:=rB P k;obtain⟨⟨S,n⟩,b6⟩:∃q,q=fL P k:=⟨_,rfl⟩;rw[←b6]at I Y N be;clear b6
  dsimp only at I Y N be
  obtain⟨dv,Z⟩:∃b,b=decide (P.Q4.length≤k):=⟨_,rfl⟩;rw[←Z]at N;have bs:=hh N;have bo:=hh U;have bm:=hh a6;have HL:=hh Y;have HK:=hh hk;have HA:=hh W;have d4:decide ((P.Q4.length:Int)≤(k:Int))=dv:=by rw[Z];exact decide_eq_decide.2 χ
  have bz:decide (P.Q4.length≤k)=dv:=Z.symm;obtain⟨As,cs,cf,_,_,_⟩:=Y.QU.Q4;have q5:wr.cell? ⟨pb,5,none⟩=some v.Q4:=Y.cell rfl;rw[cf]at q5;have d8:pb<wr.heap.size:=Y.lt;clear N U b5 a6 Y hk W Z cf bd bf;refine so (fun a2 w2=>aE (fun i=>i==4||i==5||(rg 21 23 i)) V a2∧At a2 4 (.int .i64 k)∧At a2 5 (.slice A5 ls.length c5)∧w2=wr) ?_ ?_
  ·obtain⟨T,d⟩:=V
   refine rl ?_
   iterate 5 with_reducible refine st ?_
   with_reducible refine ln ?_
   refine⟨rfl,ag,aq,aq,rfl⟩
  rintro a2 w2 ⟨E,eg,dc,rfl⟩;have cc:=E.size.trans cb;have ad:=E.Q7 ad rfl;have bg:=E.Q7 bg rfl;have I:=E.Q7 I rfl;have cm:Hid (aE (fun i=>i==3||i==4||i==5||i==6||i==7||i==9||i==10||(rg 21 106 i)) V a2):=E.m;clear E cj dt q0;refine so (fun a3 w3=>aE (fun i=>i==6||(rg 24 31 i)) a2 a3∧At a3 6 (.bool dv)∧w3=w2) ?_ ?_
  ·obtain⟨T,d⟩:=a2
   refine rl ?_
   iterate 9 with_reducible refine st ?_
   with_reducible refine ln ?_
   refine⟨rfl,?_,?_,rfl⟩
   ·exact ag
   ·first|done|(repeat (first|with_reducible exact At.self|with_reducible apply At.ne))
    all_goals first|decide|(rw[←bz];exact At.self)
  rintro a3 w3 ⟨D,di,rfl⟩;refine so (fun a4 w4=>aE (fun i=>i==7) a3 a4∧At a4 7 (.slice none 0 0)∧w4=w3) ?_ ?_
  ·obtain⟨T,d⟩:=a3
   refine rl ?_;with_reducible refine st ?_;refine ln ?_
   refine⟨rfl,ag,aq,rfl⟩
  rintro a4 w4 ⟨C,dk,rfl⟩;have a7:=C.size.trans (D.size.trans cc);obtain⟨nm,c7⟩:=HM.out;have b2:gN w4 mb P:=⟨nm,c7.keep ((J.out.mono fun _ _ h=>h.elim:aD (fun k=>k=pb) w w0).trans HK.out (fun _ _ e=>e)) b3⟩;have an:mb<w4.heap.size:=χ
  have an:mb<w4.heap.size:=χ
  refine wp_seq (vI HL.out b2 an b3 bt.out bo.out be a4 a7 (C.Q7 (D.Q7 ad rfl) rfl) (C.Q7 (D.Q7 bg rfl) rfl) (C.Q7 (D.Q7 I rfl) rfl) (C.Q7 (D.Q7 dc rfl) rfl) (C.Q7 di rfl) dk _ (fun a5 w5 u5 X k7 O d7 k3 bx b1=>?_));have ea:=X.size.trans a7;have ei:=X.Q7 (C.Q7 (D.Q7 ad rfl) rfl) rfl;have b4:f8 w5 pb u5 (bJ P ls):=fN O (fun q hq=>by
   obtain⟨x,hx,rfl⟩:=List.mem_map.1 hq;have ok:=bm.out x hx;exact⟨ok.2.1,bt.out _,ok.1⟩) (by simp[bJ];omega) χ
  have HC:=hh (me bx b4 2 rfl);have bl:Hid (aE (fun i=>i==3||i==4||i==5||i==6||i==7||i==9||i==10||(rg 21 106 i)) V a5):=((cm.out.t D).t C).t X;have cp:=hh (HK.out.trans b1 (fun _ _ e=>e));clear b4 O bx b1 X C D b2 bo;refine Code.wp_only (R:=fun a9 w9=>aE (fun i=>(rg 104 106 i)) a5 a9∧aG B w9 pb v P eL (dZ 2 (bJ P ls)++((bH P dv n ls).1++S))∧aD (fun k=>k=pb) w5 w9) ?_ ?_
  ·obtain⟨T,d⟩:=a5
   refine rl ?_
   iterate 2 with_reducible refine st ?_
   with_reducible refine Lz (fun K hK=>?_)
   go_simp;refine HC.out.mono ?_;rintro e w9 ⟨rfl,bb,bc⟩;with_reducible refine hK _ _ (ln ?_)
   refine⟨rfl,?_,bb,bc⟩;exact ag
  rintro a9 w9 ⟨bw,bb,bc⟩;refine⟨bl.out.t bw,?_,?_,cp.out.trans bc (fun _ _ e=>e)⟩
  ·rw[bs.out];exact bw.Q7 k3 rfl
  ·rw[bs.out];exact bb
 ·rintro a' w' W ⟨I,Y,hk⟩
  exact hQ _ _ ((L.m).t W) (Y.congr fun p=>zN P p) ((J.out.mono fun _ _ h=>h.elim:aD (fun k=>k=pb) w w0).trans hk (fun _ _ e=>e))
theorem AL(hT:pV){B:Nat}{w:World}{pb:Nat}{v:ae}{P:aF}(h:aG B w pb v P eL []):
 Calls Tryz.prog 29 #[.pointer (some ⟨pb,0,none⟩)] w fun e w'=>e=.returned (.tuple #[])∧aG B w' pb v P eL (lF P)∧aD (fun k=>k=pb) w w':=by
 have af:=h.lt;have ad:=h.base;have HC:=hh (hT h.QU χ);have HH:=hh h;have q0:=h.cell (j:=0) rfl;have q1:=h.cell (j:=1) rfl;have q2:=h.cell (j:=2) rfl;have q3:=h.cell (j:=3) rfl;have q4:=h.cell (j:=4) rfl;have q5:=h.cell (j:=5) rfl;have q6:=h.cell (j:=6) rfl;have q7:=h.cell (j:=7) rfl;have q8:=h.cell (j:=8) rfl;have q9:=h.cell (j:=9) rfl;have R:=h.cell (j:=10) rfl;have U:=h.cell (j:=11) rfl;have V:=h.cell (j:=12) rfl;have W:=h.cell (j:=13) rfl;clear h;refine bL Tryz.func29 Tryz.ntmps29 rfl ξ fun a Q N g=>?_
 have h0:At a 0 (.pointer (some ⟨pb,0,none⟩)):=g 0 _ rfl;clear g
 conv=>arg 2;whnf
 refine so (fun y x=>aE (fun i=>i==2||(rg 11 15 i)) a y∧∃u,At y 2 (.map (some u))∧w.heap.size≤u∧u<x.heap.size∧gN x u P∧Kz w x) ?_ ?_
 ·obtain⟨T,d⟩:=a
  refine rl ?_
  iterate 4 with_reducible refine st ?_
  with_reducible refine Lz (fun K hK=>?_)
  go_simp;refine HC.out.mono ?_;rintro e x ⟨u,rfl,h1,h2,Y,Z⟩;have H3:=hh Y;have H4:=hh Z;clear Y Z;with_reducible refine hK _ _ ?_;clear hK K;refine st ?_;refine ln ?_
  refine⟨rfl,ag,u,aq,h1,h2,H3.out,H4.out⟩
 rintro y x ⟨q,u,k2,ac,E,hm,D⟩;have H:=q.size.trans Q;have C:=q.defers.trans N;clear q0 q1 q2 q3 q4 q5 q6 q7 q8 q9 R U V W;refine so (fun I X=>aE (fun i=>i==3) y I∧At I 3 (.int .u64 0)∧X=x) ?_ ?_
 ·obtain⟨T,d⟩:=y
  refine rl ?_;with_reducible refine st ?_;refine ln ?_
  refine⟨rfl,ag,aq,rfl⟩
 rintro I X ⟨l,k3,rfl⟩;refine yG (HH.out.new D) hm E χ I (l.size.trans H) (l.Q7 (q.Q7 h0 rfl) rfl) (l.Q7 k2 rfl) k3 _ (fun a3 w3 J L O=>?_);exact dL rfl (J.defers.trans (l.defers.trans C)) ⟨rfl,L,(D.mono fun _ _ h=>h.elim:aD (fun k=>k=pb) w X).trans O (fun _ _ e=>e)⟩
end
namespace Rs
open Go.RowKit Ck
def wpB(P:Program)(C:Ctx)(N:Nat)(l:List Oper)(s:St)(c:Nat)(f:FuncId)(r:Nat)(v1 v2:SV)(F1:Fr):Bool:=
 match stL P C N l (l.take c) s,l.drop c with
 | some s1,[⟨some d,.call ⟨.value (.func g),xs,_⟩,_,_,_,none⟩,⟨none,.store E (.tmp t) (.tmp y),_,_,_,none⟩] =>
  match evs s1.F xs.toList with
  | some sv=>Nat.beq g f&&(ga P f&&(Nat.beq y d&&(Nat.ble (d+1) N&&(Nat.beq (P.cellsOf E) 1&&(kF sv [v1,v2]&&((match gt s1.F t with|some v=>SV.same v (.one (.p r 0))|none=>false)&&(!Nat.beq t d&&(Nat.ble (r+1) s.k&&(v1.sc s.k&&(v2.sc s.k&&(gJ s1.F F1&&((gt F1 d).isNone&&F1.all fun x=>x.2.sc s.k))))))))))))
  | none=>false
 | _,_=>false
theorem EB{S:Sta}{N:Nat}{P:Program}{C:Ctx}{H:Gh}{id:Nat}{ops:Array Oper}{rest:List Code}{Q:Exit→Act→World→Prop}{s:St}{κ:Kap}{a:Act}{w:World}(c:Nat)(f:FuncId)(r:Nat)(v1 v2:SV)(F1:Fr)(φ:Nat→Prop)(w0:World)(b:Nat)
 (B:wpB P C N ops.toList s c f r v1 v2 F1=true)(hn:Now S κ N P C H s a w)(hT:∀g,¬ H.T g)(hκ:κ r=(b,0))(U:∃v,Row w b [v])(h0:w0.heap.size≤w.heap.size)
 (hf:∀w',Kz w w'→Calls P f #[v1.den S κ,v2.den S κ] w' (ip w' φ))
 (hQ:∀X w',Has S κ N F1 X→lW w0 b φ w'→aD (fun g=>g=b) w w'→X.defers=a.defers→wpL P Q rest X w'):wpL P Q (Code.region id ops false::rest) a w:=by
 unfold wpB at B;split at B
 ·rename_i s1 d g xs _ _ _ _ E t y a8 a7 a6 e1 e2
  split at B
  ·rename_i sv has
   simp only[Bool.and_eq_true]at B;obtain⟨m1,m2,m3,m4,m5,m6,m7,m8,m9,a2,a3,a4,V,a5⟩:=B;have m1:=π m1;have m3:=π m3;have m4:=ω m4;have m5:=π m5;have m6:=fg m6;have m9:=ω m9;subst m1 m3 m6;have ad:y≠t:=fun e=>by subst e;simp at m8
   obtain⟨v,hv⟩:=U;show(Code.region id ops false).wp P (Exit.then (wpL P Q rest) Q) a w;refine wp_region_list ?_;have j:=List.take_append_drop c ops.toList;rw[e2]at j;have L:wpList P ops.toList.toArray (Exit.then (wpL P Q rest) Q) ops.toList a w:=by
    conv=>arg 4;rw[←j]
    refine dj e1 hn fun κ1 J w1 W I=>?_
    have hk:Kz w w1:=I.keep.mono fun g _ h=>hT g h
    have a0:κ1 r=(b,0):=(I.upto r m9).trans hκ;refine bF rfl fun K hK=>?_
    have l:(#[]++xs.map J.eval ++ #[]:Array Value) = #[v1.den S κ,v2.den S κ]:=by
     apply Array.ext'
     have h1:=ii W.has has;simp[h1,SV.sc_ok I.upto a2,SV.sc_ok I.upto a3]
    unfold Oper.wp;rw[execOp_call_go,cC m2,l];refine(hf w1 hk).mono fun e w2 ⟨D,l2,he,z1,z2,z3,z4,O⟩=>?_
    subst he;refine hK _ _ (bF rfl fun K2 Y=>?_);have an:(J.put (some y) (.agg #[D])).eval (.tmp y)=.agg #[D]:=At.eval At.put_self (by simp[Act.put,W.has.size];omega);have al:(J.put (some y) (.agg #[D])).eval (.tmp t)=.pointer (some ⟨b,0,none⟩):=by
     show(J.tmps.setIfInBounds y _).getD t undef=_;rw[Array.getD_eq_getD_getElem?,Array.getElem?_setIfInBounds_ne ad];split at m7
     ·rename_i v' af
      rw[W.has.get _ _ af,SV.same_ok m7];show(some (Value.pointer (some ⟨(κ1 r).1,(κ1 r).2+0,none⟩))).getD undef=_;rw[a0];rfl
     ·cases m7
    obtain⟨cs,E0,c1,c2,c3⟩:=((hv.keep hk (fun h=>h)).keep O (fun h=>h)).all (vs:=[D]) rfl;unfold Oper.wp;rw[cY (P:=P) (vs:=[D]) (b:=b) (off:=0) (cs:=cs) (E0:=E0) (x := .tmp t) (y := .tmp y) rfl al (by rw[an];rfl) (fun x hx=>by
     obtain rfl:=ρ.1 hx;obtain⟨A,c,rfl,_⟩:=z1;rfl) m5 Nat.one_pos c1 (by simpa using c2)]
    have R:aD (fun g=>g=b) w2 (w2.setRow b (bk cs 0 [D])):=ch _ _ _ rfl;have Z:b<w1.heap.size:=(hv.keep hk (fun h=>h)).lt;obtain⟨z5,z6⟩:=jq z2 Z R;refine Y _ _ (ln (hQ _ _ ?_ ⟨D,l2,c3,z5,fun q hq=>z6 q (by have:=hk.size;omega),z3,z4⟩ (((hk.trans O fun _ _ h=>h).mono fun _ _ h=>h.elim).trans R fun _ _ h=>h) ?_))
    ·have hF:=(W.has.sub a4).back I.upto a5
     refine⟨by simpa[Act.put]using hF.size,fun q u hq=>?_⟩;have:y≠q:=fun e=>by subst e;rw[hq]at V;cases V
     show(J.tmps.setIfInBounds y _)[q]?=_;rw[Array.getElem?_setIfInBounds_ne this];exact hF.get q u hq
    ·obtain⟨lw,ew,ac⟩:=I.agree
     exact ac.defers
   simpa using L
  ·cases B
 ·cases B
def lrR:Fr:=[(1,.one (.p 0 0)),(2,.one (.p 1 0)),(3,.one (.p 2 0))]
def lrX:SV := .ag [.i .u64 (.x 33),.i .u64 (.bin .sub .u64 (.bin .add .u64 (.x 33) (.x 34)) (.c 1))]
theorem AP{B:Nat}{w:World}{v:ae}{P:aF}(h:bD B w v P)(hB:B≤w.heap.size)(C:BM P)(af:∀r∈P.QD,0<r.size∧r.Q7+r.size≤4294967296):Calls Tryz.prog 64 #[.agg (v.cells P).toArray] w (ip w (co P)):=by
 obtain⟨R,hR⟩:∃R:Ending→World→Prop,R=ip w (co P):=⟨_,rfl⟩;rw[←hR];have bb:P.QD.length≤2097152:=by obtain⟨_,_,_,_,hl,_⟩:=h.QD;exact hl
 refine fnE (cE v P) (fun _=>(0,0)) [.ag ah] Tryz.func64 Tryz.ntmps64 rfl (by rw[List.map_cons,bT h (Agr.refl _ _)];rfl) ψ H0 (fun _ h=>h.elim) trivial fun a hd hh=>?_
 refine fb (CL:={}) τ [(1,.one (.p 0 0)),(2,.one (.p 1 0))] [(0,ah),(1,[.l (.slice none 0 0)])] 2 [] δ hh dV fun K a1 w1 n1 p1=>?_
 refine fb (CL:={}) τ [(1,.one (.p 0 0)),(2,.one (.p 1 0)),(3,.one (.p 2 0))] [(0,ah),(1,[.l (.slice none 0 0)]),(2,[.l (.slice none 0 0)])] 3 [] δ n1 dV fun κ2 a2 y n2 J=>?_
 obtain⟨x1,x2,x3⟩:=p1.new.row n1.mem (r:=1) rfl ψ ψ;obtain⟨y1,y2,y3⟩:=J.new.row n2.mem (r:=2) rfl ψ ψ;have u:∀q,q<2→(K q).1<w1.heap.size:=fun q N=>by
  match q,N with
  | 0,_=>exact(n1.mem.get 0 _ rfl).1.1
  | 1,_=>exact(n1.mem.get 1 _ rfl).1.1
 have e1:κ2 1=K 1:=J.upto 1 ψ;obtain⟨b,I⟩:∃b,b=(κ2 2).1:=⟨_,rfl⟩;rw[←I]at y1 y3;have a8:κ2 2=(b,0):=Prod.ext I.symm y2;have n3:=(n2.own J 2 (l:=[.l (.slice none 0 0)]) rfl ψ ψ [(0,ah),(1,[.l (.slice none 0 0)])] (fun _=>some [.slice none 0 0]) 1 rfl δ rfl δ (fun q m hm N=>by rw[J.upto q N];exact u q N) (fun vs h=>by cases h;rfl)).1;have Q:Kz w y:=p1.keep.trans J.keep fun _ _ h=>h
 refine b7 1 τ ((4,.one (.i .i64 (.c 0)))::lrR) [(0,ah),(1,[.l (.slice none 0 0)])] 3 [] hPp δ n3 fun κ3 a3 w3 n4 p3=>?_
 have D:κ3 2=(b,0):=(p3.upto 2 ψ).trans a8;have Y:aD (fun g=>g=b) y w3:=p3.keep.mono fun g _ h=>by rw[I];exact h
 have b2:b<y.heap.size:=y1.lt;have W:w.heap.size≤b:=by have:=p1.keep.size;omega
 have i0:dB y b (kV P 0) ⟨none,0,0⟩ w3:=by
  obtain⟨us,u1,u2,u3⟩:=n4.gh;rw[u3 _ rfl,←I]at u2;exact dB.nil u2 fun q ⟨r,hr,_⟩=>by simp at hr
 refine az (Eh n4 P.QD.length 24 4 0 lrR τ slD (fun k e w=>dB y b (kV P k) e w) (fun _ _ _ _ hk h=>h.keep hk) ⟨none,0,0⟩ hPp δ rfl χ i0 (n4.has.re ⟨rfl,rfl,rfl,rfl,trivial⟩) (fun k e a4 H hk n5 hA hK=>?_) fun e a4 H n5 hA hK=>?_)
 ·obtain⟨x,X⟩:=ge hk
  have d:aD (fun g=>g=b) y H:=Y.trans (hK.mono fun g _ h=>by rw[I];exact h) fun _ _ h=>h
  have L:Kz w H:=aS Q d fun g C=>by rw[show g=b from C];exact W
  obtain⟨g,o,h1,h2,h3⟩:=cW h.QD (aI _ _ _) hB L X;have bc:g<w.heap.size:=by
   obtain⟨g',o',U,ad,_⟩:=cW h.QD (aI _ _ _) hB (aD.refl (fun _=>False) w) X;rw[h1]at U
   cases U
   exact ad
  obtain⟨κ5,u5,n6⟩:=n5.elem (j:=0) (x:=kU x) (cl:=Bo 32) h1 ⟨h2,fun e=>by have e:g=(κ2 2).1:=e;rw[←I]at e;omega⟩ hk h3.1 rfl δ;have Z:κ5 2=(b,0):=(u5 2 ψ).trans D;have an:=h3.2;have n9:=n6.ghm [(2,[.sl 24 25 26])] fun es w' hw C=>Row.memF Z C.1
  obtain⟨bd,be⟩:=af x (γ X);obtain⟨r1,l,r2,r3,r4,r5,r6⟩:=(show dB y b (kV P k) e H from n6.gh);have a0:=C.Qe x (γ X);refine aY (Be 22 63 2 (.ag [.sl 24 25 26]) lrX ((12,.ag [.sl 24 25 26])::(33,lrX)::fx 24 4 lrR) (kV P (k+1)) y b hPp δ n9 Z ⟨_,r1⟩ d.size (fun w' hw=>?_) fun a7 w7 f7 g7 k7 d7=>cM rfl ?_)
  ·have e9:SV.den ((cE v P).put 24 (((slD e).put 8 (kU x)).cnt k)) κ5 lrX=.agg #[.int .u64 ((x.Q7,x.Q7+x.size-1):Sp).1,.int .u64 ((x.Q7,x.Q7+x.size-1):Sp).2]:=by
    show Value.agg #[.int .u64 (x.Q7:Int),.int .u64 (IntKind.u64.wrap (IntKind.u64.wrap ((x.Q7:Int)+x.size)-1))]=_;rw[bq (x:=(x.Q7:Int)+x.size) χ,bq χ,show((x.Q7:Int)+x.size-1)=((x.Q7+x.size-1:Nat):Int) by omega]
   rw[e9];refine(ni (r3.keep hw) r5 ⟨an.2.1,by show x.Q7+x.size-1<lim;unfold lim;omega,fun _=>⟨a0.1,by show(x.Q7+x.size-1+1)%4096=0;omega,by show x.Q7+x.size-1<4294967296;omega⟩⟩).mono fun e2 bf ⟨u2,l2,z1,z2,z3,z4,z5,z6⟩=>⟨u2,l2,z1,z2,z3,z4,fun q=>(z5 q).trans ?_,z6⟩
   rw[qV X,←r6];unfold rng;show _∨(x.Q7≤q∧q≤x.Q7+x.size-1)↔_;constructor
   ·rintro(h|h)
    ·exact .inl h
    ·exact .inr χ
   ·rintro(h|h)
    ·exact .inl h
    ·exact .inr χ
  ·obtain⟨e',al⟩:=g7.e
   refine⟨e',κ5,al,u5,f7.re ⟨rfl,rfl,rfl,rfl,trivial⟩,?_,?_⟩
   ·exact hA.trans ⟨f7.size.trans n6.has.size.symm,d7,fun _ h=>by cases h⟩ fun _ h=>h
   ·exact hK.trans (k7.mono fun g _ h=>by show g=(κ2 2).1;rw[←I];exact h) fun _ _ h=>h
 ·have d:aD (fun g=>g=b) y H:=Y.trans (hK.mono fun g _ h=>by rw[I];exact h) fun _ _ h=>h
  obtain⟨r1,l,r2,r3,r4,r5,r6⟩:=(show dB y b (kV P P.QD.length) e H from n5.gh);have O:κ3 1=K 1:=(p3.upto 1 ψ).trans e1;have a6:(K 1).1<y.heap.size:=by have:=u 1 ψ;have:=J.keep.size;omega
  have V:(K 1).1≠b:=by have:=u 1 ψ;omega
  have n6:=((n5.mute H0 [(1,[.l (.slice none 0 0)])] [] δ (fun _ _ _ h=>h) (fun _ h=>h.elim) trivial).row 2 [.sl 24 25 26] (by rw[D]) (by rw[D];exact r1));have xz:Row H (κ3 1).1 [.slice none 0 0]:=by
   rw[O];exact(x1.keep J.keep (fun h=>h)).keep d V
  refine lr (CL:={}) 1 1 [2] τ [(2,.one (.p 1 0))] [(1,[.sl 24 25 26])] 3 [] δ n6 dV (fun _=>xz.some) (fun q N=>by
   obtain rfl:=ρ.1 N;rw[D,O];exact⟨r1.lt,fun _ e=>V e.symm⟩) (fun _ _ _ _ _ _ _=>trivial) fun κ5 a5 w5 n7 u7 k7 g7 _ _=>kB ?_
  have a9:κ5 1=K 1:=(u7 1 ψ).trans O;refine oK (t:=2) (r:=1) (E:=119) (v := .ag [.sl 24 25 26]) rfl n7.has rfl δ n7.mem.f (g7.defers.trans (hA.defers.trans (p3.agree.defers.trans (J.agree.defers.trans (p1.agree.defers.trans hd))))) ?_;rw[hR];have ac:aD (fun g=>g=(K 1).1) H w5:=k7.mono fun g _ h=>by rcases h with h|h;exact h.elim;rw[a9]at h;exact h
  obtain⟨z1,z2⟩:=jq r4 a6 ac;refine⟨.slice e.A e.n e.c,l,rfl,z1,fun q N=>z2 q (by have:=Q.size;omega),r5,fun q=>(r6 q).trans ?_,?_⟩
  ·unfold kV co
   rw[List.take_length]
  ·have L:Kz w H:=aS Q d fun g C=>by rw[show g=b from C];exact W
   exact aS L ac fun g C=>by rw[show g=(K 1).1 from C];exact x3
