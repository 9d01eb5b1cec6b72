import Derived.Test.YthobcefghkeddaaGreatDoorScan2
import Derived.Test.YthobcefghkeddaaGreatDoorRowsC
set_option maxRecDepth 100000
set_option linter.all false
set_option maxHeartbeats 4000000
namespace Go.Proofs.YthobcefghkeddaaGreatDoor
section
open Go.RowKit Go.IntWalk Ck
def spC(l:List Sp):List Value:=l.flatMap dR
theorem jO(l:List Sp)(x:Sp):spC (l++[x])=spC l++dR x:=by simp[spC]
theorem jr(l:List Sp):(spC l).length=l.length*2:=by
 induction l with
 | nil=>rfl
 | cons x t ih=>simp only[spC,List.flatMap_cons,List.length_append]at ih⊢; rw[ih];simp[dR];omega
theorem oE:∀(l:List Sp) (i:Nat) (s:Sp),l[i]?=some s→(spC l)[i*2]?=some (.int .u64 s.1)∧(spC l)[i*2+1]?=some (.int .u64 s.2)
 | [],_,_,h=>by simp at h
 | x::t,0,s,h=>by
  have:x=s:=by simpa using h
  subst this;exact⟨rfl,rfl⟩
 | x::t,i+1,s,h=>by
  obtain⟨d,g⟩:=oE t i s (by simpa using h);have e:spC (x::t)=.int .u64 x.1 :: .int .u64 x.2::spC t:=rfl;rw[e];refine⟨?_,?_⟩
  ·rw[show(i+1)*2=i*2+1+1 by omega];simpa using d
  ·rw[show(i+1)*2+1=i*2+1+1+1 by omega];simpa using g
theorem Tryz.info125:(Tryz.prog.info? 125).map (fun i=>(i.zero,i.size,i.bytes))=some (some (.agg #[.int .u64 0,.int .u64 0]),2,16):=δ
theorem md{w:World}{P:Program}(L:P=Tryz.prog){ops:Array Oper}{rest:List Oper}{o:Oper}{a:Act}{Q:Exit→Act→World→Prop}(B:o.guard=none){s x:Operand}
 (O:o.op=.call { callee := .builtin .append,args := #[s,x],argTypes := #[117,117] }){Z:Nat}{u:Value}{l:List Sp}(R:a.eval s=u)(y:w.ownsRow Z 125 2 u l.length (spC l))(Y:l.length≤8388608)
 {blk:Nat}{p:Sp}(U:a.eval x=.slice (some ⟨blk,0,none⟩) 1 1)(c0:w.cell? ⟨blk,0,none⟩=some (.int .u64 p.1))(c1:w.cell? ⟨blk,1,none⟩=some (.int .u64 p.2))(N:Z≤w.heap.size)
 (h:∀H w',w'.ownsRow Z 125 2 H (l.length+1) (spC (l++[p]))→aD (fun k=>u.ownBlock=some k) w w'→wpList P ops Q rest (a.put o.dst H) w'):wpList P ops Q (o::rest) a w:=by
 subst L;obtain⟨V,hi,C,D,E⟩:=info_parts Tryz.info125;have q:∀j,(⟨blk,0,none⟩:Addr).add j=⟨blk,j,none⟩:=fun j=>by unfold Addr.add;split<;>simp_all
 refine wpList_append_lies w B s x 117 O Z 125 V (.agg #[.int .u64 0,.int .u64 0]) 2 16 Tryz.underlying117 hi C D E rfl χ u l.length (spC l) R y ⟨blk,0,none⟩ 1 1 (dR p) U rfl (fun j v d=>?_) ?_ χ (by unfold maxLen;omega) χ N w.heap.size rfl ?_
 ·rw[q]
  match j,d with
  | 0,d=>cases d;exact c0
  | 1,d=>cases d;exact c1
  | j+2,d=>simp[dR]at d
 ·simp[dR,Value.oneCell']
 ·intro g I w' J K W X
  refine h _ w' ?_ (aD.of_grown K (fun k e=>e));rw[jO];exact J
theorem dK{w:World}{Z pb:Nat}{u:Value}{l:List Sp}(h:w.ownsRow Z 125 2 u l.length (spC l))(y:l.length≤4194304)(K:pb<Z)(C:∀s∈l,s.1<lim∧s.2<lim):aJ w pb u l:=by
 rcases ϑ l.length with x|x
 ·rcases h.2 with⟨d,_⟩|⟨g,j,v,d,_,_,q,_⟩
  ·exact⟨none,0,by rw[d,x],χ,y,fun h=>χ⟩
  ·exact⟨_,_,d,q,y,fun h=>χ⟩
 ·obtain⟨g,j,L,O,B⟩:=h.form x
  subst L;have q:l.length≤j:=by
   rcases h.2 with⟨d,_⟩|⟨N,E,v,d,_,_,q,_⟩
   ·cases d
   ·cases d;exact q
  refine⟨_,_,rfl,q,y,fun _=>⟨g,rfl,B,χ,fun i s D=>?_⟩⟩;obtain⟨H,I⟩:=oE l i s D;have J:=(ο.1 D).1;exact⟨(h.cellAt _ χ).trans H,(h.cellAt _ χ).trans I,C s (γ D)⟩
end
namespace Rs
open Go.RowKit Ck
variable {w:World} {u:Value} {l:List Sp} {c Z:Nat}
def au(w:World)(u:Value)(l:List Sp):Prop:=
 ∃A c,u=.slice A l.length c∧l.length≤c∧l.length≤4194304∧(0<l.length→∃g,A=some ⟨g,0,none⟩∧g<w.heap.size∧SpM w g l)
theorem au.keep{w':World}(h:au w u l)(hk:Kz w w'):au w' u l:=by
 obtain⟨A,c,e,j,q,v⟩:=h;refine⟨A,c,e,j,q,fun d=>?_⟩;obtain⟨g,e,x,y⟩:=v d;exact⟨g,e,Θ x hk.size,y.keep hk id⟩
theorem au.Q7(h:au w u l):aJ w w.heap.size u l:=by
 obtain⟨A,c,e,q,v,x⟩:=h;refine⟨A,c,e,q,v,fun j=>?_⟩;obtain⟨g,e,y,B⟩:=x j;refine⟨g,e,y,χ,fun i s C=>?_⟩;obtain⟨_,d,D⟩:=B i s C;rw[Nat.mul_comm]at d;exact⟨d 0 _ rfl,d 1 _ rfl,D⟩
theorem aJ.r{w:World}{pb:Nat}{u:Value}{l:List Sp}(h:aJ w pb u l):au w u l:=by
 obtain⟨A,c,e,y,B,C⟩:=h;refine⟨A,c,e,y,B,fun x=>?_⟩;obtain⟨g,e,q,K,D⟩:=C x;refine⟨g,e,q,fun i s E=>?_⟩;obtain⟨H,I,J⟩:=D i s E;refine⟨q,fun j v d=>?_,J⟩;rw[Nat.mul_comm 2]
 match j,d with
 | 0,d=>obtain rfl:=ι d;exact H
 | 1,d=>obtain rfl:=ι d;exact I
theorem au.blk{A:Option Addr}{n:Nat}(h:au w (.slice A n c) l)(T:Nat→Prop)(u:∀g,T g→w.heap.size≤g)(x:Nat)(B:¬ T x):∃g,¬ T g∧(∀w',aD T w w'→SpM w' g l)∧(0<l.length→A=some ⟨g,0,none⟩):=by
 obtain⟨A',C,e,D,E,q⟩:=h
 cases e
 rcases ϑ l.length with d|d
 ·obtain rfl:l=[]:=List.length_eq_zero_iff.1 d
  exact⟨x,B,fun _ _ j s y=>(by cases y),fun h=>(by cases h)⟩
 ·obtain⟨g,e,H,v⟩:=q d
  have:¬ T g:=fun h=>by have:=u g h;omega
  exact⟨g,this,fun w' hk=>v.keep hk this,fun _=>e⟩
theorem aJ.other{pb q:Nat}(h:aJ w pb u l)(D:0<l.length→∀g n c,u=.slice (some ⟨g,0,none⟩) n c→g≠q):aJ w q u l:=by
 obtain⟨A,c,e,v,x,y⟩:=h;refine⟨A,c,e,v,x,fun j=>?_⟩;obtain⟨g,d,B,E,C⟩:=y j;exact⟨g,d,B,D j g _ _ (by rw[e,d]),C⟩
def ip(w0:World)(φ:Nat→Prop)(e:Ending)(w:World):Prop:=∃u l,e=.returned (.agg #[u])∧au w u l∧(∀q,q<w0.heap.size→aJ w q u l)∧dP l∧(∀q,aW l q↔φ q)∧Kz w0 w
structure MkE where
 p:Nat
 more:Bool
 ka:Nat
 aA:Option Addr
 aC:Nat
 kb:Nat
 bA:Option Addr
 bC:Nat
 out:List Sp
 oA:Option Addr
 oC:Nat
def mkD(e:MkE):Sta where
 i _:=(e.p:Int)
 b _:=e.more
 a _:=e.oA
 n j:=match j with|0=>e.out.length|_=>e.oC
def yF(x y:Bool×Nat)(last:Nat)(kp cnd:Bool)(u:Value):Sta where
 i j:=match j with|0=>(x.2:Int)|1=>y.2|_=>last
 b j:=match j with|0=>x.1|1=>y.1|2=>kp|_=>cnd
 o _:=u
def mkR:Fr:=[(2,.one (.v 0)),(6,.one (.p 2 0)),(7,.one (.p 3 0)),(8,.one (.p 4 0)),(9,.one (.sl 16 16 17)),(10,.one (.i .u64 (.x 16))),(11,.one (.b (.x 16)))]
def mkZ:Mm:=[(2,[.l (.slice none 0 0)])]
structure MkW (keep:Bool→Bool→Bool) (A B:List Sp) (Z za zb gA gB:Nat) (e:MkE) (w:World):Prop where
 sa:iF w za gA A e.ka e.aA e.aC
 sb:iF w zb gB B e.kb e.bA e.bC
 own:w.ownsRow Z 125 2 (.slice e.oA e.out.length e.oC) e.out.length (spC e.out)
 lA:e.more=true→∀(j:Nat) (s:Sp),j<e.ka→A[j]?=some s→s.2<e.p
 lB:e.more=true→∀(j:Nat) (s:Sp),j<e.kb→B[j]?=some s→s.2<e.p
 inv:MkI keep A B (if e.more then e.p else 18446744073709551616) e.out
 pl:e.p<lim
def mkT(za zb:Nat)(e:MkE)(g:Nat):Prop:=g=za∨g=zb∨∃o,e.oA=some ⟨g,o,none⟩
def pn(Z za zb:Nat)(g:Nat):Prop:=g=za∨g=zb∨Z≤g
theorem MkW.keep{keep:Bool→Bool→Bool}{A B:List Sp}{g zb d gB:Nat}(e:MkE)(w w':World)(hk:Kz w w')(h:MkW keep A B Z g zb d gB e w):MkW keep A B Z g zb d gB e w':=
 ⟨h.sa.keep hk id,h.sb.keep hk id,aK h.own hk (fun _ _ h=>h),h.lA,h.lB,h.inv,h.pl⟩
theorem Bw{n:Nat}{A:Option Addr}{xs:List Value}(h:w.ownsRow Z 125 2 (.slice A n c) n xs){g o:Nat}(e:A=some ⟨g,o,none⟩):Z≤g∧g<w.heap.size∧o=0:=by
 rcases h.2 with⟨d,_⟩|⟨v,j,l,d,q,u,_⟩
 ·cases d;cases e
 ·cases d
  cases e
  exact⟨q,fh u,rfl⟩
theorem MkW.te{keep:Bool→Bool→Bool}{A B:List Sp}{j zb l gB:Nat}(e:MkE)(w:World)(h:MkW keep A B Z j zb l gB e w)(g:Nat)(d:mkT j zb e g):pn Z j zb g∧g<w.heap.size:=by
 rcases d with rfl|rfl|⟨o,d⟩
 ·exact⟨.inl rfl,h.sa.1.lt⟩
 ·exact⟨.inr (.inl rfl),h.sb.1.lt⟩
 ·obtain⟨q,u,_⟩:=Bw h.own d
  exact⟨.inr (.inr q),u⟩
theorem Bu{g:Nat}{t:List Sp}{y:Sp}(h:w.ownsRow Z 125 2 (.slice (some ⟨g,0,none⟩) (t++[y]).length c) (t++[y]).length (spC (t++[y])))(last:Nat):
 ∃cs,w.heap[g]?=some (.cells cs 125 (0,0))∧2*t.length+1+1≤cs.size∧(w.setRow g (bk cs (2*t.length+1) [.int .u64 last])).ownsRow Z 125 2 (.slice (some ⟨g,0,none⟩) (t++[y]).length c) (t++[y]).length (spC (t++[(y.1,last)])):=by
 rcases h.2 with⟨u,_⟩|⟨J,D,d,u,E,v,x,H,K,B⟩
 ·cases u
 cases u
 have I:(t++[y]).length=t.length+1:=ξ
 rw[I]at x B⊢;have C:2*t.length+1+1≤d.size:=χ
 refine⟨d,v,C,by rw[jr];simp,.inr ⟨g,c,_,rfl,E,setRow_heap w g d _ 125 (0,0) v,x,H,?_,?_⟩⟩
 ·unfold bk
  simp;omega
 ·refine List.ext_getElem? fun j=>?_
  have l:(spC (t++[y]))[j]?=(d.toList.take ((t.length+1)*2))[j]?:=by rw[B]
  rcases Ψ j ((t.length+1)*2)with q|q
  ·rw[List.getElem?_take_of_lt q,Array.getElem?_toList,kR (by simpa using C)]
   rw[List.getElem?_take_of_lt q]at l;have l:(spC (t++[y]))[j]?=d[j]?:=by rw[l,Array.getElem?_toList]
   have l2:(spC t).length=t.length*2:=jr t;rw[jO]at l⊢
   by_cases c1:j<2*t.length+1
   ·rw[if_pos c1,←l]
    by_cases c2:j<t.length*2
    ·rw[List.getElem?_append_left χ,List.getElem?_append_left χ]
    ·rw[List.getElem?_append_right χ,List.getElem?_append_right χ,l2,show j-t.length*2=0 by omega]
     rfl
   ·rw[if_neg c1,if_pos η,List.getElem?_append_right χ,l2,show j-t.length*2=1 by omega,show j-(2*t.length+1)=0 by omega]
    rfl
  ·rw[List.getElem?_eq_none (by rw[List.length_take];omega),List.getElem?_eq_none (by rw[jr];simp;omega)]
def mkG(A B:List Sp)(Z za zb gA gB ka' kb':Nat)(e:MkE)(es:List Nat)(w:World):Prop:=
 (∃x y,iF w za gA A (if es.any (Nat.beq 0)then ka' else e.ka) x y)∧(∃x y,iF w zb gB B (if es.any (Nat.beq 1)then kb' else e.kb) x y)∧w.ownsRow Z 125 2 (.slice e.oA e.out.length e.oC) e.out.length (spC e.out)
def mkH(A B:List Sp)(Z za zb gA gB ka' kb':Nat)(e:MkE):Gh:=
 ⟨mkT za zb e,mkG A B Z za zb gA gB ka' kb' e,fun _ _ _ hk ⟨⟨x,y,h1⟩,⟨x2,y2,h2⟩,h3⟩=>⟨⟨x,y,h1.keep hk id⟩,⟨x2,y2,h2.keep hk id⟩,aK h3 hk (fun _ _ h=>h)⟩⟩
def EQ(fk:FuncId):List (FuncId×List SV×SV):=[(152,[.one (.p 3 0),.one (.i .u64 (.x 16))],.tu [.b (.x 32),.i .u64 (.x 32)]),(152,[.one (.p 4 0),.one (.i .u64 (.x 16))],.tu [.b (.x 33),.i .u64 (.x 33)]),(fk,[.one (.b (.x 32)),.one (.b (.x 33))],.one (.b (.x 34)))]
def EP:Kn:={ KO:=[(37,[(35,.one (.i .u64 (.x 32))),(36,.one (.i .u64 (.x 33)))],.one (.i .u64 (.x 34)))] }
def EN:Kn:={ KO:=[(73,[(72,.one (.i .u64 (.cv .u64 (.c 0))))],.one (.i .u64 (.c 18446744073709551615)))] }
def sj:Fr:=[(2,.one (.v 0)),(6,.one (.p 2 0)),(7,.one (.p 3 0)),(8,.one (.p 4 0)),(9,.one (.sl 16 16 17)),(10,.one (.i .u64 (.x 16)))]
theorem C2{P:Program}{o:Oper}{s t:Operand}{ts:Array TypeId}{x y:Nat}(d:o.op=.call { callee := .builtin .min,args := #[s,t],argTypes:=ts }){a:Act}{w:World}(h:a.eval s=.int .u64 x)(l:a.eval t=.int .u64 y):(execOp a.eval o).run P w=.ok (.value (.int .u64 ((min x y:Nat):Int))) w:=by
 obtain⟨dst,op,ty,pos,q,g⟩:=o;simp only at d;subst d;have j:(if y<x then(y:Int)else x)=min (x:Int) y:=by split<;>omega
 generalize a.eval=f at *
 simp[execOp,resolve,invoke,builtin,h,l,go_sem];rw[j];omega
theorem su{keep:Bool→Bool→Bool}{fk:FuncId}(eb:fk=137∨fk=134){w:World}{A B:List Sp}{uA uB:Value}(hA:au w uA A)(hB:au w uB B)(pA:dP A)(pB:dP B)(ea:keep false false=false)
 (f0:∀b1 b2 w,Calls Tryz.prog fk #[.bool b1,.bool b2] w fun e w'=>e=.returned (.bool (keep b1 b2))∧Kz w w'):
 Calls Tryz.prog 133 #[.agg #[uA],.agg #[uB],.func (.func fk) #[] #[]] w fun e w'=>ip w (fun q=>keep (inB A q) (inB B q)=true) e w':=by
 obtain⟨R,hR⟩:∃R:Ending→World→Prop,R=fun e w'=>ip w (fun q=>keep (inB A q) (inB B q)=true) e w':=⟨_,rfl⟩
 rw[←hR];obtain⟨AA,cA,eA,lA,h0,_⟩:=id hA;obtain⟨AB,cB,eB,lB,h4,_⟩:=id hB;subst eA eB;obtain⟨S,hS⟩:∃S:Sta,S={ o:=fun _ =>.func (.func fk) #[] #[],a:=fun j=>match j with|1=>AA|_=>AB,n:=fun j=>match j with|1=>A.length|2=>cA|3=>B.length|4=>cB|_=>0 }:=⟨_,rfl⟩;have so:S.o 0=.func (.func fk) #[] #[]:=by rw[hS]
 have ey:S.a 1=AA:=by simp[hS]
 have ez:S.a 2=AB:=by simp[hS]
 have e0:S.n 1=A.length:=by simp[hS]
 have e1:S.n 2=cA:=by simp[hS]
 have e2:S.n 3=B.length:=by simp[hS]
 have e5:S.n 4=cB:=by simp[hS]
 clear hS;refine fnE S (fun _=>(0,0)) [.ag [.sl 1 1 2],.ag [.sl 2 3 4],.one (.v 0)] Tryz.func133 Tryz.ntmps133 rfl (by simp[SV.den,Cl.den,so,ey,ez,e0,e1,e2,e5]) ψ H0 (fun _ h=>h.elim) trivial fun a hd hh=>?_
 refine fb (CL:={}) τ [(2,.one (.v 0)),(3,.one (.p 0 0)),(4,.one (.p 1 0)),(6,.one (.p 2 0))] [(0,[.sl 1 1 2]),(1,[.sl 2 3 4]),(2,[.l (.slice none 0 0)])] 3 [] δ hh dV fun κ1 a1 w1 n1 p1=>?_
 refine EI 6 7 8 [.sl 1 1 2] [.sl 2 3 4] [(2,.one (.v 0)),(6,.one (.p 2 0))] mkZ hPp δ n1 fun κ2 a2 w2 n2 u2 k2 d2 ⟨dk,e6,cy⟩ ⟨ds,e7,c4⟩ b0=>?_
 obtain⟨I,b4⟩:∃z,z=(κ2 3).1:=⟨_,rfl⟩;obtain⟨zb,b5⟩:∃z,z=(κ2 4).1:=⟨_,rfl⟩;refine b7 2 τ [(2,.one (.v 0)),(6,.one (.p 2 0)),(7,.one (.p 3 0)),(8,.one (.p 4 0)),(9,.one (.l (.slice none 0 0))),(10,.one (.i .u64 (.cv .u64 (.c 0)))),(11,.one (.b (.c true)))] mkZ 5 [] hPp δ n2 fun κ3 a3 w3 n3 p3=>?_
 rw[show([Cl.sl 1 1 2].map (Cl.den S κ2))=[.slice AA A.length cA] by simp[Cl.den,ey,e0,e1],show(κ2 (⟨[(2,SV.one (Cl.v 0)),(3,.one (.p 0 0)),(4,.one (.p 1 0)),(6,.one (.p 2 0))],[(0,[Cl.sl 1 1 2]),(1,[.sl 2 3 4]),(2,[.l (.slice none 0 0)])],3,[]⟩:St).k)=κ2 3 from rfl,←b4]at cy;rw[show([Cl.sl 2 3 4].map (Cl.den S κ2))=[.slice AB B.length cB] by simp[Cl.den,ez,e2,e5],show(κ2 ((⟨[(2,SV.one (Cl.v 0)),(3,.one (.p 0 0)),(4,.one (.p 1 0)),(6,.one (.p 2 0))],[(0,[Cl.sl 1 1 2]),(1,[.sl 2 3 4]),(2,[.l (.slice none 0 0)])],3,[]⟩:St).k+1))=κ2 4 from rfl,←b5]at c4;have dk:w1.heap.size≤I:=by rw[b4];exact dk
 have ds:w1.heap.size≤zb:=by rw[b5];exact ds
 have b0:I≠zb:=by rw[b4,b5];exact b0
 have gn:κ3 3=(I,0):=(p3.upto 3 ψ).trans (by rw[b4];exact Prod.ext rfl e6);have go:κ3 4=(zb,0):=(p3.upto 4 ψ).trans (by rw[b5];exact Prod.ext rfl e7);have hz:w.heap.size≤(κ3 2).1∧(κ3 2).1<w1.heap.size∧(κ3 2).2=0:=by
  obtain⟨x1,x2,x3⟩:=p1.new.row n1.mem (r:=2) rfl ψ ψ;rw[p3.upto 2 ψ,u2 2 ψ];exact⟨x3,x1.lt,x2⟩
 have bt:Kz w w1:=p1.keep;have c7:Kz w w3:=(bt.trans k2 fun _ _ h=>h).trans p3.keep fun _ _ h=>h
 obtain⟨Z,hZ⟩:∃z,z=w3.heap.size:=⟨_,rfl⟩;have gx:=(cy.keep p3.keep (fun h=>h)).lt;have gy:=(c4.keep p3.keep (fun h=>h)).lt;have fv:∀g,pn Z I zb g→w.heap.size≤g:=fun g hg=>by
  have:=bt.size;have:=c7.size
  rcases hg with rfl|rfl|hg<;>omega
 obtain⟨gA,fi,fl,fm⟩:=(hA.keep bt).blk (pn Z I zb) (fun g hg=>by
  have:=k2.size;have:=p3.keep.size
  rcases hg with rfl|rfl|hg<;>omega) (κ3 2).1 (fun h=>by
  have:=k2.size;have:=p3.keep.size
  rcases h with h|h|h<;>omega)
 obtain⟨gB,fp,fr,fs⟩:=(hB.keep bt).blk (pn Z I zb) (fun g hg=>by
  have:=k2.size;have:=p3.keep.size
  rcases hg with rfl|rfl|hg<;>omega) (κ3 2).1 (fun h=>by
  have:=k2.size;have:=p3.keep.size
  rcases h with h|h|h<;>omega)
 have bw:Kz w1 w3:=k2.trans p3.keep fun _ _ h=>h
 have w0:MkW keep A B Z I zb gA gB ⟨0,true,0,AA,cA,0,AB,cB,[],none,0⟩ w3:={
  sa:=⟨cy.keep p3.keep fun h=>h,lA,Nat.zero_le _,fm⟩
  sb:=⟨c4.keep p3.keep fun h=>h,lB,Nat.zero_le _,fs⟩
  own:=World.ownsRow_nil _ _ _ _
  lA:=fun _ j s hj=>absurd hj (Nat.not_lt_zero _)
  lB:=fun _ j s hj=>absurd hj (Nat.not_lt_zero _)
  inv:=mk0
  pl:=(by decide:0<lim) }
 have d3:a3.defers=[]:=p3.agree.defers.trans (d2.trans (p1.agree.defers.trans hd));refine az (Cz n3 16 mkR τ mkD (fun e=>if e.more then 18446744073709551616-e.p else 0) (pn Z I zb) (mkT I zb) (MkW keep A B Z I zb gA gB) MkW.keep MkW.te (fun r l hl=>?_) ⟨0,true,0,AA,cA,0,AB,cB,[],none,0⟩ w0 (n3.has.re ?_) δ fun e a4 w4 n4 A4 K4=>?_)
 ·unfold mkZ at hl
  rw[cL]at hl;split at hl
  ·rename_i er
   subst er;intro h;have:=k2.size;have:=p3.keep.size
   rcases h with h|h|h<;>omega
  ·cases hl
 ·exact⟨rfl,rfl,rfl,rfl,rfl,rfl,rfl,trivial⟩
 obtain⟨f5,f6,cj,f1,f2,d,be⟩:=id n4.gh;have g5:=d.set.len;have oZ:∀k,Value.ownBlock (.slice e.oA e.out.length e.oC)=some k→Z≤k:=fun k hk=>by
  cases H:e.oA with
  | none=>rw[H]at hk;cases hk
  | some q =>
   obtain⟨g,o,f⟩:=q;rw[H]at hk cj;obtain rfl:g=k:=by simpa[Value.ownBlock]using hk
   rcases cj.2 with⟨N,_⟩|⟨g',al,dt,N,h2,_⟩
   ·cases N
   ·cases N;exact h2
 cases hm:e.more with
 | false =>
  refine b7 1 τ (mkR++[(24,.one (.b (.x 16)))]) mkZ 5 [] hPp δ n4 fun κ5 a5 w5 n5 p5=>?_
  refine cG false n5 rfl (show e.more=false from hm) (Aq (ot ?_));rw[hm]at d;simp only[Bool.false_eq_true,if_false]at d;have eu:(κ5 2).1=(κ3 2).1:=by rw[p5.upto 2 ψ]
  have hw:¬ mkT I zb e (κ3 2).1:=fun h=>by
   have:=k2.size;have:=p3.keep.size;have:=(MkW.te e w4 n4.gh _ h).1
   rcases this with h|h|h<;>omega
  have gf:¬ pn Z I zb (κ3 2).1:=fun h=>by
   have:=k2.size;have:=p3.keep.size
   rcases h with h|h|h<;>omega
  have cp:aD (pn Z I zb) w1 w5:=((bw.mono fun _ _ h=>h.elim).trans K4 fun _ _ h=>h).trans (p5.keep.mono fun g _ h=>(MkW.te e w4 n4.gh g h).1) fun _ _ h=>h
  obtain⟨xz,_,_⟩:=p1.new.row n1.mem (r:=2) rfl ψ ψ;have f7:(κ1 2).1=(κ3 2).1:=by rw[p3.upto 2 ψ,u2 2 ψ]
  rw[f7]at xz;have en:=(xz.keep cp gf).some;have n6:=n5.mute H0 mkZ [] δ (fun _ _ _ h=>h) (fun _ h=>h.elim) trivial;refine lr (CL:={}) 2 2 [] τ [(6,.one (.p 2 0))] [(2,[.sl 16 16 17])] 5 [] δ n6 dV (fun _=>by rw[eu];exact en) (fun _ h=>by cases h) (fun _ _ _ _ _ _ _=>trivial) fun κ6 a6 w6 n7 u6 k6 g6 _ _=>kB ?_
  have gc:(κ6 2).1=(κ3 2).1:=by rw[u6 2 ψ,eu]
  refine oK (t:=6) (r:=2) (E:=119) (v := .ag [.sl 16 16 17]) rfl n7.has rfl δ n7.mem.f (g6.defers.trans (p5.agree.defers.trans (A4.defers.trans d3))) ?_;rw[hR];have c6:aD (fun g=>g=(κ3 2).1) w5 w6:=k6.mono fun b _ h=>by rcases h with h|h;exact h.elim;rw[gc]at h;exact h
  have eo:=dK (pb:=(κ3 2).1) n5.gh.own χ (by have:=bw.size;omega) fun s hs=>by
   have N:=(d.set.QW s hs).2.2;have h2:=d.set.ok.some_ s hs;unfold lim;omega
  refine⟨.slice e.oA e.out.length e.oC,e.out,rfl,aJ.r (eo.keep c6),fun q hq=>aJ.other (eo.keep c6) fun _ g n c hu=>?_,d.set,DL pA pB ea d,?_⟩
  ·have N:=oZ g (by rw[hu];rfl)
   have:=c7.size;omega
  exact(aS bt cp fun g hg=>by have:=fv g hg;have:=k2.size;have:=p3.keep.size;rcases hg with h|h|h<;>omega).trans c6 fun g hg h=>χ
 | true =>
 rw[hm]at d;simp only[if_true]at d;refine b7 1 τ (mkR++[(24,.one (.b (.x 16)))]) mkZ 5 [] hPp δ n4 fun κ5 a5 w5 n5 p5=>?_
 refine cG true n5 rfl (show e.more=true from hm) (fZ (vl ?_));obtain⟨Y,g0,bm⟩:=xC (l:=A) (p:=e.p) (A.length-e.ka) e.ka (by have:=f5.2.2.1;omega) (f1 hm);obtain⟨ac,g4,bo⟩:=xC (l:=B) (p:=e.p) (B.length-e.kb) e.kb (by have:=f6.2.2.1;omega) (f2 hm);have ra:=zg pA be bm;have rb:=zg pB be bo;obtain⟨r1,ei⟩:∃r,r=jR A e.p Y:=⟨_,rfl⟩;obtain⟨r2,ej⟩:∃r,r=jR B e.p ac:=⟨_,rfl⟩;rw[←ei]at ra;rw[←ej]at rb;obtain⟨last,a0⟩:∃l,l=min r1.2 r2.2:=⟨_,rfl⟩;obtain⟨ad,D⟩:∃b,b=match e.out.getLast? with|none=>false|some y=>decide (y.2+1=e.p):=⟨_,rfl⟩
 obtain⟨kp,cf⟩:∃b,b=keep r1.1 r2.1:=⟨_,rfl⟩;have kA:∀{w'},aD (mkT I zb e) w5 w'→aD (pn Z I zb) w1 w':=fun{w'} hk=>((bw.mono fun _ _ h=>h.elim).trans K4 fun _ _ h=>h).trans ((p5.keep.mono fun g hg h=>(MkW.te e w4 n4.gh g h).1).trans (hk.mono fun g _ h=>(MkW.te e w4 n4.gh g h).1) fun _ _ h=>h) fun _ _ h=>h
 have et:∀{κ:Kap} {c9:World},κ 3=(I,0)→κ 4=(zb,0)→aD (mkT I zb e) w5 c9→∀i x,(EQ fk)[i]?=some x→∀es w',aD (mkT I zb e) c9 w'→mkG A B Z I zb gA gB Y ac e es w'→Calls Tryz.prog x.1 (x.2.1.map (SV.den ((S.put 16 (mkD e)).put 32 (yF r1 r2 last kp ad (.slice e.oA e.out.length e.oC))) κ)).toArray w' fun e' bz=>e'=.returned (x.2.2.den ((S.put 16 (mkD e)).put 32 (yF r1 r2 last kp ad (.slice e.oA e.out.length e.oC))) κ)∧aD (mkT I zb e) w' bz∧mkG A B Z I zb gA gB Y ac e (i::es) bz:=by
  intro κ c9 q3 q4 fz i x H es w' hk hg;have ed:=kA (fz.trans hk fun _ _ h=>h);obtain⟨⟨x1,y1,g1⟩,⟨x2,y2,g2⟩,g3⟩:=hg
  match i,H with
  | 0,H =>
   obtain rfl:=ι H;show Calls Tryz.prog 152 #[.pointer (some ⟨(κ 3).1,(κ 3).2+0,none⟩),.int .u64 e.p] w' _;rw[q3];refine(B9 (k:=Y) g1 (fl w' ed) (fun h=>fi (.inl h)) (by have:=pA.len;omega) be (by split<;>omega) bm).mono fun e' bz ⟨N,⟨x3,y3,h2⟩,h3⟩=>⟨by rw[N,←ei];rfl,h3.mono fun g _ h =>.inl h,⟨x3,y3,h2⟩,⟨x2,y2,g2.keep h3 (fun h=>b0 h.symm)⟩,aK g3 h3 fun k hk h=>by have:=oZ k hk;omega⟩
  | 1,H =>
   obtain rfl:=ι H;show Calls Tryz.prog 152 #[.pointer (some ⟨(κ 4).1,(κ 4).2+0,none⟩),.int .u64 e.p] w' _;rw[q4];refine(B9 (k:=ac) g2 (fr w' ed) (fun h=>fp (.inr (.inl h))) (by have:=pB.len;omega) be (by split<;>omega) bo).mono fun e' bz ⟨N,⟨x3,y3,h2⟩,h3⟩=>⟨by rw[N,←ej];rfl,h3.mono fun g _ h =>.inr (.inl h),⟨x1,y1,g1.keep h3 b0⟩,⟨x3,y3,h2⟩,aK g3 h3 fun k hk h=>by have:=oZ k hk;omega⟩
  | 2,H =>
   obtain rfl:=ι H;refine(f0 r1.1 r2.1 w').mono fun e' bz ⟨N,h3⟩=>⟨by rw[N,←cf];rfl,h3.mono fun _ _ h=>h.elim,⟨x1,y1,g1.keep h3 id⟩,⟨x2,y2,g2.keep h3 id⟩,aK g3 h3 fun _ _ h=>h⟩
 have k5:∀r,r<5→κ5 r=κ3 r:=p5.upto;have n6:Now ((S.put 16 (mkD e)).put 32 (yF r1 r2 last kp ad (.slice e.oA e.out.length e.oC))) κ5 77 Tryz.prog { ET:=EQ fk } (mkH A B Z I zb gA gB Y ac e) ⟨mkR,mkZ,5,[]⟩ a5 w5:=
  ⟨(n5.has.sub δ).on (aQ _ 32 _) δ,n5.mem.on (aQ _ 32 _) δ,⟨ξ,ξ,ξ,fun i x H es w' hk hg=>et ((k5 3 ψ).trans gn) ((k5 4 ψ).trans go) (aD.refl _ _) i x H es w' hk hg,(fun _ _ _ _ r l h=>by cases h),ξ⟩,n5.tb,⟨⟨_,_,n5.gh.sa⟩,⟨_,_,n5.gh.sb⟩,n5.gh.own⟩⟩
 refine b7 2 τ (sj++[(12,.one (.b (.x 32))),(13,.one (.i .u64 (.x 32))),(14,.one (.b (.x 33))),(15,.one (.i .u64 (.x 33)))]) mkZ 5 [1,0] hPp (by rcases eb with rfl|rfl<;>kernel_rfl) n6 fun κ6 a6 w6 n7 p6=>?_
 have f3:∀{ops:List Oper} {κ:Kap},((ops.filter fun o=>o.dst==some 37).map (·.op))=[.call { callee := .builtin .min,args := #[.tmp 35,.tmp 36],argTypes := #[41,41] }]→gQ ((S.put 16 (mkD e)).put 32 (yF r1 r2 last kp ad (.slice e.oA e.out.length e.oC))) κ Tryz.prog ops EP:=fun{ops κ} bs=>⟨(fun _ h=>by cases h),fun x H o ho hd a w ha=>by
  obtain rfl:=ρ.1 H;have h:=C2 (P:=Tryz.prog) (w:=w) (jZ bs ho hd) (ha _ (List.mem_cons_self ..)) (ha _ (List.mem_cons_of_mem _ (ρ.2 rfl)));rw[←a0]at h;exact h⟩
 refine fb (CL:=EP) τ (sj++[(12,.one (.b (.x 32))),(14,.one (.b (.x 33))),(13,.one (.i .u64 (.x 34)))]) mkZ 5 [1,0] δ n7 (f3 rfl) fun κ7 a7 w7 n8 p7=>?_
 refine fb (CL:={ CL:=[(0,fk,[])] }) τ (sj++[(13,.one (.i .u64 (.x 34))),(41,.one (.b (.x 34)))]) mkZ 5 [2,1,0] (by rcases eb with rfl|rfl<;>kernel_rfl) n8 ⟨fun x H=>by
  obtain rfl:=ρ.1 H;exact so,fun _ h=>by cases h⟩ fun κ8 a8 w8 n9 p8=>?_
 obtain⟨S2,C⟩:∃S2,S2=(S.put 16 (mkD e)).put 32 (yF r1 r2 last kp ad (.slice e.oA e.out.length e.oC)):=⟨_,rfl⟩;rw[←C]at n9;have gr:aD (mkT I zb e) w5 w8:=((p6.keep.trans p7.keep fun _ _ h=>h).trans p8.keep fun _ _ h=>h);have kT:∀{x y:World},aD (mkT I zb e) x y→aD (pn Z I zb) x y:=fun hk=>hk.mono fun g _ h=>(MkW.te e w4 n4.gh g h).1
 have cu:aD (pn Z I zb) w3 w8:=(K4.trans (kT p5.keep) fun _ _ h=>h).trans (kT gr) fun _ _ h=>h
 have d8:a8.defers=[]:=p8.agree.defers.trans (p7.agree.defers.trans (p6.agree.defers.trans (p5.agree.defers.trans (A4.defers.trans d3))));have u8:∀r,r<5→κ8 r=κ3 r:=fun r hr=>(p8.upto r hr).trans ((p7.upto r hr).trans ((p6.upto r hr).trans (k5 r hr)))
 obtain⟨⟨xA,yA,g1⟩,⟨xB,yB,g2⟩,g3⟩:=id n9.gh;have g1:iF w8 I gA A Y xA yA:=g1;have g2:iF w8 zb gB B ac xB yB:=g2;obtain⟨J,hJ⟩:∃J:Act→World→Prop,J=fun a' w'=>∃(κ':Kap) (L:List Sp) (ca:Option Addr) (cb:Nat),cU 5 κ3 κ'∧Has ((S.put 16 (mkD ⟨e.p,true,Y,xA,yA,ac,xB,yB,L,ca,cb⟩)).put 32 (yF r1 r2 last kp ad (.slice e.oA e.out.length e.oC))) κ' 77 [(2,.one (.v 0)),(6,.one (.p 2 0)),(7,.one (.p 3 0)),(8,.one (.p 4 0)),(9,.one (.sl 16 16 17)),(13,.one (.i .u64 (.x 34)))] a' ∧
  w'.ownsRow Z 125 2 (.slice ca L.length cb) L.length (spC L)∧MkI keep A B (last+1) L∧a'.defers=[]∧aD (fun g=>Z≤g) w8 w':=⟨_,rfl⟩
 have step:=C1 d (last:=last) (b1:=r1.1) (b2:=r2.1) χ (by
  rcases Nat.le_total r1.2 r2.2 with h|h
  ·rw[a0,Nat.min_eq_left h];exact ra.2.2.1
  ·rw[a0,Nat.min_eq_right h];exact rb.2.2.1) (fun hk=>by
  have:=ra.2.2.2.1;have:=rb.2.2.2.1;have f4:r1.1=true∨r2.1=true:=by
   cases c1:r1.1<;>cases c2:r2.1
   ·rw[c1,c2,ea]at hk;cases hk
   all_goals simp
  rcases f4 with h|h
  ·have:=ra.2.2.2.1 h;omega
  ·have:=rb.2.2.2.1 h;omega) (fun q N h2=>ra.2.2.2.2 q N χ) (fun q N h2=>rb.2.2.2.2 q N χ)
 rw[←cf]at step;refine CY 1 J ?_ fun a9 w9 hj=>?_
 ·have d7:S2.b 34=kp:=by rw[C];rfl
  cases hkp2:kp with
  | false =>
   rw[hkp2]at step;refine cG false n9 rfl (d7.trans hkp2) (fZ ?_);refine⟨rfl,?_⟩;rw[hJ];exact⟨κ8,e.out,e.oA,e.oC,u8,by subst C;exact n9.has.re ⟨rfl,rfl,rfl,rfl,rfl,rfl,trivial⟩,g3,step,d8,aD.refl _ _⟩
  | true =>
  rw[hkp2]at step;simp only[if_true]at step;refine cG true n9 rfl (d7.trans hkp2) ?_;have bx:=n9.has.now (P:=Tryz.prog) 5 w8;have U:S2.n 16=e.out.length:=by rw[C];rfl
  have bc:S2.a 16=e.oA:=by rw[C];rfl
  have cv:S2.i 16=e.p:=by rw[C];rfl
  have cw:S2.i 34=last:=by rw[C];rfl
  have bd:S2.b 35=ad:=by rw[C];rfl
  have cx:S2.o 32=.slice e.oA e.out.length e.oC:=by rw[C];rfl
  obtain⟨J2,d4⟩:∃J:Act→World→Prop,J=fun a' w'=>∃κ':Kap,cU 5 κ8 κ'∧Has S2 κ' 77 (sj++[(13,.one (.i .u64 (.x 34))),(16,.one (.i .i64 (.ln 16))),(56,.one (.b (.x 35)))]) a'∧a'.defers=[]∧Kz w8 w':=⟨_,rfl⟩
  refine CY 2 J2 ?_ fun a9 w9 ec=>?_
  ·rw[d4]
   cases K:e.out.getLast? with
   | none =>
    have eg:e.out=[]:=List.getLast?_eq_none_iff.1 K;refine b7 2 τ (sj++[(13,.one (.i .u64 (.x 34))),(16,.one (.i .i64 (.ln 16))),(56,.one (.b (.c false)))]) [] 5 [] hPp δ (bx.fa [(.cmp .gtr (.ln 16) (.c 0),false)] (fa1 (by
     show decide ((S2.n 16:Int)>0)=false;rw[U,eg];rfl))) fun κ9 a9 w9 af p9=>cM rfl ?_
    refine⟨rfl,κ9,p9.upto,af.has.re ⟨rfl,rfl,rfl,rfl,rfl,rfl,rfl,rfl,?_,trivial⟩,p9.agree.defers.trans d8,p9.keep⟩;show Value.bool false=Value.bool (S2.b 35);rw[bd,D,K]
   | some y =>
    obtain⟨t,X,_⟩:=gC K;have V:e.out.length=t.length+1:=by rw[X];simp
    obtain⟨g,an,bl⟩:∃g,e.oA=some ⟨g,0,none⟩∧g<w8.heap.size:=by
     rcases g3.2 with⟨_,h2⟩|⟨g,al,dt,N,_,h3,_⟩
     ·omega
     ·cases H:e.oA with
      | none=>rw[H]at N;cases N
      | some q=>rw[H]at N;cases N;exact⟨_,rfl,fh h3⟩
    have ht:=d.set.QW y (by rw[X];simp);have eq:=d.lt y (by rw[X];simp);obtain⟨S3,O⟩:∃S3,S3=S2.put 48 (DX [y.1,y.2]):=⟨_,rfl⟩;have e9:S3.i 48=y.1:=by rw[O];rfl
    have d0:S3.i 49=y.2:=by rw[O];rfl
    have e8:S3.i 16=e.p:=by rw[O];exact cv
    have bg:S3.n 16=e.out.length:=by rw[O];exact U
    have d1:S3.a 16=e.oA:=by rw[O];exact bc
    have Q:IE.den S3 (.bin .sub .i64 (.ln 16) (.c 1))=(t.length:Int):=by
     show IntKind.i64.wrap ((S3.n 16:Int)-1)=_;rw[bg,V,show((t.length+1:Nat):Int)-1=t.length by omega];exact IntWalk.i64_in _ χ
    have af:Now S3 κ8 77 Tryz.prog {} H0 ⟨sj++[(13,.one (.i .u64 (.x 34)))],[],5,[]⟩ a8 w8:=by
     rw[O];exact((n9.has.sub δ).on (aQ S2 48 _) δ).now 5 w8
    obtain⟨κ9,u9,hy,b6⟩:=af.base g (2*t.length) [.i .u64 (.x 48),.i .u64 (.x 49)] ⟨bl,fun h=>h⟩ (fun j v hj=>by
     obtain⟨s1,s2⟩:=oE e.out t.length y (by rw[X];simp);have W:=g3;rw[an]at W;obtain⟨g',al,hv,_⟩:=W.form χ;have c1:=(W.cellAt (t.length*2) (by rw[V];omega)).trans s1;have c2:=(W.cellAt (t.length*2+1) (by rw[V];omega)).trans s2;rw[show 2*t.length=t.length*2 by omega]
     match j,hj with
     | 0,hj =>
      obtain rfl:=ι hj;rw[show Cl.den S3 (fun _=>(0,0)) (.i .u64 (.x 48))=.int .u64 (S3.i 48) from rfl,e9];exact c1
     | 1,hj =>
      obtain rfl:=ι hj;rw[show Cl.den S3 (fun _=>(0,0)) (.i .u64 (.x 49))=.int .u64 (S3.i 49) from rfl,d0];exact c2) [(16,2,.bin .sub .i64 (.ln 16) (.c 1),16,5)] δ (fun x H=>by
     obtain rfl:=ρ.1 H;refine⟨?_,?_,g,0,?_,?_⟩
     ·rw[Q];omega
     ·show IE.den S3 (.bin .sub .i64 (.ln 16) (.c 1))<(S3.n 16:Int)
      rw[Q,bg,V];omega
     ·show S3.a 16=_
      rw[d1,an]
     ·show(g,2*t.length)=(g,0+(IE.den S3 (.bin .sub .i64 (.ln 16) (.c 1))).toNat*2)
      rw[Q]
      congr 1
      omega)
    refine b7 2 τ (sj++[(13,.one (.i .u64 (.x 34))),(16,.one (.i .i64 (.ln 16))),(56,.one (.b (.cmp .eql (.x 49) (.bin .sub .u64 (.x 16) (.c 1)))))]) [] 6 [] hPp δ (b6.fa [(.cmp .gtr (.ln 16) (.c 0),true)] (fa1 (by
     show decide ((S3.n 16:Int)>0)=true;rw[bg,V];exact decide_eq_true χ))) fun cd a9 w9 gs p9=>cM rfl ?_
    refine⟨rfl,cd,fun r hr=>(p9.upto r (by show r<6;omega)).trans (u9 r hr),gs.has.re ⟨?_,rfl,rfl,rfl,?_,?_,?_,?_,?_,trivial⟩,p9.agree.defers.trans d8,p9.keep⟩
    ·rw[O];rfl
    ·rw[O];rfl
    ·rw[O];rfl
    ·rw[O];rfl
    ·rw[O];rfl
    ·show Value.bool ((S3.i 49)==IntKind.u64.wrap (S3.i 16-1))=Value.bool (S2.b 35)
     rw[bd,D,K,d0,e8];simp only
     congr 1
     have hp:e.p<18446744073709551616:=be;rw[bq χ,Bool.eq_iff_iff];simp;omega
  ·rw[d4]at ec
   obtain⟨κ9,u9,f9,d9,k9⟩:=ec
   cases hc:ad with
   | false =>
    refine cG false (f9.now (P:=Tryz.prog) 5 w9) rfl (bd.trans hc) ?_;have o9:=aK g3 k9 (fun _ _ h=>h);have fc:Has S2 κ9 77 [(2,.one (.v 0)),(6,.one (.p 2 0)),(7,.one (.p 3 0)),(8,.one (.p 4 0)),(9,.one (.v 32)),(10,.one (.i .u64 (.x 16))),(13,.one (.i .u64 (.x 34)))] a9:=f9.re ⟨rfl,rfl,rfl,rfl,by
     show Value.slice (S2.a 16) (S2.n 16) (S2.n 17)=S2.o 32;rw[cx,bc,U,C];rfl,rfl,rfl,trivial⟩
    have bb:push e.out e.p last=e.out++[(e.p,last)]:=by
     unfold push
     cases K:e.out.getLast? with
     | none=>rw[List.getLast?_eq_none_iff.1 K];rfl
     | some y =>
      rw[K]at D;simp only;rw[if_neg];intro h;rw[hc]at D;simp[h]at D
    rw[bb]at step;refine Er (z:=Z) (n:=e.out.length) (size:=2) (bytes:=16) (e:=125) (v := .slice e.oA e.out.length e.oC) (xs:=spC e.out) (ys:=dR (e.p,last)) 4 117 32 (.ag [.i .u64 (.x 16),.i .u64 (.x 34)]) 48 9 τ [(2,.one (.v 0)),(6,.one (.p 2 0)),(7,.one (.p 3 0)),(8,.one (.p 4 0)),(13,.one (.i .u64 (.x 34)))] δ (fc.now 5 w9) ⟨Tryz.underlying117,δ,ψ,ψ⟩ cx o9 ?_ ?_ rfl ?_ ?_ ?_ ?_
    ·have:=(c7.size);have:=k9.size;have:=cu.size;omega
    ·show #[Value.int .u64 (S2.i 16),.int .u64 (S2.i 34)]=_
     rw[cv,cw];rfl
    ·intro u hu
     rcases Ξ.1 hu with rfl|hu
     ·rfl
     ·obtain rfl:=ρ.1 hu;rfl
    ·unfold maxLen;omega
    ·omega
    ·intro v' dc cc ew gl g8 fd di
     refine cM rfl ⟨rfl,?_⟩;rw[hJ];obtain⟨g,al,hv,_⟩:=ew.form χ;subst hv;have bp:(e.out++[(e.p,last)]).length=e.out.length+1:=ξ
     refine⟨κ9,e.out++[(e.p,last)],some ⟨g,0,none⟩,al,fun r hr=>(u9 r hr).trans (u8 r hr),fd.re ⟨by rw[C];rfl,rfl,rfl,rfl,?_,by rw[C];rfl,trivial⟩,?_,step,di.defers.trans d9,(k9.mono fun _ _ h=>h.elim).trans (gl.mono fun g _ h=>oZ g h) fun _ _ h=>h⟩
     ·show Value.slice (some ⟨g,0,none⟩) (e.out.length+1) al=Value.slice (some ⟨g,0,none⟩) (e.out++[(e.p,last)]).length al
      rw[bp]
     ·rw[bp,jO];exact ew
   | true =>
    refine cG true (f9.now (P:=Tryz.prog) 5 w9) rfl (bd.trans hc) ?_;obtain⟨y,K,eq⟩:∃y,e.out.getLast?=some y∧y.2+1=e.p:=by
     cases K:e.out.getLast? with
     | none=>rw[K,hc]at D;cases D
     | some y=>exact⟨y,rfl,by rw[K,hc]at D;simpa using D.symm⟩
    obtain⟨t,X,g9⟩:=gC K;have V:e.out.length=t.length+1:=by rw[X];simp
    have o9:=aK g3 k9 (fun _ _ h=>h);obtain⟨g,an,bl⟩:∃g,e.oA=some ⟨g,0,none⟩∧g<w9.heap.size:=by
     rcases o9.2 with⟨_,h2⟩|⟨g,al,dt,N,_,h3,_⟩
     ·omega
     ·cases H:e.oA with
      | none=>rw[H]at N;cases N
      | some q=>rw[H]at N;cases N;exact⟨_,rfl,fh h3⟩
    have fy:Z≤g:=oZ g (by rw[an];rfl);have bb:push e.out e.p last=t++[(y.1,last)]:=by
     unfold push;rw[K];simp only;rw[if_pos eq,X,List.dropLast_concat]
    rw[bb]at step;have Q:IE.den S2 (.bin .sub .i64 (.ln 16) (.c 1))=(t.length:Int):=by
     show IntKind.i64.wrap ((S2.n 16:Int)-1)=_;rw[U,V,show((t.length+1:Nat):Int)-1=t.length by omega];exact IntWalk.i64_in _ χ
    let Hg:Gh:=Gh.two (fun b=>b=g) (fun w=>w.ownsRow Z 125 2 (.slice e.oA e.out.length e.oC) e.out.length (spC e.out)) (fun w=>w.ownsRow Z 125 2 (.slice e.oA e.out.length e.oC) e.out.length (spC (t++[(y.1,last)]))) (fun _ _ hk h=>aK h hk (fun _ _ h=>h)) (fun _ _ hk h=>aK h hk (fun _ _ h=>h))
    have bx:Now S2 κ9 77 Tryz.prog {} Hg ⟨sj++[(13,.one (.i .u64 (.x 34))),(16,.one (.i .i64 (.ln 16)))],[],5,[]⟩ a9 w9:=⟨f9.sub δ,⟨fun _ _ h=>by cases h⟩,noC _ _ _ _ _,fun b hb=>by rw[show b=g from hb];exact bl,o9⟩;obtain⟨cd,gu,cm,af⟩:=bx.baseT g (2*t.length) [(16,2,.bin .sub .i64 (.ln 16) (.c 1),16,5)] δ (fun x H=>by
     obtain rfl:=ρ.1 H;refine⟨?_,?_,g,0,?_,?_⟩
     ·rw[Q];omega
     ·show IE.den S2 (.bin .sub .i64 (.ln 16) (.c 1))<(S2.n 16:Int)
      rw[Q,U,V];omega
     ·show S2.a 16=_
      rw[bc,an]
     ·show(g,2*t.length)=(g,0+(IE.den S2 (.bin .sub .i64 (.ln 16) (.c 1))).toNat*2)
      rw[Q]
      congr 1
      omega)
    refine DB (CL:={}) 6 5 1 [.i .u64 (.x 34)] [] τ [(2,.one (.v 0)),(6,.one (.p 2 0)),(7,.one (.p 3 0)),(8,.one (.p 4 0)),(9,.one (.sl 16 16 17)),(13,.one (.i .u64 (.x 34)))] [] 6 [99] δ af dV (by rw[cm];rfl) (fun w1 he b3=>?_) fun gw dc cc b6 c8=>cM rfl ⟨rfl,?_⟩
    ·rw[cm]
     have b3:w1.ownsRow Z 125 2 (.slice e.oA e.out.length e.oC) e.out.length (spC e.out):=b3;rw[an,X]at b3;obtain⟨cs,c1,c2,c3⟩:=Bu b3 last;refine⟨cs,125,c1,c2,?_⟩;show World.ownsRow _ Z 125 2 (.slice e.oA e.out.length e.oC) e.out.length (spC (t++[(y.1,last)]));rw[an,X];show World.ownsRow (w1.setRow g (bk cs (2*t.length+1) [.int .u64 (S2.i 34)])) _ _ _ _ _ _;rw[cw];exact c3
    ·rw[hJ]
     have bp:(t++[(y.1,last)]).length=e.out.length:=by simp[V]
     refine⟨gw,t++[(y.1,last)],e.oA,e.oC,fun r hr=>(c8.upto r (by show r<6;omega)).trans ((gu r hr).trans ((u9 r hr).trans (u8 r hr))),b6.has.re ⟨by rw[C];rfl,rfl,rfl,rfl,?_,by rw[C];rfl,trivial⟩,?_,step,c8.agree.defers.trans d9,(k9.mono fun _ _ h=>h.elim).trans (c8.keep.mono fun b _ h=>by rw[show b=g from h];exact fy) fun _ _ h=>h⟩
     ·show Value.slice (S2.a 16) (S2.n 16) (S2.n 17)=Value.slice e.oA (t++[(y.1,last)]).length e.oC
      rw[bp,U,bc,C];rfl
     ·rw[bp];exact b6.gh
 ·rw[hJ]at hj
  obtain⟨κ9,L,ca,cb,u9,f9,o9,m9,d9,k9⟩:=hj;have bx:=f9.now (P:=Tryz.prog) 5 w9;have ee:∀{ops:List Oper} {S:Sta} {κ:Kap},((ops.filter fun o=>o.dst==some 73).map (·.op))=[.unOp .xor 41 (.tmp 72)]→gQ S κ Tryz.prog ops EN:=fun{ops S κ} bs=>⟨(fun _ h=>by cases h),fun x H o ho hd a w ha=>by
   obtain rfl:=ρ.1 H;exact wI (jZ bs ho hd) (ha _ (ρ.2 rfl))⟩
  refine fb (CL:=EN) τ [(2,.one (.v 0)),(6,.one (.p 2 0)),(7,.one (.p 3 0)),(8,.one (.p 4 0)),(9,.one (.sl 16 16 17)),(10,.one (.i .u64 (.bin .add .u64 (.x 34) (.c 1)))),(11,.one (.b (.cmp .neq (.x 34) (.c 18446744073709551615))))] [] 5 [] δ bx (ee rfl) fun cd dc cc af bf=>Dh rfl ?_
  have hf:last<18446744073709551616:=by
   have:=ra.2.1;have:=rb.2.1;omega
  have g7:e.p≤last:=by
   have:=ra.1;have:=rb.1;omega
  have fe:iF cc I gA A Y xA yA:=(g1.keep k9 χ).keep bf.keep (fun h=>h);have ff:iF cc zb gB B ac xB yB:=(g2.keep k9 χ).keep bf.keep (fun h=>h);refine⟨⟨if last=18446744073709551615 then 0 else last+1,decide (last≠18446744073709551615),Y,xA,yA,ac,xB,yB,L,ca,cb⟩,cd,?_,⟨fe,ff,aK o9 bf.keep (fun _ _ h=>h),fun c5 j s hj hs=>?_,fun c5 j s hj hs=>?_,?_,?_⟩,?_,?_,?_,?_⟩
  ·show(if decide (last≠18446744073709551615)=true then 18446744073709551616-(if last=18446744073709551615 then 0 else last+1)else 0)<if true=true then 18446744073709551616-e.p else 0
   have hn:e.p<18446744073709551616:=be
   by_cases c:last=18446744073709551615
   ·simp only[c,ne_eq,not_true,decide_false,if_true,Bool.false_eq_true,if_false]
    omega
   ·simp only[c,ne_eq,not_false_eq_true,decide_true,if_true,if_false]
    omega
  ·have c:last≠18446744073709551615:=by simpa using c5
   show s.2<if last=18446744073709551615 then 0 else last+1
   rw[if_neg c];have:=bm.lo j s hj hs;omega
  ·have c:last≠18446744073709551615:=by simpa using c5
   show s.2<if last=18446744073709551615 then 0 else last+1
   rw[if_neg c];have:=bo.lo j s hj hs;omega
  ·show MkI keep A B (if decide (last≠18446744073709551615)=true then(if last=18446744073709551615 then 0 else last+1)else 18446744073709551616) L
   by_cases c:last=18446744073709551615
   ·subst c
    simpa using m9
   ·simpa[c]using m9
  ·show(if last=18446744073709551615 then 0 else last+1)<lim
   unfold lim;split<;>omega
  ·exact fun r hr=>(bf.upto r hr).trans (u9 r hr)
  ·refine af.has.re ⟨rfl,rfl,rfl,rfl,rfl,?_,?_,trivial⟩
   ·show Value.int .u64 (IntKind.u64.wrap ((last:Int)+1))=Value.int .u64 ((if last=18446744073709551615 then 0 else last+1:Nat):Int)
    congr 1
    split
    ·rename_i c;subst c;decide
    ·rw[bq χ];omega
   ·show Value.bool ((last:Int)!=18446744073709551615)=Value.bool (decide (last≠18446744073709551615))
    congr 1
    rw[Bool.eq_iff_iff];simp;omega
  ·exact⟨af.has.size.trans n3.has.size.symm,(bf.agree.defers.trans d9).trans d3.symm,fun _ h=>by cases h⟩
  ·exact(cu.trans (k9.mono fun g _ h =>.inr (.inr h)) fun _ _ h=>h).trans (K_T bf.keep) fun _ _ h=>h
end Rs
section
open Go.RowKit Go.IntWalk Ck
variable {w:World} {c z:Nat}
def dI(l:List Sp):List Sp:=l.filter fun s=>decide (s.1≤s.2)
theorem mv(l:List Sp)(x:Sp):dI (l++[x])=if x.1≤x.2 then dI l++[x]else dI l:=by
 unfold dI;rw[List.filter_append]
 by_cases h:x.1≤x.2<;>simp[h]
theorem om(l:List Sp):(dI l).length≤l.length:=List.length_filter_le _ _
theorem yD{pb:Nat}{A:Option Addr}{xs:List Sp}(hu:aJ w pb (.slice A xs.length c) xs)(cf:pb<w.heap.size)(a:Act)(bs:a.tmps.size=80)(h0:At a 0 (.slice A xs.length c))(h3:At a 3 (.slice none 0 0))(Q:Exit→Act→World→Prop)
 (hQ:∀a' w' u',aE (fun i=>i==3||i==5||(rg 10 23 i)) a a'→At a' 3 u'→w'.ownsRow w.heap.size 125 2 u' (dI xs).length (spC (dI xs))→Kz w w'→Q .normal a' w'):
 (ax Tryz.f111 [1,1,0]).wp Tryz.prog Q a w:=by
 obtain⟨_,_,e,hc,b4,y⟩:=hu
 cases e
 conv=>arg 2;whnf
 refine so (fun H w1=>aE (fun i=>i==10||i==11||i==12) a H∧At H 10 (.slice A xs.length c)∧At H 11 (.int .i64 xs.length)∧At H 12 (.int .i64 0)∧w1=w) ?_ ?_
 ·clear y
  obtain⟨T,d⟩:=a;refine rl ?_
  iterate 3 with_reducible refine st ?_
  with_reducible refine ln ?_
  refine⟨rfl,ag,aq,aq,aq,rfl⟩
 rintro a0 w0 ⟨ad,b2,b1,bz,rfl⟩;have a7:=ad.size.trans bs;replace h3:=ad.Q7 h3 rfl;obtain⟨Z,hZ⟩:∃z,z=w0.heap.size:=⟨_,rfl⟩;rw[←hZ]at hQ;have HZ:=hh hZ;have cj:pb<Z:=χ
 clear hZ;refine bX xs.length (fun i=>i==3||i==5||(rg 12 23 i)) (fun i=>i==3||i==5||(rg 14 22 i)) (fun k a' w'=>∃u,At a' 3 u∧w'.ownsRow Z 125 2 u (dI (xs.take k)).length (spC (dI (xs.take k)))∧Kz w0 w') χ bz b1 ψ rfl
  ζ χ ψ (fun k H a2 w Y ⟨u,h1,h2⟩=>⟨u,Y.Q7 h1 rfl,h2⟩) ⟨_,h3,by simpa[dI,spC]using World.ownsRow_nil _ _ _ _,aD.refl _ _⟩ ?_ ?_
 ·rintro k H wr bp Y b0 ⟨u,W,v,hk⟩
  obtain⟨g,rfl,hg,cb,a6⟩:=y χ;obtain⟨x,hx⟩:=ge bp;obtain⟨c1,c2,c3,c4⟩:=a6 k x hx;unfold lim at c3 c4;have q0:wr.cell? ⟨g,k*2,none⟩=some (.int .u64 x.1):=(hk.cell (p:=⟨g,k*2,none⟩) hg (fun h=>h)).trans c1;have q1:wr.cell? ⟨g,k*2+1,none⟩=some (.int .u64 x.2):=(hk.cell (p:=⟨g,k*2+1,none⟩) hg (fun h=>h)).trans c2;have bd:=Y.Q7 b2 rfl;have a8:=Y.size.trans a7;have b6:=hk.size;have cc:g<wr.heap.size:=χ
  have cd:k≤c:=χ
  have HX:=hh hx;have HO:=hh v;have HK:=hh hk;have HA:=hh Y;clear hx v hk Y a6 c1 c2 y;refine so (fun a2 w2=>aE (fun i=>i==14||i==15||i==5) H a2∧At a2 5 (.pointer (some ⟨wr.heap.size,0,none⟩))∧w2=wr.alloc (.cells #[.int .u64 x.1,.int .u64 x.2] 125)) ?_ ?_
  ·obtain⟨T,d⟩:=H
   refine rl ?_
   iterate 4 with_reducible refine st ?_
   with_reducible refine ln ?_
   refine⟨rfl,ag,aq,rfl⟩
  rintro a2 wo ⟨J,bc,U⟩;obtain⟨z,hz⟩:∃z,z=wr.heap.size:=⟨_,rfl⟩;rw[←hz]at bc;have V:aL wo z 0 [.int .u64 x.1,.int .u64 x.2]:=by rw[U,hz];exact ap _ _ _
  have bb:z<wo.heap.size:=by rw[U,hz];simp
  have O:Kz wr wo:=by rw[U];exact(aD.refl _ _).alloc _
  have a9:=J.size.trans a8;have bt:=J.Q7 W rfl;have a5:=hh (aK HO.out O (fun _ _ h=>h));have an:=hh (HK.out.trans O (fun _ _ h=>h));have b5:=O.size;have be:Hid (aE (fun i=>i==3||i==5||(rg 14 22 i)) H a2):=J.m;clear U hz O HO HK J q0 q1 bd W b0;refine so (fun a3 w3=>aE (fun i=>i==16||i==17||i==18) a2 a3∧At a3 18 (.bool (!decide (x.2<x.1)))∧Kz wo w3) ?_ ?_
  ·have q0:=V.c0
   have q1:=V 1 _ rfl;obtain⟨t,ht⟩:∃t,t=decide (x.2<x.1):=⟨_,rfl⟩;rw[←ht];have hc:=oU x.1 x.2 wo;rw[←ht]at hc;have HC:=hh hc;clear hc ht;obtain⟨T,d⟩:=a2;refine rl ?_;with_reducible refine st ?_;refine Lz (fun K hK=>?_)
   go_simp;refine HC.out.mono ?_;rintro e w3 ⟨rfl,q⟩;with_reducible refine hK _ _ ?_;clear hK K
   have B:=hh q;clear q;with_reducible refine st ?_;refine ln ?_
   refine⟨rfl,ag,aq,B.out⟩
  rintro a3 w3 ⟨D,bw,q⟩;have ac:=D.size.trans a9;have C:=bw.eval χ;have b3:=D.Q7 bt rfl;have cp:=D.Q7 bc rfl;have al:=V.keep q bb (fun h=>h);have cm:z<w3.heap.size:=Θ bb q.size;have I:=hh (aK a5.out q (fun _ _ h=>h));have B:=hh (an.out.trans q (fun _ _ h=>h));have X:Hid (aE (fun i=>i==3||i==5||(rg 14 22 i)) H a3):=be.out.t D;have bo:(dI (xs.take k)).length≤4194304:=by have:=om (xs.take k);rw[List.length_take]at this;omega
  clear D q a5 an V
  by_cases hxx:x.2<x.1
  ·rw[decide_eq_true hxx]at C
   refine wp_cond_false C (wp_skip ?_);refine⟨X.out,u,b3,?_,B.out⟩;rw[aO HX.out,mv,if_neg χ];exact I.out
  ·rw[decide_eq_false hxx]at C
   refine wp_cond_true C ?_;refine Code.wp_only (R:=fun a4 w4=>aE (fun i=>i==3||(rg 19 22 i)) a3 a4∧(∃u',At a4 3 u'∧w4.ownsRow Z 125 2 u' ((dI (xs.take k)).length+1) (spC (dI (xs.take k)++[x])))∧Kz w0 w4) ?_ ?_
   ·have q0:=al.c0
    have q1:=al 1 _ rfl;obtain⟨l,hl⟩:∃l,l=dI (xs.take k):=⟨_,rfl⟩;rw[←hl]at I bo⊢;have ca:=hh hl;clear hl al C;obtain⟨T,d⟩:=a3;refine rl ?_
    iterate 3 with_reducible refine st ?_
    have hb:=ap w3 [.int .u64 x.1,.int .u64 x.2] 125;have N:Kz w3 (w3.alloc (.cells #[.int .u64 x.1,.int .u64 x.2] 125)):=(aD.refl _ _).alloc _;have bg:=hh (aK I.out N (fun _ _ h=>h));refine md rfl rfl rfl (At.eval (by exact aq) (by have:=ac;simp at this⊢; omega)) bg.out χ (At.eval (by exact aq) (by have:=ac;simp at this⊢; omega)) hb.c0 (hb 1 _ rfl) (by have:=HZ.out;have:=N.size;have:=B.out.size;omega) ?_;intro u2 w4 E L;have bl:=hh E;have bf:Hid (Kz w0 w4):=(B.out.trans N (fun _ _ h=>h)).trans L (fun i hi h=>by have:=(I.out.lt i h).1;have:=HZ.out;omega);clear E L hb N;simp only[Act.put];with_reducible refine st ?_;refine ln ?_
    refine⟨rfl,ag,⟨u2,aq,bl.out⟩,bf.out⟩
   rintro a4 w4 ⟨bm,⟨u',bx,af⟩,L⟩;refine⟨X.out.t bm,u',bx,?_,L⟩;rw[aO HX.out,mv,if_pos χ,List.length_append];exact af
 ·rintro a' w' Y ⟨u,W,v,hk⟩
  rw[List.take_length]at v;exact hQ _ _ _ ((ad.m).t Y) W v hk
theorem A9{Z:Nat}{u:Value}{l:List Sp}{x:Sp}(a:Act)(B:a.tmps.size=80)(O:At a 6 u)(U:At a 8 (.pointer (some ⟨z,0,none⟩)))(K:Hid (w.ownsRow Z 125 2 u l.length (spC l)))(W:l.length≤8388608)(V:Z≤w.heap.size)
 (X:w.cell? ⟨z,0,none⟩=some (.int .u64 x.1))(Y:w.cell? ⟨z,1,none⟩=some (.int .u64 x.2))(Q:Exit→Act→World→Prop)
 (L:∀I w' C,aE (fun i=>i==6||(rg 73 76 i)) a I→At I 6 C→w'.ownsRow Z 125 2 C (l.length+1) (spC (l++[x]))→aD (fun k=>Z≤k) w w'→Q .normal I w'):
 (ax Tryz.f111 [1,1,1,1,1,0,1,0,0,1,1,0,0,1,1,1]).wp Tryz.prog Q a w:=by
 conv=>arg 2;whnf
 refine Code.wp_only (R:=fun D q=>aE (fun i=>i==6||(rg 73 76 i)) a D∧(∃C,At D 6 C∧q.ownsRow Z 125 2 C (l.length+1) (spC (l++[x])))∧aD (fun k=>Z≤k) w q) ?_ (fun D q h=>L D q h.2.1.choose h.1 h.2.1.choose_spec.1 h.2.1.choose_spec.2 h.2.2);clear L;obtain⟨T,d⟩:=a;refine rl ?_
 iterate 3 with_reducible refine st ?_
 have J:=ap w [.int .u64 x.1,.int .u64 x.2] 125;have j:Kz w (w.alloc (.cells #[.int .u64 x.1,.int .u64 x.2] 125)):=(aD.refl _ _).alloc _;have v:=hh (aK K.out j (fun _ _ h=>h));refine md rfl rfl rfl (At.eval (by exact aq) (by have:=B;simp at this⊢; omega)) v.out χ (At.eval (by exact aq) (by have:=B;simp at this⊢; omega)) J.c0 (J 1 _ rfl) (by have:=j.size;omega) ?_;intro N q g y;have H:=hh g;have E:Hid (aD (fun k=>Z≤k) w q):=(j.mono fun _ _ h=>h.elim).trans y (fun i hi h=>(K.out.lt i h).1);clear g y J j v;simp only[Act.put];with_reducible refine st ?_;refine ln ?_
 refine⟨rfl,ag,⟨N,aq,H.out⟩,E.out⟩
theorem AE(a:Act)(v:a.tmps.size=80)(y:At a 9 (.int .i64 (0:Nat)))(Q:Exit→Act→World→Prop)(j:∀g,aE (fun i=>(rg 34 58 i)) a g→At g 58 (.bool false)→Q .normal g w.drew):
 (ax Tryz.f111 [1,1,1,1,1,0,1,0,0,1,1,0,0,1,1,0,0]).wp Tryz.prog Q a w:=by
 conv=>arg 2;whnf
 refine Code.wp_only (R:=fun g w'=>aE (fun i=>(rg 34 58 i)) a g∧At g 58 (.bool false)∧w'=w.drew) ?_ (fun l B h=>by obtain⟨q,u,rfl⟩:=h;exact j l q u);clear j;have x:=aU;obtain⟨T,d⟩:=a;refine wp_region_still_lit δ δ ?_
 iterate 25 with_reducible refine sl ?_
 with_reducible refine wpStill_nil ?_
 refine⟨rfl,ag,aq,rfl⟩
theorem AD{g m:Nat}{x y:Sp}(a:Act)(J:a.tmps.size=80)(Y:m+1≤c)(I:m≤8388608)(O:x.1<lim)(U:y.2<lim)(V:At a 6 (.slice (some ⟨g,0,none⟩) (m+1) c))(W:At a 8 (.pointer (some ⟨z,0,none⟩)))(X:At a 9 (.int .i64 ((m+1:Nat):Int)))
 (Z:w.cell? ⟨z,0,none⟩=some (.int .u64 x.1))(q1:w.cell? ⟨g,m*2+1,none⟩=some (.int .u64 y.2))(Q:Exit→Act→World→Prop)(u:∀j,aE (fun i=>(rg 34 58 i)) a j→At j 58 (.bool (decide (x.1≤y.2+1)))→Q .normal j w.drew):
 (ax Tryz.f111 [1,1,1,1,1,0,1,0,0,1,1,0,0,1,1,0,0]).wp Tryz.prog Q a w:=by
 unfold lim at O U
 conv=>arg 2;whnf
 refine Code.wp_only (R:=fun j w'=>aE (fun i=>(rg 34 58 i)) a j∧At j 58 (.bool (decide (x.1≤y.2+1)))∧w'=w.drew) ?_ (fun v w4 h=>by obtain⟨D,E,rfl⟩:=h;exact u v D E);clear u;have K:=aU;have L:IntKind.i64.wrap (((m+1:Nat):Int)-1)=(m:Int):=by rw[show((m+1:Nat):Int)-1=m by omega];exact i64_in _ χ
 have N:IntKind.i64.wrap (m:Int)=(m:Int):=i64_in _ χ;obtain⟨b1,B⟩:∃t,decide (x.1≤y.2)=t:=⟨_,rfl⟩;obtain⟨b2,C⟩:∃t,((x.1:Int)==IntKind.u64.wrap ((y.2:Int)+1))=t:=⟨_,rfl⟩;obtain⟨l,e3⟩:∃t,decide (x.1≤y.2+1)=t:=⟨_,rfl⟩;have q:Hid (l=(b1||b2)):=by
  refine hh ?_;rw[←B,←C,←e3,jv,IntKind.wrap_u64,Bool.eq_iff_iff];simp only[Bool.or_eq_true,decide_eq_true_eq];omega
 rw[e3];clear e3;have H:(m:Int)<(m:Int)+1:=χ
 obtain⟨T,d⟩:=a;refine wp_region_still_lit δ δ ?_
 cases b1
 ·skip
  iterate 25 with_reducible refine sl ?_
  with_reducible refine wpStill_nil ?_
  refine⟨rfl,?_,?_,rfl⟩
  ·exact ag
  ·rw[show l=b2 from q.out]
   exact aq
 ·skip
  iterate 25 with_reducible refine sl ?_
  with_reducible refine wpStill_nil ?_
  refine⟨rfl,?_,?_,rfl⟩
  ·exact ag
  ·rw[show l=true from q.out]
   exact aq
theorem DI{g m:Nat}{x y:Sp}(a:Act)(C:a.tmps.size=80)(K:m+1≤c)(B:m≤8388608)(H:At a 6 (.slice (some ⟨g,0,none⟩) (m+1) c))(I:At a 8 (.pointer (some ⟨z,0,none⟩)))(J:At a 9 (.int .i64 ((m+1:Nat):Int)))
 (L:w.cell? ⟨z,1,none⟩=some (.int .u64 x.2))(N:w.cell? ⟨g,m*2+1,none⟩=some (.int .u64 y.2))(O:w.frozen? ⟨g,m*2+1,none⟩=false)(Q:Exit→Act→World→Prop)(l:∀j,aE (fun i=>(rg 59 72 i)) a j→Q .normal j (w.setCell ⟨g,m*2+1,none⟩ (.int .u64 (max y.2 x.2:Nat))).drew):
 (ax Tryz.f111 [1,1,1,1,1,0,1,0,0,1,1,0,0,1,1,0,1,0,0]).wp Tryz.prog Q a w:=by
 conv=>arg 2;whnf
 refine Code.wp_only (R:=fun j w'=>aE (fun i=>(rg 59 72 i)) a j∧w'=(w.setCell ⟨g,m*2+1,none⟩ (.int .u64 (max y.2 x.2:Nat))).drew) ?_ (fun q U h=>by obtain⟨u,rfl⟩:=h;exact l q u);clear l;have D:IntKind.i64.wrap (((m+1:Nat):Int)-1)=(m:Int):=by rw[show((m+1:Nat):Int)-1=m by omega];exact i64_in _ χ
 have E:IntKind.i64.wrap (m:Int)=(m:Int):=i64_in _ χ;have v:(m:Int)<(m:Int)+1:=χ
 obtain⟨T,d⟩:=a;refine wp_region_still_tail 14 δ δ ?_;simp only[List.take_succ_cons,List.take_zero,List.drop_succ_cons,List.drop_zero]
 iterate 14 with_reducible refine sl ?_
 with_reducible refine wpStill_nil ?_;refine st ?_;refine ln ?_
 refine⟨rfl,?_,?_⟩
 ·exact ag
 ·rw[show(if y.2<x.2 then(x.2:Int)else(y.2:Int))=((max y.2 x.2:Nat):Int) by split<;>omega]
theorem pq(out:List Sp)(x:Sp):(cI out x).length≤out.length+1:=by
 unfold cI;split
 ·simp
 ·rename_i y d
  have g:out≠[]:=by intro e;rw[e]at d;simp at d
  have:=List.length_pos_iff.2 g;split
  ·simp;try omega
  ·simp
theorem iU(l:List Sp):∀n:Nat,n≤l.length→(aZ (l.take n)).length≤n
 | 0,_=>by simp[aZ]
 | n+1,h=>by
  have d:=iU l n χ;rw[List.take_succ_eq_append_getElem χ,ek];have:=pq (aZ (l.take n)) l[n];omega
theorem po{out:List Sp}{x:Sp}(h:∀s∈out,s.1<lim∧s.2<lim)(j:x.1<lim∧x.2<lim):∀s∈cI out x,s.1<lim∧s.2<lim:=by
 unfold cI;split
 ·simpa using j
 ·rename_i y l
  have g:=h y (List.mem_of_getLast? l);split
  ·intro s d
   rcases Ω.1 d with d|d
   ·exact h s (List.dropLast_subset _ d)
   ·have:s=(y.1,max y.2 x.2):=by simpa using d
    subst this;exact⟨g.1,by show max y.2 x.2<lim;omega⟩
  ·intro s d
   rcases Ω.1 d with d|d
   ·exact h s d
   ·have:s=x:=by simpa using d
    subst this;exact j
theorem iT:∀(n:Nat) (l:List Sp),l.length=n→(∀s∈l,s.1<lim∧s.2<lim)→∀s∈aZ l,s.1<lim∧s.2<lim
 | 0,l,hl,_=>by
  have:l=[]:=List.length_eq_zero_iff.1 hl;subst this;simp[aZ]
 | n+1,l,hl,h=>by
  obtain⟨t,x,rfl⟩:∃t x,l=t++[x]:=by
   have d:l≠[]:=by intro e;rw[e]at hl;simp at hl
   exact⟨l.dropLast,l.getLast d,(List.dropLast_concat_getLast d).symm⟩
  rw[ek];exact po (iT n t (by simpa using hl) fun s g=>h s (by simp[g])) (h x ξ)
theorem DA(t:List Sp)(y:Sp)(v:Nat):(spC (t++[y])).set (t.length*2+1) (.int .u64 v)=spC (t++[(y.1,v)]):=by
 rw[jO,jO,←jr,List.set_append_right _ _ χ]
 congr 1
 rw[show(spC t).length+1-(spC t).length=1 by omega];rfl
theorem AC{pb:Nat}{A:Option Addr}{xs:List Sp}(hu:aJ w pb (.slice A xs.length c) xs)(c7:pb<w.heap.size)(a9:∀s∈xs,s.1<lim∧s.2<lim)(a:Act)(ca:a.tmps.size=80)(h3:At a 3 (.slice A xs.length c))(h6:At a 6 (.slice none 0 0))(Q:Exit→Act→World→Prop)
 (hQ:∀a' w' u',aE (fun i=>i==6||i==8||i==9||(rg 26 77 i)) a a'→At a' 6 u'→w'.ownsRow w.heap.size 125 2 u' (aZ xs).length (spC (aZ xs))→Kz w w'→Q .normal a' w'):
 (ax Tryz.f111 [1,1,1,1,1,0]).wp Tryz.prog Q a w:=by
 obtain⟨_,_,e,hc,cu,B⟩:=hu
 cases e
 conv=>arg 2;whnf
 refine so (fun O w1=>aE (fun i=>i==26||i==27||i==28) a O∧At O 26 (.slice A xs.length c)∧At O 27 (.int .i64 xs.length)∧At O 28 (.int .i64 0)∧w1=w) ?_ ?_
 ·clear B
  obtain⟨T,d⟩:=a;refine rl ?_
  iterate 3 with_reducible refine st ?_
  with_reducible refine ln ?_
  refine⟨rfl,ag,aq,aq,aq,rfl⟩
 rintro a0 w0 ⟨bb,cm,cj,cd,rfl⟩;have bx:=bb.size.trans ca;replace h6:=bb.Q7 h6 rfl;obtain⟨Z,hZ⟩:∃z,z=w0.heap.size:=⟨_,rfl⟩;rw[←hZ]at hQ;have HZ:=hh hZ;have c8:pb<Z:=χ
 have bg:=hh a9;clear hZ a9;refine bX xs.length (fun i=>i==6||i==8||i==9||(rg 28 77 i)) (fun i=>i==6||i==8||i==9||(rg 30 76 i)) (fun k a' w'=>∃u,At a' 6 u∧w'.ownsRow Z 125 2 u (aZ (xs.take k)).length (spC (aZ (xs.take k)))∧Kz w0 w') χ cd cj ψ rfl
  ζ χ ψ (fun k O a2 w hA ⟨u,h1,h2⟩=>⟨u,hA.Q7 h1 rfl,h2⟩) ⟨_,h6,by simpa[aZ,spC]using World.ownsRow_nil _ _ _ _,aD.refl _ _⟩ ?_ ?_
 ·rintro k O wr b6 hA cf ⟨u,al,v,hk⟩
  obtain⟨g,rfl,hg,cy,bo⟩:=B χ;obtain⟨x,hx⟩:=ge b6;obtain⟨c1,c2,c3,c4⟩:=bo k x hx;have q0:wr.cell? ⟨g,k*2,none⟩=some (.int .u64 x.1):=(hk.cell (p:=⟨g,k*2,none⟩) hg (fun h=>h)).trans c1;have q1:wr.cell? ⟨g,k*2+1,none⟩=some (.int .u64 x.2):=(hk.cell (p:=⟨g,k*2+1,none⟩) hg (fun h=>h)).trans c2;have b3:=hA.Q7 cm rfl;have bz:=hA.size.trans bx;have cw:=hk.size;have c5:g<wr.heap.size:=χ
  have c6:k≤c:=χ
  have U:Hid (aZ (xs.take (k+1))=cI (aZ (xs.take k)) x):=by
   refine hh ?_;rw[aO hx,ek]
  have bt:=iU xs k χ;have bl:Hid (∀s∈aZ (xs.take k),s.1<lim∧s.2<lim):=iT _ _ rfl fun s hs=>bg.out s (List.mem_of_mem_take hs)
  obtain⟨out,K⟩:∃l,l=aZ (xs.take k):=⟨_,rfl⟩;rw[←K]at v U bt bl;have cx:=hh K;clear K;obtain⟨p,X,rfl⟩:∃p X,u=.slice p out.length X:=by
   rcases v.2 with⟨e1,e2⟩|⟨g,X,b5,e1,_⟩
   ·exact⟨_,_,by rw[e1,e2]⟩
   ·exact⟨_,_,e1⟩
  have HX:=hh hx;have HO:=hh v;have HK:=hh hk;have HA:=hh hA;have b4:=hh c3;clear hx v hk hA bo c1 c2 B c3 c4;refine so (fun a2 w2=>aE (fun i=>i==30||i==31||i==8) O a2∧At a2 8 (.pointer (some ⟨wr.heap.size,0,none⟩))∧w2=wr.alloc (.cells #[.int .u64 x.1,.int .u64 x.2] 125)) ?_ ?_
  ·obtain⟨T,d⟩:=O
   refine rl ?_
   iterate 4 with_reducible refine st ?_
   with_reducible refine ln ?_
   refine⟨rfl,ag,aq,rfl⟩
  rintro a2 wo ⟨ac,b2,af⟩;obtain⟨z,hz⟩:∃z,z=wr.heap.size:=⟨_,rfl⟩;rw[←hz]at b2;have bd:aL wo z 0 [.int .u64 x.1,.int .u64 x.2]:=by rw[af,hz];exact ap _ _ _
  have cb:z<wo.heap.size:=by rw[af,hz];simp
  have ad:Kz wr wo:=by rw[af];exact(aD.refl _ _).alloc _
  have b0:=ac.size.trans bz;have cc:=ac.Q7 al rfl;have V:=hh (aK HO.out ad (fun _ _ h=>h));have R:=hh (HK.out.trans ad (fun _ _ h=>h));have cv:=ad.size;have bf:Hid (aE (fun i=>i==6||i==8||i==9||(rg 30 76 i)) O a2):=ac.m;clear af hz ad HO HK ac q0 q1 b3 al cf;refine so (fun a3 w3=>aE (fun i=>i==32||i==33||i==9) a2 a3∧At a3 9 (.int .i64 (out.length:Nat))∧w3=wo) ?_ ?_
  ·clear bd
   obtain⟨T,d⟩:=a2;refine rl ?_
   iterate 3 with_reducible refine st ?_
   with_reducible refine ln ?_
   refine⟨rfl,ag,aq,rfl⟩
  rintro a3 w3 ⟨J,an,rfl⟩;have D:=J.size.trans b0;have a6:=J.Q7 cc rfl;have a7:=J.Q7 b2 rfl;have I:Hid (aE (fun i=>i==6||i==8||i==9||(rg 30 76 i)) O a3):=bf.out.t J;have L:=bd.keep (aD.drew (aD.refl (fun _=>False) w3)) cb (fun h=>h);have W:=hh (aK V.out (aD.drew (aD.refl (fun _=>False) w3)) (fun _ _ h=>h));have b1:Z≤w3.drew.heap.size:=by have:=HZ.out;have:=R.out.size;show Z≤w3.heap.size;omega
  clear J bf;refine wp_seq (wp_seq ?_)
  cases hgl:out.getLast? with
  | none =>
   have bs:out=[]:=List.getLast?_eq_none_iff.1 hgl;subst bs;refine AE a3 D an _ (fun a4 q be=>?_);have E:=q.size.trans D;refine wp_cond_false (be.eval χ) (wp_skip ?_)
   repeat with_reducible apply bK
   refine A9 a4 E (q.Q7 a6 rfl) (q.Q7 a7 rfl) W ξ b1 L.c0 (L 1 _ rfl) _ (fun a5 w5 u5 H k6 C bc=>?_);refine⟨(I.out.t q).t H,u5,k6,?_,(R.out.drew).trans bc (fun i h1 h2=>by have:=HZ.out;omega)⟩;rw[show aZ (xs.take (k+1))=[x] from U.out];exact C
  | some y =>
   obtain⟨t,ht,hd⟩:=gC hgl;subst ht;have hY:=bl.out y ξ;have el:(t++[y]).length=t.length+1:=ξ
   rw[el]at an bt;obtain⟨g2,cs,hv,hB,bp⟩:=V.out.form ξ
   cases hv
   have a8:t.length+1≤X:=by
    rcases V.out.2 with⟨e1,_⟩|⟨g1,cp,b5,e1,_,_,bm,_⟩
    ·cases e1
    ·cases e1;rw[el]at bm;exact bm
   have N:=a6;rw[el]at N;obtain⟨_,s2⟩:=oE (t++[y]) t.length y ξ;have q3:w3.cell? ⟨g2,t.length*2+1,none⟩=some (.int .u64 y.2):=(V.out.cellAt _ (by rw[el];omega)).trans s2;refine AD a3 D a8 χ b4.out hY.2 N a7 an bd.c0 q3 _ (fun a4 q be=>?_);have E:=q.size.trans D;have Y:=be.eval χ
   by_cases hxy:x.1≤y.2+1
   ·rw[decide_eq_true hxy]at Y
    refine wp_cond_true Y (wp_seq ?_);refine DI (w:=w3.drew) (x:=x) a4 E a8 χ (q.Q7 N rfl) (q.Q7 a7 rfl) (q.Q7 an rfl) (L 1 _ rfl) ((aD.cell (aD.drew (aD.refl (fun _=>False) w3)) bp (fun h=>h)).trans q3) (W.out.frozenAt _) _ (fun a5 H=>?_);refine wp_exit ?_
    repeat with_reducible apply eP
    simp only[bi,if_true];obtain⟨bw,c9⟩:=W.out.stored (t.length*2+1) (.int .u64 (max y.2 x.2:Nat));refine⟨(I.out.t q).t H,_,H.Q7 (q.Q7 a6 rfl) rfl,?_,?_⟩
    ·have e:aZ (xs.take (k+1))=t++[(y.1,max y.2 x.2)]:=by
      rw[U.out];unfold cI;rw[hgl];simp only[if_pos hxy,hd]
     rw[DA]at bw;rw[e,show(t++[(y.1,max y.2 x.2)]).length=(t++[y]).length by simp];exact aK bw (aD.drew (aD.refl (fun _=>False) _)) (fun _ _ h=>h)
    ·refine aD.drew ((R.out.drew).setCell (fun h=>?_) _)
     have h:g2<w0.heap.size:=h;have:=HZ.out;omega
   ·rw[decide_eq_false hxy]at Y
    refine wp_cond_false Y (wp_skip ?_)
    repeat with_reducible apply bK
    refine A9 a4 E (q.Q7 a6 rfl) (q.Q7 a7 rfl) W (by rw[el];omega) b1 L.c0 (L 1 _ rfl) _ (fun a5 w5 u5 H k6 C bc=>?_);refine⟨(I.out.t q).t H,u5,k6,?_,(R.out.drew).trans bc (fun i h1 h2=>by have:=HZ.out;omega)⟩;have e:aZ (xs.take (k+1))=t++[y]++[x]:=by
     rw[U.out];unfold cI;rw[hgl];simp only[if_neg hxy]
    rw[e,show(t++[y]++[x]).length=(t++[y]).length+1 by simp];exact C
 ·rintro a' w' hA ⟨u,al,v,hk⟩
  rw[List.take_length]at v;exact hQ _ _ _ ((bb.m).t hA) al v hk
end
namespace Rs
open Go.RowKit Ck
variable {l:List Sp} {w:World} {u:Value}
theorem Dw{p i k:Nat}(q:i≤l.length)(d:∀j s,j<i→l[j]?=some s→s.2<p)(g:∀s,l[i]?=some s→p≤s.2)(hk:AtK l p k):i=k:=by
 rcases Nat.lt_trichotomy i k with c|c|c
 ·have h:=Ez (show i<l.length by have:=hk.le;omega)
  have:=hk.lo i _ c h;have:=g _ h;omega
 ·exact c
 ·have h:=Ez (show k<l.length by omega)
  have:=d k _ c h;have:=hk.hi _ h;omega
theorem An(y:au w u l)(v:dS l){p k:Nat}(x:p<lim)(hk:AtK l p k):Calls Tryz.prog 113 #[.agg #[u],.int .u64 p] w fun e w'=>e=.returned (.int .i64 k)∧Kz w w':=
 (tc y.Q7 v p x).mono fun e w' ⟨⟨i,d,g,h,j⟩,q⟩=>⟨by rw[d,Dw g h j hk],q⟩
def i6(l:List Sp)(p k:Nat):Nat×Bool:=match l[k]? with
 | none=>(0,false)
 | some s=>(max p s.1,true)
theorem C0{l:List Sp}(g:dS l){p k:Nat}(hk:AtK l p k):((i6 l p k).2=true→aW l (i6 l p k).1∧p≤(i6 l p k).1∧∀q,p≤q→q<(i6 l p k).1→¬ aW l q)∧((i6 l p k).2=false→∀q,p≤q→¬ aW l q):=by
 unfold i6
 cases e:l[k]? with
 | none =>
  refine⟨(fun h=>by cases h),fun _ q J ⟨s,B,x,y⟩=>?_⟩;obtain⟨j,d⟩:=List.getElem?_of_mem B;have:j<k:=by
   have:=(ο.1 d).1
   rcases Ψ j k with c|c
   ·exact c
   ·rw[List.getElem?_eq_none_iff]at e;omega
  have:=hk.lo j s this d;omega
 | some s =>
  have x:=g.some_ s (γ e);have y:=hk.hi s e;refine⟨fun _=>⟨⟨s,γ e,Nat.le_max_right _ _,by show max p s.1≤s.2;omega⟩,Nat.le_max_left _ _,fun q K u ⟨t,C,H,I⟩=>?_⟩,fun h=>by cases h⟩;have u:q<max p s.1:=u;obtain⟨j,d⟩:=List.getElem?_of_mem C
  rcases Nat.lt_trichotomy j k with c|c|c
  ·have:=hk.lo j t c d;omega
  ·subst c;rw[e]at d;obtain rfl:=ι d;omega
  ·obtain⟨D,v⟩:=ο.1 e
   obtain⟨E,w⟩:=ο.1 d;have:=List.pairwise_iff_getElem.1 g.apart k j D E c;rw[v,w]at this;omega
def nxS(A:Option Addr)(n c p k:Nat)(s:Sp):Sta where
 a _:=A
 n j:=match j with|1=>n|_=>c
 i j:=match j with|0=>p|1=>k|2=>s.1|_=>s.2
def Et:List (FuncId×List SV×SV):=[(113,[.ag [.sl 1 1 2],.one (.i .u64 (.x 0))],.one (.i .i64 (.x 1)))]
theorem AG(J:au w u l)(U:dS l){p k:Nat}(W:p<lim)(hk:AtK l p k):
 Calls Tryz.prog 114 #[.agg #[u],.int .u64 p] w fun e w'=>e=.returned (.tuple #[.int .u64 (i6 l p k).1,.bool (i6 l p k).2])∧Kz w w':=by
 obtain⟨R,C⟩:∃R:Ending→World→Prop,R=fun e w'=>e=.returned (.tuple #[.int .u64 (i6 l p k).1,.bool (i6 l p k).2])∧Kz w w':=⟨_,rfl⟩
 rw[←C];obtain⟨A,c,N,lA,Z,V⟩:=id J;subst N;refine fnE (nxS A l.length c p k (l.getD k (0,0))) (fun _=>(0,0)) [.ag [.sl 1 1 2],.one (.i .u64 (.x 0))] Tryz.func114 Tryz.ntmps114 rfl rfl ψ H0 (fun _ h=>h.elim) trivial fun a I hh=>?_
 have n0:=hh.more [] Et [] dg (fun x y w' X=>by
  obtain rfl:=ρ.1 y;exact An (J.keep X) U W hk) (fun i x y=>by cases y)
 refine b7 2 τ [(1,.one (.i .u64 (.x 0))),(2,.one (.p 0 0)),(6,.one (.i .i64 (.x 1)))] [(0,[.sl 1 1 2])] 1 [] hPp δ n0 fun κ1 a1 w1 K d=>?_
 by_cases c1:k=l.length
 ·refine dU 9 τ [(4,.one (.i .u64 (.c 0))),(5,.one (.b (.c false)))] [] 1 [] hPp δ (K.fa [(.cmp .eql (.x 1) (.ln 1),true)] (fa1 (by
   show((k:Int)==(l.length:Int))=true;rw[c1];simp))) fun κ2 L w2 H B=>?_
  refine jP rfl H.has rfl rfl (B.agree.defers.trans (d.agree.defers.trans I)) ?_;rw[C];refine⟨?_,d.keep.trans B.keep fun _ _ h=>h⟩;unfold i6;rw[c1,List.getElem?_eq_none (Γ _)];rfl
 ·have q:k<l.length:=by have:=hk.le;omega
  obtain⟨g,O,D,E⟩:=V χ;obtain⟨m1,m2,m3,m4⟩:=E k _ (tN q);obtain⟨κ2,u2,Y,H⟩:=K.base g (2*k) [.i .u64 (.x 2),.i .u64 (.x 3)] ⟨Θ D d.keep.size,fun h=>h⟩ (fun j v Q=>(d.keep.cell (p:=⟨_,_,none⟩) m1 (fun h=>h)).trans (m2 j v Q)) [(1,2,.x 1,1,1)] δ (fun x y=>by
   obtain rfl:=ρ.1 y;refine⟨?_,?_,g,0,O,?_⟩
   ·show(0:Int)≤(k:Int);omega
   ·show(k:Int)<(l.length:Int);omega
   ·show(g,2*k)=(g,0+(k:Int).toNat*2)
    congr 1
    omega)
  refine dU 9 τ [(4,.one (.i .u64 (.mx (.x 0) (.x 2)))),(5,.one (.b (.c true)))] [] 2 [] hPp δ (H.fa [(.cmp .eql (.x 1) (.ln 1),false)] (fa1 (by
   show((k:Int)==(l.length:Int))=false;simp;omega))) fun κ3 L w2 n3 B=>?_
  refine jP rfl n3.has rfl rfl (B.agree.defers.trans (d.agree.defers.trans I)) ?_;rw[C];refine⟨?_,d.keep.trans B.keep fun _ _ h=>h⟩;unfold i6;rw[tN q];show Ending.returned (.tuple #[.int .u64 (IE.den (nxS A l.length c p k (l.getD k (0,0))) (.mx (.x 0) (.x 2))),.bool true])=_;have:IE.den (nxS A l.length c p k (l.getD k (0,0))) (.mx (.x 0) (.x 2))=((max p (l.getD k (0,0)).1:Nat):Int):=by
   simp only[IE.den,nxS];omega
  rw[this]
def toS(A:Option Addr)(n c:Nat)(x:Sp)(r:Nat×Bool):Sta where
 a _:=A
 n j:=match j with|1=>n|_=>c
 i j:=match j with|0=>x.1|1=>x.2|_=>r.1
 b _:=r.2
def Ep:List (FuncId×List SV×SV):=[(114,[.ag [.sl 1 1 2],.one (.i .u64 (.x 0))],.tu [.i .u64 (.x 2),.b (.x 0)]),(112,[.ag [.i .u64 (.x 0),.i .u64 (.x 1)]],.one (.b (.cmp .lss (.x 1) (.x 0))))]
theorem rt{w:World}{u:Value}{l:List Sp}(Q:au w u l)(N:dS l){x:Sp}(X:x.1<lim):
 Calls Tryz.prog 62 #[.agg #[u],.agg #[.int .u64 x.1,.int .u64 x.2]] w fun e w'=>(∃b,e=.returned (.bool b)∧(b=true↔∃q,x.1≤q∧q≤x.2∧aW l q))∧Kz w w':=by
 obtain⟨R,D⟩:∃R:Ending→World→Prop,R=fun e w'=>(∃b,e=.returned (.bool b)∧(b=true↔∃q,x.1≤q∧q≤x.2∧aW l q))∧Kz w w':=⟨_,rfl⟩
 rw[←D];obtain⟨A,c,W,lA,ac,hm⟩:=id Q;subst W;obtain⟨k,_,hk⟩:=xC (l:=l) (p:=x.1) l.length 0 χ (fun j s Z=>absurd Z (Nat.not_lt_zero _));have g:=C0 N hk;have v:=fun{w'} (H:Kz w w')=>AG (Q.keep H) N X hk
 obtain⟨r,O⟩:∃r,r=i6 l x.1 k:=⟨_,rfl⟩;rw[←O]at g;simp only[←O]at v;refine fnE (toS A l.length c x r) (fun _=>(0,0)) [.ag [.sl 1 1 2],.ag [.i .u64 (.x 0),.i .u64 (.x 1)]] Tryz.func62 Tryz.ntmps62 rfl rfl ψ H0 (fun _ h=>h.elim) trivial fun a E hh=>?_
 have n0:∀FA:List (BE×Bool),(∀y∈FA,y.1.den (toS A l.length c x r)=y.2)→_:=fun FA Y=>hh.more FA Ep [] Y (fun y I w' H=>by
  rcases Ξ.1 I with rfl|I
  ·exact v H
  ·obtain rfl:=ρ.1 I
   exact(oU x.1 x.2 w').mono fun e ad ⟨C,J⟩=>⟨by
    rw[C];show Ending.returned (.bool (decide (x.2<x.1)))=.returned (.bool (decide ((x.2:Int)<(x.1:Int))))
    congr 2
    exact decide_eq_decide.2 χ,J⟩) (fun i x hx=>by cases hx)
 have yes:∀y:Bool×Nat,True:=fun _=>trivial
 cases hok:r.2 with
 | false =>
  refine dU 9 τ [(4,.one (.b (.c false)))] [] 2 [] hPp δ (n0 [(.x 0,false)] (fa1 hok)) fun V L U B d=>?_
  refine fj 4 rfl B.has rfl (d.agree.defers.trans E) ?_;rw[D];exact⟨⟨false,rfl,⟨fun h=>by(cases h),fun⟨q,C,J,K⟩=>absurd K (g.2 hok q C)⟩⟩,d.keep⟩
 | true =>
  obtain⟨z1,z2,z3⟩:=g.1 hok
  by_cases hle:r.1≤x.2
  ·refine dU 9 τ [(4,.one (.b (.not (.cmp .lss (.x 1) (.x 0)))))] [] 2 [] hPp δ (n0 [(.x 0,true),(.cmp .leq (.x 2) (.x 1),true)] (yZ hok (by
    show decide ((r.1:Int)≤(x.2:Int))=true;exact decide_eq_true χ))) fun V L U B d=>?_
   refine fj 4 rfl B.has rfl (d.agree.defers.trans E) ?_;rw[D];refine⟨⟨_,rfl,⟨fun _=>⟨r.1,z2,hle,z1⟩,fun _=>?_⟩⟩,d.keep⟩;show(!decide ((x.2:Int)<(x.1:Int)))=true;simp;omega
  ·refine dU 9 τ [(4,.one (.b (.c false)))] [] 2 [] hPp δ (n0 [(.x 0,true),(.cmp .leq (.x 2) (.x 1),false)] (yZ hok (by
    show decide ((r.1:Int)≤(x.2:Int))=false;exact decide_eq_false χ))) fun V L U B d=>?_
   refine fj 4 rfl B.has rfl (d.agree.defers.trans E) ?_;rw[D];exact⟨⟨false,rfl,⟨fun h=>by(cases h),fun⟨q,C,J,K⟩=>absurd K (z3 q C χ)⟩⟩,d.keep⟩
end Rs
section
open Go.RowKit Go.IntWalk Ck
theorem aM.take{α:Type}{B k:Nat}{R:World→Nat→Nat→α→Prop}{w:World}{A:Option Addr}{c:Nat}{xs:List α}(h:aM B k R w (.slice A xs.length c) xs){n:Nat}(C:n≤xs.length):aM B k R w (.slice A (xs.take n).length c) (xs.take n):=by
 obtain⟨_,_,e,u,v,g⟩:=h
 cases e
 have y:(xs.take n).length=n:=by rw[List.length_take];omega
 refine⟨A,c,rfl,χ,χ,fun q=>?_⟩;obtain⟨b,off,e,j,l⟩:=g χ;exact⟨b,off,e,j,fun i x d=>l i x (by rw[List.getElem?_take]at d;split at d;exact d;cases d)⟩
def kQ(P:aF)(l:List Ck.mf):List Wr:=cQ (fun r s=>[(max r.pos s.pos,1)]) l++l.flatMap (sH P)
theorem nM{P:aF}{l:List Ck.mf}{x:Ck.mf}{p:Wr}:p∈kQ P (l++[x])↔p∈kQ P l∨p∈l.flatMap (fun s=>[(max x.pos s.pos,1)])∨p∈sH P x:=by
 simp only[kQ,List.mem_append,cg,List.flatMap_append,List.flatMap_cons,List.flatMap_nil,List.append_nil,List.mem_flatMap];constructor
 ·rintro((h|h)|(h|h))
  ·exact .inl (.inl h)
  ·exact .inr (.inl h)
  ·exact .inl (.inr h)
  ·exact .inr (.inr h)
 ·rintro((h|h)|(h|h))
  ·exact .inl (.inl h)
  ·exact .inr (.inl h)
  ·exact .inl (.inr h)
  ·exact .inr (.inr h)
def GH(f:List Nm):Prop:=f.length≤4194304∧∀x∈f,aV x.1
theorem CP{B:Nat}{w:World}{v:ae}{P:aF}(h:bD B w v P):∀f∈d6 P,GH f:=by
 have l:∀x∈P.Q5,aV x.name:=cZ h.Q5 fun b o x d=>by obtain⟨_,_,_,_,_,_,h⟩:=d;exact h
 have q:∀x∈P.Q3,aV x.name:=cZ h.Q3 fun b o x d=>d.2.2.2.2.2.1
 have u:∀x∈P.Q4,aV x.name:=cZ h.Q4 fun b o x d=>by obtain⟨_,_,_,_,_,_,_,h⟩:=d;exact h
 have C:∀x∈P.Q8,aV x.name:=cZ h.Q8 fun b o x d=>d.2.2.2.2.1
 have D:∀x∈P.QM,aV x.name:=cZ h.QM fun b o x d=>d.2.2.2.1
 have E:∀x∈P.QB,aV x.name:=cZ h.QB fun b o x d=>d.2.2.2.2.1
 have H:∀x∈P.Q9,aV x.name:=cZ h.Q9 fun b o x d=>by obtain⟨_,_,_,_,_,h⟩:=d;exact h
 have l1:P.Q5.length≤2097152:=by obtain⟨_,_,_,_,b,_⟩:=h.Q5;exact b
 have l2:P.Q3.length≤2097152:=by obtain⟨_,_,_,_,b,_⟩:=h.Q3;exact b
 have I:P.Q4.length≤2097152:=by obtain⟨_,_,_,_,b,_⟩:=h.Q4;exact b
 have J:P.Q8.length≤2097152:=by obtain⟨_,_,_,_,b,_⟩:=h.Q8;exact b
 have K:P.QM.length≤2097152:=by obtain⟨_,_,_,_,b,_⟩:=h.QM;exact b
 have L:P.QB.length≤2097152:=by obtain⟨_,_,_,_,b,_⟩:=h.QB;exact b
 have N:P.Q9.length≤2097152:=by obtain⟨_,_,_,_,b,_⟩:=h.Q9;exact b
 intro f j;simp only[d6,List.mem_cons,List.mem_nil_iff,or_false]at j
 rcases j with rfl|rfl|rfl|rfl|rfl|rfl|rfl|rfl
 ·refine⟨by simp[aF.things,aF.QR,aF.regs];omega,fun x d=>?_⟩
  simp only[aF.things,aF.QR,aF.regs,List.mem_append,List.mem_map]at d
  rcases d with⟨y,g,rfl⟩|⟨y,g,rfl⟩
  ·exact l y g
  ·exact q y g
 ·exact⟨by simp[aF.QR];omega,fun x d=>by simp only[aF.QR,List.mem_map]at d;obtain⟨y,g,rfl⟩:=d;exact l y g⟩
 ·exact⟨by simp[aF.regs];omega,fun x d=>by simp only[aF.regs,List.mem_map]at d;obtain⟨y,g,rfl⟩:=d;exact q y g⟩
 ·exact⟨by simp[aF.QP];omega,fun x d=>by simp only[aF.QP,List.mem_map]at d;obtain⟨y,g,rfl⟩:=d;exact u y g⟩
 ·exact⟨by simp[aF.chans];omega,fun x d=>by simp only[aF.chans,List.mem_map]at d;obtain⟨y,g,rfl⟩:=d;exact C y g⟩
 ·exact⟨by simp[aF.irqn];omega,fun x d=>by simp only[aF.irqn,List.mem_map]at d;obtain⟨y,g,rfl⟩:=d;exact D y g⟩
 ·exact⟨by simp[aF.ques];omega,fun x d=>by simp only[aF.ques,List.mem_map]at d;obtain⟨y,g,rfl⟩:=d;exact E y g⟩
 ·exact⟨by simp[aF.plns];omega,fun x d=>by simp only[aF.plns,List.mem_map]at d;obtain⟨y,g,rfl⟩:=d;exact H y g⟩
def rJ(named:ByteArray→Bool)(P:aF)(is:List Nat):List Wr:=is.flatMap fun i=>iQ named ((d6 P).getD i [])
end
namespace Rs
open Go.RowKit Go.IntWalk Ck
def GC(z zs:Nat):Sta:={ o:=fun j=>(dW z).getD j undef,a:=fun _=>some ⟨zs,0,none⟩,n:=fun _=>6 }
def bN:Fr:=[(0,.one (.p 0 0)),(2,.one (.p 1 0))]
theorem pR{a:Act}{i:Nat}{v:Value}(h:At a i v)(hi:i<a.tmps.size):a.tmps[i]?=some v:=by
 rw[Array.getElem?_eq_getElem hi,h]
theorem rc{w:World}{b k:Nat}{v:Value}(h:w.cell? ⟨b,k,none⟩=some v):aL w b (0+k*1) [v]:=fun j u d=>by
 cases j with
 | zero=>obtain rfl:=ι d;simpa using h
 | succ j=>simp at d
theorem D8(P:aF)(z0:Nat){k:Nat}(hk:k<6):∃q,([0,3,4,5,6,7]:List Nat)[k]?=some q∧(bB z0)[q]?=some (z0+q+1)∧(d6 P)[q]?=some ((d6 P).getD q [])∧([.map (some (z0+1)),.map (some (z0+4)),.map (some (z0+5)),.map (some (z0+6)),.map (some (z0+7)),.map (some (z0+8))]:List Value)[k]?=some (.map (some (z0+q+1))):=by
 match k,hk with
 | 0,_=>exact⟨0,rfl,rfl,rfl,rfl⟩
 | 1,_=>exact⟨3,rfl,rfl,rfl,rfl⟩
 | 2,_=>exact⟨4,rfl,rfl,rfl,rfl⟩
 | 3,_=>exact⟨5,rfl,rfl,rfl,rfl⟩
 | 4,_=>exact⟨6,rfl,rfl,rfl,rfl⟩
 | 5,_=>exact⟨7,rfl,rfl,rfl,rfl⟩
end Rs
open Go.RowKit Go.IntWalk Ck Rs
theorem yE{B:Nat}{w:World}{pb:Nat}{v:ae}{P:aF}{named:ByteArray→Bool}(hN:fU B named)(h:aG B w pb v P cN []):
 Calls Tryz.prog 25 #[.pointer (some ⟨pb,0,none⟩)] w fun e w'=>e=.returned (.tuple #[])∧aG B w' pb v P cN (kX named P)∧aD (fun k=>k=pb) w w':=by
 have f7:=h.lt;have f6:=h.base;have en:=CP h.QU;refine bL Tryz.func25 Tryz.ntmps25 rfl ξ fun a eq ei bx=>aY ?_
 have h0:At a 0 (.pointer (some ⟨pb,0,none⟩)):=bx 0 _ rfl;clear bx;refine az (Code.wp_only (R:=fun a1 w1=>aE (fun i=>i==2||i==30||i==31) a a1∧(∃zb,At a1 2 (.pointer (some ⟨zb,0,none⟩))∧w1.heap[zb]?=some (.cells (dW w.heap.size) 139 (0,0))∧zb≠pb)∧(∃D r,ci (w.heap.size+10) w1 (bB w.heap.size) (d6 P) D r)∧Kz w w1) ?_ ?_)
 ·conv=>arg 2;whnf
  have hc:=yP h;unfold dW at hc;have HC:=hh hc;clear hc en;obtain⟨T,d⟩:=a;refine rl ?_;with_reducible refine st ?_;refine Lz (fun K O=>?_)
  go_simp;refine HC.out.mono ?_;rintro e V ⟨rfl,al,D,r,hF⟩;with_reducible refine O _ _ ?_;clear O K
  have HF:=hh hF;have fd:=hh al;have b2:=al.size;clear hF al
  iterate 2 with_reducible refine st ?_
  with_reducible refine ln ?_
  refine⟨rfl,ag,⟨V.heap.size,aq,heap_alloc_new _ _,χ⟩,⟨D,r,HF.out.keep ((aD.refl (fun _=>False) _).alloc _) (fun _ h=>h.elim)⟩,fd.out.alloc _⟩
 rintro a1 w1 ⟨hA,⟨zb,h2,X,fp⟩,⟨D,r,hF⟩,di⟩;replace h0:=hA.Q7 h0 rfl;have c6:=hA.size.trans eq;have d9:=hA.defers.trans ei;have ey:=aH X;have m0:w1.cell? ⟨zb,0,none⟩=some (.map (some (w.heap.size+1))):=cr X rfl;have m3:w1.cell? ⟨zb,3,none⟩=some (.map (some (w.heap.size+4))):=cr X rfl;have m4:w1.cell? ⟨zb,4,none⟩=some (.map (some (w.heap.size+5))):=cr X rfl;have m5:w1.cell? ⟨zb,5,none⟩=some (.map (some (w.heap.size+6))):=cr X rfl;have m6:w1.cell? ⟨zb,6,none⟩=some (.map (some (w.heap.size+7))):=cr X rfl;have m7:w1.cell? ⟨zb,7,none⟩=some (.map (some (w.heap.size+8))):=cr X rfl;obtain⟨z0,ew⟩:∃z0,z0=w.heap.size:=⟨_,rfl⟩;have d7:=h.new di;rw[←ew]at X hF m0 m3 m4 m5 m6 m7;have eo:pb<z0:=χ
 have dc:aD (fun k=>k=pb) w w1:=di.mono fun _ _ h=>h.elim
 clear hA h di ew;refine az (Code.wp_only (R:=fun a2 V=>aE (fun i=>(rg 32 46 i)) a1 a2∧At a2 44 (.slice (some ⟨w1.heap.size,0,none⟩) 6 6)∧At a2 45 (.int .i64 (6:Nat))∧At a2 46 (.int .i64 0)∧V=w1.alloc (.cells #[.map (some (z0+1)),.map (some (z0+4)),.map (some (z0+5)),.map (some (z0+6)),.map (some (z0+7)),.map (some (z0+8))] 137)) ?_ ?_)
 ·conv=>arg 2;whnf
  clear hN hF X;obtain⟨T,d⟩:=a1;refine rl ?_
  iterate 15 with_reducible refine st ?_
  with_reducible refine ln ?_
  refine⟨rfl,?_,?_,?_,?_,?_⟩
  ·exact ag
  ·exact aq
  ·show At _ 45 (.int .i64 6)
   exact aq
  ·exact aq
  ·rfl
 rintro a2 V ⟨bs,d1,e8,e7,cu⟩;obtain⟨zs,d0⟩:∃zs,zs=w1.heap.size:=⟨_,rfl⟩;rw[←d0]at d1;have al:Kz w1 V:=by rw[cu];exact(aD.refl _ _).alloc _
 have eu:aL V zs 0 [.map (some (z0+1)),.map (some (z0+4)),.map (some (z0+5)),.map (some (z0+6)),.map (some (z0+7)),.map (some (z0+8))]:=by rw[cu,d0];exact ap _ _ _
 have c7:zs<V.heap.size:=by rw[cu,d0];simp
 have c8:zs≠pb:=by have:=dc.size;omega
 have cd:=d7.new al;have b4:=(al.block zb ey id).trans X;have b2:=bs.size.trans c6;have eb:=bs.defers.trans d9;have bl:=dc.trans al fun _ _ e=>e.elim
 replace h0:=bs.Q7 h0 rfl;replace h2:=bs.Q7 h2 rfl
 let S:=(cE v P).put 24 (GC z0 zs)
 let κ:Kap:=fun r=>match r with|0=>(pb,0)|_=>(zb,0)
 have hS:Agr (lo 24) (cE v P) S:=aQ _ _ _;have ca:yy B pb z0 P S V:=⟨⟨D,r,hF.keep al fun _ e _=>e.elim⟩,eo,fun j hj=>by
  match j,hj with
  | 0,_|1,_|2,_|3,_|4,_|5,_|6,_|7,_=>rfl⟩
 have n0:Now S κ 441 Tryz.prog {} (kI B pb v P cN [] []) ⟨(46,.one (.i .i64 (.c 0)))::(45,.one (.i .i64 (.ln 24)))::(44,.one (.sl 24 24 24))::bN,[(1,mQ)],2,[]⟩ a2 V:=
  ⟨iD (iD (iD (iD (iD ⟨b2,fun t u h=>by cases h⟩ (pR h2 χ)) (pR h0 χ)) (pR d1 χ)) (pR e8 χ)) (pR e7 χ),
   ⟨fun r l I=>by
    rw[cL]at I;split at I
    ·rename_i e;subst e;obtain rfl:=ι I
     refine⟨⟨aH b4,fp⟩,fun j c hj=>?_⟩;show V.cell? ⟨zb,0+j,none⟩=_;rw[cell_of_row _ _ _ _ _ _ b4];have:mQ.map (Cl.den S κ)=(dW z0).toList:=rfl;rw[←Array.getElem?_toList,←this,List.getElem?_map,Nat.zero_add,hj];rfl
    ·cases I⟩,Rs.noC _ _ _ _ _,fun g hg=>by obtain rfl:g=pb:=hg;exact cd.lt,cd⟩
 clear bs d1 e8 e7 cu al d7 X b4 m0 m3 m4 m5 m6 m7 h0 h2 hF dc eq c6 b2 ei d9;refine az (ow n0 6 32 46 24 ((45,.one (.i .i64 (.ln 24)))::(44,.one (.sl 24 24 24))::bN) τ (fun _:Unit=>{}) (fun k _ w=>aG B w pb v P cN (rJ named P (([0,3,4,5,6,7]:List Nat).take k))) (fun _ _ _ _ hk h=>h.new hk) () hPt δ rfl ψ cd (n0.has.re ⟨rfl,rfl,rfl,rfl,rfl,trivial⟩) ?_ ?_)
 ·intro k e a3 w3 hk n1 hA O
  have I:aG B w3 pb v P cN _:=n1.gh;have cb:aD (fun k=>k=pb) V w3:=O;have fm:=eu.keep cb c7 c8;obtain⟨D,r,bt⟩:=(ca.keep cb (Agr.refl _ _)).Q7;obtain⟨q,hq,cs⟩:=D8 P z0 hk;obtain⟨κ',hu,U⟩:=n1.elem (j:=24) (z:=1) (x:={ o:=fun _ =>.map (some (z0+q+1)) }) (cl:=[.v 40]) (vs:=[.map (some (z0+q+1))]) rfl ⟨Θ c7 cb.size,c8⟩ hk (rc (by have:=fm k _ cs.2.2;rwa[Nat.zero_add]at this)) rfl δ;have c5:=en _ (γ cs.2.1);have n3:=lG U rfl I (hu 0 ψ) (Em _ _ _) [iQ named ((d6 P).getD q [])] [] ξ [] ξ [(69,[.one (.p 0 0),.one (.v 40)],.tu [])]
   (uo (args := #[.pointer (some ⟨pb,0,none⟩),.map (some (z0+q+1))]) (by simp only[List.map_cons,List.map_nil,SV.den,Cl.den_p,hu 0 (by decide:0<2)];rfl) fun L' w' hk hL =>
    xN hN hL (bt.keep hk fun k e _=>by subst e;exact⟨χ,by simp[bB];omega⟩) q (z0+q+1) _ cs.1 cs.2.1 ⟨χ,by simp[bB];omega⟩ c5.1 c5.2) [] ξ
  exact aY (b7 2 τ (fx 32 46 ((45,.one (.i .i64 (.ln 24)))::(44,.one (.sl 24 24 24))::bN)) [] 3 [0] hPt δ n3 fun κ4 a4 w4 n4 p4=>cM rfl
   ⟨(),κ4,aG.congr n4.gh fun p=>by rw[aO hq];simp[gP,rJ,or_comm],fun r Z=>(p4.upto r (by show r<3;omega)).trans (hu r Z),n4.has.on (ri _ 32 _ _ _).symm δ,hA.trans p4.agree (fun _ h=>h),K3 cb p4.keep⟩)
 intro e a3 w3 n1 hA O;have I:aG B w3 pb v P cN (rJ named P [0,3,4,5,6,7]):=n1.gh;have U:=lG (EL:=[]) (n1.downR bN ⟨rfl,rfl,trivial⟩ δ) rfl I rfl hS [] [] ξ [] ξ [] ξ [] ξ;have ec:=hA.defers.trans eb;have L:aD (fun k=>k=pb) V w3:=O;clear n0 n1 cd hA eb O eu;have pick:∀{κ:Kap} {w3:World} (u:Value) (xs:List Ck.iq) (i:Nat),aD (fun k=>k=pb) V w3→i<8→(∀w,bD B w v P→aM B 2 mg w u xs)→∀L' w',aD (fun k=>k=pb) w3 w'→aG B w' pb v P cN L'→Calls Tryz.prog 70 #[.pointer (some ⟨pb,0,none⟩),u,.map (some (z0+i+1))] w' fun e e9=>e=.returned (.tuple #[])∧aG B e9 pb v P cN (gU xs ((d6 P).getD i [])++L')∧aD (fun k=>k=pb) w' e9:=fun{κ w3} u xs i hk hi hu L' w' ff hL=>by
  obtain⟨D,r,bt⟩:=(ca.keep (K3 hk ff) (Agr.refl _ _)).Q7;obtain⟨q1,q2⟩:(bB z0)[i]?=some (z0+i+1)∧(d6 P)[i]?=some ((d6 P).getD i []):=by
   match i,hi with
   | 0,_|1,_|2,_|3,_|4,_|5,_|6,_|7,_=>exact⟨rfl,rfl⟩
  exact xt hL bt i (z0+i+1) _ q1 q2 ⟨χ,by simp[bB];omega⟩ (hu w' hL.QU)
 refine wY (cnt:=1) (k':=2) U rfl I rfl hS bN [(1,mQ)] 70 [.one (.p 0 0),.one (.sl 9 9 21),.one (.v 31)] #[.pointer (some ⟨pb,0,none⟩),v.QI,.map (some (z0+7+1))] δ (by
  rw[←ao I.QU.QI];rfl) (pick (κ:=κ) v.QI P.QI 7 L ψ fun w h=>h.QI) (fun κ4 a4 w4 bm n4 p4 e6=>?_) ψ
 have d4:=K3 L p4.keep;have ed:=p4.agree.defers.trans ec;refine wY (cnt:=1) (k':=2) n4 rfl bm e6 hS bN [(1,mQ)] 70 [.one (.p 0 0),.one (.sl 8 8 20),.one (.v 27)] #[.pointer (some ⟨pb,0,none⟩),v.QC,.map (some (z0+3+1))] δ (by
  rw[←ao I.QU.QC];simp only[List.map_cons,List.map_nil,SV.den,Cl.den_p,e6];rfl) (pick (κ:=κ) v.QC P.QC 3 d4 ψ fun w h=>h.QC) (fun κ5 a5 w5 cp n5 p5 cw=>?_) ψ
 have cc:=K3 d4 p5.keep;have ee:=p5.agree.defers.trans ed;refine wY (cnt:=1) (k':=2) n5 rfl cp cw hS bN [(1,mQ)] 70 [.one (.p 0 0),.one (.sl 10 10 22),.one (.v 27)] #[.pointer (some ⟨pb,0,none⟩),v.QE,.map (some (z0+3+1))] δ (by
  rw[←ao I.QU.QE];simp only[List.map_cons,List.map_nil,SV.den,Cl.den_p,cw];rfl) (pick (κ:=κ) v.QE P.QE 3 cc ψ fun w h=>h.QE) (fun κ6 a6 w6 b0 n6 p6 cx=>?_) ψ
 have a0:=K3 cc p6.keep;have eg:=p6.agree.defers.trans ee;clear U n4 n5 p4 p5 p6 I bm cp ec ed ee;have fk:∀{hs:List (Nat×SS)} {w':World} {S':Sta},aD (fun k=>k=pb) V w'→Agr (lo 32) S S'→hs.isEmpty=true∨yy B pb z0 P S' w':=fun hk hA =>.inr (ca.keep hk hA)
 have ad:∀{d:Sta},Agr (lo 32) S (S.put 32 d):=aQ _ _ _;refine ld n6 cx ψ hS (fun w h=>h.QG) (aI _ _ _) (fun l=>l.flatMap (Cd P)) 87 11 bN (baC 40) δ rfl rfl rfl (fun _ x d=>x.Ok∧d=baS x 0) (fun w g o x C=>⟨_,⟨C.2,rfl⟩,fun k=>C.1⟩) (fun k x d κ' a' w' L1 C W E H O I n=>?_) fun κ7 a7 w7 b5 n7 cf af=>?_
 ·obtain⟨ok,rfl⟩:=W
  exact aY (de (cnt:=2) (k':=4) (F':=fx 32 87 (cJ 87 11 bN)) (M':=[]) (e':=[0]) n rfl I E H [] [(3,.x 40),(1,.x 40),(3,.x 41)] (fk (K3 a0 O) ad) (fun t h=>[(some ((h.getD 0 false||h.getD 1 false)&&h.getD 2 false),.x 40,2,80)]) [] δ
   (mc ⟨ψ,ok.2.1⟩ (mc ⟨ψ,ok.2.1⟩ (mc ⟨ψ,ok.2.2⟩ m0))) (mc rfl m0) m0 fun κ2 a2 V J U y=>cM rfl ⟨κ2,_,fun r Z=>y.upto r χ,U.has,y.agree.defers,y.agree.size,y.keep,J,ft C fun p=>by rw[←List.append_nil (Cd P x)];rfl⟩)
 have af:=K3 a0 af;have cf:=cf.trans eg;clear n6 a0 eg b0;refine ld n7 b5 ψ hS (fun w h=>h.QB) (aI _ _ _) (fun l=>l.flatMap (ud P)) 121 6 bN (quC 40) δ rfl rfl rfl (fun _ x d=>x.Ok∧d=quS x 0 0) (fun w g o x C=>⟨_,⟨C.2,rfl⟩,fun k=>C.1⟩) (fun k x d κ' a' w' L1 C W E H O I n=>?_) fun κ8 a8 w8 fr n8 cj Y=>?_
 ·obtain⟨ok,rfl⟩:=W
  refine aY (de (cnt:=2) (k':=4) (F':=(8,.one (.p 3 0))::fx 32 121 (cJ 121 6 bN)) (M':=[(3,quC 40),(1,mQ)]) (e':=[0]) n rfl I E H [.cmp .geq (.x 41) (.c 1),.cmp .leq (.x 41) (.c 3),.cmp .neq (.x 41) (.c 3),.cmp .eql (.x 42) (.c 0)] [] (fk (K3 af O) ad) (fun t h=>[(some (t.getD 0 false&&t.getD 1 false&&(t.getD 2 false||t.getD 3 false)),.x 40,0,5)]) [] δ
   m0 (mc rfl m0) m0 fun κ2 a2 V J U y=>?_)
  exact de (cnt:=1) (k':=4) (F':=fx 32 121 (cJ 121 6 bN)) (M':=[]) (e':=[0]) U rfl J ((y.upto 0 χ).trans E) H [] [(3,.x 41),(3,.x 42)] (fk (K3 (K3 af O) y.keep) ad) (fun t h=>[(some (h.getD 0 false&&h.getD 1 false),.x 40,2,80)]) [] δ
   (mc ⟨ψ,ok.2.2.2.2.1⟩ (mc ⟨ψ,ok.2.2.2.2.2⟩ m0)) (mc rfl m0) m0 fun κ3 a3 w3 Q n3 p3=>cM rfl ⟨κ3,_,fun r Z=>(p3.upto r χ).trans (y.upto r χ),n3.has,p3.agree.defers.trans y.agree.defers,p3.agree.size.trans y.agree.size,K3 y.keep p3.keep,by rw[←List.append_assoc]at Q;exact Q,ft C fun p=>C3 (by
    show say _ _ _=say (decide (x.how≥1)&&decide (x.how≤3)&&((x.how !=3)||((x.depth:Int)==0))) x.pos 0;rw[nb0,ibn]) rfl p⟩
 have Y:=K3 af Y;have cj:=cj.trans cf;clear n7 af cf;have b1:∀{x:Ck.Map},x.Ok→aV x.of:=fun h=>h.2.2
 refine ld n8 fr ψ hS (fun w h=>h.Q5) (eH B) (fun l=>l.flatMap fun x=>x.QA.flatMap (oa P.regs)) 170 1 bN (yi 40) δ rfl rfl rfl (fun w x d=>∃u,aM B 5 eK w u x.QA∧d=CU x u) (fun w g o x ⟨u,h1,h2,_⟩=>⟨_,⟨u,h2,rfl⟩,fun k=>by
  show aL w g o [.int .i64 x.pos,.string x.name,.int .u64 x.Q7,.int .u64 x.size,.slice (vA u) x.QA.length (vC u)];rw[ao h2];exact h1⟩) (fun k x d κ' a' w' L1 C W E H O I n=>?_) fun κ9 a9 w9 fs n9 cm bb=>?_
 ·obtain⟨u,hu,rfl⟩:=W
  refine aY (b7 2 τ ((177,.one (.i .i64 (.c 0)))::(176,.one (.i .i64 (.ln 40)))::(175,.one (.sl 40 40 41))::fx 32 170 (cJ 170 1 bN)) [(1,mQ)] 4 [] hPt δ n fun κ2 a2 V U y=>?_);have J:aG B V pb v P cN L1:=U.gh;have bl:=K3 O y.keep;have cv:κ2 0=(pb,0):=(y.upto 0 ψ).trans E;refine az (qd U rfl J (hu.below (aI _ _ _) (y.keep.below (B:=B) (by have:=I.lt;omega) fun i hi e=>by have e:i=pb:=e;omega)) (aI _ _ _) (fun l=>l.flatMap (oa P.regs)) 64 177 40 40 ((176,.one (.i .i64 (.ln 40)))::(175,.one (.sl 40 40 41))::fx 32 170 (cJ 170 1 bN)) τ δ rfl (U.has.re ⟨rfl,rfl,rfl,rfl,rfl,rfl,rfl,rfl,trivial⟩) rfl (fun _ x d=>x.Ok∧d=DN x) (DO 72) rfl
   (fun w g o x C=>⟨_,⟨C.2,rfl⟩,fun k=>C.1⟩) δ (fun j m d κ3 a3 w3 L3 hm W b3 Q n3 bc L=>?_) fun a3 w3 Q n3 bc L=>?_)
  ·obtain⟨ok,rfl⟩:=W
   exact aY (de (cnt:=2) (k':=6) (F':=fx 64 177 ((176,.one (.i .i64 (.ln 40)))::(175,.one (.sl 40 40 41))::fx 32 170 (cJ 170 1 bN))) (M':=[]) (e':=[0]) n3 rfl Q ((b3 0 ψ).trans cv) (H.trans ((aQ _ 64 _).mono fun j hj=>Nat.ble_eq_true_of_le (Δ (ω hj) ψ))) [] [(2,.x 72)] (fk (K3 (K3 Y bl) L) (ad.trans ((aQ _ 64 _).mono fun j hj=>Nat.ble_eq_true_of_le (Δ (ω hj) ψ)))) (fun t h=>[(some (h.getD 0 false),.x 72,2,80)]) [] δ
    (mc ⟨ψ,b1 ok⟩ m0) (mc rfl m0) m0 fun κ4 a4 w4 bm n4 p4=>cM rfl ⟨κ4,_,fun r Z=>(p4.upto r χ).trans (b3 r Z),n4.has,p4.agree,p4.keep,bm,ft hm fun p=>by rw[←List.append_nil (oa P.regs m)];rfl⟩)
  ·exact cM rfl ⟨κ2,_,fun r Z=>y.upto r (by show r<3;omega),n3.has.re ⟨rfl,rfl,rfl,rfl,rfl,trivial⟩,(y.agree.trans bc fun _ h=>h).defers,(y.agree.trans bc fun _ h=>h).size,K3 y.keep L,Q,ft C fun p=>Iff.rfl⟩
 have bb:=K3 Y bb;have cm:=cm.trans cj;clear n8 Y cj;have bp:∀{d e:Sta},Agr (lo 24) (cE v P) ((S.put 32 d).put 64 e):=fun{d e}=>(Em _ _ _).trans ((aQ _ 64 _).mono fun j hj=>Nat.ble_eq_true_of_le (Δ (ω hj) ψ))
 have b6:∀{d e:Sta},Agr (lo 32) S ((S.put 32 d).put 64 e):=fun{d e}=>ad.trans ((aQ _ 64 _).mono fun j hj=>Nat.ble_eq_true_of_le (Δ (ω hj) ψ))
 refine ld n9 fs ψ hS (fun w h=>h.Q3) (aI _ _ _) (fun l=>l.flatMap nR) 198 2 bN (nK 40) δ rfl rfl rfl (fun _ x d=>x.Ok∧d=ly x) (fun w g o x C=>⟨_,⟨C.2,rfl⟩,fun k=>C.1⟩) (fun k x d κ' a' w' L1 C W E H O I n=>?_) fun fc fe fz ez bo be N=>?_
 ·obtain⟨ok,rfl⟩:=W
  exact aY (de (cnt:=2) (k':=4) (F':=fx 32 198 (cJ 198 2 bN)) (M':=[]) (e':=[0]) n rfl I E H [.x 40,.cmp .eql (.x 42) (.c 0),.x 43,.seq (.x 41) (.c ⟨#[]⟩),.cmp .eql (.x 43) (.c 0)] [] (fk (K3 bb O) ad) (fun t h=>[(some ((t.getD 0 false||t.getD 1 false)&&(t.getD 2 false||t.getD 3 false)&&(!t.getD 2 false||t.getD 4 false)),.x 40,0,5)]) [] δ
   m0 (mc rfl m0) m0 fun κ2 a2 V J U y=>cM rfl ⟨κ2,_,fun r Z=>y.upto r (by show r<3;omega),U.has,y.agree.defers,y.agree.size,y.keep,J,ft C fun p=>by
    show p∈nR x↔p∈say ((x.fixed||((x.Q7:Int)==0))&&(x.QQ||(x.text.toList==(⟨#[]⟩:ByteArray).toList))&&(!x.QQ||((x.fill:Int)==0))) x.pos 0++[];rw[nb0,nb0,bU,List.append_nil];rfl⟩)
 have N:=K3 bb N;have be:=be.trans cm;clear n9 bb cm;refine ld bo ez ψ hS (fun w h=>h.Q4) (dD B) (fun l=>l.flatMap fun x=>x.QA.flatMap (oa P.things)++kQ P x.QO) 239 3 bN (ny 40) δ rfl rfl rfl (fun w x d=>∃u r,aM B 5 eK w u x.QA∧aM B 4 pW w r x.QO∧d=zM x u r) (fun w g o x ⟨u,r,h1,h2,h3,_⟩=>⟨_,⟨u,r,h2,h3,rfl⟩,fun k=>by
  show aL w g o [.int .i64 x.pos,.string x.name,.int .u64 x.QN,.bool x.stopped,.slice (vA u) x.QA.length (vC u),.slice (vA r) x.QO.length (vC r)];rw[ao h2,ao h3];exact h1⟩) (fun k x d κ' a' w' L1 C W E H O I n=>?_) fun gn f2 gc e0 cy bf ac=>?_
 ·obtain⟨u,r,hu,Z,rfl⟩:=W
  have below:∀{w1},aD (fun k=>k=pb) w' w1→Below B w' w1:=fun hk=>hk.below (B:=B) (by have:=I.lt;omega) fun i hi e=>by have e:i=pb:=e;omega
  refine aY (b7 2 τ ((246,.one (.i .i64 (.c 0)))::(245,.one (.i .i64 (.ln 40)))::(244,.one (.sl 40 40 42))::(16,.one (.p 3 0))::fx 32 239 (cJ 239 3 bN)) [(3,ny 40),(1,mQ)] 4 [] hPt δ n fun κ2 a2 V U y=>?_);have J:aG B V pb v P cN L1:=U.gh;have bl:=K3 O y.keep;have cv:κ2 0=(pb,0):=(y.upto 0 ψ).trans E;refine az (qd U rfl J (hu.below (aI _ _ _) (below y.keep)) (aI _ _ _) (fun l=>l.flatMap (oa P.things)) 64 246 40 40 ((245,.one (.i .i64 (.ln 40)))::(244,.one (.sl 40 40 42))::(16,.one (.p 3 0))::fx 32 239 (cJ 239 3 bN)) τ δ rfl (U.has.re ⟨rfl,rfl,rfl,rfl,rfl,rfl,rfl,rfl,rfl,trivial⟩) rfl (fun _ x d=>x.Ok∧d=DN x) (DO 72) rfl
   (fun w g o x C=>⟨_,⟨C.2,rfl⟩,fun k=>C.1⟩) δ (fun j m d κ3 a3 w3 L3 hm W b3 Q n3 bc L=>?_) fun a3 w3 Q n3 bc L=>?_)
  ·obtain⟨ok,rfl⟩:=W
   exact aY (de (cnt:=2) (k':=6) (F':=fx 64 246 ((245,.one (.i .i64 (.ln 40)))::(244,.one (.sl 40 40 42))::(16,.one (.p 3 0))::fx 32 239 (cJ 239 3 bN))) (M':=[]) (e':=[0]) n3 rfl Q ((b3 0 ψ).trans cv) bp [] [(0,.x 72)] (fk (K3 (K3 N bl) L) b6) (fun t h=>[(some (h.getD 0 false),.x 72,2,80)]) [] δ
    (mc ⟨ψ,b1 ok⟩ m0) (mc rfl m0) m0 fun κ4 a4 w4 bm n4 p4=>cM rfl ⟨κ4,_,fun r Z=>(p4.upto r χ).trans (b3 r Z),n4.has,p4.agree,p4.keep,bm,ft hm fun p=>by rw[←List.append_nil (oa P.things m)];rfl⟩)
  have n4:=n3.downR ((16,.one (.p 3 0))::fx 32 239 (cJ 239 3 bN)) ⟨rfl,rfl,rfl,rfl,rfl,rfl,trivial⟩ δ;refine b7 1 τ ((263,.one (.i .i64 (.c 0)))::(262,.one (.i .i64 (.ln 41)))::(261,.one (.sl 41 41 43))::(16,.one (.p 3 0))::fx 32 239 (cJ 239 3 bN)) [(3,ny 40),(1,mQ)] 4 [] hPt δ n4 fun κ5 a5 w5 n5 p5=>?_
  have cp:aG B w5 pb v P cN (x.QA.flatMap (oa P.things)++L1):=n5.gh;have cc:=K3 (K3 bl L) p5.keep;have cw:κ5 0=(pb,0):=(p5.upto 0 ψ).trans cv;have fl:=Z.below (aI _ _ _) (below (K3 (K3 y.keep L) p5.keep));refine az (qd n5 rfl cp fl (aI _ _ _) (kQ P) 64 263 41 41 ((262,.one (.i .i64 (.ln 41)))::(261,.one (.sl 41 41 43))::(16,.one (.p 3 0))::fx 32 239 (cJ 239 3 bN)) τ δ rfl (n5.has.re ⟨rfl,rfl,rfl,rfl,rfl,rfl,rfl,rfl,rfl,trivial⟩) rfl (fun _ x d=>x.Ok∧d=rlS x 0) (rlC 72) rfl
   (fun w g o x C=>⟨_,⟨C.2,rfl⟩,fun k=>C.1⟩) δ (fun j m d κ6 a6 w6 L6 hm W er b0 n6 c9 a0=>?_) fun a6 w6 b0 n6 c9 a0=>?_)
  ·obtain⟨ok,rfl⟩:=W
   have hj:=(ο.1 hm).1;have d8:x.QO.length≤vC r:=by obtain⟨A,c,rfl,h,_⟩:=Z;exact h
   have cx:=(er 0 ψ).trans cw;have n7:=lG n6 rfl b0 cx bp [] [] ξ [(41,41,43,.x 64,64)] (mc ⟨rfl,Δ (Nat.le_of_lt hj) d8⟩ m0) [] ξ [] ξ;refine aY (b7 2 τ ((273,.one (.i .i64 (.c 0)))::(272,.one (.i .i64 (.ln 64)))::(271,.one (.sl 41 64 43))::(20,.one (.p 5 0))::fx 64 263 ((262,.one (.i .i64 (.ln 41)))::(261,.one (.sl 41 41 43))::(16,.one (.p 3 0))::fx 32 239 (cJ 239 3 bN))) [(5,rlC 72),(1,mQ)] 6 [] hPt δ n7 fun κ7 a7 w7 n8 p7=>?_);have fi:aG B w7 pb v P cN L6:=n8.gh;have af:=K3 (K3 cc a0) p7.keep;have b5:κ7 0=(pb,0):=(p7.upto 0 ψ).trans cx;have dt:=Z.below (aI _ _ _) (below (K3 (K3 (K3 (K3 y.keep L) p5.keep) a0) p7.keep));rw[←ao dt]at dt;refine az (qd n8 rfl fi (aM.take dt (Nat.le_of_lt hj)) (aI _ _ _) (fun l=>l.flatMap fun s=>[(max m.pos s.pos,1)]) 96 273 41 64 ((272,.one (.i .i64 (.ln 64)))::(271,.one (.sl 41 64 43))::(20,.one (.p 5 0))::fx 64 263 ((262,.one (.i .i64 (.ln 41)))::(261,.one (.sl 41 41 43))::(16,.one (.p 3 0))::fx 32 239 (cJ 239 3 bN))) τ δ (by rw[List.length_take,Nat.min_eq_left (Nat.le_of_lt hj)];rfl) (n8.has.re ⟨rfl,rfl,rfl,rfl,rfl,rfl,rfl,rfl,rfl,rfl,rfl,rfl,rfl,trivial⟩) rfl (fun _ x d=>x.Ok∧d=rlS x 0) (rlC 104) rfl
    (fun w g o x C=>⟨_,⟨C.2,rfl⟩,fun k=>C.1⟩) δ (fun i s d κ8 a8 w8 L8 hs W es dk n9 d3 Y=>?_) fun a8 w8 dk n9 d3 Y=>?_)
   ·obtain⟨f9,rfl⟩:=W
    exact aY (de (cnt:=2) (k':=8) (F':=fx 96 273 ((272,.one (.i .i64 (.ln 64)))::(271,.one (.sl 41 64 43))::(20,.one (.p 5 0))::fx 64 263 ((262,.one (.i .i64 (.ln 41)))::(261,.one (.sl 41 41 43))::(16,.one (.p 3 0))::fx 32 239 (cJ 239 3 bN)))) (M':=[]) (e':=[0]) n9 rfl dk ((es 0 ψ).trans b5) (bp.trans ((aQ _ 96 _).mono fun j hj=>Nat.ble_eq_true_of_le (Δ (ω hj) ψ))) [] [] (fk (K3 (K3 N af) Y) (b6.trans ((aQ _ 96 _).mono fun j hj=>Nat.ble_eq_true_of_le (Δ (ω hj) ψ)))) (fun t h=>[(none,.mx (.x 72) (.x 104),1,81)]) [] δ
     m0 (mc rfl m0) m0 fun κ9 a9 w9 ds bo p9=>cM rfl ⟨κ9,_,fun r Z=>(p9.upto r χ).trans (es r Z),bo.has,p9.agree,p9.keep,ds,ft hs fun p=>by
      show p∈[(max m.pos s.pos,(1:Int))]↔p∈[((if s.pos>m.pos then s.pos else m.pos),(1:Int))]++[];rw[List.append_nil,show(if s.pos>m.pos then s.pos else m.pos)=max m.pos s.pos by omega]⟩)
   have bo:=n9.downR ((20,.one (.p 5 0))::fx 64 263 ((262,.one (.i .i64 (.ln 41)))::(261,.one (.sl 41 41 43))::(16,.one (.p 3 0))::fx 32 239 (cJ 239 3 bN))) ⟨rfl,rfl,rfl,rfl,rfl,rfl,rfl,rfl,rfl,rfl,trivial⟩ δ;have bb:=K3 af Y;refine de (cnt:=2) (k':=6) (F':=(23,.one (.b (.cmp .eql (.x 73) (.c 1))))::(20,.one (.p 5 0))::fx 64 263 ((262,.one (.i .i64 (.ln 41)))::(261,.one (.sl 41 41 43))::(16,.one (.p 3 0))::fx 32 239 (cJ 239 3 bN))) (M':=[(5,rlC 72),(1,mQ)]) (e':=[0]) bo rfl dk b5 bp [.cmp .eql (.x 73) (.c 1),.cmp .geq (.x 73) (.c 1),.cmp .leq (.x 73) (.c 3),.seq (.x 72) (.c ⟨#[]⟩),.cmp .eql (.x 74) (.c 0)] [] (fk (K3 N bb) b6) (fun t h=>[(some (t.getD 1 false&&t.getD 2 false&&(t.getD 0 false||t.getD 3 false&&t.getD 4 false)),.x 72,0,5)]) [] δ
    m0 (mc rfl m0) m0 fun κ9 a9 w9 ds cy p9=>?_
   exact de (cnt:=1) (k':=6) (F':=fx 64 263 ((262,.one (.i .i64 (.ln 41)))::(261,.one (.sl 41 41 43))::(16,.one (.p 3 0))::fx 32 239 (cJ 239 3 bN))) (M':=[]) (e':=[0]) cy rfl ds ((p9.upto 0 χ).trans b5) bp [.cmp .eql (.x 73) (.c 1)] [(3,.x 72)] (fk (K3 (K3 N bb) p9.keep) b6) (fun t h=>[(some (!t.getD 0 false||h.getD 0 false),.x 72,2,80)]) [] δ
    (mc ⟨ψ,ok.2.2.2⟩ m0) (mc rfl m0) m0 fun fc fe fz c4 c3 d2=>cM rfl ⟨fc,_,fun r Z=>(d2.upto r χ).trans ((p9.upto r χ).trans ((p7.upto r (by show r<5;omega)).trans (er r Z))),c3.has,(((p7.agree.trans d3 fun _ h=>h).trans p9.agree fun _ h=>h).trans d2.agree fun _ h=>h),K3 (K3 (K3 p7.keep Y) p9.keep) d2.keep,by rw[←List.append_assoc,←List.append_assoc]at c4;exact c4,fun p=>by
     have e1:say (decide (m.how≥1)&&decide (m.how≤3)&&((m.how==1)||(m.to.toList==(⟨#[]⟩:ByteArray).toList)&&((m.QK:Int)==0))) m.pos 0++say (!(m.how==1)||has P.QP m.to) m.pos 2=sH P m:=by rw[ib,nb0,bU];rfl
     rw[aO hm,nM,←e1];show _↔p∈((say (!(m.how==1)||has P.QP m.to) m.pos 2++[])++(say (decide (m.how≥1)&&decide (m.how≤3)&&((m.how==1)||(m.to.toList==(⟨#[]⟩:ByteArray).toList)&&((m.QK:Int)==0))) m.pos 0++[]))++_∨_;simp only[List.mem_append,List.append_nil,or_assoc,or_comm,or_left_comm]⟩
  ·exact cM rfl ⟨κ5,kQ P x.QO++x.QA.flatMap (oa P.things),fun r Z=>(p5.upto r (by show r<4;omega)).trans (y.upto r (by show r<3;omega)),n6.has.re ⟨rfl,rfl,rfl,rfl,rfl,trivial⟩,(((y.agree.trans bc fun _ h=>h).trans p5.agree fun _ h=>h).trans c9 fun _ h=>h).defers,(((y.agree.trans bc fun _ h=>h).trans p5.agree fun _ h=>h).trans c9 fun _ h=>h).size,K3 (K3 (K3 y.keep L) p5.keep) a0,by rw[List.append_assoc];exact b0,ft C fun p=>by simp[or_comm]⟩
 have ac:=K3 N ac;have bf:=bf.trans be;clear bo N be;refine ld cy e0 ψ hS (fun w h=>h.Q8) (aI _ _ _) (fun l=>l.flatMap (pL P)) 334 4 bN (chC 40) δ rfl rfl rfl (fun _ x d=>x.Ok∧d=chZ x 0 0) (fun w g o x C=>⟨_,⟨C.2,rfl⟩,fun k=>C.1⟩) (fun k x d κ' a' w' L1 C W E H O I n=>?_) fun go f3 gf e2 c3 bg an=>?_
 ·obtain⟨ok,rfl⟩:=W
  refine aY (de (cnt:=2) (k':=4) (F':=(25,.one (.p 3 0))::fx 32 334 (cJ 334 4 bN)) (M':=[(3,chC 40),(1,mQ)]) (e':=[0]) n rfl I E H [.cmp .geq (.x 41) (.c 1),.cmp .leq (.x 41) (.c 4),.x 40,.seq (.x 43) (.c ⟨#[]⟩),.cmp .eql (.x 41) (.c 1),.cmp .eql (.x 42) (.c 0)] [] (fk (K3 ac O) ad) (fun t h=>[(some (t.getD 0 false&&t.getD 1 false&&(t.getD 2 false||t.getD 3 false)&&(t.getD 4 false||t.getD 5 false)),.x 40,0,5)]) [] δ
   m0 (mc rfl m0) m0 fun κ2 a2 V J U y=>?_)
  exact de (cnt:=1) (k':=4) (F':=fx 32 334 (cJ 334 4 bN)) (M':=[]) (e':=[0]) U rfl J ((y.upto 0 χ).trans E) H [.x 40] [(3,.x 41),(3,.x 42),(2,.x 43)] (fk (K3 (K3 ac O) y.keep) ad) (fun t h=>[(some (h.getD 0 false&&h.getD 1 false&&(!t.getD 0 false||h.getD 2 false)),.x 40,2,80)]) [] δ
   (mc ⟨ψ,ok.2.2.2.2.1⟩ (mc ⟨ψ,ok.2.2.2.2.2.1⟩ (mc ⟨ψ,ok.2.2.2.2.2.2⟩ m0))) (mc rfl m0) m0 fun κ3 a3 w3 Q n3 p3=>cM rfl ⟨κ3,_,fun r Z=>(p3.upto r χ).trans (y.upto r (by show r<3;omega)),n3.has,p3.agree.defers.trans y.agree.defers,p3.agree.size.trans y.agree.size,K3 y.keep p3.keep,by rw[←List.append_assoc]at Q;exact Q,ft C fun p=>C3 (by
    show say _ _ _=say (decide (x.how≥1)&&decide (x.how≤4)&&(x.shared||(x.over.toList==(⟨#[]⟩:ByteArray).toList))&&((x.how==1)||((x.QK:Int)==0))) x.pos 0;rw[nb0,ib,bU];rfl) rfl p⟩
 have an:=K3 ac an;have bg:=bg.trans bf;clear cy ac bf;refine ld c3 e2 ψ hS (fun w h=>h.QM) (aI _ _ _) (fun l=>l.flatMap (CH P)) 404 5 bN (irC 40) δ rfl rfl rfl (fun _ x d=>x.Ok∧d=irS x 0) (fun w g o x C=>⟨_,⟨C.2,rfl⟩,fun k=>C.1⟩) (fun k x d κ' a' w' L1 C W E H O I n=>?_) fun gr f4 gl e5 fv bz bd=>?_
 ·obtain⟨ok,rfl⟩:=W
  exact aY (de (cnt:=2) (k':=4) (F':=fx 32 404 (cJ 404 5 bN)) (M':=[]) (e':=[0]) n rfl I E H [] [(1,.x 41),(3,.x 42)] (fk (K3 an O) ad) (fun t h=>[(some (h.getD 0 false&&h.getD 1 false),.x 40,2,80)]) [] δ
   (mc ⟨ψ,ok.2.2.2.1⟩ (mc ⟨ψ,ok.2.2.2.2⟩ m0)) (mc rfl m0) m0 fun κ2 a2 V J U y=>cM rfl ⟨κ2,_,fun r Z=>y.upto r (by show r<3;omega),U.has,y.agree.defers,y.agree.size,y.keep,J,ft C fun p=>by rw[←List.append_nil (CH P x)];rfl⟩)
 have bd:=K3 an bd;have bz:=bz.trans bg;clear c3 an bg;refine ld fv e5 ψ hS (fun w h=>h.Q9) (eR B) (fun l=>l.flatMap fun x=>gR P x.QL) 431 7 bN (plC 40) δ rfl rfl rfl (fun w x d=>∃u,aM B 4 (iu B) w u x.QL∧d=plS x u false) (fun w g o x ⟨u,h1,h2,_⟩=>⟨_,⟨u,h2,rfl⟩,fun k=>by
  show aL w g o [.int .i64 x.pos,.string x.name,.int .u64 x.QJ,.slice (vA u) x.QL.length (vC u)];rw[ao h2];exact h1⟩) (fun k x d κ' a' w' L1 C W E H O I n=>?_) fun gs f5 f0 f1 fy ea bw=>?_
 ·obtain⟨u,hu,rfl⟩:=W
  have n':Now (S.put 32 ((Sta.put {} 8 (plS x u false)).cnt k)) κ' 441 Tryz.prog { EL:=[(7,4,.x 32,7,2)],GM:=[(0,ah)] } (kI B pb v P cN [] L1) _ a' w':=lG n rfl I E H [] [] ξ [] ξ [] ξ [] ξ;refine aY (wY (cnt:=2) (k':=4) (L2:=gR P x.QL) n' rfl I E H (fx 32 431 (cJ 431 7 bN)) [] 74 [.one (.p 0 0),.one (.sl 40 40 41),.ag mQ] #[.pointer (some ⟨pb,0,none⟩),u,.agg (dW z0)] δ (by
   rw[←ao hu];simp only[List.map_cons,List.map_nil,SV.den,Cl.den_p,E];rfl) (fun L' w3 hk hL=>?_) (fun κ2 a2 V J U y _=>cM rfl ⟨κ2,_,fun r Z=>y.upto r (by show r<3;omega),U.has,y.agree.defers,y.agree.size,y.keep,J,ft C fun p=>Iff.rfl⟩) (by show 0<3;decide))
  obtain⟨D,r,bt⟩:=(ca.keep (K3 (K3 bd O) hk) (Agr.refl _ _)).Q7;exact zY hL bt eo (hu.below (d5 B) (hk.below (B:=B) (by have:=I.lt;omega) fun i hi e=>by have e:i=pb:=e;omega))
 have bw:=K3 bd bw;have ej:aG B f0 pb v P cN _:=fy.gh;refine cM rfl (dL rfl (ea.trans bz) ⟨rfl,ej.congr fun p=>?_,K3 bl bw⟩);rw[show gP [] []=[] from rfl,List.nil_append,show(fun x:ak=>x.QA.flatMap (oa P.things)++kQ P x.QO)=jM P from rfl];simp only[kX,rJ,d6,List.flatMap_cons,List.flatMap_nil,List.append_nil,List.getD_cons_zero,List.getD_cons_succ,List.mem_append,or_assoc,or_comm,or_left_comm]
