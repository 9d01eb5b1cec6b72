import Derived.Test.YthobcefghkeddaaGreatDoorPl2
import Derived.Test.YthobcefghkeddaaGreatDoorRowsC
set_option maxRecDepth 100000
set_option linter.all false
set_option maxHeartbeats 4000000
namespace Go.Proofs.YthobcefghkeddaaGreatDoor.Rs
open Go.RowKit Go.Proofs.YthobcefghkeddaaGreatDoor Ck
variable {w:World} {u:Value} {l:List Sp} {c Z:Nat}
def av(w:World)(u:Value)(l:List Sp):Prop:=
 ∃A c,u=.slice A l.length c∧l.length≤c∧l.length≤4194304∧(0<l.length→∃g,A=some ⟨g,0,none⟩∧g<w.heap.size∧SpM w g l)
theorem av.keep{w':World}(h:av w u l)(hk:Kz w w'):av w' u l:=by
 obtain⟨A,c,e,j,q,v⟩:=h;refine⟨A,c,e,j,q,fun d=>?_⟩;obtain⟨g,e,x,y⟩:=v d;exact⟨g,e,Nat.lt_of_lt_of_le x hk.size,y.keep hk id⟩
theorem av.Q7(h:av w u l):aJ w w.heap.size u l:=by
 obtain⟨A,c,e,q,v,x⟩:=h;refine⟨A,c,e,q,v,fun j=>?_⟩;obtain⟨g,e,y,B⟩:=x j;refine⟨g,e,y,χ,fun i s C=>?_⟩;obtain⟨_,d,D⟩:=B i s C;rw[Nat.mul_comm]at d;exact⟨d 0 _ rfl,d 1 _ rfl,D⟩
theorem aJ.r{w:World}{pb:Nat}{u:Value}{l:List Sp}(h:aJ w pb u l):av w u l:=by
 obtain⟨A,c,e,y,B,C⟩:=h;refine⟨A,c,e,y,B,fun x=>?_⟩;obtain⟨g,e,q,K,D⟩:=C x;refine⟨g,e,q,fun i s E=>?_⟩;obtain⟨H,I,J⟩:=D i s E;refine⟨q,fun j v d=>?_,J⟩;rw[Nat.mul_comm 2]
 match j,d with
 | 0,d=>obtain rfl:=Option.some.inj d;exact H
 | 1,d=>obtain rfl:=Option.some.inj d;exact I
theorem av.blk{A:Option Addr}{n:Nat}(h:av w (.slice A n c) l)(T:Nat→Prop)(u:∀g,T g→w.heap.size≤g)(x:Nat)(B:¬ T x):∃g,¬ T g∧(∀w',aD T w w'→SpM w' g l)∧(0<l.length→A=some ⟨g,0,none⟩):=by
 obtain⟨A',C,e,D,E,q⟩:=h
 cases e
 rcases Nat.eq_zero_or_pos l.length with d|d
 ·obtain rfl:l=[]:=List.length_eq_zero_iff.1 d
  exact⟨x,B,fun _ _ j s y=>(by cases y),fun h=>(by cases h)⟩
 ·obtain⟨g,e,H,v⟩:=q d
  have:¬ T g:=fun h=>by have:=u g h;omega
  exact⟨g,this,fun w' hk=>v.keep hk this,fun _=>e⟩
theorem aJ.other{pb q:Nat}(h:aJ w pb u l)(D:0<l.length→∀g n c,u=.slice (some ⟨g,0,none⟩) n c→g≠q):aJ w q u l:=by
 obtain⟨A,c,e,v,x,y⟩:=h;refine⟨A,c,e,v,x,fun j=>?_⟩;obtain⟨g,d,B,E,C⟩:=y j;exact⟨g,d,B,D j g _ _ (by rw[e,d]),C⟩
def jS(w0:World)(φ:Nat→Prop)(e:Ending)(w:World):Prop:=∃u l,e=.returned (.agg #[u])∧av w u l∧(∀q,q<w0.heap.size→aJ w q u l)∧dV l∧(∀q,aY l q↔φ q)∧Kz w0 w
structure MkE where
 p:Nat
 more:Bool
 ka:Nat
 aA:Option Addr
 aC:Nat
 kb:Nat
 bA:Option Addr
 bC:Nat
 out:List Sp
 oA:Option Addr
 oC:Nat
def mkD(e:MkE):Sta where
 i _:=(e.p:Int)
 b _:=e.more
 a _:=e.oA
 n j:=match j with|0=>e.out.length|_=>e.oC
def xM(x y:Bool×Nat)(last:Nat)(kp cnd:Bool)(u:Value):Sta where
 i j:=match j with|0=>(x.2:Int)|1=>y.2|_=>last
 b j:=match j with|0=>x.1|1=>y.1|2=>kp|_=>cnd
 o _:=u
def mkR:Fr:=[(2,.one (.v 0)),(6,.one (.p 2 0)),(7,.one (.p 3 0)),(8,.one (.p 4 0)),(9,.one (.sl 16 16 17)),(10,.one (.i .u64 (.x 16))),(11,.one (.b (.x 16)))]
def mkZ:Mm:=[(2,[.l (.slice none 0 0)])]
structure MkW (keep:Bool→Bool→Bool) (A B:List Sp) (Z za zb gA gB:Nat) (e:MkE) (w:World):Prop where
 sa:gc w za gA A e.ka e.aA e.aC
 sb:gc w zb gB B e.kb e.bA e.bC
 own:w.ownsRow Z 125 2 (.slice e.oA e.out.length e.oC) e.out.length (spC e.out)
 lA:e.more=true→∀(j:Nat) (s:Sp),j<e.ka→A[j]?=some s→s.2<e.p
 lB:e.more=true→∀(j:Nat) (s:Sp),j<e.kb→B[j]?=some s→s.2<e.p
 inv:MkI keep A B (if e.more then e.p else 18446744073709551616) e.out
 pl:e.p<lim
def mkT(za zb:Nat)(e:MkE)(g:Nat):Prop:=g=za∨g=zb∨∃o,e.oA=some ⟨g,o,none⟩
def pJ(Z za zb:Nat)(g:Nat):Prop:=g=za∨g=zb∨Z≤g
theorem MkW.keep{keep:Bool→Bool→Bool}{A B:List Sp}{g zb d gB:Nat}(e:MkE)(w w':World)(hk:Kz w w')(h:MkW keep A B Z g zb d gB e w):MkW keep A B Z g zb d gB e w':=
 ⟨h.sa.keep hk id,h.sb.keep hk id,aL h.own hk (fun _ _ h=>h),h.lA,h.lB,h.inv,h.pl⟩
theorem B6{n:Nat}{A:Option Addr}{xs:List Value}(h:w.ownsRow Z 125 2 (.slice A n c) n xs){g o:Nat}(e:A=some ⟨g,o,none⟩):Z≤g∧g<w.heap.size∧o=0:=by
 rcases h.2 with⟨d,_⟩|⟨v,j,l,d,q,u,_⟩
 ·cases d;cases e
 ·cases d
  cases e
  exact⟨q,fR u,rfl⟩
theorem MkW.te{keep:Bool→Bool→Bool}{A B:List Sp}{j zb l gB:Nat}(e:MkE)(w:World)(h:MkW keep A B Z j zb l gB e w)(g:Nat)(d:mkT j zb e g):pJ Z j zb g∧g<w.heap.size:=by
 rcases d with rfl|rfl|⟨o,d⟩
 ·exact⟨.inl rfl,h.sa.1.lt⟩
 ·exact⟨.inr (.inl rfl),h.sb.1.lt⟩
 ·obtain⟨q,u,_⟩:=B6 h.own d
  exact⟨.inr (.inr q),u⟩
theorem B4{g:Nat}{t:List Sp}{y:Sp}(h:w.ownsRow Z 125 2 (.slice (some ⟨g,0,none⟩) (t++[y]).length c) (t++[y]).length (spC (t++[y])))(last:Nat):
 ∃cs,w.heap[g]?=some (.cells cs 125 (0,0))∧2*t.length+1+1≤cs.size∧(w.setRow g (bi cs (2*t.length+1) [.int .u64 last])).ownsRow Z 125 2 (.slice (some ⟨g,0,none⟩) (t++[y]).length c) (t++[y]).length (spC (t++[(y.1,last)])):=by
 rcases h.2 with⟨u,_⟩|⟨J,D,d,u,E,v,x,H,K,B⟩
 ·cases u
 cases u
 have I:(t++[y]).length=t.length+1:=ξ
 rw[I]at x B⊢;have C:2*t.length+1+1≤d.size:=χ
 refine⟨d,v,C,by rw[jX];simp,.inr ⟨g,c,_,rfl,E,setRow_heap w g d _ 125 (0,0) v,x,H,?_,?_⟩⟩
 ·unfold bi
  simp;omega
 ·refine List.ext_getElem? fun j=>?_
  have l:(spC (t++[y]))[j]?=(d.toList.take ((t.length+1)*2))[j]?:=by rw[B]
  rcases Nat.lt_or_ge j ((t.length+1)*2)with q|q
  ·rw[List.getElem?_take_of_lt q,Array.getElem?_toList,kC (by simpa using C)]
   rw[List.getElem?_take_of_lt q]at l;have l:(spC (t++[y]))[j]?=d[j]?:=by rw[l,Array.getElem?_toList]
   have l2:(spC t).length=t.length*2:=jX t;rw[iv]at l⊢
   by_cases c1:j<2*t.length+1
   ·rw[if_pos c1,←l]
    by_cases c2:j<t.length*2
    ·rw[List.getElem?_append_left χ,List.getElem?_append_left χ]
    ·rw[List.getElem?_append_right χ,List.getElem?_append_right χ,l2,show j-t.length*2=0 by omega]
     rfl
   ·rw[if_neg c1,if_pos η,List.getElem?_append_right χ,l2,show j-t.length*2=1 by omega,show j-(2*t.length+1)=0 by omega]
    rfl
  ·rw[List.getElem?_eq_none (by rw[List.length_take];omega),List.getElem?_eq_none (by rw[jX];simp;omega)]
def mkG(A B:List Sp)(Z za zb gA gB ka' kb':Nat)(e:MkE)(es:List Nat)(w:World):Prop:=
 (∃x y,gc w za gA A (if es.any (Nat.beq 0)then ka' else e.ka) x y)∧(∃x y,gc w zb gB B (if es.any (Nat.beq 1)then kb' else e.kb) x y)∧w.ownsRow Z 125 2 (.slice e.oA e.out.length e.oC) e.out.length (spC e.out)
def mkH(A B:List Sp)(Z za zb gA gB ka' kb':Nat)(e:MkE):Gh:=
 ⟨mkT za zb e,mkG A B Z za zb gA gB ka' kb' e,fun _ _ _ hk ⟨⟨x,y,h1⟩,⟨x2,y2,h2⟩,h3⟩=>⟨⟨x,y,h1.keep hk id⟩,⟨x2,y2,h2.keep hk id⟩,aL h3 hk (fun _ _ h=>h)⟩⟩
def Dc(fk:FuncId):List (FuncId×List SV×SV):=[(152,[.one (.p 3 0),.one (.i .u64 (.x 16))],.tu [.b (.x 32),.i .u64 (.x 32)]),(152,[.one (.p 4 0),.one (.i .u64 (.x 16))],.tu [.b (.x 33),.i .u64 (.x 33)]),(fk,[.one (.b (.x 32)),.one (.b (.x 33))],.one (.b (.x 34)))]
def Db:Kn:={ KO:=[(37,[(35,.one (.i .u64 (.x 32))),(36,.one (.i .u64 (.x 33)))],.one (.i .u64 (.x 34)))] }
def DZ:Kn:={ KO:=[(73,[(72,.one (.i .u64 (.cv .u64 (.c 0))))],.one (.i .u64 (.c 18446744073709551615)))] }
def sA:Fr:=[(2,.one (.v 0)),(6,.one (.p 2 0)),(7,.one (.p 3 0)),(8,.one (.p 4 0)),(9,.one (.sl 16 16 17)),(10,.one (.i .u64 (.x 16)))]
theorem BG{P:Program}{o:Oper}{s t:Operand}{ts:Array TypeId}{x y:Nat}(d:o.op=.call { callee := .builtin .min,args := #[s,t],argTypes:=ts }){a:Act}{w:World}(h:a.eval s=.int .u64 x)(l:a.eval t=.int .u64 y):(execOp a.eval o).run P w=.ok (.value (.int .u64 ((min x y:Nat):Int))) w:=by
 obtain⟨dst,op,ty,pos,q,g⟩:=o;simp only at d;subst d;have j:(if y<x then(y:Int)else x)=min (x:Int) y:=by split<;>omega
 generalize a.eval=f at *
 simp[execOp,resolve,invoke,builtin,h,l,go_sem];rw[j];omega
theorem sH{keep:Bool→Bool→Bool}{fk:FuncId}(eb:fk=137∨fk=134){w:World}{A B:List Sp}{uA uB:Value}(hA:av w uA A)(hB:av w uB B)(pA:dV A)(pB:dV B)(ea:keep false false=false)
 (f2:∀b1 b2 w,Calls Tryz.prog fk #[.bool b1,.bool b2] w fun e w'=>e=.returned (.bool (keep b1 b2))∧Kz w w'):
 Calls Tryz.prog 133 #[.agg #[uA],.agg #[uB],.func (.func fk) #[] #[]] w fun e w'=>jS w (fun q=>keep (inB A q) (inB B q)=true) e w':=by
 obtain⟨R,hR⟩:∃R:Ending→World→Prop,R=fun e w'=>jS w (fun q=>keep (inB A q) (inB B q)=true) e w':=⟨_,rfl⟩
 rw[←hR];obtain⟨AA,cA,eA,lA,h8,_⟩:=id hA;obtain⟨AB,cB,eB,lB,h9,_⟩:=id hB;subst eA eB;obtain⟨S,hS⟩:∃S:Sta,S={ o:=fun _ =>.func (.func fk) #[] #[],a:=fun j=>match j with|1=>AA|_=>AB,n:=fun j=>match j with|1=>A.length|2=>cA|3=>B.length|4=>cB|_=>0 }:=⟨_,rfl⟩;have so:S.o 0=.func (.func fk) #[] #[]:=by rw[hS]
 have e0:S.a 1=AA:=by simp[hS]
 have e1:S.a 2=AB:=by simp[hS]
 have e2:S.n 1=A.length:=by simp[hS]
 have e5:S.n 2=cA:=by simp[hS]
 have e6:S.n 3=B.length:=by simp[hS]
 have e7:S.n 4=cB:=by simp[hS]
 clear hS;refine fnE S (fun _=>(0,0)) [.ag [.sl 1 1 2],.ag [.sl 2 3 4],.one (.v 0)] Tryz.func133 Tryz.ntmps133 rfl (by simp[SV.den,Cl.den,so,e0,e1,e2,e5,e6,e7]) ψ H0 (fun _ h=>h.elim) trivial fun a hd hh=>?_
 refine gv (CL:={}) (fun _=>true) [(2,.one (.v 0)),(3,.one (.p 0 0)),(4,.one (.p 1 0)),(6,.one (.p 2 0))] [(0,[.sl 1 1 2]),(1,[.sl 2 3 4]),(2,[.l (.slice none 0 0)])] 3 [] δ hh eF fun κ1 a1 w1 n1 p1=>?_
 refine DU 6 7 8 [.sl 1 1 2] [.sl 2 3 4] [(2,.one (.v 0)),(6,.one (.p 2 0))] mkZ hPp δ n1 fun κ2 a2 w2 n2 u2 k2 d2 ⟨dk,e8,cy⟩ ⟨ds,e9,c4⟩ b0=>?_
 obtain⟨I,b4⟩:∃z,z=(κ2 3).1:=⟨_,rfl⟩;obtain⟨zb,b5⟩:∃z,z=(κ2 4).1:=⟨_,rfl⟩;refine bG 2 (fun _=>true) [(2,.one (.v 0)),(6,.one (.p 2 0)),(7,.one (.p 3 0)),(8,.one (.p 4 0)),(9,.one (.l (.slice none 0 0))),(10,.one (.i .u64 (.cv .u64 (.c 0)))),(11,.one (.b (.c true)))] mkZ 5 [] hPp δ n2 fun κ3 a3 w3 n3 p3=>?_
 rw[show([Cl.sl 1 1 2].map (Cl.den S κ2))=[.slice AA A.length cA] by simp[Cl.den,e0,e2,e5],show(κ2 (⟨[(2,SV.one (Cl.v 0)),(3,.one (.p 0 0)),(4,.one (.p 1 0)),(6,.one (.p 2 0))],[(0,[Cl.sl 1 1 2]),(1,[.sl 2 3 4]),(2,[.l (.slice none 0 0)])],3,[]⟩:St).k)=κ2 3 from rfl,←b4]at cy;rw[show([Cl.sl 2 3 4].map (Cl.den S κ2))=[.slice AB B.length cB] by simp[Cl.den,e1,e6,e7],show(κ2 ((⟨[(2,SV.one (Cl.v 0)),(3,.one (.p 0 0)),(4,.one (.p 1 0)),(6,.one (.p 2 0))],[(0,[Cl.sl 1 1 2]),(1,[.sl 2 3 4]),(2,[.l (.slice none 0 0)])],3,[]⟩:St).k+1))=κ2 4 from rfl,←b5]at c4;have dk:w1.heap.size≤I:=by rw[b4];exact dk
 have ds:w1.heap.size≤zb:=by rw[b5];exact ds
 have b0:I≠zb:=by rw[b4,b5];exact b0
 have gs:κ3 3=(I,0):=(p3.upto 3 ψ).trans (by rw[b4];exact Prod.ext rfl e8);have gu:κ3 4=(zb,0):=(p3.upto 4 ψ).trans (by rw[b5];exact Prod.ext rfl e9);have h7:w.heap.size≤(κ3 2).1∧(κ3 2).1<w1.heap.size∧(κ3 2).2=0:=by
  obtain⟨x1,x2,x3⟩:=p1.new.row n1.mem (r:=2) rfl ψ ψ;rw[p3.upto 2 ψ,u2 2 ψ];exact⟨x3,x1.lt,x2⟩
 have bt:Kz w w1:=p1.keep;have c7:Kz w w3:=(bt.trans k2 fun _ _ h=>h).trans p3.keep fun _ _ h=>h
 obtain⟨Z,hZ⟩:∃z,z=w3.heap.size:=⟨_,rfl⟩;have g5:=(cy.keep p3.keep (fun h=>h)).lt;have g7:=(c4.keep p3.keep (fun h=>h)).lt;have fz:∀g,pJ Z I zb g→w.heap.size≤g:=fun g hg=>by
  have:=bt.size;have:=c7.size
  rcases hg with rfl|rfl|hg<;>omega
 obtain⟨gA,fm,fp,fr⟩:=(hA.keep bt).blk (pJ Z I zb) (fun g hg=>by
  have:=k2.size;have:=p3.keep.size
  rcases hg with rfl|rfl|hg<;>omega) (κ3 2).1 (fun h=>by
  have:=k2.size;have:=p3.keep.size
  rcases h with h|h|h<;>omega)
 obtain⟨gB,fs,fv,fy⟩:=(hB.keep bt).blk (pJ Z I zb) (fun g hg=>by
  have:=k2.size;have:=p3.keep.size
  rcases hg with rfl|rfl|hg<;>omega) (κ3 2).1 (fun h=>by
  have:=k2.size;have:=p3.keep.size
  rcases h with h|h|h<;>omega)
 have bw:Kz w1 w3:=k2.trans p3.keep fun _ _ h=>h
 have w0:MkW keep A B Z I zb gA gB ⟨0,true,0,AA,cA,0,AB,cB,[],none,0⟩ w3:={
  sa:=⟨cy.keep p3.keep fun h=>h,lA,Nat.zero_le _,fr⟩
  sb:=⟨c4.keep p3.keep fun h=>h,lB,Nat.zero_le _,fy⟩
  own:=World.ownsRow_nil _ _ _ _
  lA:=fun _ j s hj=>absurd hj (Nat.not_lt_zero _)
  lB:=fun _ j s hj=>absurd hj (Nat.not_lt_zero _)
  inv:=mk0
  pl:=(by decide:0<lim) }
 have d3:a3.defers=[]:=p3.agree.defers.trans (d2.trans (p1.agree.defers.trans hd));refine bL (CC n3 16 mkR (fun _=>true) mkD (fun e=>if e.more then 18446744073709551616-e.p else 0) (pJ Z I zb) (mkT I zb) (MkW keep A B Z I zb gA gB) MkW.keep MkW.te (fun r l hl=>?_) ⟨0,true,0,AA,cA,0,AB,cB,[],none,0⟩ w0 (n3.has.re ?_) δ fun e a4 w4 n4 A4 K4=>?_)
 ·unfold mkZ at hl
  rw[cJ]at hl;split at hl
  ·rename_i er
   subst er;intro h;have:=k2.size;have:=p3.keep.size
   rcases h with h|h|h<;>omega
  ·cases hl
 ·exact⟨rfl,rfl,rfl,rfl,rfl,rfl,rfl,trivial⟩
 obtain⟨f7,gf,cj,f3,f4,d,be⟩:=id n4.gh;have hf:=d.set.len;have oZ:∀k,Value.ownBlock (.slice e.oA e.out.length e.oC)=some k→Z≤k:=fun k hk=>by
  cases H:e.oA with
  | none=>rw[H]at hk;cases hk
  | some q =>
   obtain⟨g,o,f⟩:=q;rw[H]at hk cj;obtain rfl:g=k:=by simpa[Value.ownBlock]using hk
   rcases cj.2 with⟨N,_⟩|⟨g',al,dt,N,h2,_⟩
   ·cases N
   ·cases N;exact h2
 cases hm:e.more with
 | false =>
  refine bG 1 (fun _=>true) (mkR++[(24,.one (.b (.x 16)))]) mkZ 5 [] hPp δ n4 fun κ5 a5 w5 n5 p5=>?_
  refine cQ false n5 rfl (show e.more=false from hm) (A7 (oI ?_));rw[hm]at d;simp only[Bool.false_eq_true,if_false]at d;have ey:(κ5 2).1=(κ3 2).1:=by rw[p5.upto 2 ψ]
  have h5:¬ mkT I zb e (κ3 2).1:=fun h=>by
   have:=k2.size;have:=p3.keep.size;have:=(MkW.te e w4 n4.gh _ h).1
   rcases this with h|h|h<;>omega
  have go:¬ pJ Z I zb (κ3 2).1:=fun h=>by
   have:=k2.size;have:=p3.keep.size
   rcases h with h|h|h<;>omega
  have cp:aD (pJ Z I zb) w1 w5:=((bw.mono fun _ _ h=>h.elim).trans K4 fun _ _ h=>h).trans (p5.keep.mono fun g _ h=>(MkW.te e w4 n4.gh g h).1) fun _ _ h=>h
  obtain⟨xz,_,_⟩:=p1.new.row n1.mem (r:=2) rfl ψ ψ;have gl:(κ1 2).1=(κ3 2).1:=by rw[p3.upto 2 ψ,u2 2 ψ]
  rw[gl]at xz;have eu:=(xz.keep cp go).some;have n6:=n5.mute H0 mkZ [] δ (fun _ _ _ h=>h) (fun _ h=>h.elim) trivial;refine me (CL:={}) 2 2 [] (fun _=>true) [(6,.one (.p 2 0))] [(2,[.sl 16 16 17])] 5 [] δ n6 eF (fun _=>by rw[ey];exact eu) (fun _ h=>by cases h) (fun _ _ _ _ _ _ _=>trivial) fun κ6 a6 w6 n7 u6 k6 g6 _ _=>kD ?_
  have gn:(κ6 2).1=(κ3 2).1:=by rw[u6 2 ψ,ey]
  refine pH (t:=6) (r:=2) (E:=119) (v := .ag [.sl 16 16 17]) rfl n7.has rfl δ n7.mem.f (g6.defers.trans (p5.agree.defers.trans (A4.defers.trans d3))) ?_;rw[hR];have c6:aD (fun g=>g=(κ3 2).1) w5 w6:=k6.mono fun b _ h=>by rcases h with h|h;exact h.elim;rw[gn]at h;exact h
  have ew:=dK (pb:=(κ3 2).1) n5.gh.own χ (by have:=bw.size;omega) fun s hs=>by
   have N:=(d.set.QV s hs).2.2;have h2:=d.set.ok.some_ s hs;unfold lim;omega
  refine⟨.slice e.oA e.out.length e.oC,e.out,rfl,aJ.r (ew.keep c6),fun q hq=>aJ.other (ew.keep c6) fun _ g n c hu=>?_,d.set,Cc pA pB ea d,?_⟩
  ·have N:=oZ g (by rw[hu];rfl)
   have:=c7.size;omega
  exact(aT bt cp fun g hg=>by have:=fz g hg;have:=k2.size;have:=p3.keep.size;rcases hg with h|h|h<;>omega).trans c6 fun g hg h=>χ
 | true =>
 rw[hm]at d;simp only[if_true]at d;refine bG 1 (fun _=>true) (mkR++[(24,.one (.b (.x 16)))]) mkZ 5 [] hPp δ n4 fun κ5 a5 w5 n5 p5=>?_
 refine cQ true n5 rfl (show e.more=true from hm) (iV (uk ?_));obtain⟨Y,g9,bm⟩:=vo (l:=A) (p:=e.p) (A.length-e.ka) e.ka (by have:=f7.2.2.1;omega) (f3 hm);obtain⟨ac,he,bo⟩:=vo (l:=B) (p:=e.p) (B.length-e.kb) e.kb (by have:=gf.2.2.1;omega) (f4 hm);have ra:=yg pA be bm;have rb:=yg pB be bo;obtain⟨r1,eo⟩:∃r,r=jB A e.p Y:=⟨_,rfl⟩;obtain⟨r2,eq⟩:∃r,r=jB B e.p ac:=⟨_,rfl⟩;rw[←eo]at ra;rw[←eq]at rb;obtain⟨last,a0⟩:∃l,l=min r1.2 r2.2:=⟨_,rfl⟩;obtain⟨ad,D⟩:∃b,b=match e.out.getLast? with|none=>false|some y=>decide (y.2+1=e.p):=⟨_,rfl⟩
 obtain⟨kp,cf⟩:∃b,b=keep r1.1 r2.1:=⟨_,rfl⟩;have kA:∀{w'},aD (mkT I zb e) w5 w'→aD (pJ Z I zb) w1 w':=fun{w'} hk=>((bw.mono fun _ _ h=>h.elim).trans K4 fun _ _ h=>h).trans ((p5.keep.mono fun g hg h=>(MkW.te e w4 n4.gh g h).1).trans (hk.mono fun g _ h=>(MkW.te e w4 n4.gh g h).1) fun _ _ h=>h) fun _ _ h=>h
 have et:∀{κ:Kap} {c9:World},κ 3=(I,0)→κ 4=(zb,0)→aD (mkT I zb e) w5 c9→∀i x,(Dc fk)[i]?=some x→∀es w',aD (mkT I zb e) c9 w'→mkG A B Z I zb gA gB Y ac e es w'→Calls Tryz.prog x.1 (x.2.1.map (SV.den ((S.put 16 (mkD e)).put 32 (xM r1 r2 last kp ad (.slice e.oA e.out.length e.oC))) κ)).toArray w' fun e' bz=>e'=.returned (x.2.2.den ((S.put 16 (mkD e)).put 32 (xM r1 r2 last kp ad (.slice e.oA e.out.length e.oC))) κ)∧aD (mkT I zb e) w' bz∧mkG A B Z I zb gA gB Y ac e (i::es) bz:=by
  intro κ c9 q3 q4 f1 i x H es w' hk hg;have ee:=kA (f1.trans hk fun _ _ h=>h);obtain⟨⟨x1,y1,g1⟩,⟨x2,y2,g2⟩,g3⟩:=hg
  match i,H with
  | 0,H =>
   obtain rfl:=Option.some.inj H;show Calls Tryz.prog 152 #[.pointer (some ⟨(κ 3).1,(κ 3).2+0,none⟩),.int .u64 e.p] w' _;rw[q3];refine(AK (k:=Y) g1 (fp w' ee) (fun h=>fm (.inl h)) (by have:=pA.len;omega) be (by split<;>omega) bm).mono fun e' bz ⟨N,⟨x3,y3,h2⟩,h3⟩=>⟨by rw[N,←eo];rfl,h3.mono fun g _ h =>.inl h,⟨x3,y3,h2⟩,⟨x2,y2,g2.keep h3 (fun h=>b0 h.symm)⟩,aL g3 h3 fun k hk h=>by have:=oZ k hk;omega⟩
  | 1,H =>
   obtain rfl:=Option.some.inj H;show Calls Tryz.prog 152 #[.pointer (some ⟨(κ 4).1,(κ 4).2+0,none⟩),.int .u64 e.p] w' _;rw[q4];refine(AK (k:=ac) g2 (fv w' ee) (fun h=>fs (.inr (.inl h))) (by have:=pB.len;omega) be (by split<;>omega) bo).mono fun e' bz ⟨N,⟨x3,y3,h2⟩,h3⟩=>⟨by rw[N,←eq];rfl,h3.mono fun g _ h =>.inr (.inl h),⟨x1,y1,g1.keep h3 b0⟩,⟨x3,y3,h2⟩,aL g3 h3 fun k hk h=>by have:=oZ k hk;omega⟩
  | 2,H =>
   obtain rfl:=Option.some.inj H;refine(f2 r1.1 r2.1 w').mono fun e' bz ⟨N,h3⟩=>⟨by rw[N,←cf];rfl,h3.mono fun _ _ h=>h.elim,⟨x1,y1,g1.keep h3 id⟩,⟨x2,y2,g2.keep h3 id⟩,aL g3 h3 fun _ _ h=>h⟩
 have k5:∀r,r<5→κ5 r=κ3 r:=p5.upto;have n6:Now ((S.put 16 (mkD e)).put 32 (xM r1 r2 last kp ad (.slice e.oA e.out.length e.oC))) κ5 77 Tryz.prog { ET:=Dc fk } (mkH A B Z I zb gA gB Y ac e) ⟨mkR,mkZ,5,[]⟩ a5 w5:=
  ⟨(n5.has.sub δ).on (aP _ 32 _) δ,n5.mem.on (aP _ 32 _) δ,⟨ξ,ξ,ξ,fun i x H es w' hk hg=>et ((k5 3 ψ).trans gs) ((k5 4 ψ).trans gu) (aD.refl _ _) i x H es w' hk hg,(fun _ _ _ _ r l h=>by cases h),ξ⟩,n5.tb,⟨⟨_,_,n5.gh.sa⟩,⟨_,_,n5.gh.sb⟩,n5.gh.own⟩⟩
 refine bG 2 (fun _=>true) (sA++[(12,.one (.b (.x 32))),(13,.one (.i .u64 (.x 32))),(14,.one (.b (.x 33))),(15,.one (.i .u64 (.x 33)))]) mkZ 5 [1,0] hPp (by rcases eb with rfl|rfl<;>kernel_rfl) n6 fun κ6 a6 w6 n7 p6=>?_
 have f5:∀{ops:List Oper} {κ:Kap},((ops.filter fun o=>o.dst==some 37).map (·.op))=[.call { callee := .builtin .min,args := #[.tmp 35,.tmp 36],argTypes := #[41,41] }]→fo ((S.put 16 (mkD e)).put 32 (xM r1 r2 last kp ad (.slice e.oA e.out.length e.oC))) κ Tryz.prog ops Db:=fun{ops κ} bs=>⟨(fun _ h=>by cases h),fun x H o ho hd a w ha=>by
  obtain rfl:=List.mem_singleton.1 H;have h:=BG (P:=Tryz.prog) (w:=w) (jt bs ho hd) (ha _ (List.mem_cons_self ..)) (ha _ (List.mem_cons_of_mem _ (List.mem_singleton.2 rfl)));rw[←a0]at h;exact h⟩
 refine gv (CL:=Db) (fun _=>true) (sA++[(12,.one (.b (.x 32))),(14,.one (.b (.x 33))),(13,.one (.i .u64 (.x 34)))]) mkZ 5 [1,0] δ n7 (f5 rfl) fun κ7 a7 w7 n8 p7=>?_
 refine gv (CL:={ CL:=[(0,fk,[])] }) (fun _=>true) (sA++[(13,.one (.i .u64 (.x 34))),(41,.one (.b (.x 34)))]) mkZ 5 [2,1,0] (by rcases eb with rfl|rfl<;>kernel_rfl) n8 ⟨fun x H=>by
  obtain rfl:=List.mem_singleton.1 H;exact so,fun _ h=>by cases h⟩ fun κ8 a8 w8 n9 p8=>?_
 obtain⟨S2,C⟩:∃S2,S2=(S.put 16 (mkD e)).put 32 (xM r1 r2 last kp ad (.slice e.oA e.out.length e.oC)):=⟨_,rfl⟩;rw[←C]at n9;have gw:aD (mkT I zb e) w5 w8:=((p6.keep.trans p7.keep fun _ _ h=>h).trans p8.keep fun _ _ h=>h);have kT:∀{x y:World},aD (mkT I zb e) x y→aD (pJ Z I zb) x y:=fun hk=>hk.mono fun g _ h=>(MkW.te e w4 n4.gh g h).1
 have cu:aD (pJ Z I zb) w3 w8:=(K4.trans (kT p5.keep) fun _ _ h=>h).trans (kT gw) fun _ _ h=>h
 have d8:a8.defers=[]:=p8.agree.defers.trans (p7.agree.defers.trans (p6.agree.defers.trans (p5.agree.defers.trans (A4.defers.trans d3))));have u8:∀r,r<5→κ8 r=κ3 r:=fun r hr=>(p8.upto r hr).trans ((p7.upto r hr).trans ((p6.upto r hr).trans (k5 r hr)))
 obtain⟨⟨xA,yA,g1⟩,⟨xB,yB,g2⟩,g3⟩:=id n9.gh;have g1:gc w8 I gA A Y xA yA:=g1;have g2:gc w8 zb gB B ac xB yB:=g2;obtain⟨J,hJ⟩:∃J:Act→World→Prop,J=fun a' w'=>∃(κ':Kap) (L:List Sp) (ca:Option Addr) (cb:Nat),cU 5 κ3 κ'∧Has ((S.put 16 (mkD ⟨e.p,true,Y,xA,yA,ac,xB,yB,L,ca,cb⟩)).put 32 (xM r1 r2 last kp ad (.slice e.oA e.out.length e.oC))) κ' 77 [(2,.one (.v 0)),(6,.one (.p 2 0)),(7,.one (.p 3 0)),(8,.one (.p 4 0)),(9,.one (.sl 16 16 17)),(13,.one (.i .u64 (.x 34)))] a' ∧
  w'.ownsRow Z 125 2 (.slice ca L.length cb) L.length (spC L)∧MkI keep A B (last+1) L∧a'.defers=[]∧aD (fun g=>Z≤g) w8 w':=⟨_,rfl⟩
 have step:=BF d (last:=last) (b1:=r1.1) (b2:=r2.1) χ (by
  rcases Nat.le_total r1.2 r2.2 with h|h
  ·rw[a0,Nat.min_eq_left h];exact ra.2.2.1
  ·rw[a0,Nat.min_eq_right h];exact rb.2.2.1) (fun hk=>by
  have:=ra.2.2.2.1;have:=rb.2.2.2.1;have f6:r1.1=true∨r2.1=true:=by
   cases c1:r1.1<;>cases c2:r2.1
   ·rw[c1,c2,ea]at hk;cases hk
   all_goals simp
  rcases f6 with h|h
  ·have:=ra.2.2.2.1 h;omega
  ·have:=rb.2.2.2.1 h;omega) (fun q N h2=>ra.2.2.2.2 q N χ) (fun q N h2=>rb.2.2.2.2 q N χ)
 rw[←cf]at step;refine D8 1 J ?_ fun a9 w9 hj=>?_
 ·have d7:S2.b 34=kp:=by rw[C];rfl
  cases hkp2:kp with
  | false =>
   rw[hkp2]at step;refine cQ false n9 rfl (d7.trans hkp2) (iV ?_);refine⟨rfl,?_⟩;rw[hJ];exact⟨κ8,e.out,e.oA,e.oC,u8,by subst C;exact n9.has.re ⟨rfl,rfl,rfl,rfl,rfl,rfl,trivial⟩,g3,step,d8,aD.refl _ _⟩
  | true =>
  rw[hkp2]at step;simp only[if_true]at step;refine cQ true n9 rfl (d7.trans hkp2) ?_;have bx:=n9.has.now (P:=Tryz.prog) 5 w8;have U:S2.n 16=e.out.length:=by rw[C];rfl
  have bc:S2.a 16=e.oA:=by rw[C];rfl
  have cv:S2.i 16=e.p:=by rw[C];rfl
  have cw:S2.i 34=last:=by rw[C];rfl
  have bd:S2.b 35=ad:=by rw[C];rfl
  have cx:S2.o 32=.slice e.oA e.out.length e.oC:=by rw[C];rfl
  obtain⟨J2,d4⟩:∃J:Act→World→Prop,J=fun a' w'=>∃κ':Kap,cU 5 κ8 κ'∧Has S2 κ' 77 (sA++[(13,.one (.i .u64 (.x 34))),(16,.one (.i .i64 (.ln 16))),(56,.one (.b (.x 35)))]) a'∧a'.defers=[]∧Kz w8 w':=⟨_,rfl⟩
  refine D8 2 J2 ?_ fun a9 w9 ed=>?_
  ·rw[d4]
   cases K:e.out.getLast? with
   | none =>
    have en:e.out=[]:=List.getLast?_eq_none_iff.1 K;refine bG 2 (fun _=>true) (sA++[(13,.one (.i .u64 (.x 34))),(16,.one (.i .i64 (.ln 16))),(56,.one (.b (.c false)))]) [] 5 [] hPp δ (bx.fa [(.cmp .gtr (.ln 16) (.c 0),false)] (fa1 (by
     show decide ((S2.n 16:Int)>0)=false;rw[U,en];rfl))) fun κ9 a9 w9 af p9=>dA rfl ?_
    refine⟨rfl,κ9,p9.upto,af.has.re ⟨rfl,rfl,rfl,rfl,rfl,rfl,rfl,rfl,?_,trivial⟩,p9.agree.defers.trans d8,p9.keep⟩;show Value.bool false=Value.bool (S2.b 35);rw[bd,D,K]
   | some y =>
    obtain⟨t,X,_⟩:=fW K;have V:e.out.length=t.length+1:=by rw[X];simp
    obtain⟨g,an,bl⟩:∃g,e.oA=some ⟨g,0,none⟩∧g<w8.heap.size:=by
     rcases g3.2 with⟨_,h2⟩|⟨g,al,dt,N,_,h3,_⟩
     ·omega
     ·cases H:e.oA with
      | none=>rw[H]at N;cases N
      | some q=>rw[H]at N;cases N;exact⟨_,rfl,fR h3⟩
    have h4:=d.set.QV y (by rw[X];simp);have ex:=d.lt y (by rw[X];simp);obtain⟨S3,O⟩:∃S3,S3=S2.put 48 (Co [y.1,y.2]):=⟨_,rfl⟩;have fd:S3.i 48=y.1:=by rw[O];rfl
    have d0:S3.i 49=y.2:=by rw[O];rfl
    have fc:S3.i 16=e.p:=by rw[O];exact cv
    have bg:S3.n 16=e.out.length:=by rw[O];exact U
    have d1:S3.a 16=e.oA:=by rw[O];exact bc
    have Q:IE.den S3 (.bin .sub .i64 (.ln 16) (.c 1))=(t.length:Int):=by
     show IntKind.i64.wrap ((S3.n 16:Int)-1)=_;rw[bg,V,show((t.length+1:Nat):Int)-1=t.length by omega];exact IntWalk.i64_in _ χ
    have af:Now S3 κ8 77 Tryz.prog {} H0 ⟨sA++[(13,.one (.i .u64 (.x 34)))],[],5,[]⟩ a8 w8:=by
     rw[O];exact((n9.has.sub δ).on (aP S2 48 _) δ).now 5 w8
    obtain⟨κ9,u9,h6,b6⟩:=af.base g (2*t.length) [.i .u64 (.x 48),.i .u64 (.x 49)] ⟨bl,fun h=>h⟩ (fun j v hj=>by
     obtain⟨s1,s2⟩:=nO e.out t.length y (by rw[X];simp);have W:=g3;rw[an]at W;obtain⟨g',al,hv,_⟩:=W.form χ;have c1:=(W.cellAt (t.length*2) (by rw[V];omega)).trans s1;have c2:=(W.cellAt (t.length*2+1) (by rw[V];omega)).trans s2;rw[show 2*t.length=t.length*2 by omega]
     match j,hj with
     | 0,hj =>
      obtain rfl:=Option.some.inj hj;rw[show Cl.den S3 (fun _=>(0,0)) (.i .u64 (.x 48))=.int .u64 (S3.i 48) from rfl,fd];exact c1
     | 1,hj =>
      obtain rfl:=Option.some.inj hj;rw[show Cl.den S3 (fun _=>(0,0)) (.i .u64 (.x 49))=.int .u64 (S3.i 49) from rfl,d0];exact c2) [(16,2,.bin .sub .i64 (.ln 16) (.c 1),16,5)] δ (fun x H=>by
     obtain rfl:=List.mem_singleton.1 H;refine⟨?_,?_,g,0,?_,?_⟩
     ·rw[Q];omega
     ·show IE.den S3 (.bin .sub .i64 (.ln 16) (.c 1))<(S3.n 16:Int)
      rw[Q,bg,V];omega
     ·show S3.a 16=_
      rw[d1,an]
     ·show(g,2*t.length)=(g,0+(IE.den S3 (.bin .sub .i64 (.ln 16) (.c 1))).toNat*2)
      rw[Q]
      congr 1
      omega)
    refine bG 2 (fun _=>true) (sA++[(13,.one (.i .u64 (.x 34))),(16,.one (.i .i64 (.ln 16))),(56,.one (.b (.cmp .eql (.x 49) (.bin .sub .u64 (.x 16) (.c 1)))))]) [] 6 [] hPp δ (b6.fa [(.cmp .gtr (.ln 16) (.c 0),true)] (fa1 (by
     show decide ((S3.n 16:Int)>0)=true;rw[bg,V];exact decide_eq_true χ))) fun cd a9 w9 gx p9=>dA rfl ?_
    refine⟨rfl,cd,fun r hr=>(p9.upto r (by show r<6;omega)).trans (u9 r hr),gx.has.re ⟨?_,rfl,rfl,rfl,?_,?_,?_,?_,?_,trivial⟩,p9.agree.defers.trans d8,p9.keep⟩
    ·rw[O];rfl
    ·rw[O];rfl
    ·rw[O];rfl
    ·rw[O];rfl
    ·rw[O];rfl
    ·show Value.bool ((S3.i 49)==IntKind.u64.wrap (S3.i 16-1))=Value.bool (S2.b 35)
     rw[bd,D,K,d0,fc];simp only
     congr 1
     have h0:e.p<18446744073709551616:=be;rw[cN χ,Bool.eq_iff_iff];simp;omega
  ·rw[d4]at ed
   obtain⟨κ9,u9,f9,d9,k9⟩:=ed
   cases hc:ad with
   | false =>
    refine cQ false (f9.now (P:=Tryz.prog) 5 w9) rfl (bd.trans hc) ?_;have o9:=aL g3 k9 (fun _ _ h=>h);have fe:Has S2 κ9 77 [(2,.one (.v 0)),(6,.one (.p 2 0)),(7,.one (.p 3 0)),(8,.one (.p 4 0)),(9,.one (.v 32)),(10,.one (.i .u64 (.x 16))),(13,.one (.i .u64 (.x 34)))] a9:=f9.re ⟨rfl,rfl,rfl,rfl,by
     show Value.slice (S2.a 16) (S2.n 16) (S2.n 17)=S2.o 32;rw[cx,bc,U,C];rfl,rfl,rfl,trivial⟩
    have bb:push e.out e.p last=e.out++[(e.p,last)]:=by
     unfold push
     cases K:e.out.getLast? with
     | none=>rw[List.getLast?_eq_none_iff.1 K];rfl
     | some y =>
      rw[K]at D;simp only;rw[if_neg];intro h;rw[hc]at D;simp[h]at D
    rw[bb]at step;refine E5 (z:=Z) (n:=e.out.length) (size:=2) (bytes:=16) (e:=125) (v := .slice e.oA e.out.length e.oC) (xs:=spC e.out) (ys:=dO (e.p,last)) 4 117 32 (.ag [.i .u64 (.x 16),.i .u64 (.x 34)]) 48 9 (fun _=>true) [(2,.one (.v 0)),(6,.one (.p 2 0)),(7,.one (.p 3 0)),(8,.one (.p 4 0)),(13,.one (.i .u64 (.x 34)))] δ (fe.now 5 w9) ⟨Tryz.underlying117,δ,ψ,ψ⟩ cx o9 ?_ ?_ rfl ?_ ?_ ?_ ?_
    ·have:=(c7.size);have:=k9.size;have:=cu.size;omega
    ·show #[Value.int .u64 (S2.i 16),.int .u64 (S2.i 34)]=_
     rw[cv,cw];rfl
    ·intro u hu
     rcases List.mem_cons.1 hu with rfl|hu
     ·rfl
     ·obtain rfl:=List.mem_singleton.1 hu;rfl
    ·unfold maxLen;omega
    ·omega
    ·intro v' dc cc ez gr hp ff di
     refine dA rfl ⟨rfl,?_⟩;rw[hJ];obtain⟨g,al,hv,_⟩:=ez.form χ;subst hv;have bp:(e.out++[(e.p,last)]).length=e.out.length+1:=ξ
     refine⟨κ9,e.out++[(e.p,last)],some ⟨g,0,none⟩,al,fun r hr=>(u9 r hr).trans (u8 r hr),ff.re ⟨by rw[C];rfl,rfl,rfl,rfl,?_,by rw[C];rfl,trivial⟩,?_,step,di.defers.trans d9,(k9.mono fun _ _ h=>h.elim).trans (gr.mono fun g _ h=>oZ g h) fun _ _ h=>h⟩
     ·show Value.slice (some ⟨g,0,none⟩) (e.out.length+1) al=Value.slice (some ⟨g,0,none⟩) (e.out++[(e.p,last)]).length al
      rw[bp]
     ·rw[bp,iv];exact ez
   | true =>
    refine cQ true (f9.now (P:=Tryz.prog) 5 w9) rfl (bd.trans hc) ?_;obtain⟨y,K,ex⟩:∃y,e.out.getLast?=some y∧y.2+1=e.p:=by
     cases K:e.out.getLast? with
     | none=>rw[K,hc]at D;cases D
     | some y=>exact⟨y,rfl,by rw[K,hc]at D;simpa using D.symm⟩
    obtain⟨t,X,ht⟩:=fW K;have V:e.out.length=t.length+1:=by rw[X];simp
    have o9:=aL g3 k9 (fun _ _ h=>h);obtain⟨g,an,bl⟩:∃g,e.oA=some ⟨g,0,none⟩∧g<w9.heap.size:=by
     rcases o9.2 with⟨_,h2⟩|⟨g,al,dt,N,_,h3,_⟩
     ·omega
     ·cases H:e.oA with
      | none=>rw[H]at N;cases N
      | some q=>rw[H]at N;cases N;exact⟨_,rfl,fR h3⟩
    have f0:Z≤g:=oZ g (by rw[an];rfl);have bb:push e.out e.p last=t++[(y.1,last)]:=by
     unfold push;rw[K];simp only;rw[if_pos ex,X,List.dropLast_concat]
    rw[bb]at step;have Q:IE.den S2 (.bin .sub .i64 (.ln 16) (.c 1))=(t.length:Int):=by
     show IntKind.i64.wrap ((S2.n 16:Int)-1)=_;rw[U,V,show((t.length+1:Nat):Int)-1=t.length by omega];exact IntWalk.i64_in _ χ
    let Hg:Gh:=Gh.two (fun b=>b=g) (fun w=>w.ownsRow Z 125 2 (.slice e.oA e.out.length e.oC) e.out.length (spC e.out)) (fun w=>w.ownsRow Z 125 2 (.slice e.oA e.out.length e.oC) e.out.length (spC (t++[(y.1,last)]))) (fun _ _ hk h=>aL h hk (fun _ _ h=>h)) (fun _ _ hk h=>aL h hk (fun _ _ h=>h))
    have bx:Now S2 κ9 77 Tryz.prog {} Hg ⟨sA++[(13,.one (.i .u64 (.x 34))),(16,.one (.i .i64 (.ln 16)))],[],5,[]⟩ a9 w9:=⟨f9.sub δ,⟨fun _ _ h=>by cases h⟩,noC _ _ _ _ _,fun b hb=>by rw[show b=g from hb];exact bl,o9⟩;obtain⟨cd,gy,cm,af⟩:=bx.baseT g (2*t.length) [(16,2,.bin .sub .i64 (.ln 16) (.c 1),16,5)] δ (fun x H=>by
     obtain rfl:=List.mem_singleton.1 H;refine⟨?_,?_,g,0,?_,?_⟩
     ·rw[Q];omega
     ·show IE.den S2 (.bin .sub .i64 (.ln 16) (.c 1))<(S2.n 16:Int)
      rw[Q,U,V];omega
     ·show S2.a 16=_
      rw[bc,an]
     ·show(g,2*t.length)=(g,0+(IE.den S2 (.bin .sub .i64 (.ln 16) (.c 1))).toNat*2)
      rw[Q]
      congr 1
      omega)
    refine CN (CL:={}) 6 5 1 [.i .u64 (.x 34)] [] (fun _=>true) [(2,.one (.v 0)),(6,.one (.p 2 0)),(7,.one (.p 3 0)),(8,.one (.p 4 0)),(9,.one (.sl 16 16 17)),(13,.one (.i .u64 (.x 34)))] [] 6 [99] δ af eF (by rw[cm];rfl) (fun w1 hw b3=>?_) fun g4 dc cc b6 c8=>dA rfl ⟨rfl,?_⟩
    ·rw[cm]
     have b3:w1.ownsRow Z 125 2 (.slice e.oA e.out.length e.oC) e.out.length (spC e.out):=b3;rw[an,X]at b3;obtain⟨cs,c1,c2,c3⟩:=B4 b3 last;refine⟨cs,125,c1,c2,?_⟩;show World.ownsRow _ Z 125 2 (.slice e.oA e.out.length e.oC) e.out.length (spC (t++[(y.1,last)]));rw[an,X];show World.ownsRow (w1.setRow g (bi cs (2*t.length+1) [.int .u64 (S2.i 34)])) _ _ _ _ _ _;rw[cw];exact c3
    ·rw[hJ]
     have bp:(t++[(y.1,last)]).length=e.out.length:=by simp[V]
     refine⟨g4,t++[(y.1,last)],e.oA,e.oC,fun r hr=>(c8.upto r (by show r<6;omega)).trans ((gy r hr).trans ((u9 r hr).trans (u8 r hr))),b6.has.re ⟨by rw[C];rfl,rfl,rfl,rfl,?_,by rw[C];rfl,trivial⟩,?_,step,c8.agree.defers.trans d9,(k9.mono fun _ _ h=>h.elim).trans (c8.keep.mono fun b _ h=>by rw[show b=g from h];exact f0) fun _ _ h=>h⟩
     ·show Value.slice (S2.a 16) (S2.n 16) (S2.n 17)=Value.slice e.oA (t++[(y.1,last)]).length e.oC
      rw[bp,U,bc,C];rfl
     ·rw[bp];exact b6.gh
 ·rw[hJ]at hj
  obtain⟨κ9,L,ca,cb,u9,f9,o9,m9,d9,k9⟩:=hj;have bx:=f9.now (P:=Tryz.prog) 5 w9;have eg:∀{ops:List Oper} {S:Sta} {κ:Kap},((ops.filter fun o=>o.dst==some 73).map (·.op))=[.unOp .xor 41 (.tmp 72)]→fo S κ Tryz.prog ops DZ:=fun{ops S κ} bs=>⟨(fun _ h=>by cases h),fun x H o ho hd a w ha=>by
   obtain rfl:=List.mem_singleton.1 H;exact vG (jt bs ho hd) (ha _ (List.mem_singleton.2 rfl))⟩
  refine gv (CL:=DZ) (fun _=>true) [(2,.one (.v 0)),(6,.one (.p 2 0)),(7,.one (.p 3 0)),(8,.one (.p 4 0)),(9,.one (.sl 16 16 17)),(10,.one (.i .u64 (.bin .add .u64 (.x 34) (.c 1)))),(11,.one (.b (.cmp .neq (.x 34) (.c 18446744073709551615))))] [] 5 [] δ bx (eg rfl) fun cd dc cc af bf=>Cx rfl ?_
  have hy:last<18446744073709551616:=by
   have:=ra.2.1;have:=rb.2.1;omega
  have hn:e.p≤last:=by
   have:=ra.1;have:=rb.1;omega
  have fi:gc cc I gA A Y xA yA:=(g1.keep k9 χ).keep bf.keep (fun h=>h);have fl:gc cc zb gB B ac xB yB:=(g2.keep k9 χ).keep bf.keep (fun h=>h);refine⟨⟨if last=18446744073709551615 then 0 else last+1,decide (last≠18446744073709551615),Y,xA,yA,ac,xB,yB,L,ca,cb⟩,cd,?_,⟨fi,fl,aL o9 bf.keep (fun _ _ h=>h),fun c5 j s hj hs=>?_,fun c5 j s hj hs=>?_,?_,?_⟩,?_,?_,?_,?_⟩
  ·show(if decide (last≠18446744073709551615)=true then 18446744073709551616-(if last=18446744073709551615 then 0 else last+1)else 0)<if true=true then 18446744073709551616-e.p else 0
   have hz:e.p<18446744073709551616:=be
   by_cases c:last=18446744073709551615
   ·simp only[c,ne_eq,not_true,decide_false,if_true,Bool.false_eq_true,if_false]
    omega
   ·simp only[c,ne_eq,not_false_eq_true,decide_true,if_true,if_false]
    omega
  ·have c:last≠18446744073709551615:=by simpa using c5
   show s.2<if last=18446744073709551615 then 0 else last+1
   rw[if_neg c];have:=bm.lo j s hj hs;omega
  ·have c:last≠18446744073709551615:=by simpa using c5
   show s.2<if last=18446744073709551615 then 0 else last+1
   rw[if_neg c];have:=bo.lo j s hj hs;omega
  ·show MkI keep A B (if decide (last≠18446744073709551615)=true then(if last=18446744073709551615 then 0 else last+1)else 18446744073709551616) L
   by_cases c:last=18446744073709551615
   ·subst c
    simpa using m9
   ·simpa[c]using m9
  ·show(if last=18446744073709551615 then 0 else last+1)<lim
   unfold lim;split<;>omega
  ·exact fun r hr=>(bf.upto r hr).trans (u9 r hr)
  ·refine af.has.re ⟨rfl,rfl,rfl,rfl,rfl,?_,?_,trivial⟩
   ·show Value.int .u64 (IntKind.u64.wrap ((last:Int)+1))=Value.int .u64 ((if last=18446744073709551615 then 0 else last+1:Nat):Int)
    congr 1
    split
    ·rename_i c;subst c;decide
    ·rw[cN χ];omega
   ·show Value.bool ((last:Int)!=18446744073709551615)=Value.bool (decide (last≠18446744073709551615))
    congr 1
    rw[Bool.eq_iff_iff];simp;omega
  ·exact⟨af.has.size.trans n3.has.size.symm,(bf.agree.defers.trans d9).trans d3.symm,fun _ h=>by cases h⟩
  ·exact(cu.trans (k9.mono fun g _ h =>.inr (.inr h)) fun _ _ h=>h).trans (K_T bf.keep) fun _ _ h=>h
end Go.Proofs.YthobcefghkeddaaGreatDoor.Rs
namespace Go.Proofs.YthobcefghkeddaaGreatDoor.Rs
open Go.RowKit Go.Proofs.YthobcefghkeddaaGreatDoor Ck
variable {l:List Sp} {w:World} {u:Value}
theorem DG{p i k:Nat}(q:i≤l.length)(d:∀j s,j<i→l[j]?=some s→s.2<p)(g:∀s,l[i]?=some s→p≤s.2)(hk:AtK l p k):i=k:=by
 rcases Nat.lt_trichotomy i k with c|c|c
 ·have h:=Ez (show i<l.length by have:=hk.le;omega)
  have:=hk.lo i _ c h;have:=g _ h;omega
 ·exact c
 ·have h:=Ez (show k<l.length by omega)
  have:=d k _ c h;have:=hk.hi _ h;omega
theorem zv(y:av w u l)(v:dZ l){p k:Nat}(x:p<lim)(hk:AtK l p k):Calls Tryz.prog 113 #[.agg #[u],.int .u64 p] w fun e w'=>e=.returned (.int .i64 k)∧Kz w w':=
 (sg y.Q7 v p x).mono fun e w' ⟨⟨i,d,g,h,j⟩,q⟩=>⟨by rw[d,DG g h j hk],q⟩
def gT(l:List Sp)(p k:Nat):Nat×Bool:=match l[k]? with
 | none=>(0,false)
 | some s=>(max p s.1,true)
theorem B9{l:List Sp}(g:dZ l){p k:Nat}(hk:AtK l p k):((gT l p k).2=true→aY l (gT l p k).1∧p≤(gT l p k).1∧∀q,p≤q→q<(gT l p k).1→¬ aY l q)∧((gT l p k).2=false→∀q,p≤q→¬ aY l q):=by
 unfold gT
 cases e:l[k]? with
 | none =>
  refine⟨(fun h=>by cases h),fun _ q J ⟨s,B,x,y⟩=>?_⟩;obtain⟨j,d⟩:=List.getElem?_of_mem B;have:j<k:=by
   have:=(List.getElem?_eq_some_iff.1 d).1
   rcases Nat.lt_or_ge j k with c|c
   ·exact c
   ·rw[List.getElem?_eq_none_iff]at e;omega
  have:=hk.lo j s this d;omega
 | some s =>
  have x:=g.some_ s (List.mem_of_getElem? e);have y:=hk.hi s e;refine⟨fun _=>⟨⟨s,List.mem_of_getElem? e,Nat.le_max_right _ _,by show max p s.1≤s.2;omega⟩,Nat.le_max_left _ _,fun q K u ⟨t,C,H,I⟩=>?_⟩,fun h=>by cases h⟩;have u:q<max p s.1:=u;obtain⟨j,d⟩:=List.getElem?_of_mem C
  rcases Nat.lt_trichotomy j k with c|c|c
  ·have:=hk.lo j t c d;omega
  ·subst c;rw[e]at d;obtain rfl:=Option.some.inj d;omega
  ·obtain⟨D,v⟩:=List.getElem?_eq_some_iff.1 e
   obtain⟨E,w⟩:=List.getElem?_eq_some_iff.1 d;have:=List.pairwise_iff_getElem.1 g.apart k j D E c;rw[v,w]at this;omega
def nxS(A:Option Addr)(n c p k:Nat)(s:Sp):Sta where
 a _:=A
 n j:=match j with|1=>n|_=>c
 i j:=match j with|0=>p|1=>k|2=>s.1|_=>s.2
def E7:List (FuncId×List SV×SV):=[(113,[.ag [.sl 1 1 2],.one (.i .u64 (.x 0))],.one (.i .i64 (.x 1)))]
theorem z7(J:av w u l)(U:dZ l){p k:Nat}(W:p<lim)(hk:AtK l p k):
 Calls Tryz.prog 114 #[.agg #[u],.int .u64 p] w fun e w'=>e=.returned (.tuple #[.int .u64 (gT l p k).1,.bool (gT l p k).2])∧Kz w w':=by
 obtain⟨R,C⟩:∃R:Ending→World→Prop,R=fun e w'=>e=.returned (.tuple #[.int .u64 (gT l p k).1,.bool (gT l p k).2])∧Kz w w':=⟨_,rfl⟩
 rw[←C];obtain⟨A,c,N,lA,Z,V⟩:=id J;subst N;refine fnE (nxS A l.length c p k (l.getD k (0,0))) (fun _=>(0,0)) [.ag [.sl 1 1 2],.one (.i .u64 (.x 0))] Tryz.func114 Tryz.ntmps114 rfl rfl ψ H0 (fun _ h=>h.elim) trivial fun a I hh=>?_
 have n0:=hh.more [] E7 [] gJ (fun x y w' X=>by
  obtain rfl:=List.mem_singleton.1 y;exact zv (J.keep X) U W hk) (fun i x y=>by cases y)
 refine bG 2 (fun _=>true) [(1,.one (.i .u64 (.x 0))),(2,.one (.p 0 0)),(6,.one (.i .i64 (.x 1)))] [(0,[.sl 1 1 2])] 1 [] hPp δ n0 fun κ1 a1 w1 K d=>?_
 by_cases c1:k=l.length
 ·refine dw 9 (fun _=>true) [(4,.one (.i .u64 (.c 0))),(5,.one (.b (.c false)))] [] 1 [] hPp δ (K.fa [(.cmp .eql (.x 1) (.ln 1),true)] (fa1 (by
   show((k:Int)==(l.length:Int))=true;rw[c1];simp))) fun κ2 L w2 H B=>?_
  refine iy rfl H.has rfl rfl (B.agree.defers.trans (d.agree.defers.trans I)) ?_;rw[C];refine⟨?_,d.keep.trans B.keep fun _ _ h=>h⟩;unfold gT;rw[c1,List.getElem?_eq_none (Nat.le_refl _)];rfl
 ·have q:k<l.length:=by have:=hk.le;omega
  obtain⟨g,O,D,E⟩:=V χ;obtain⟨m1,m2,m3,m4⟩:=E k _ (sU q);obtain⟨κ2,u2,Y,H⟩:=K.base g (2*k) [.i .u64 (.x 2),.i .u64 (.x 3)] ⟨Nat.lt_of_lt_of_le D d.keep.size,fun h=>h⟩ (fun j v Q=>(d.keep.cell (p:=⟨_,_,none⟩) m1 (fun h=>h)).trans (m2 j v Q)) [(1,2,.x 1,1,1)] δ (fun x y=>by
   obtain rfl:=List.mem_singleton.1 y;refine⟨?_,?_,g,0,O,?_⟩
   ·show(0:Int)≤(k:Int);omega
   ·show(k:Int)<(l.length:Int);omega
   ·show(g,2*k)=(g,0+(k:Int).toNat*2)
    congr 1
    omega)
  refine dw 9 (fun _=>true) [(4,.one (.i .u64 (.mx (.x 0) (.x 2)))),(5,.one (.b (.c true)))] [] 2 [] hPp δ (H.fa [(.cmp .eql (.x 1) (.ln 1),false)] (fa1 (by
   show((k:Int)==(l.length:Int))=false;simp;omega))) fun κ3 L w2 n3 B=>?_
  refine iy rfl n3.has rfl rfl (B.agree.defers.trans (d.agree.defers.trans I)) ?_;rw[C];refine⟨?_,d.keep.trans B.keep fun _ _ h=>h⟩;unfold gT;rw[sU q];show Ending.returned (.tuple #[.int .u64 (IE.den (nxS A l.length c p k (l.getD k (0,0))) (.mx (.x 0) (.x 2))),.bool true])=_;have:IE.den (nxS A l.length c p k (l.getD k (0,0))) (.mx (.x 0) (.x 2))=((max p (l.getD k (0,0)).1:Nat):Int):=by
   simp only[IE.den,nxS];omega
  rw[this]
def toS(A:Option Addr)(n c:Nat)(x:Sp)(r:Nat×Bool):Sta where
 a _:=A
 n j:=match j with|1=>n|_=>c
 i j:=match j with|0=>x.1|1=>x.2|_=>r.1
 b _:=r.2
def Dz:List (FuncId×List SV×SV):=[(114,[.ag [.sl 1 1 2],.one (.i .u64 (.x 0))],.tu [.i .u64 (.x 2),.b (.x 0)]),(112,[.ag [.i .u64 (.x 0),.i .u64 (.x 1)]],.one (.b (.cmp .lss (.x 1) (.x 0))))]
theorem rN{w:World}{u:Value}{l:List Sp}(Q:av w u l)(N:dZ l){x:Sp}(X:x.1<lim):
 Calls Tryz.prog 62 #[.agg #[u],.agg #[.int .u64 x.1,.int .u64 x.2]] w fun e w'=>(∃b,e=.returned (.bool b)∧(b=true↔∃q,x.1≤q∧q≤x.2∧aY l q))∧Kz w w':=by
 obtain⟨R,D⟩:∃R:Ending→World→Prop,R=fun e w'=>(∃b,e=.returned (.bool b)∧(b=true↔∃q,x.1≤q∧q≤x.2∧aY l q))∧Kz w w':=⟨_,rfl⟩
 rw[←D];obtain⟨A,c,W,lA,ac,hm⟩:=id Q;subst W;obtain⟨k,_,hk⟩:=vo (l:=l) (p:=x.1) l.length 0 χ (fun j s Z=>absurd Z (Nat.not_lt_zero _));have g:=B9 N hk;have v:=fun{w'} (H:Kz w w')=>z7 (Q.keep H) N X hk
 obtain⟨r,O⟩:∃r,r=gT l x.1 k:=⟨_,rfl⟩;rw[←O]at g;simp only[←O]at v;refine fnE (toS A l.length c x r) (fun _=>(0,0)) [.ag [.sl 1 1 2],.ag [.i .u64 (.x 0),.i .u64 (.x 1)]] Tryz.func62 Tryz.ntmps62 rfl rfl ψ H0 (fun _ h=>h.elim) trivial fun a E hh=>?_
 have n0:∀FA:List (BE×Bool),(∀y∈FA,y.1.den (toS A l.length c x r)=y.2)→_:=fun FA Y=>hh.more FA Dz [] Y (fun y I w' H=>by
  rcases List.mem_cons.1 I with rfl|I
  ·exact v H
  ·obtain rfl:=List.mem_singleton.1 I
   exact(nj x.1 x.2 w').mono fun e ad ⟨C,J⟩=>⟨by
    rw[C];show Ending.returned (.bool (decide (x.2<x.1)))=.returned (.bool (decide ((x.2:Int)<(x.1:Int))))
    congr 2
    exact decide_eq_decide.2 χ,J⟩) (fun i x hx=>by cases hx)
 have yes:∀y:Bool×Nat,True:=fun _=>trivial
 cases hok:r.2 with
 | false =>
  refine dw 9 (fun _=>true) [(4,.one (.b (.c false)))] [] 2 [] hPp δ (n0 [(.x 0,false)] (fa1 hok)) fun V L U B d=>?_
  refine gR 4 rfl B.has rfl (d.agree.defers.trans E) ?_;rw[D];exact⟨⟨false,rfl,⟨fun h=>by(cases h),fun⟨q,C,J,K⟩=>absurd K (g.2 hok q C)⟩⟩,d.keep⟩
 | true =>
  obtain⟨z1,z2,z3⟩:=g.1 hok
  by_cases hle:r.1≤x.2
  ·refine dw 9 (fun _=>true) [(4,.one (.b (.not (.cmp .lss (.x 1) (.x 0)))))] [] 2 [] hPp δ (n0 [(.x 0,true),(.cmp .leq (.x 2) (.x 1),true)] (sk hok (by
    show decide ((r.1:Int)≤(x.2:Int))=true;exact decide_eq_true χ))) fun V L U B d=>?_
   refine gR 4 rfl B.has rfl (d.agree.defers.trans E) ?_;rw[D];refine⟨⟨_,rfl,⟨fun _=>⟨r.1,z2,hle,z1⟩,fun _=>?_⟩⟩,d.keep⟩;show(!decide ((x.2:Int)<(x.1:Int)))=true;simp;omega
  ·refine dw 9 (fun _=>true) [(4,.one (.b (.c false)))] [] 2 [] hPp δ (n0 [(.x 0,true),(.cmp .leq (.x 2) (.x 1),false)] (sk hok (by
    show decide ((r.1:Int)≤(x.2:Int))=false;exact decide_eq_false χ))) fun V L U B d=>?_
   refine gR 4 rfl B.has rfl (d.agree.defers.trans E) ?_;rw[D];exact⟨⟨false,rfl,⟨fun h=>by(cases h),fun⟨q,C,J,K⟩=>absurd K (z3 q C χ)⟩⟩,d.keep⟩
