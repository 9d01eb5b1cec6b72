import Derived.Test.YthobcefghkeddaaGreatDoorPl2
import Derived.Test.YthobcefghkeddaaGreatDoorRowsC
set_option maxRecDepth 100000
set_option linter.all false
set_option maxHeartbeats 4000000
namespace Go.Proofs.YthobcefghkeddaaGreatDoor
namespace Rs
open Go.RowKit Ck
variable {w:World} {u:Value} {l:List Sp} {c Z:Nat}
def bZ(w:World)(u:Value)(l:List Sp):Prop:=
 ∃A c,u=.slice A l.length c∧l.length≤c∧l.length≤4194304∧(0<l.length→∃g,A=some ⟨g,0,none⟩∧g<w.heap.size∧SpM w g l)
theorem bZ.keep{w':World}(h:bZ w u l)(hk:Kz w w'):bZ w' u l:=by
 obtain⟨A,c,e,j,q,v⟩:=h;refine⟨A,c,e,j,q,fun d=>?_⟩;obtain⟨g,e,x,y⟩:=v d;exact⟨g,e,Nat.lt_of_lt_of_le x hk.size,y.keep hk id⟩
theorem bZ.Q7(h:bZ w u l):aK w w.heap.size u l:=by
 obtain⟨A,c,e,q,v,x⟩:=h;refine⟨A,c,e,q,v,fun j=>?_⟩;obtain⟨g,e,y,B⟩:=x j;refine⟨g,e,y,χ,fun i s C=>?_⟩;obtain⟨_,d,D⟩:=B i s C;rw[Nat.mul_comm]at d;exact⟨d 0 _ rfl,d 1 _ rfl,D⟩
theorem aK.r{w:World}{pb:Nat}{u:Value}{l:List Sp}(h:aK w pb u l):bZ w u l:=by
 obtain⟨A,c,e,y,B,C⟩:=h;refine⟨A,c,e,y,B,fun x=>?_⟩;obtain⟨g,e,q,K,D⟩:=C x;refine⟨g,e,q,fun i s E=>?_⟩;obtain⟨H,I,J⟩:=D i s E;refine⟨q,fun j v d=>?_,J⟩;rw[Nat.mul_comm 2]
 match j,d with
 | 0,d=>obtain rfl:=Option.some.inj d;exact H
 | 1,d=>obtain rfl:=Option.some.inj d;exact I
theorem bZ.blk{A:Option Addr}{n:Nat}(h:bZ w (.slice A n c) l)(T:Nat→Prop)(u:∀g,T g→w.heap.size≤g)(x:Nat)(B:¬ T x):∃g,¬ T g∧(∀w',aD T w w'→SpM w' g l)∧(0<l.length→A=some ⟨g,0,none⟩):=by
 obtain⟨A',C,e,D,E,q⟩:=h
 cases e
 rcases Nat.eq_zero_or_pos l.length with d|d
 ·obtain rfl:l=[]:=List.length_eq_zero_iff.1 d
  exact⟨x,B,fun _ _ j s y=>(by cases y),fun h=>(by cases h)⟩
 ·obtain⟨g,e,H,v⟩:=q d
  have:¬ T g:=fun h=>by have:=u g h;omega
  exact⟨g,this,fun w' hk=>v.keep hk this,fun _=>e⟩
theorem aK.other{pb q:Nat}(h:aK w pb u l)(D:0<l.length→∀g n c,u=.slice (some ⟨g,0,none⟩) n c→g≠q):aK w q u l:=by
 obtain⟨A,c,e,v,x,y⟩:=h;refine⟨A,c,e,v,x,fun j=>?_⟩;obtain⟨g,d,B,E,C⟩:=y j;exact⟨g,d,B,D j g _ _ (by rw[e,d]),C⟩
def jw(w0:World)(φ:Nat→Prop)(e:Ending)(w:World):Prop:=∃u l,e=.returned (.agg #[u])∧bZ w u l∧(∀q,q<w0.heap.size→aK w q u l)∧dl l∧(∀q,aj l q↔φ q)∧Kz w0 w
structure MkE where
 p:Nat
 more:Bool
 ka:Nat
 aA:Option Addr
 aC:Nat
 kb:Nat
 bA:Option Addr
 bC:Nat
 out:List Sp
 oA:Option Addr
 oC:Nat
def mkD(e:MkE):Sta where
 i _:=(e.p:Int)
 b _:=e.more
 a _:=e.oA
 n j:=match j with|0=>e.out.length|_=>e.oC
def yH(x y:Bool×Nat)(last:Nat)(kp cnd:Bool)(u:Value):Sta where
 i j:=match j with|0=>(x.2:Int)|1=>y.2|_=>last
 b j:=match j with|0=>x.1|1=>y.1|2=>kp|_=>cnd
 o _:=u
def mkR:Fr:=[(2,.one (.v 0)),(6,.one (.p 2 0)),(7,.one (.p 3 0)),(8,.one (.p 4 0)),(9,.one (.sl 16 16 17)),(10,.one (.i .u64 (.x 16))),(11,.one (.b (.x 16)))]
def mkZ:Mm:=[(2,[.l (.slice none 0 0)])]
structure MkW (keep:Bool→Bool→Bool) (A B:List Sp) (Z za zb gA gB:Nat) (e:MkE) (w:World):Prop where
 sa:iC w za gA A e.ka e.aA e.aC
 sb:iC w zb gB B e.kb e.bA e.bC
 own:w.ownsRow Z 125 2 (.slice e.oA e.out.length e.oC) e.out.length (spC e.out)
 lA:e.more=true→∀(j:Nat) (s:Sp),j<e.ka→A[j]?=some s→s.2<e.p
 lB:e.more=true→∀(j:Nat) (s:Sp),j<e.kb→B[j]?=some s→s.2<e.p
 inv:MkI keep A B (if e.more then e.p else 18446744073709551616) e.out
 pl:e.p<lim
def mkT(za zb:Nat)(e:MkE)(g:Nat):Prop:=g=za∨g=zb∨∃o,e.oA=some ⟨g,o,none⟩
def pa(Z za zb:Nat)(g:Nat):Prop:=g=za∨g=zb∨Z≤g
theorem MkW.keep{keep:Bool→Bool→Bool}{A B:List Sp}{g zb d gB:Nat}(e:MkE)(w w':World)(hk:Kz w w')(h:MkW keep A B Z g zb d gB e w):MkW keep A B Z g zb d gB e w':=
 ⟨h.sa.keep hk id,h.sb.keep hk id,aN h.own hk (fun _ _ h=>h),h.lA,h.lB,h.inv,h.pl⟩
theorem C0{n:Nat}{A:Option Addr}{xs:List Value}(h:w.ownsRow Z 125 2 (.slice A n c) n xs){g o:Nat}(e:A=some ⟨g,o,none⟩):Z≤g∧g<w.heap.size∧o=0:=by
 rcases h.2 with⟨d,_⟩|⟨v,j,l,d,q,u,_⟩
 ·cases d;cases e
 ·cases d
  cases e
  exact⟨q,eZ u,rfl⟩
theorem MkW.te{keep:Bool→Bool→Bool}{A B:List Sp}{j zb l gB:Nat}(e:MkE)(w:World)(h:MkW keep A B Z j zb l gB e w)(g:Nat)(d:mkT j zb e g):pa Z j zb g∧g<w.heap.size:=by
 rcases d with rfl|rfl|⟨o,d⟩
 ·exact⟨.inl rfl,h.sa.1.lt⟩
 ·exact⟨.inr (.inl rfl),h.sb.1.lt⟩
 ·obtain⟨q,u,_⟩:=C0 h.own d
  exact⟨.inr (.inr q),u⟩
theorem By{g:Nat}{t:List Sp}{y:Sp}(h:w.ownsRow Z 125 2 (.slice (some ⟨g,0,none⟩) (t++[y]).length c) (t++[y]).length (spC (t++[y])))(last:Nat):
 ∃cs,w.heap[g]?=some (.cells cs 125 (0,0))∧2*t.length+1+1≤cs.size∧(w.setRow g (bn cs (2*t.length+1) [.int .u64 last])).ownsRow Z 125 2 (.slice (some ⟨g,0,none⟩) (t++[y]).length c) (t++[y]).length (spC (t++[(y.1,last)])):=by
 rcases h.2 with⟨u,_⟩|⟨J,D,d,u,E,v,x,H,K,B⟩
 ·cases u
 cases u
 have I:(t++[y]).length=t.length+1:=ξ
 rw[I]at x B⊢;have C:2*t.length+1+1≤d.size:=χ
 refine⟨d,v,C,by rw[jl];simp,.inr ⟨g,c,_,rfl,E,setRow_heap w g d _ 125 (0,0) v,x,H,?_,?_⟩⟩
 ·unfold bn
  simp;omega
 ·refine List.ext_getElem? fun j=>?_
  have l:(spC (t++[y]))[j]?=(d.toList.take ((t.length+1)*2))[j]?:=by rw[B]
  rcases Nat.lt_or_ge j ((t.length+1)*2)with q|q
  ·rw[List.getElem?_take_of_lt q,Array.getElem?_toList,fb (by simpa using C)]
   rw[List.getElem?_take_of_lt q]at l;have l:(spC (t++[y]))[j]?=d[j]?:=by rw[l,Array.getElem?_toList]
   have l2:(spC t).length=t.length*2:=jl t;rw[jJ]at l⊢
   by_cases c1:j<2*t.length+1
   ·rw[if_pos c1,←l]
    by_cases c2:j<t.length*2
    ·rw[List.getElem?_append_left χ,List.getElem?_append_left χ]
    ·rw[List.getElem?_append_right χ,List.getElem?_append_right χ,l2,show j-t.length*2=0 by omega]
     rfl
   ·rw[if_neg c1,if_pos η,List.getElem?_append_right χ,l2,show j-t.length*2=1 by omega,show j-(2*t.length+1)=0 by omega]
    rfl
  ·rw[List.getElem?_eq_none (by rw[List.length_take];omega),List.getElem?_eq_none (by rw[jl];simp;omega)]
def mkG(A B:List Sp)(Z za zb gA gB ka' kb':Nat)(e:MkE)(es:List Nat)(w:World):Prop:=
 (∃x y,iC w za gA A (if es.any (Nat.beq 0)then ka' else e.ka) x y)∧(∃x y,iC w zb gB B (if es.any (Nat.beq 1)then kb' else e.kb) x y)∧w.ownsRow Z 125 2 (.slice e.oA e.out.length e.oC) e.out.length (spC e.out)
def mkH(A B:List Sp)(Z za zb gA gB ka' kb':Nat)(e:MkE):Gh:=
 ⟨mkT za zb e,mkG A B Z za zb gA gB ka' kb' e,fun _ _ _ hk ⟨⟨x,y,h1⟩,⟨x2,y2,h2⟩,h3⟩=>⟨⟨x,y,h1.keep hk id⟩,⟨x2,y2,h2.keep hk id⟩,aN h3 hk (fun _ _ h=>h)⟩⟩
def Eb(fk:FuncId):List (FuncId×List SV×SV):=[(152,[.one (.p 3 0),.one (.i .u64 (.x 16))],.tu [.b (.x 32),.i .u64 (.x 32)]),(152,[.one (.p 4 0),.one (.i .u64 (.x 16))],.tu [.b (.x 33),.i .u64 (.x 33)]),(fk,[.one (.b (.x 32)),.one (.b (.x 33))],.one (.b (.x 34)))]
def Ea:Kn:={ KO:=[(37,[(35,.one (.i .u64 (.x 32))),(36,.one (.i .u64 (.x 33)))],.one (.i .u64 (.x 34)))] }
def EY:Kn:={ KO:=[(73,[(72,.one (.i .u64 (.cv .u64 (.c 0))))],.one (.i .u64 (.c 18446744073709551615)))] }
def sT:Fr:=[(2,.one (.v 0)),(6,.one (.p 2 0)),(7,.one (.p 3 0)),(8,.one (.p 4 0)),(9,.one (.sl 16 16 17)),(10,.one (.i .u64 (.x 16)))]
theorem C8{P:Program}{o:Oper}{s t:Operand}{ts:Array TypeId}{x y:Nat}(d:o.op=.call { callee := .builtin .min,args := #[s,t],argTypes:=ts }){a:Act}{w:World}(h:a.eval s=.int .u64 x)(l:a.eval t=.int .u64 y):(execOp a.eval o).run P w=.ok (.value (.int .u64 ((min x y:Nat):Int))) w:=by
 obtain⟨dst,op,ty,pos,q,g⟩:=o;simp only at d;subst d;have j:(if y<x then(y:Int)else x)=min (x:Int) y:=by split<;>omega
 generalize a.eval=f at *
 simp[execOp,resolve,invoke,builtin,h,l,go_sem];rw[j];omega
theorem sd{keep:Bool→Bool→Bool}{fk:FuncId}(ed:fk=137∨fk=134){w:World}{A B:List Sp}{uA uB:Value}(hA:bZ w uA A)(hB:bZ w uB B)(pA:dl A)(pB:dl B)(eb:keep false false=false)
 (f3:∀b1 b2 w,Calls Tryz.prog fk #[.bool b1,.bool b2] w fun e w'=>e=.returned (.bool (keep b1 b2))∧Kz w w'):
 Calls Tryz.prog 133 #[.agg #[uA],.agg #[uB],.func (.func fk) #[] #[]] w fun e w'=>jw w (fun q=>keep (inB A q) (inB B q)=true) e w':=by
 obtain⟨R,hR⟩:∃R:Ending→World→Prop,R=fun e w'=>jw w (fun q=>keep (inB A q) (inB B q)=true) e w':=⟨_,rfl⟩
 rw[←hR];obtain⟨AA,cA,eA,lA,h8,_⟩:=id hA;obtain⟨AB,cB,eB,lB,h9,_⟩:=id hB;subst eA eB;obtain⟨S,hS⟩:∃S:Sta,S={ o:=fun _ =>.func (.func fk) #[] #[],a:=fun j=>match j with|1=>AA|_=>AB,n:=fun j=>match j with|1=>A.length|2=>cA|3=>B.length|4=>cB|_=>0 }:=⟨_,rfl⟩;have so:S.o 0=.func (.func fk) #[] #[]:=by rw[hS]
 have e1:S.a 1=AA:=by simp[hS]
 have e2:S.a 2=AB:=by simp[hS]
 have e5:S.n 1=A.length:=by simp[hS]
 have e6:S.n 2=cA:=by simp[hS]
 have e7:S.n 3=B.length:=by simp[hS]
 have e8:S.n 4=cB:=by simp[hS]
 clear hS;refine fnE S (fun _=>(0,0)) [.ag [.sl 1 1 2],.ag [.sl 2 3 4],.one (.v 0)] Tryz.func133 Tryz.ntmps133 rfl (by simp[SV.den,Cl.den,so,e1,e2,e5,e6,e7,e8]) ψ H0 (fun _ h=>h.elim) trivial fun a hd hh=>?_
 refine jK (CL:={}) (fun _=>true) [(2,.one (.v 0)),(3,.one (.p 0 0)),(4,.one (.p 1 0)),(6,.one (.p 2 0))] [(0,[.sl 1 1 2]),(1,[.sl 2 3 4]),(2,[.l (.slice none 0 0)])] 3 [] δ hh eU fun κ1 a1 w1 n1 p1=>?_
 refine ES 6 7 8 [.sl 1 1 2] [.sl 2 3 4] [(2,.one (.v 0)),(6,.one (.p 2 0))] mkZ hPp δ n1 fun κ2 a2 w2 n2 u2 k2 d2 ⟨ds,e9,c4⟩ ⟨dt,fc,c5⟩ b0=>?_
 obtain⟨I,b4⟩:∃z,z=(κ2 3).1:=⟨_,rfl⟩;obtain⟨zb,b5⟩:∃z,z=(κ2 4).1:=⟨_,rfl⟩;refine bQ 2 (fun _=>true) [(2,.one (.v 0)),(6,.one (.p 2 0)),(7,.one (.p 3 0)),(8,.one (.p 4 0)),(9,.one (.l (.slice none 0 0))),(10,.one (.i .u64 (.cv .u64 (.c 0)))),(11,.one (.b (.c true)))] mkZ 5 [] hPp δ n2 fun κ3 a3 w3 n3 p3=>?_
 rw[show([Cl.sl 1 1 2].map (Cl.den S κ2))=[.slice AA A.length cA] by simp[Cl.den,e1,e5,e6],show(κ2 (⟨[(2,SV.one (Cl.v 0)),(3,.one (.p 0 0)),(4,.one (.p 1 0)),(6,.one (.p 2 0))],[(0,[Cl.sl 1 1 2]),(1,[.sl 2 3 4]),(2,[.l (.slice none 0 0)])],3,[]⟩:St).k)=κ2 3 from rfl,←b4]at c4;rw[show([Cl.sl 2 3 4].map (Cl.den S κ2))=[.slice AB B.length cB] by simp[Cl.den,e2,e7,e8],show(κ2 ((⟨[(2,SV.one (Cl.v 0)),(3,.one (.p 0 0)),(4,.one (.p 1 0)),(6,.one (.p 2 0))],[(0,[Cl.sl 1 1 2]),(1,[.sl 2 3 4]),(2,[.l (.slice none 0 0)])],3,[]⟩:St).k+1))=κ2 4 from rfl,←b5]at c5;have ds:w1.heap.size≤I:=by rw[b4];exact ds
 have dt:w1.heap.size≤zb:=by rw[b5];exact dt
 have b0:I≠zb:=by rw[b4,b5];exact b0
 have gu:κ3 3=(I,0):=(p3.upto 3 ψ).trans (by rw[b4];exact Prod.ext rfl e9);have gw:κ3 4=(zb,0):=(p3.upto 4 ψ).trans (by rw[b5];exact Prod.ext rfl fc);have h7:w.heap.size≤(κ3 2).1∧(κ3 2).1<w1.heap.size∧(κ3 2).2=0:=by
  obtain⟨x1,x2,x3⟩:=p1.new.row n1.mem (r:=2) rfl ψ ψ;rw[p3.upto 2 ψ,u2 2 ψ];exact⟨x3,x1.lt,x2⟩
 have bt:Kz w w1:=p1.keep;have c8:Kz w w3:=(bt.trans k2 fun _ _ h=>h).trans p3.keep fun _ _ h=>h
 obtain⟨Z,hZ⟩:∃z,z=w3.heap.size:=⟨_,rfl⟩;have g7:=(c4.keep p3.keep (fun h=>h)).lt;have g8:=(c5.keep p3.keep (fun h=>h)).lt;have f0:∀g,pa Z I zb g→w.heap.size≤g:=fun g hg=>by
  have:=bt.size;have:=c8.size
  rcases hg with rfl|rfl|hg<;>omega
 obtain⟨gA,fp,fr,fs⟩:=(hA.keep bt).blk (pa Z I zb) (fun g hg=>by
  have:=k2.size;have:=p3.keep.size
  rcases hg with rfl|rfl|hg<;>omega) (κ3 2).1 (fun h=>by
  have:=k2.size;have:=p3.keep.size
  rcases h with h|h|h<;>omega)
 obtain⟨gB,fv,fy,fz⟩:=(hB.keep bt).blk (pa Z I zb) (fun g hg=>by
  have:=k2.size;have:=p3.keep.size
  rcases hg with rfl|rfl|hg<;>omega) (κ3 2).1 (fun h=>by
  have:=k2.size;have:=p3.keep.size
  rcases h with h|h|h<;>omega)
 have bw:Kz w1 w3:=k2.trans p3.keep fun _ _ h=>h
 have w0:MkW keep A B Z I zb gA gB ⟨0,true,0,AA,cA,0,AB,cB,[],none,0⟩ w3:={
  sa:=⟨c4.keep p3.keep fun h=>h,lA,Nat.zero_le _,fs⟩
  sb:=⟨c5.keep p3.keep fun h=>h,lB,Nat.zero_le _,fz⟩
  own:=World.ownsRow_nil _ _ _ _
  lA:=fun _ j s hj=>absurd hj (Nat.not_lt_zero _)
  lB:=fun _ j s hj=>absurd hj (Nat.not_lt_zero _)
  inv:=mk0
  pl:=(by decide:0<lim) }
 have d3:a3.defers=[]:=p3.agree.defers.trans (d2.trans (p1.agree.defers.trans hd));refine bO (DB n3 16 mkR (fun _=>true) mkD (fun e=>if e.more then 18446744073709551616-e.p else 0) (pa Z I zb) (mkT I zb) (MkW keep A B Z I zb gA gB) MkW.keep MkW.te (fun r l hl=>?_) ⟨0,true,0,AA,cA,0,AB,cB,[],none,0⟩ w0 (n3.has.re ?_) δ fun e a4 w4 n4 A4 K4=>?_)
 ·unfold mkZ at hl
  rw[cL]at hl;split at hl
  ·rename_i er
   subst er;intro h;have:=k2.size;have:=p3.keep.size
   rcases h with h|h|h<;>omega
  ·cases hl
 ·exact⟨rfl,rfl,rfl,rfl,rfl,rfl,rfl,trivial⟩
 obtain⟨gf,gl,cm,f4,f5,d,bd⟩:=id n4.gh;have hf:=d.set.len;have oZ:∀k,Value.ownBlock (.slice e.oA e.out.length e.oC)=some k→Z≤k:=fun k hk=>by
  cases H:e.oA with
  | none=>rw[H]at hk;cases hk
  | some q =>
   obtain⟨g,o,f⟩:=q;rw[H]at hk cm;obtain rfl:g=k:=by simpa[Value.ownBlock]using hk
   rcases cm.2 with⟨N,_⟩|⟨g',af,d0,N,h2,_⟩
   ·cases N
   ·cases N;exact h2
 cases hm:e.more with
 | false =>
  refine bQ 1 (fun _=>true) (mkR++[(24,.one (.b (.x 16)))]) mkZ 5 [] hPp δ n4 fun κ5 a5 w5 n5 p5=>?_
  refine cD false n5 rfl (show e.more=false from hm) (B3 (oc ?_));rw[hm]at d;simp only[Bool.false_eq_true,if_false]at d;have ez:(κ5 2).1=(κ3 2).1:=by rw[p5.upto 2 ψ]
  have h5:¬ mkT I zb e (κ3 2).1:=fun h=>by
   have:=k2.size;have:=p3.keep.size;have:=(MkW.te e w4 n4.gh _ h).1
   rcases this with h|h|h<;>omega
  have gr:¬ pa Z I zb (κ3 2).1:=fun h=>by
   have:=k2.size;have:=p3.keep.size
   rcases h with h|h|h<;>omega
  have cu:aD (pa Z I zb) w1 w5:=((bw.mono fun _ _ h=>h.elim).trans K4 fun _ _ h=>h).trans (p5.keep.mono fun g _ h=>(MkW.te e w4 n4.gh g h).1) fun _ _ h=>h
  obtain⟨xz,_,_⟩:=p1.new.row n1.mem (r:=2) rfl ψ ψ;have gn:(κ1 2).1=(κ3 2).1:=by rw[p3.upto 2 ψ,u2 2 ψ]
  rw[gn]at xz;have ew:=(xz.keep cu gr).some;have n6:=n5.mute H0 mkZ [] δ (fun _ _ _ h=>h) (fun _ h=>h.elim) trivial;refine nv (CL:={}) 2 2 [] (fun _=>true) [(6,.one (.p 2 0))] [(2,[.sl 16 16 17])] 5 [] δ n6 eU (fun _=>by rw[ez];exact ew) (fun _ h=>by cases h) (fun _ _ _ _ _ _ _=>trivial) fun κ6 a6 w6 n7 u6 k6 g6 _ _=>km ?_
  have go:(κ6 2).1=(κ3 2).1:=by rw[u6 2 ψ,ez]
  refine pX (t:=6) (r:=2) (E:=119) (v := .ag [.sl 16 16 17]) rfl n7.has rfl δ n7.mem.f (g6.defers.trans (p5.agree.defers.trans (A4.defers.trans d3))) ?_;rw[hR];have c7:aD (fun g=>g=(κ3 2).1) w5 w6:=k6.mono fun b _ h=>by rcases h with h|h;exact h.elim;rw[go]at h;exact h
  have ex:=dQ (pb:=(κ3 2).1) n5.gh.own χ (by have:=bw.size;omega) fun s hs=>by
   have N:=(d.set.QV s hs).2.2;have h2:=d.set.ok.some_ s hs;unfold lim;omega
  refine⟨.slice e.oA e.out.length e.oC,e.out,rfl,aK.r (ex.keep c7),fun q hq=>aK.other (ex.keep c7) fun _ g n c hu=>?_,d.set,Da pA pB eb d,?_⟩
  ·have N:=oZ g (by rw[hu];rfl)
   have:=c8.size;omega
  exact(aV bt cu fun g hg=>by have:=f0 g hg;have:=k2.size;have:=p3.keep.size;rcases hg with h|h|h<;>omega).trans c7 fun g hg h=>χ
 | true =>
 rw[hm]at d;simp only[if_true]at d;refine bQ 1 (fun _=>true) (mkR++[(24,.one (.b (.x 16)))]) mkZ 5 [] hPp δ n4 fun κ5 a5 w5 n5 p5=>?_
 refine cD true n5 rfl (show e.more=true from hm) (fQ (vi ?_));obtain⟨Y,g9,bm⟩:=BF (l:=A) (p:=e.p) (A.length-e.ka) e.ka (by have:=gf.2.2.1;omega) (f4 hm);obtain⟨aa,he,bo⟩:=BF (l:=B) (p:=e.p) (B.length-e.kb) e.kb (by have:=gl.2.2.1;omega) (f5 hm);have ra:=zg pA bd bm;have rb:=zg pB bd bo;obtain⟨r1,eq⟩:∃r,r=jO A e.p Y:=⟨_,rfl⟩;obtain⟨r2,eu⟩:∃r,r=jO B e.p aa:=⟨_,rfl⟩;rw[←eq]at ra;rw[←eu]at rb;obtain⟨last,an⟩:∃l,l=min r1.2 r2.2:=⟨_,rfl⟩;obtain⟨ac,D⟩:∃b,b=match e.out.getLast? with|none=>false|some y=>decide (y.2+1=e.p):=⟨_,rfl⟩
 obtain⟨kp,cj⟩:∃b,b=keep r1.1 r2.1:=⟨_,rfl⟩;have kA:∀{w'},aD (mkT I zb e) w5 w'→aD (pa Z I zb) w1 w':=fun{w'} hk=>((bw.mono fun _ _ h=>h.elim).trans K4 fun _ _ h=>h).trans ((p5.keep.mono fun g hg h=>(MkW.te e w4 n4.gh g h).1).trans (hk.mono fun g _ h=>(MkW.te e w4 n4.gh g h).1) fun _ _ h=>h) fun _ _ h=>h
 have et:∀{κ:Kap} {dc:World},κ 3=(I,0)→κ 4=(zb,0)→aD (mkT I zb e) w5 dc→∀i x,(Eb fk)[i]?=some x→∀es w',aD (mkT I zb e) dc w'→mkG A B Z I zb gA gB Y aa e es w'→Calls Tryz.prog x.1 (x.2.1.map (SV.den ((S.put 16 (mkD e)).put 32 (yH r1 r2 last kp ac (.slice e.oA e.out.length e.oC))) κ)).toArray w' fun e' bz=>e'=.returned (x.2.2.den ((S.put 16 (mkD e)).put 32 (yH r1 r2 last kp ac (.slice e.oA e.out.length e.oC))) κ)∧aD (mkT I zb e) w' bz∧mkG A B Z I zb gA gB Y aa e (i::es) bz:=by
  intro κ dc q3 q4 f2 i x H es w' hk hg;have eg:=kA (f2.trans hk fun _ _ h=>h);obtain⟨⟨x1,y1,g1⟩,⟨x2,y2,g2⟩,g3⟩:=hg
  match i,H with
  | 0,H =>
   obtain rfl:=Option.some.inj H;show Calls Tryz.prog 152 #[.pointer (some ⟨(κ 3).1,(κ 3).2+0,none⟩),.int .u64 e.p] w' _;rw[q3];refine(BG (k:=Y) g1 (fr w' eg) (fun h=>fp (.inl h)) (by have:=pA.len;omega) bd (by split<;>omega) bm).mono fun e' bz ⟨N,⟨x3,y3,h2⟩,h3⟩=>⟨by rw[N,←eq];rfl,h3.mono fun g _ h =>.inl h,⟨x3,y3,h2⟩,⟨x2,y2,g2.keep h3 (fun h=>b0 h.symm)⟩,aN g3 h3 fun k hk h=>by have:=oZ k hk;omega⟩
  | 1,H =>
   obtain rfl:=Option.some.inj H;show Calls Tryz.prog 152 #[.pointer (some ⟨(κ 4).1,(κ 4).2+0,none⟩),.int .u64 e.p] w' _;rw[q4];refine(BG (k:=aa) g2 (fy w' eg) (fun h=>fv (.inr (.inl h))) (by have:=pB.len;omega) bd (by split<;>omega) bo).mono fun e' bz ⟨N,⟨x3,y3,h2⟩,h3⟩=>⟨by rw[N,←eu];rfl,h3.mono fun g _ h =>.inr (.inl h),⟨x1,y1,g1.keep h3 b0⟩,⟨x3,y3,h2⟩,aN g3 h3 fun k hk h=>by have:=oZ k hk;omega⟩
  | 2,H =>
   obtain rfl:=Option.some.inj H;refine(f3 r1.1 r2.1 w').mono fun e' bz ⟨N,h3⟩=>⟨by rw[N,←cj];rfl,h3.mono fun _ _ h=>h.elim,⟨x1,y1,g1.keep h3 id⟩,⟨x2,y2,g2.keep h3 id⟩,aN g3 h3 fun _ _ h=>h⟩
 have k5:∀r,r<5→κ5 r=κ3 r:=p5.upto;have n6:Now ((S.put 16 (mkD e)).put 32 (yH r1 r2 last kp ac (.slice e.oA e.out.length e.oC))) κ5 77 Tryz.prog { ET:=Eb fk } (mkH A B Z I zb gA gB Y aa e) ⟨mkR,mkZ,5,[]⟩ a5 w5:=
  ⟨(n5.has.sub δ).on (aS _ 32 _) δ,n5.mem.on (aS _ 32 _) δ,⟨ξ,ξ,ξ,fun i x H es w' hk hg=>et ((k5 3 ψ).trans gu) ((k5 4 ψ).trans gw) (aD.refl _ _) i x H es w' hk hg,(fun _ _ _ _ r l h=>by cases h),ξ⟩,n5.tb,⟨⟨_,_,n5.gh.sa⟩,⟨_,_,n5.gh.sb⟩,n5.gh.own⟩⟩
 refine bQ 2 (fun _=>true) (sT++[(12,.one (.b (.x 32))),(13,.one (.i .u64 (.x 32))),(14,.one (.b (.x 33))),(15,.one (.i .u64 (.x 33)))]) mkZ 5 [1,0] hPp (by rcases ed with rfl|rfl<;>kernel_rfl) n6 fun κ6 a6 w6 n7 p6=>?_
 have f6:∀{ops:List Oper} {κ:Kap},((ops.filter fun o=>o.dst==some 37).map (·.op))=[.call { callee := .builtin .min,args := #[.tmp 35,.tmp 36],argTypes := #[41,41] }]→gJ ((S.put 16 (mkD e)).put 32 (yH r1 r2 last kp ac (.slice e.oA e.out.length e.oC))) κ Tryz.prog ops Ea:=fun{ops κ} bs=>⟨(fun _ h=>by cases h),fun x H o ho hd a w ha=>by
  obtain rfl:=List.mem_singleton.1 H;have h:=C8 (P:=Tryz.prog) (w:=w) (lF bs ho hd) (ha _ (List.mem_cons_self ..)) (ha _ (List.mem_cons_of_mem _ (List.mem_singleton.2 rfl)));rw[←an]at h;exact h⟩
 refine jK (CL:=Ea) (fun _=>true) (sT++[(12,.one (.b (.x 32))),(14,.one (.b (.x 33))),(13,.one (.i .u64 (.x 34)))]) mkZ 5 [1,0] δ n7 (f6 rfl) fun κ7 a7 w7 n8 p7=>?_
 refine jK (CL:={ CL:=[(0,fk,[])] }) (fun _=>true) (sT++[(13,.one (.i .u64 (.x 34))),(41,.one (.b (.x 34)))]) mkZ 5 [2,1,0] (by rcases ed with rfl|rfl<;>kernel_rfl) n8 ⟨fun x H=>by
  obtain rfl:=List.mem_singleton.1 H;exact so,fun _ h=>by cases h⟩ fun κ8 a8 w8 n9 p8=>?_
 obtain⟨S2,C⟩:∃S2,S2=(S.put 16 (mkD e)).put 32 (yH r1 r2 last kp ac (.slice e.oA e.out.length e.oC)):=⟨_,rfl⟩;rw[←C]at n9;have gx:aD (mkT I zb e) w5 w8:=((p6.keep.trans p7.keep fun _ _ h=>h).trans p8.keep fun _ _ h=>h);have kT:∀{x y:World},aD (mkT I zb e) x y→aD (pa Z I zb) x y:=fun hk=>hk.mono fun g _ h=>(MkW.te e w4 n4.gh g h).1
 have cv:aD (pa Z I zb) w3 w8:=(K4.trans (kT p5.keep) fun _ _ h=>h).trans (kT gx) fun _ _ h=>h
 have d8:a8.defers=[]:=p8.agree.defers.trans (p7.agree.defers.trans (p6.agree.defers.trans (p5.agree.defers.trans (A4.defers.trans d3))));have u8:∀r,r<5→κ8 r=κ3 r:=fun r hr=>(p8.upto r hr).trans ((p7.upto r hr).trans ((p6.upto r hr).trans (k5 r hr)))
 obtain⟨⟨xA,yA,g1⟩,⟨xB,yB,g2⟩,g3⟩:=id n9.gh;have g1:iC w8 I gA A Y xA yA:=g1;have g2:iC w8 zb gB B aa xB yB:=g2;obtain⟨J,hJ⟩:∃J:Act→World→Prop,J=fun a' w'=>∃(κ':Kap) (L:List Sp) (cb:Option Addr) (cc:Nat),ce 5 κ3 κ'∧Has ((S.put 16 (mkD ⟨e.p,true,Y,xA,yA,aa,xB,yB,L,cb,cc⟩)).put 32 (yH r1 r2 last kp ac (.slice e.oA e.out.length e.oC))) κ' 77 [(2,.one (.v 0)),(6,.one (.p 2 0)),(7,.one (.p 3 0)),(8,.one (.p 4 0)),(9,.one (.sl 16 16 17)),(13,.one (.i .u64 (.x 34)))] a' ∧
  w'.ownsRow Z 125 2 (.slice cb L.length cc) L.length (spC L)∧MkI keep A B (last+1) L∧a'.defers=[]∧aD (fun g=>Z≤g) w8 w':=⟨_,rfl⟩
 have step:=C7 d (last:=last) (b1:=r1.1) (b2:=r2.1) χ (by
  rcases Nat.le_total r1.2 r2.2 with h|h
  ·rw[an,Nat.min_eq_left h];exact ra.2.2.1
  ·rw[an,Nat.min_eq_right h];exact rb.2.2.1) (fun hk=>by
  have:=ra.2.2.2.1;have:=rb.2.2.2.1;have f7:r1.1=true∨r2.1=true:=by
   cases c1:r1.1<;>cases c2:r2.1
   ·rw[c1,c2,eb]at hk;cases hk
   all_goals simp
  rcases f7 with h|h
  ·have:=ra.2.2.2.1 h;omega
  ·have:=rb.2.2.2.1 h;omega) (fun q N h2=>ra.2.2.2.2 q N χ) (fun q N h2=>rb.2.2.2.2 q N χ)
 rw[←cj]at step;refine Cc 1 J ?_ fun a9 w9 hj=>?_
 ·have ea:S2.b 34=kp:=by rw[C];rfl
  cases hkp2:kp with
  | false =>
   rw[hkp2]at step;refine cD false n9 rfl (ea.trans hkp2) (fQ ?_);refine⟨rfl,?_⟩;rw[hJ];exact⟨κ8,e.out,e.oA,e.oC,u8,by subst C;exact n9.has.re ⟨rfl,rfl,rfl,rfl,rfl,rfl,trivial⟩,g3,step,d8,aD.refl _ _⟩
  | true =>
  rw[hkp2]at step;simp only[if_true]at step;refine cD true n9 rfl (ea.trans hkp2) ?_;have bx:=n9.has.now (P:=Tryz.prog) 5 w8;have U:S2.n 16=e.out.length:=by rw[C];rfl
  have bb:S2.a 16=e.oA:=by rw[C];rfl
  have cw:S2.i 16=e.p:=by rw[C];rfl
  have cx:S2.i 34=last:=by rw[C];rfl
  have bc:S2.b 35=ac:=by rw[C];rfl
  have cy:S2.o 32=.slice e.oA e.out.length e.oC:=by rw[C];rfl
  obtain⟨J2,d7⟩:∃J:Act→World→Prop,J=fun a' w'=>∃κ':Kap,ce 5 κ8 κ'∧Has S2 κ' 77 (sT++[(13,.one (.i .u64 (.x 34))),(16,.one (.i .i64 (.ln 16))),(56,.one (.b (.x 35)))]) a'∧a'.defers=[]∧Kz w8 w':=⟨_,rfl⟩
  refine Cc 2 J2 ?_ fun a9 w9 ee=>?_
  ·rw[d7]
   cases K:e.out.getLast? with
   | none =>
    have eo:e.out=[]:=List.getLast?_eq_none_iff.1 K;refine bQ 2 (fun _=>true) (sT++[(13,.one (.i .u64 (.x 34))),(16,.one (.i .i64 (.ln 16))),(56,.one (.b (.c false)))]) [] 5 [] hPp δ (bx.fa [(.cmp .gtr (.ln 16) (.c 0),false)] (fa1 (by
     show decide ((S2.n 16:Int)>0)=false;rw[U,eo];rfl))) fun κ9 a9 w9 ad p9=>ch rfl ?_
    refine⟨rfl,κ9,p9.upto,ad.has.re ⟨rfl,rfl,rfl,rfl,rfl,rfl,rfl,rfl,?_,trivial⟩,p9.agree.defers.trans d8,p9.keep⟩;show Value.bool false=Value.bool (S2.b 35);rw[bc,D,K]
   | some y =>
    obtain⟨t,X,_⟩:=fq K;have V:e.out.length=t.length+1:=by rw[X];simp
    obtain⟨g,al,bl⟩:∃g,e.oA=some ⟨g,0,none⟩∧g<w8.heap.size:=by
     rcases g3.2 with⟨_,h2⟩|⟨g,af,d0,N,_,h3,_⟩
     ·omega
     ·cases H:e.oA with
      | none=>rw[H]at N;cases N
      | some q=>rw[H]at N;cases N;exact⟨_,rfl,eZ h3⟩
    have h4:=d.set.QV y (by rw[X];simp);have ey:=d.lt y (by rw[X];simp);obtain⟨S3,O⟩:∃S3,S3=S2.put 48 (Dk [y.1,y.2]):=⟨_,rfl⟩;have fe:S3.i 48=y.1:=by rw[O];rfl
    have d1:S3.i 49=y.2:=by rw[O];rfl
    have fd:S3.i 16=e.p:=by rw[O];exact cw
    have bf:S3.n 16=e.out.length:=by rw[O];exact U
    have d4:S3.a 16=e.oA:=by rw[O];exact bb
    have Q:IE.den S3 (.bin .sub .i64 (.ln 16) (.c 1))=(t.length:Int):=by
     show IntKind.i64.wrap ((S3.n 16:Int)-1)=_;rw[bf,V,show((t.length+1:Nat):Int)-1=t.length by omega];exact IntWalk.i64_in _ χ
    have ad:Now S3 κ8 77 Tryz.prog {} H0 ⟨sT++[(13,.one (.i .u64 (.x 34)))],[],5,[]⟩ a8 w8:=by
     rw[O];exact((n9.has.sub δ).on (aS S2 48 _) δ).now 5 w8
    obtain⟨κ9,u9,h6,ca⟩:=ad.base g (2*t.length) [.i .u64 (.x 48),.i .u64 (.x 49)] ⟨bl,fun h=>h⟩ (fun j v hj=>by
     obtain⟨s1,s2⟩:=ns e.out t.length y (by rw[X];simp);have W:=g3;rw[al]at W;obtain⟨g',af,hv,_⟩:=W.form χ;have c1:=(W.cellAt (t.length*2) (by rw[V];omega)).trans s1;have c2:=(W.cellAt (t.length*2+1) (by rw[V];omega)).trans s2;rw[show 2*t.length=t.length*2 by omega]
     match j,hj with
     | 0,hj =>
      obtain rfl:=Option.some.inj hj;rw[show Cl.den S3 (fun _=>(0,0)) (.i .u64 (.x 48))=.int .u64 (S3.i 48) from rfl,fe];exact c1
     | 1,hj =>
      obtain rfl:=Option.some.inj hj;rw[show Cl.den S3 (fun _=>(0,0)) (.i .u64 (.x 49))=.int .u64 (S3.i 49) from rfl,d1];exact c2) [(16,2,.bin .sub .i64 (.ln 16) (.c 1),16,5)] δ (fun x H=>by
     obtain rfl:=List.mem_singleton.1 H;refine⟨?_,?_,g,0,?_,?_⟩
     ·rw[Q];omega
     ·show IE.den S3 (.bin .sub .i64 (.ln 16) (.c 1))<(S3.n 16:Int)
      rw[Q,bf,V];omega
     ·show S3.a 16=_
      rw[d4,al]
     ·show(g,2*t.length)=(g,0+(IE.den S3 (.bin .sub .i64 (.ln 16) (.c 1))).toNat*2)
      rw[Q]
      congr 1
      omega)
    refine bQ 2 (fun _=>true) (sT++[(13,.one (.i .u64 (.x 34))),(16,.one (.i .i64 (.ln 16))),(56,.one (.b (.cmp .eql (.x 49) (.bin .sub .u64 (.x 16) (.c 1)))))]) [] 6 [] hPp δ (ca.fa [(.cmp .gtr (.ln 16) (.c 0),true)] (fa1 (by
     show decide ((S3.n 16:Int)>0)=true;rw[bf,V];exact decide_eq_true χ))) fun cf a9 w9 gy p9=>ch rfl ?_
    refine⟨rfl,cf,fun r hr=>(p9.upto r (by show r<6;omega)).trans (u9 r hr),gy.has.re ⟨?_,rfl,rfl,rfl,?_,?_,?_,?_,?_,trivial⟩,p9.agree.defers.trans d8,p9.keep⟩
    ·rw[O];rfl
    ·rw[O];rfl
    ·rw[O];rfl
    ·rw[O];rfl
    ·rw[O];rfl
    ·show Value.bool ((S3.i 49)==IntKind.u64.wrap (S3.i 16-1))=Value.bool (S2.b 35)
     rw[bc,D,K,d1,fd];simp only
     congr 1
     have h0:e.p<18446744073709551616:=bd;rw[dE χ,Bool.eq_iff_iff];simp;omega
  ·rw[d7]at ee
   obtain⟨κ9,u9,f9,d9,k9⟩:=ee
   cases hc:ac with
   | false =>
    refine cD false (f9.now (P:=Tryz.prog) 5 w9) rfl (bc.trans hc) ?_;have o9:=aN g3 k9 (fun _ _ h=>h);have ff:Has S2 κ9 77 [(2,.one (.v 0)),(6,.one (.p 2 0)),(7,.one (.p 3 0)),(8,.one (.p 4 0)),(9,.one (.v 32)),(10,.one (.i .u64 (.x 16))),(13,.one (.i .u64 (.x 34)))] a9:=f9.re ⟨rfl,rfl,rfl,rfl,by
     show Value.slice (S2.a 16) (S2.n 16) (S2.n 17)=S2.o 32;rw[cy,bb,U,C];rfl,rfl,rfl,trivial⟩
    have a0:push e.out e.p last=e.out++[(e.p,last)]:=by
     unfold push
     cases K:e.out.getLast? with
     | none=>rw[List.getLast?_eq_none_iff.1 K];rfl
     | some y =>
      rw[K]at D;simp only;rw[if_neg];intro h;rw[hc]at D;simp[h]at D
    rw[a0]at step;refine G4 (z:=Z) (n:=e.out.length) (size:=2) (bytes:=16) (e:=125) (v := .slice e.oA e.out.length e.oC) (xs:=spC e.out) (ys:=dV (e.p,last)) 4 117 32 (.ag [.i .u64 (.x 16),.i .u64 (.x 34)]) 48 9 (fun _=>true) [(2,.one (.v 0)),(6,.one (.p 2 0)),(7,.one (.p 3 0)),(8,.one (.p 4 0)),(13,.one (.i .u64 (.x 34)))] δ (ff.now 5 w9) ⟨Tryz.underlying117,δ,ψ,ψ⟩ cy o9 ?_ ?_ rfl ?_ ?_ ?_ ?_
    ·have:=(c8.size);have:=k9.size;have:=cv.size;omega
    ·show #[Value.int .u64 (S2.i 16),.int .u64 (S2.i 34)]=_
     rw[cw,cx];rfl
    ·intro u hu
     rcases List.mem_cons.1 hu with rfl|hu
     ·rfl
     ·obtain rfl:=List.mem_singleton.1 hu;rfl
    ·unfold maxLen;omega
    ·omega
    ·intro v' di cd e0 gs hp fi dk
     refine ch rfl ⟨rfl,?_⟩;rw[hJ];obtain⟨g,af,hv,_⟩:=e0.form χ;subst hv;have bp:(e.out++[(e.p,last)]).length=e.out.length+1:=ξ
     refine⟨κ9,e.out++[(e.p,last)],some ⟨g,0,none⟩,af,fun r hr=>(u9 r hr).trans (u8 r hr),fi.re ⟨by rw[C];rfl,rfl,rfl,rfl,?_,by rw[C];rfl,trivial⟩,?_,step,dk.defers.trans d9,(k9.mono fun _ _ h=>h.elim).trans (gs.mono fun g _ h=>oZ g h) fun _ _ h=>h⟩
     ·show Value.slice (some ⟨g,0,none⟩) (e.out.length+1) af=Value.slice (some ⟨g,0,none⟩) (e.out++[(e.p,last)]).length af
      rw[bp]
     ·rw[bp,jJ];exact e0
   | true =>
    refine cD true (f9.now (P:=Tryz.prog) 5 w9) rfl (bc.trans hc) ?_;obtain⟨y,K,ey⟩:∃y,e.out.getLast?=some y∧y.2+1=e.p:=by
     cases K:e.out.getLast? with
     | none=>rw[K,hc]at D;cases D
     | some y=>exact⟨y,rfl,by rw[K,hc]at D;simpa using D.symm⟩
    obtain⟨t,X,ht⟩:=fq K;have V:e.out.length=t.length+1:=by rw[X];simp
    have o9:=aN g3 k9 (fun _ _ h=>h);obtain⟨g,al,bl⟩:∃g,e.oA=some ⟨g,0,none⟩∧g<w9.heap.size:=by
     rcases o9.2 with⟨_,h2⟩|⟨g,af,d0,N,_,h3,_⟩
     ·omega
     ·cases H:e.oA with
      | none=>rw[H]at N;cases N
      | some q=>rw[H]at N;cases N;exact⟨_,rfl,eZ h3⟩
    have f1:Z≤g:=oZ g (by rw[al];rfl);have a0:push e.out e.p last=t++[(y.1,last)]:=by
     unfold push;rw[K];simp only;rw[if_pos ey,X,List.dropLast_concat]
    rw[a0]at step;have Q:IE.den S2 (.bin .sub .i64 (.ln 16) (.c 1))=(t.length:Int):=by
     show IntKind.i64.wrap ((S2.n 16:Int)-1)=_;rw[U,V,show((t.length+1:Nat):Int)-1=t.length by omega];exact IntWalk.i64_in _ χ
    let Hg:Gh:=Gh.two (fun b=>b=g) (fun w=>w.ownsRow Z 125 2 (.slice e.oA e.out.length e.oC) e.out.length (spC e.out)) (fun w=>w.ownsRow Z 125 2 (.slice e.oA e.out.length e.oC) e.out.length (spC (t++[(y.1,last)]))) (fun _ _ hk h=>aN h hk (fun _ _ h=>h)) (fun _ _ hk h=>aN h hk (fun _ _ h=>h))
    have bx:Now S2 κ9 77 Tryz.prog {} Hg ⟨sT++[(13,.one (.i .u64 (.x 34))),(16,.one (.i .i64 (.ln 16)))],[],5,[]⟩ a9 w9:=⟨f9.sub δ,⟨fun _ _ h=>by cases h⟩,noC _ _ _ _ _,fun b hb=>by rw[show b=g from hb];exact bl,o9⟩;obtain⟨cf,g4,cp,ad⟩:=bx.baseT g (2*t.length) [(16,2,.bin .sub .i64 (.ln 16) (.c 1),16,5)] δ (fun x H=>by
     obtain rfl:=List.mem_singleton.1 H;refine⟨?_,?_,g,0,?_,?_⟩
     ·rw[Q];omega
     ·show IE.den S2 (.bin .sub .i64 (.ln 16) (.c 1))<(S2.n 16:Int)
      rw[Q,U,V];omega
     ·show S2.a 16=_
      rw[bb,al]
     ·show(g,2*t.length)=(g,0+(IE.den S2 (.bin .sub .i64 (.ln 16) (.c 1))).toNat*2)
      rw[Q]
      congr 1
      omega)
    refine DM (CL:={}) 6 5 1 [.i .u64 (.x 34)] [] (fun _=>true) [(2,.one (.v 0)),(6,.one (.p 2 0)),(7,.one (.p 3 0)),(8,.one (.p 4 0)),(9,.one (.sl 16 16 17)),(13,.one (.i .u64 (.x 34)))] [] 6 [99] δ ad eU (by rw[cp];rfl) (fun w1 hw b3=>?_) fun g5 di cd ca c9=>ch rfl ⟨rfl,?_⟩
    ·rw[cp]
     have b3:w1.ownsRow Z 125 2 (.slice e.oA e.out.length e.oC) e.out.length (spC e.out):=b3;rw[al,X]at b3;obtain⟨cs,c1,c2,c3⟩:=By b3 last;refine⟨cs,125,c1,c2,?_⟩;show World.ownsRow _ Z 125 2 (.slice e.oA e.out.length e.oC) e.out.length (spC (t++[(y.1,last)]));rw[al,X];show World.ownsRow (w1.setRow g (bn cs (2*t.length+1) [.int .u64 (S2.i 34)])) _ _ _ _ _ _;rw[cx];exact c3
    ·rw[hJ]
     have bp:(t++[(y.1,last)]).length=e.out.length:=by simp[V]
     refine⟨g5,t++[(y.1,last)],e.oA,e.oC,fun r hr=>(c9.upto r (by show r<6;omega)).trans ((g4 r hr).trans ((u9 r hr).trans (u8 r hr))),ca.has.re ⟨by rw[C];rfl,rfl,rfl,rfl,?_,by rw[C];rfl,trivial⟩,?_,step,c9.agree.defers.trans d9,(k9.mono fun _ _ h=>h.elim).trans (c9.keep.mono fun b _ h=>by rw[show b=g from h];exact f1) fun _ _ h=>h⟩
     ·show Value.slice (S2.a 16) (S2.n 16) (S2.n 17)=Value.slice e.oA (t++[(y.1,last)]).length e.oC
      rw[bp,U,bb,C];rfl
     ·rw[bp];exact ca.gh
 ·rw[hJ]at hj
  obtain⟨κ9,L,cb,cc,u9,f9,o9,m9,d9,k9⟩:=hj;have bx:=f9.now (P:=Tryz.prog) 5 w9;have en:∀{ops:List Oper} {S:Sta} {κ:Kap},((ops.filter fun o=>o.dst==some 73).map (·.op))=[.unOp .xor 41 (.tmp 72)]→gJ S κ Tryz.prog ops EY:=fun{ops S κ} bs=>⟨(fun _ h=>by cases h),fun x H o ho hd a w ha=>by
   obtain rfl:=List.mem_singleton.1 H;exact wC (lF bs ho hd) (ha _ (List.mem_singleton.2 rfl))⟩
  refine jK (CL:=EY) (fun _=>true) [(2,.one (.v 0)),(6,.one (.p 2 0)),(7,.one (.p 3 0)),(8,.one (.p 4 0)),(9,.one (.sl 16 16 17)),(10,.one (.i .u64 (.bin .add .u64 (.x 34) (.c 1)))),(11,.one (.b (.cmp .neq (.x 34) (.c 18446744073709551615))))] [] 5 [] δ bx (en rfl) fun cf di cd ad be=>Dt rfl ?_
  have hy:last<18446744073709551616:=by
   have:=ra.2.1;have:=rb.2.1;omega
  have hn:e.p≤last:=by
   have:=ra.1;have:=rb.1;omega
  have fl:iC cd I gA A Y xA yA:=(g1.keep k9 χ).keep be.keep (fun h=>h);have fm:iC cd zb gB B aa xB yB:=(g2.keep k9 χ).keep be.keep (fun h=>h);refine⟨⟨if last=18446744073709551615 then 0 else last+1,decide (last≠18446744073709551615),Y,xA,yA,aa,xB,yB,L,cb,cc⟩,cf,?_,⟨fl,fm,aN o9 be.keep (fun _ _ h=>h),fun c6 j s hj hs=>?_,fun c6 j s hj hs=>?_,?_,?_⟩,?_,?_,?_,?_⟩
  ·show(if decide (last≠18446744073709551615)=true then 18446744073709551616-(if last=18446744073709551615 then 0 else last+1)else 0)<if true=true then 18446744073709551616-e.p else 0
   have hz:e.p<18446744073709551616:=bd
   by_cases c:last=18446744073709551615
   ·simp only[c,ne_eq,not_true,decide_false,if_true,Bool.false_eq_true,if_false]
    omega
   ·simp only[c,ne_eq,not_false_eq_true,decide_true,if_true,if_false]
    omega
  ·have c:last≠18446744073709551615:=by simpa using c6
   show s.2<if last=18446744073709551615 then 0 else last+1
   rw[if_neg c];have:=bm.lo j s hj hs;omega
  ·have c:last≠18446744073709551615:=by simpa using c6
   show s.2<if last=18446744073709551615 then 0 else last+1
   rw[if_neg c];have:=bo.lo j s hj hs;omega
  ·show MkI keep A B (if decide (last≠18446744073709551615)=true then(if last=18446744073709551615 then 0 else last+1)else 18446744073709551616) L
   by_cases c:last=18446744073709551615
   ·subst c
    simpa using m9
   ·simpa[c]using m9
  ·show(if last=18446744073709551615 then 0 else last+1)<lim
   unfold lim;split<;>omega
  ·exact fun r hr=>(be.upto r hr).trans (u9 r hr)
  ·refine ad.has.re ⟨rfl,rfl,rfl,rfl,rfl,?_,?_,trivial⟩
   ·show Value.int .u64 (IntKind.u64.wrap ((last:Int)+1))=Value.int .u64 ((if last=18446744073709551615 then 0 else last+1:Nat):Int)
    congr 1
    split
    ·rename_i c;subst c;decide
    ·rw[dE χ];omega
   ·show Value.bool ((last:Int)!=18446744073709551615)=Value.bool (decide (last≠18446744073709551615))
    congr 1
    rw[Bool.eq_iff_iff];simp;omega
  ·exact⟨ad.has.size.trans n3.has.size.symm,(be.agree.defers.trans d9).trans d3.symm,fun _ h=>by cases h⟩
  ·exact(cv.trans (k9.mono fun g _ h =>.inr (.inr h)) fun _ _ h=>h).trans (K_T be.keep) fun _ _ h=>h
end Rs
namespace Rs
open Go.RowKit Ck
