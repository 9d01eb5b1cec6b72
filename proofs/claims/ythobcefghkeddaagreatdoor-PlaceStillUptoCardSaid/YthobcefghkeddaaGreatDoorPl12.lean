import Derived.Test.YthobcefghkeddaaGreatDoorPl10
import Derived.Test.YthobcefghkeddaaGreatDoorPl8
set_option maxRecDepth 100000
set_option linter.all false
set_option maxHeartbeats 4000000
namespace Go.Proofs.YthobcefghkeddaaGreatDoor
namespace Rs
open Go.RowKit Ck
variable {w0 w:World} {b:Nat} {φ:Nat→Prop}
theorem dy.fresh{e:SlE}(h:dy w0 b φ e w):∀g o,e.A=some ⟨g,o,none⟩→0<e.n→w0.heap.size≤g:=fun g o B D=>by
 obtain⟨_,l,C,_,y,_⟩:=h
 rcases Nat.lt_or_ge g w0.heap.size with c|c
 ·obtain⟨A,c2,d,_,_,j⟩:=y g c
  obtain⟨u,e3,_,e4,_⟩:=j χ;rw[B,e3]at d;have q:g=u:=by
   have:=congrArg (fun v=>match v with|Value.slice (some x) _ _=>x.block|_=>0) d;exact this
  exact absurd q.symm e4
 ·exact c
theorem dy.mono{d:World}{e:SlE}(h:dy d b φ e w)(B:w0.heap.size≤d.heap.size):dy w0 b φ e w:=by
 obtain⟨g,l,j,u,v,x⟩:=h;exact⟨g,l,j,u,fun q y=>v q χ,x⟩
def l1S(e:SlE)(size al:Nat)(o:Option Nat):Sta where
 i j:=match j with|0=>size|1=>al|_=>(o.getD 0:Nat)
 b _:=o.isSome
 a _:=e.A
 n j:=match j with|17=>e.n|_=>e.c
def l1R:Fr:=[(0,.one (.i .u64 (.x 0))),(1,.one (.i .u64 (.x 1))),(2,.one (.p 0 0))]
def G9:List (FuncId×List SV×SV):=[(52,[.ag [.sl 16 17 18],.one (.i .u64 (.x 0)),.one (.i .u64 (.x 1))],.tu [.i .u64 (.x 2),.b (.x 0)])]
theorem sk{w w0:World}{b:Nat}{φ:Nat→Prop}{e:SlE}(hE:dy w0 b φ e w)(h0:w0.heap.size≤w.heap.size){size al:Nat}(Z:size<lim)(L:size%4096=0)(v:al=4096∨al=2097152):
 Calls Tryz.prog 51 #[.int .u64 size,.int .u64 al,.pointer (some ⟨b,0,none⟩)] w fun J w'=>J=.returned (Aq (fit φ size al))∧aD (fun g=>g=b) w w'∧∃e',dy w0 b (match fit φ size al with|some p=>off φ p size|none=>φ) e' w'∧(e'=e∨∀g o,e'.A=some ⟨g,o,none⟩→0<e'.n→w.heap.size≤g):=by
 obtain⟨R,C⟩:∃R:Ending→World→Prop,R=fun J w'=>J=.returned (Aq (fit φ size al))∧aD (fun g=>g=b) w w'∧∃e',dy w0 b (match fit φ size al with|some p=>off φ p size|none=>φ) e' w'∧(e'=e∨∀g o,e'.A=some ⟨g,o,none⟩→0<e'.n→w.heap.size≤g):=⟨_,rfl⟩
 rw[←C];obtain⟨H,l,r2,V,r4,I,W⟩:=hE;have hφ:aj l=φ:=funext fun q=>propext (W q)
 have d:=fun{w'} (hk:Kz w w')=>CR (V.keep hk) I Z v
 rw[hφ]at d;obtain⟨o,Y⟩:∃o,o=fit φ size al:=⟨_,rfl⟩;simp only[←Y]at d C;have hb:=H.lt;refine fnE (l1S e size al o) (fun _=>(b,0)) [.one (.i .u64 (.x 0)),.one (.i .u64 (.x 1)),.one (.p 0 0)] Tryz.func51 Tryz.ntmps51 rfl rfl ψ H0 (fun _ h=>h.elim) trivial fun a X hh=>?_
 have n0:Now (l1S e size al o) (fun _=>(b,0)) 24 Tryz.prog {} H0 ⟨l1R,[],1,[]⟩ a w:=⟨hh.has,hh.mem,hh.ctx,hh.tb,hh.gh⟩;have n1:=(n0.row 0 [.sl 16 17 18] rfl H).more [] G9 [] hO (fun y O w' D=>by
  obtain rfl:=List.mem_singleton.1 O;exact d D) (fun i x N=>by cases N)
 refine bQ 3 (fun _=>true) ([(7,.one (.i .u64 (.x 2))),(8,.one (.b (.x 0))),(16,.one (.b (.x 0)))]++l1R) [(0,[.sl 16 17 18])] 1 [] hPp δ n1 fun κ2 a2 w2 E j=>?_
 have k2:κ2 0=(b,0):=j.upto 0 ψ
 cases hok:o with
 | none =>
  subst hok;refine cD false E rfl rfl (fQ ?_);refine eL 2 (fun _=>true) [(5,.one (.i .u64 (.x 2))),(6,.one (.b (.x 0)))] [] 1 [] hPp δ E fun κ3 a3 w3 Q p3=>?_
  refine kn rfl Q.has rfl rfl (p3.agree.defers.trans (j.agree.defers.trans X)) ?_;rw[C];have hk:Kz w w3:=j.keep.trans p3.keep fun _ _ h=>h
  exact⟨rfl,hk.mono fun _ _ h=>h.elim,e,dy.keep hk ⟨H,l,r2,V,r4,I,W⟩,.inl rfl⟩
 | some p =>
  subst hok;have hL:=jX.1 Y.symm;have u:p<lim∧p%4096=0:=by
   obtain⟨q1,⟨q2,q3⟩,_⟩:=hL;have:=q3 p (Nat.le_refl _) χ;rw[←hφ]at this;obtain⟨s,K,aa,ac⟩:=this;have:=(I.QV s K).2.2;obtain⟨c,rfl⟩:=q2;refine⟨by unfold lim;omega,?_⟩
   rcases v with rfl|rfl<;>omega
  refine cD true E rfl rfl ?_;have Q:=(E.lay 24 (sp2 (cg p size)) δ).more [] [(54,[.one (.i .u64 (.x 2)),.one (.i .u64 (.x 0))],.ag [.i .u64 (.x 24),.i .u64 (.x 25)])] [] hO (fun y O w' D=>by
   obtain rfl:=List.mem_singleton.1 O;exact rV p size u.1 Z w') (fun i x N=>by cases N)
  refine DL 4 53 0 (.ag [.sl 16 17 18]) (.ag [.i .u64 (.x 24),.i .u64 (.x 25)]) ([(17,.ag [.sl 16 17 18]),(20,.ag [.i .u64 (.x 24),.i .u64 (.x 25)]),(7,.one (.i .u64 (.x 2))),(8,.one (.b (.x 0)))]++l1R) (off φ p size) w b hPp δ Q k2 ⟨_,H.keep j.keep (fun h=>h)⟩ j.keep.size (fun w' D=>?_) fun a4 w4 f4 g4 k4 d4=>?_
  ·refine(me (V.keep (j.keep.trans D fun _ _ h=>h)) I (qn u.2 L u.1)).mono fun e2 ad ⟨u2,l2,z1,z2,z3,z4,z5,z6⟩=>⟨u2,l2,z1,z2,z3,z4,fun q=>(z5 q).trans ?_,z6⟩
   unfold off;rw[←W,←rU]
  ·refine eL 2 (fun _=>true) [(5,.one (.i .u64 (.x 2))),(6,.one (.b (.x 0)))] [] 1 [] hPp δ (f4.now (P:=Tryz.prog) 1 w4) fun κ5 a5 w5 n5 U=>?_
   refine kn rfl n5.has rfl rfl (U.agree.defers.trans (d4.trans (j.agree.defers.trans X))) ?_;rw[C];obtain⟨e',B⟩:=g4.e;exact⟨rfl,((j.keep.mono fun _ _ h=>h.elim).trans k4 fun _ _ h=>h).trans (U.keep.mono fun _ _ h=>h.elim) fun _ _ h=>h,e',(B.keep U.keep).mono h0,.inr B.fresh⟩
end Rs
namespace Rs
open Go.RowKit Ck
variable {w0 w w':World} {b:Nat}
def AY(u:Value)(im:Nat)(pg:Int):Value := .agg #[u,.int .u64 im,.int .i64 pg]
def Cq(w0:World)(P:aF)(ok:Bool)(pg:Nat)(en:Ending)(w:World):Prop:=
 (match ok with
  | false=>en=.returned (.tuple #[AY (.slice none 0 0) 0 0,.int .i64 (-1),.int .i64 1])
  | true=>match dU P pg with
   | (none,n,e)=>en=.returned (.tuple #[AY (.slice none 0 0) 0 0,.int .i64 n,.int .i64 e])
   | (some l,n,e)=>∃u,en=.returned (.tuple #[AY u l.image l.pages,.int .i64 n,.int .i64 e])∧w.ownsRow w0.heap.size 41 1 u l.Q3.length (l.Q3.map fun(x:Nat)=>Value.int .u64 x)∧∀x∈l.Q3,x<lim)∧Kz w0 w
def zL:List Cl:=[.l (.slice none 0 0),.i .u64 (.c 0),.i .i64 (.c 0)]
def tw(a x:Int):Sta where
 i j:=match j with|0=>a|_=>x
theorem AS{m n:Nat}(h:m≤n):∀j,lo m j=true→lo n j=true:=fun j d=>by
 have:=Nat.le_of_ble_eq_true d;exact Nat.ble_eq_true_of_le χ
def fnD(b pg:Nat):Sta where
 o _ := .func (.func 51) #[] #[.pointer (some ⟨b,0,none⟩)]
 i _:=pg
def GA:Kn:={ KO:=[(26,[(7,.one (.p 2 0))],.one (.v 40))] }
def lyR:Fr:=[(32,.one (.i .i64 (.ln 2))),(31,.one (.sl 2 2 14)),(1,.one (.p 0 0)),(2,.one (.p 1 0)),(7,.one (.p 2 0)),(8,.one (.v 40)),(9,.one (.p 3 0))]
theorem dy.other{φ:Nat→Prop}{e:SlE}{T:Nat→Prop}(h:dy w0 b φ e w)(hk:aD T w w')(J:¬ T b)(K:∀g o,e.A=some ⟨g,o,none⟩→0<e.n→¬ T g):dy w0 b φ e w':=by
 obtain⟨C,l,D,E,H,I⟩:=h;have x:bZ w' (.slice e.A e.n e.c) l:=by
  obtain⟨A,c,d,N,O,Q⟩:=E;refine⟨A,c,d,N,O,fun u=>?_⟩;obtain⟨g,j,R,U⟩:=Q u;have e3:e.A=A:=by
   have:=congrArg (fun v=>match v with|Value.slice A _ _=>A|_=>none) d;exact this
  exact⟨g,j,Nat.lt_of_lt_of_le R hk.size,U.keep hk (K g 0 (e3.trans j) χ)⟩
 refine⟨C.keep hk J,l,D,x,fun q L=>aK.other x.Q7 fun u g n c y B=>?_,I⟩;obtain⟨A,c2,d,_,_,j⟩:=H q L;obtain⟨V,e3,_,e4,_⟩:=j u;rw[d,e3]at y
 cases y
 exact e4 B
theorem dy.lt{φ:Nat→Prop}{e:SlE}(h:dy w0 b φ e w):∀g o,e.A=some ⟨g,o,none⟩→0<e.n→g<w.heap.size:=fun g o y J=>by
 obtain⟨D,l,E,u,H,I⟩:=h;obtain⟨A,c,d,K,L,B⟩:=u;obtain⟨q,j,N,O⟩:=B χ;rw[y,j]at d;have C:g=q:=by
  have:=congrArg (fun v=>match v with|Value.slice (some x) _ _=>x.block|_=>0) d;exact this
 omega
theorem Now.sub{S:Sta}{κ:Kap}{N:Nat}{P:Program}{C:Ctx}{H:Gh}{F:Fr}{M:Mm}{k:Nat}{d:List Nat}{a:Act}(h:Now S κ N P C H ⟨F,M,k,d⟩ a w){F':Fr}(g:gz F F'=true):Now S κ N P C H ⟨F',M,k,d⟩ a w:=⟨h.has.sub g,h.mem,h.ctx,h.tb,h.gh⟩
structure LyE where
 f:SlE
 S:PS
 out:List Nat
 oA:Option Addr
 oC:Nat
def lyD(e:LyE):Sta where
 a j:=match j with|0=>e.f.A|_=>e.oA
 n j:=match j with|0=>0|1=>e.f.n|2=>e.f.c|3=>e.out.length|_=>e.oC
structure LyB (w0:World) (b z Z pg:Nat) (e:LyE) (w:World):Prop where
 free:dy w0 b e.S e.f w
 nz:∀g o,e.f.A=some ⟨g,o,none⟩→0<e.f.n→g≠z∧(Value.slice e.oA e.out.length e.oC).ownBlock≠some g
 row:Row w z [.slice e.oA e.out.length e.oC,.int .u64 0,.int .i64 pg]
 own:w.ownsRow Z 41 1 (.slice e.oA e.out.length e.oC) e.out.length (e.out.map fun(x:Nat)=>Value.int .u64 x)
 lim:∀x∈e.out,x<lim
theorem LyB.keep{z Z pg:Nat}{e:LyE}(hk:Kz w w')(h:LyB w0 b z Z pg e w):LyB w0 b z Z pg e w':=⟨h.free.keep hk,h.nz,h.row.keep hk id,aN h.own hk (fun _ _ h=>h),h.lim⟩
structure LyW (w0:World) (b z Z pg:Nat) (P:aF) (k:Nat) (e:LyE) (w:World):Prop where
 box:LyB w0 b z Z pg e w
 lay:gH (cM P) [] P.Q3=gH e.S e.out (P.Q3.drop k)
 len:e.out.length=k
theorem LyB.bump{z Z pg:Nat}{e:LyE}{d:SlE}{S':PS}(h:LyB w0 b z Z pg e w)(hk:aD (fun g=>g=b) w w')(l:b≠z)(x:b<Z)(y:dy w0 b S' d w')(u:d=e.f∨∀g o,d.A=some ⟨g,o,none⟩→0<d.n→w.heap.size≤g):LyB w0 b z Z pg { e with f:=d,S:=S' } w':=by
 refine⟨y,fun g o v j=>?_,h.row.keep hk fun e=>l e.symm,aN h.own hk fun k q e=>?_,h.lim⟩
 ·rcases u with rfl|u
  ·exact h.nz g o v j
  ·have B:=u g o v j
   have:=h.row.lt;refine⟨χ,fun e=>?_⟩;have:=(h.own.lt g e).2;omega
 ·have:=h.own.lt k q
  omega
def ryD(r:Nat)(ok:Bool)(al:Nat):Sta where
 i j:=match j with|0=>r|_=>al
 b _:=ok
def Ef:List (FuncId×List SV×SV):=[(55,[.ag (pY 56)],.one (.i .u64 (.x 81)))]
def G7:List (FuncId×List SV×SV):=[(51,[.one (.i .u64 (.x 57)),.one (.i .u64 (.x 81)),.one (.p 2 0)],.tu [.i .u64 (.x 80),.b (.x 80)])]
def lyJ:Fr:=[(10,.one (.i .i64 (.x 48))),(12,.one (.i .u64 (.x 80))),(13,.one (.b (.x 80)))]
def lyT(b z g:Nat):Prop:=g=b∨g=z
def lyF:Fr:=[(11,.one (.p 5 0)),(10,.one (.i .i64 (.x 48))),(12,.one (.i .u64 (.x 58))),(13,.one (.b (.c true))),(42,.one (.b (.not (.x 56))))]
theorem CI{B:Nat}{w:World}{v:aY}{P:aF}(h:ax B w v P)(hB:B≤w.heap.size){ok:Bool}{pg:Nat}
 (fy:∀w',Kz w w'→Calls Tryz.prog 10 #[.agg (v.cells P).toArray] w' fun e be=>(∃a x:Int,e=.returned (.tuple #[.int .i64 a,.int .i64 x])∧(x=0↔ok=true))∧Kz w' be)
 (f6:∀w',Kz w w'→Calls Tryz.prog 23 #[.agg (v.cells P).toArray] w' fun e be=>e=.returned (.int .i64 pg)∧Kz w' be)(D:ok=true→Cp P)(ed:ok=true→pg≤1073741824):
 Calls Tryz.prog 16 #[.agg (v.cells P).toArray] w (Cq w P ok pg):=by
 obtain⟨R,hR⟩:∃R:Ending→World→Prop,R=Cq w P ok pg:=⟨_,rfl⟩;rw[←hR];have hc:P.Q3.length≤2097152:=by obtain⟨_,_,_,_,hl,_⟩:=h.Q3;exact hl
 refine fnE (cU v P) (fun _=>(0,0)) [.ag av] Tryz.func16 Tryz.ntmps16 rfl (by rw[List.map_cons,cX h (Agr.refl _ _)];rfl) ψ H0 (fun _ h=>h.elim) trivial fun a hd hh=>?_
 refine jK (CL:={}) (fun _=>true) [(1,.one (.p 0 0)),(2,.one (.p 1 0)),(3,.one (.i .i64 (.c 0))),(4,.one (.i .i64 (.c 0)))] [(0,av),(1,zL)] 2 [] δ hh eU fun W a1 w1 n1 p1=>?_
 obtain⟨x1,x2,x3⟩:=p1.new.row n1.mem (r:=1) rfl ψ ψ;refine uT 1 10 [.ag av] (.tu [.i .i64 (.x 24),.i .i64 (.x 25)]) 24 (fun d _=>∃a x,d=tw a x∧(x=0↔ok=true)) (fun _=>true) [(1,.one (.p 0 0)),(2,.one (.p 1 0)),(6,.one (.i .i64 (.x 25)))] [(0,av),(1,zL)] 2 δ n1 (fun w' bb=>?_) fun κ2 a2 w2 d wt ⟨xa,xe,f0,eq⟩ kt n2 p2=>?_
 ·rw[List.map_cons,cX h (Agr.refl _ _)]
  exact(fy w' (p1.keep.trans bb fun _ _ h=>h)).mono fun e be ⟨⟨a,x,e1,e2⟩,e3⟩=>⟨_,⟨a,x,rfl,e2⟩,e1,e3⟩
 subst f0
 cases hok:ok with
 | false =>
  subst hok;have f5:xe≠0:=fun e=>by have:=eq.1 e;cases this
  refine bQ 1 (fun _=>true) [(2,.one (.p 1 0)),(22,.one (.b (.cmp .neq (.x 25) (.c 0))))] [(1,zL)] 2 [] hPp δ n2 fun κ3 a3 Q n3 p3=>?_
  refine cD true n3 rfl (show(xe !=0)=true by simpa using f5) ?_;have xz:=(x1.keep p2.keep (fun h=>h)).keep p3.keep (fun h=>h);have es:κ3 1=W 1:=(p3.upto 1 ψ).trans (p2.upto 1 ψ);refine nv (CL:={}) 1 1 [] (fun _=>true) [(2,.one (.p 1 0)),(3,.one (.i .i64 (.c (-1)))),(4,.one (.i .i64 (.c 1)))] [(1,zL)] 2 [] δ n3 eU (fun _=>by rw[es];exact xz.some) (fun _ h=>by cases h) (fun _ _ _ _ _ _ _=>trivial) fun κ4 a4 w4 n4 u4 k4 g4 _ _=>km ?_
  refine r7 (t:=2) (r:=1) (E:=56) (v := .ag zL) rfl n4.has rfl δ rfl rfl n4.mem.f (g4.defers.trans (p3.agree.defers.trans (p2.agree.defers.trans (p1.agree.defers.trans hd)))) ?_;rw[hR];refine⟨rfl,?_⟩;exact aV ((p1.keep.trans p2.keep fun _ _ h=>h).trans p3.keep fun _ _ h=>h) k4 fun g D=>by
   rcases D with D|D
   ·exact D.elim
   ·rw[D,u4 1 ψ,es];exact x3
 | true =>
  subst hok;have hz:xe=0:=eq.2 rfl;refine bQ 1 (fun _=>true) [(1,.one (.p 0 0)),(2,.one (.p 1 0)),(22,.one (.b (.cmp .neq (.x 25) (.c 0))))] [(0,av),(1,zL)] 2 [] hPp δ n2 fun κ3 a3 Q n3 p3=>?_
  refine cD false n3 rfl (show(xe !=0)=false by simp[hz]) (fQ ?_);have D:=D rfl;have ed:=ed rfl;have ca:Kz w Q:=(p1.keep.trans p2.keep fun _ _ h=>h).trans p3.keep fun _ _ h=>h
  refine uT 1 50 [.ag av] (.ag [.sl 32 33 34]) 32 (fun d w4=>∃e:SlE,d=slD e∧∃l,e.n=l.length∧bZ w4 (.slice e.A e.n e.c) l∧(∀q,q<Q.heap.size→aK w4 q (.slice e.A e.n e.c) l)∧dl l∧∀q,aj l q↔cM P q) (fun _=>true) [(1,.one (.p 0 0)),(2,.one (.p 1 0)),(7,.one (.p 2 0))] [(0,av),(1,zL),(2,[.sl 32 33 34])] 3 δ n3 (fun w' bb=>?_) fun κ4 a4 w4 d wf ⟨e0,fz,l0,l1,l2,l3,l4,l5⟩ ex n4 p4=>?_
  ·rw[List.map_cons,cX h (aS _ 24 _)]
   have hk:=K3 ca bb;refine(Ao (ax.kept h hB hk) (by have:=hk.size;omega) D).mono fun e be ⟨u,l,y1,y2,y3,y4,y5,y6⟩=>?_
   obtain⟨A',c',rfl,_⟩:=id y2;exact⟨_,⟨⟨A',l.length,c'⟩,rfl,l,rfl,y2,fun q U=>y3 q (by have:=bb.size;omega),y4,y5⟩,y1,y6⟩
  subst fz;obtain⟨y1,y2,y3⟩:=p4.new.row n4.mem (r:=2) rfl ψ ψ;obtain⟨b,hb⟩:∃b,b=(κ4 2).1:=⟨_,rfl⟩;rw[←hb]at y1 y3;have eu:κ4 2=(b,0):=Prod.ext hb.symm y2;have ez:Kz w w4:=ca.trans p4.keep fun _ _ h=>h
  have n5:=n4.lay 40 (fnD b pg) δ;refine jK (CL:=GA) (fun _=>true) [(1,.one (.p 0 0)),(2,.one (.p 1 0)),(7,.one (.p 2 0)),(8,.one (.v 40))] [(0,av),(1,zL),(2,[.sl 32 33 34])] 3 [] δ n5 ⟨(fun _ h=>by cases h),fun x hx o ho hd a w ha=>by
   obtain rfl:=List.mem_singleton.1 hx;have h7:a.eval (.tmp 7)=.pointer (some ⟨(κ4 2).1,(κ4 2).2+0,none⟩):=ha _ (List.mem_singleton.2 rfl);rw[eu]at h7;rw[sS (f:=51) (t:=7) (lF (op := .makeFunc (.func 51) #[] #[.tmp 7]) rfl ho hd),h7];rfl⟩ fun κ5 a5 w5 n6 p5=>?_
  have n7:=n6.more [] [(23,[.ag av],.one (.i .i64 (.x 40)))] [] hO (fun y hy w' hw=>by
   obtain rfl:=List.mem_singleton.1 hy;rw[List.map_cons,cX h (((aS _ 24 _).trans ((aS _ 32 _).mono (AS ψ))).trans ((aS _ 40 _).mono (AS ψ)))];exact f6 w' ((ez.trans p5.keep fun _ _ h=>h).trans hw fun _ _ h=>h)) (fun i x hx=>by cases hx)
  have gy:∀q∈[0,1,2],(κ5 q).1<w5.heap.size:=fun q U=>by
   rcases List.mem_cons.1 U with rfl|U
   ·exact(n7.mem.get 0 _ rfl).1.1
   rcases List.mem_cons.1 U with rfl|U
   ·exact(n7.mem.get 1 _ rfl).1.1
   obtain rfl:=List.mem_singleton.1 U;exact(n7.mem.get 2 _ rfl).1.1
  refine nv (CL:={}) 4 3 [0,1,2] (fun _=>true) [(1,.one (.p 0 0)),(2,.one (.p 1 0)),(7,.one (.p 2 0)),(8,.one (.v 40)),(9,.one (.p 3 0))] [(0,av),(1,zL),(2,[.sl 32 33 34]),(3,[.l (.slice none 0 0),.i .u64 (.c 0),.i .i64 (.x 40)])] 4 [] δ n7 eU (fun h=>absurd h ψ) (fun q U=>⟨gy q U,fun h=>absurd h ψ⟩) (fun _ _ _ _ _ _ _=>trivial) fun κ6 a6 w6 n8 u6 k6 g6 N6 z6=>?_
  obtain⟨z,hz⟩:∃z,z=(κ6 3).1:=⟨_,rfl⟩;have zn:=N6 3 ψ ψ;rw[←hz]at zn;have af:Kz w5 w6:=aV (aD.refl _ _) k6 fun g D=>by
   rcases D with D|D
   ·exact D.elim
   ·rw[D,←hz];exact zn.1.1
  have gx:Kz w w6:=(ez.trans p5.keep fun _ _ h=>h).trans af fun _ _ h=>h
  refine bQ 1 (fun _=>true) ((33,.one (.i .i64 (.c 0)))::lyR) [(0,av),(1,zL),(2,[.sl 32 33 34]),(3,[.l (.slice none 0 0),.i .u64 (.c 0),.i .i64 (.x 40)])] 4 [] hPp δ n8 fun X a7 w7 n9 p7=>?_
  have d0:X 2=(b,0):=(p7.upto 2 ψ).trans ((u6 2 ψ).trans ((p5.upto 2 ψ).trans eu));have bc:X 3=(z,0):=(p7.upto 3 ψ).trans (Prod.ext hz.symm zn.2.1);have N:X 1=W 1:=(p7.upto 1 ψ).trans ((u6 1 ψ).trans ((p5.upto 1 ψ).trans ((p4.upto 1 ψ).trans ((p3.upto 1 ψ).trans (p2.upto 1 ψ)))));have bs:Kz w w7:=gx.trans p7.keep fun _ _ h=>h
  obtain⟨Z,hZ⟩:∃Z,Z=w7.heap.size:=⟨_,rfl⟩;have ee:w.heap.size≤b:=by have:=ca.size;omega
  have bm:Row w7 b [.slice e0.A e0.n e0.c]:=((y1.keep p5.keep (fun h=>h)).keep af (fun h=>h)).keep p7.keep (fun h=>h);have g5:Row w6 z [.slice none 0 0,.int .u64 0,.int .i64 pg]:=by
   have:=n8.mem.row (r:=3) rfl zn.2.1 z6;rw[←hz]at this;exact this
  have cv:=g5.keep p7.keep (fun h=>h);have bt:∀q,q<2→(X q).1<Q.heap.size:=fun q U=>by
   have e7:X q=κ3 q:=(p7.upto q (by show q<4;omega)).trans ((u6 q (by show q<3;omega)).trans ((p5.upto q (by show q<3;omega)).trans (p4.upto q U)));rw[e7]
   match q,U with
   | 0,_=>exact(n3.mem.get 0 _ rfl).1.1
   | 1,_=>exact(n3.mem.get 1 _ rfl).1.1
  have hs:Q.heap.size≤b∧b<z:=by
   refine⟨y3,?_⟩;have h1:=y1.lt;have h2:=p5.keep.size;have:=zn.1.1;omega
  have ey:Kz wf w7:=((ex.trans p5.keep fun _ _ h=>h).trans af fun _ _ h=>h).trans p7.keep fun _ _ h=>h
  have B0:LyB Q b z Z pg ⟨e0,cM P,[],none,0⟩ w7:=by
   refine⟨⟨bm,l0,l1,l2.keep ey,fun q U=>aK.keep (l3 q U) (ey.mono fun _ _ h=>h.elim),l4,l5⟩,fun g o D hn=>?_,cv,World.ownsRow_nil _ _ _ _,fun x hx=>by cases hx⟩;obtain⟨A,c,e1,_,_,e2⟩:=l2;have hn:0<e0.n:=hn;obtain⟨g',e3,e4,_⟩:=e2 χ;have D:e0.A=some ⟨g,o,none⟩:=D;rw[D,e3]at e1;have e6:g=g':=by
    have:=congrArg (fun v=>match v with|Value.slice (some x) _ _=>x.block|_=>0) e1;exact this
   have h1:=ex.size;have h2:=p5.keep.size;have:=zn.1.1;exact⟨χ,fun e=>by cases e⟩
  have d1:=n9.mute (Gh.of (lyT b z) (fun _=>True) (fun _ _ _ _=>trivial)) [(0,av),(1,zL)] [] δ (fun r l hl e=>by
   have hr:r<2:=by
    rw[cL]at hl;split at hl
    ·omega
    ·rw[cL]at hl
     split at hl
     ·omega
     ·cases hl
   have:=bt r hr
   rcases(show(X r).1=b∨(X r).1=z from e)with e|e<;>omega) (fun g D=>by
   rcases D with rfl|rfl
   ·exact bm.lt
   ·exact cv.lt) trivial
  refine bO (pn d1 P.Q3.length 48 33 2 lyR (fun _=>true) lyD (fun k e w=>LyW Q b z Z pg P k e w) (fun _ _ _ _ hk h=>⟨h.box.keep hk,h.lay,h.len⟩) ⟨e0,cM P,[],none,0⟩ hPp δ rfl χ ⟨B0,rfl,rfl⟩ (d1.has.re ⟨rfl,rfl,rfl,rfl,rfl,rfl,rfl,rfl,trivial⟩) (fun k e a8 w8 hk cb hA hK=>?_) fun e a8 w8 cb hA hK=>?_)
  ·obtain⟨x,hx⟩:=ge hk
   obtain⟨Y,bp,cj⟩:=(show LyW Q b z Z pg P k e w8 from cb.gh);have aa:aD (lyT b z) w7 w8:=hK;have b0:∀g,lyT b z g→w.heap.size≤g:=fun g D=>by
    have:=ca.size
    rcases D with rfl|rfl<;>omega
   have fs:Kz w w8:=aV bs aa b0;obtain⟨g,o,h1,h2,h3⟩:=dm h.Q3 (aJ _ _ _) hB fs hx;have ht:g<w.heap.size:=by
    obtain⟨g',o',ea,fr,_⟩:=dm h.Q3 (aJ _ _ _) hB (aD.refl (fun _=>False) w) hx;rw[h1]at ea
    cases ea
    exact fr
   obtain⟨κ9,u9,d2⟩:=cb.elem (j:=2) (x:=lj x) (cl:=pY 56) h1 ⟨h2,fun e=>by have:=b0 g e;omega⟩ hk h3.1 rfl δ;refine am (bQ 3 (fun _=>true) (lyF++fx 48 33 lyR) [(1,zL),(5,pY 56)] 6 [] hPp δ d2 fun H c8 L an cf=>?_);have eg:=h3.2;have go:=D.reg x (List.mem_of_getElem? hx);have ds:∀r,r<4→H r=X r:=fun r hr=>(cf.upto r (by show r<5;omega)).trans (u9 r hr)
   have B10:LyB Q b z Z pg e L:=(show LyW Q b z Z pg P k e L from an.gh).box;have fv:b<Z:=by rw[hZ];exact bm.lt
   have b1:P.Q3.drop k=x::P.Q3.drop (k+1):=by
    obtain⟨f3,f4⟩:=List.getElem?_eq_some_iff.1 hx;rw[List.drop_eq_getElem_cons f3,f4]
   have d4:c8.defers=[]:=cf.agree.defers.trans (hA.defers.trans (p7.agree.defers.trans (g6.defers.trans (p5.agree.defers.trans (p4.agree.defers.trans (p3.agree.defers.trans (p2.agree.defers.trans (p1.agree.defers.trans hd))))))));obtain⟨J,hJ⟩:∃J:Act→World→Prop,J=fun a' w'=>∃(κ':Kap) (e':LyE) (r:Nat) (cu:Bool) (al:Nat),ce 4 X κ'∧e'.out=e.out∧Has ((((cU v P).put 24 (tw xa xe)).put 32 (slD e0) |>.put 40 (fnD b pg) |>.put 48 ((lyD e').cnt k)).put 80 (ryD r cu al)) κ' 78 (lyJ++fx 48 33 lyR) a'∧LyB Q b z Z pg e' w' ∧
    (match cu with|true=>r<lim∧∀t,gH e.S e.out (x::t)=gH e'.S (e.out++[r]) t|false=>∀t,gH e.S e.out (x::t)=.inl e.out.length)∧a'.defers=[]∧aD (lyT b z) w7 w':=⟨_,rfl⟩
   refine Cc 1 J ?_ fun c9 V hj=>?_
   ·cases hfx:x.fixed with
    | true =>
     refine cD false an rfl (show(!x.fixed)=false by rw[hfx];rfl) (fQ ?_);refine⟨rfl,?_⟩;rw[hJ];refine⟨H,e,x.Q7,true,0,ds,rfl,?_,B10,⟨eg.2.2.1,fun t=>by rw[gH,if_pos hfx]⟩,d4,aa.trans (show aD (lyT b z) w8 L from cf.keep) fun _ _ h=>h⟩;exact an.has.re ⟨rfl,rfl,rfl,rfl,rfl,rfl,rfl,rfl,rfl,rfl,rfl,trivial⟩
    | false =>
     refine cD true an rfl (show(!x.fixed)=true by rw[hfx];rfl) ?_;obtain⟨o,ho⟩:∃o,o=fit e.S x.size (dP x.big):=⟨_,rfl⟩;have gf:dP x.big=4096∨dP x.big=2097152:=by unfold dP;cases x.big<;>simp
     obtain⟨S',di⟩:∃S':PS,S'=o.elim e.S fun p=>off e.S p x.size:=⟨_,rfl⟩
     have c4:H 2=(b,0):=(ds 2 ψ).trans d0;have a0:=((an.lay 80 (ryD (o.getD 0) o.isSome (dP x.big)) δ).setH (Gh.two (lyT b z) (fun w=>LyB Q b z Z pg e w) (fun w=>∃f',LyB Q b z Z pg { e with f:=f',S:=S' } w) (fun _ _ hk h=>h.keep hk) (fun _ _ hk ⟨f',h⟩=>⟨f',h.keep hk⟩)) (fun _=>Iff.rfl) [] B10).more [] Ef [] hO (fun y hy w' hw=>by
      obtain rfl:=List.mem_singleton.1 hy;exact yv x w') (fun i x hx=>by cases hx)
     refine EQ (C:={ CT:=Ef,ET:=G7 }) (CL:={ CL:=[(40,51,[.one (.p 2 0)])] }) 49 0 (fun _=>true) (lyJ++fx 48 33 lyR) [(1,zL)] 6 hPp δ a0 ⟨fun y hy=>by
      obtain rfl:=List.mem_singleton.1 hy;show Value.func (.func 51) #[] #[.pointer (some ⟨b,0,none⟩)]=.func (.func 51) #[] #[.pointer (some ⟨(H 2).1,(H 2).2+0,none⟩)];rw[c4],fun _ h=>by cases h⟩ (fun y hy w' hw D=>?_) fun c9 V bd e9=>?_
     ·obtain rfl:=Option.some.inj hy
      have D:LyB Q b z Z pg e w':=D;have:=sk D.free (by
       have:=aa.size;have:=hw.size;have:=(show aD (lyT b z) w8 L from cf.keep).size;have:=bs.size;have:Q.heap.size≤w7.heap.size:=(((p4.keep.trans p5.keep fun _ _ h=>h).trans af fun _ _ h=>h).trans p7.keep fun _ _ h=>h).size;omega) eg.2.1 go.1 gf
      rw[←ho]at this;show Calls Tryz.prog 51 #[.int .u64 x.size,.int .u64 (dP x.big),.pointer (some ⟨(H 2).1,(H 2).2+0,none⟩)] w' _;rw[c4];refine this.mono fun en be ⟨q1,q2,f',q3,q4⟩=>⟨q1,q2.mono fun g _ h =>.inl h,f',D.bump q2 χ fv ?_ q4⟩
      rw[di];clear di this a0 ho
      revert q3
      cases o<;>exact id
     ·refine⟨rfl,?_⟩
      rw[hJ];obtain⟨f',f2⟩:=(show ∃f',LyB Q b z Z pg { e with f:=f',S:=S' } V from bd.gh);refine⟨H,{ e with f:=f',S:=S' },o.getD 0,o.isSome,dP x.big,ds,rfl,?_,f2,?_,e9.agree.defers.trans d4,(aa.trans (show aD (lyT b z) w8 L from cf.keep) fun _ _ h=>h).trans (show aD (lyT b z) L V from e9.keep) fun _ _ h=>h⟩
      ·exact bd.has.re ⟨rfl,rfl,rfl,rfl,rfl,rfl,rfl,rfl,rfl,rfl,rfl,trivial⟩
      ·cases hoo:o with
       | none =>
        subst hoo;intro t;rw[gH,if_neg (by rw[hfx];simp),←ho]
       | some p =>
        subst hoo;refine⟨?_,fun t=>?_⟩
        ·obtain⟨q1,⟨q2,q3⟩,_⟩:=jX.1 ho.symm
         obtain⟨_,l9,_,_,_,s5,s6⟩:=B10.free;obtain⟨s,f9,h0,h4⟩:=(s6 p).2 (q3 p (Nat.le_refl _) χ);have:=(s5.QV s f9).2.2;show p<lim;unfold lim;omega
        ·rw[gH,if_neg (by rw[hfx];simp),←ho,di]
         rfl
   ·rw[hJ]at hj
    obtain⟨bw,e',r,cu,al,fd,b3,fl,B11,cm,d7,b5⟩:=hj;have I:bw 1=W 1:=(fd 1 ψ).trans N;have ac:¬ lyT b z (W 1).1:=fun D=>by
     have h1:=bt 1 ψ;rw[N]at h1
     rcases D with D|D<;>omega
    have rz:Row V (bw 1).1 [.slice none 0 0,.int .u64 0,.int .i64 0]:=by
     rw[I];have:Kz w1 w7:=((((((p2.keep.trans p3.keep fun _ _ h=>h).trans p4.keep fun _ _ h=>h).trans p5.keep fun _ _ h=>h).trans af fun _ _ h=>h).trans p7.keep fun _ _ h=>h));exact(x1.keep this (fun h=>h)).keep b5 ac
    have cc:=(fl.now (P:=Tryz.prog) 6 V).row 1 zL (by rw[I];exact x2) rz
    cases hok:cu with
    | false =>
     subst hok;refine bQ 1 (fun _=>true) ((53,.one (.b (.not (.x 80))))::(lyJ++fx 48 33 lyR)) [(1,zL)] 6 [] hPp δ cc fun bx d3 cx cd O=>?_
     refine cD true cd rfl rfl ?_;have bf:bx 1=W 1:=(O.upto 1 ψ).trans I;refine nv (CL:={}) 2 1 [] (fun _=>true) [(2,.one (.p 1 0)),(3,.one (.i .i64 (.x 48))),(4,.one (.i .i64 (.c 110)))] [(1,zL)] 6 [] δ cd eU (fun _=>by rw[bf,←I];exact(rz.keep O.keep (fun h=>h)).some) (fun _ h=>by cases h) (fun _ _ _ _ _ _ _=>trivial) fun ie hm h6 cs g8 gu fp _ _=>km (bY (bi ?_))
     refine r7 (t:=2) (r:=1) (E:=56) (v := .ag zL) rfl cs.has rfl δ rfl rfl cs.mem.f (fp.defers.trans (O.agree.defers.trans d7)) ?_;rw[hR];have b2:dU P pg=(none,(k:Int),110):=by
      unfold dU;rw[bp,b1,cm,cj]
     refine⟨?_,?_⟩
     ·rw[b2]
      rfl
     ·refine aV (aV (aV bs b5 b0) O.keep fun _ h=>h.elim) gu fun g D=>?_
      rcases D with D|D
      ·exact D.elim
      ·rw[D,g8 1 ψ,bf];exact x3
    | true =>
     subst hok;obtain⟨f7,cm⟩:=cm;refine bQ 1 (fun _=>true) ((53,.one (.b (.not (.x 80))))::(lyJ++fx 48 33 lyR)) [(1,zL)] 6 [] hPp δ cc fun bx d3 cx cd O=>?_
     refine cD false cd rfl rfl (fQ ?_);have B12:=B11.keep O.keep;have cp:∀q,q<4→bx q=X q:=fun q U=>(O.upto q (by show q<6;omega)).trans (fd q U)
     have cs:=(((cd.sub (F':=lyJ++fx 48 33 lyR) δ).lay 88 { o:=fun _ =>.slice e'.oA e'.out.length e'.oC } δ).row 3 [.v 88,.i .u64 (.c 0),.i .i64 (.x 40)] (by rw[cp 3 ψ,bc]) (by rw[cp 3 ψ,bc];exact B12.row));have gr:z<Z:=by rw[hZ];exact cv.lt
     have hv:e'.out.length≤2097152:=by rw[b3,cj];omega
     refine EU (z:=Z) (n:=e'.out.length) (size:=1) (bytes:=8) (e:=41) (v := .slice e'.oA e'.out.length e'.oC) (zb:=z) (us:=[.int .u64 0,.int .i64 pg]) (xs:=e'.out.map fun(x:Nat)=>Value.int .u64 x) (ys:=[.int .u64 r]) 3 54 88 (.one (.i .u64 (.x 80))) 96 3 (fx 48 33 lyR) δ cs ⟨δ,δ,ψ,ψ⟩ rfl B12.own (by rw[hZ];have:=b5.size;have:=O.keep.size;omega) rfl rfl (fun u hu=>by obtain rfl:=List.mem_singleton.1 hu;rfl) (by unfold maxLen;omega) χ ((cp 3 ψ).trans bc) B12.row (fun e=>by have:=(B12.own.lt z e).1;omega) fun v' hp fe e8 g3 er ff d9 fk=>ch rfl ?_
     obtain⟨g',bz,gl,_⟩:=e8.form χ;subst gl;have gn:Z≤cx.heap.size:=by rw[hZ];have:=b5.size;have:=O.keep.size;omega
     have c3:(e.out++[r]).length=e'.out.length+1:=by rw[b3];simp
     refine⟨⟨e'.f,e'.S,e.out++[r],some ⟨g',0,none⟩,bz⟩,bx,⟨⟨B12.free.other er (fun hh=>?_) (fun g o D hn hh=>?_),fun g o D hn=>⟨(B12.nz g o D hn).1,fun eo=>?_⟩,?_,?_,fun y hy=>?_⟩,?_,?_⟩,cp,d9.re ⟨rfl,rfl,rfl,rfl,rfl,rfl,rfl,rfl,trivial⟩,⟨d9.size.trans d1.has.size.symm,?_,fun _ h=>by cases h⟩,?_⟩
     ·rcases hh with hh|hh
      ·have:=(B12.own.lt b hh).1;omega
      ·omega
     ·obtain⟨m1,m2⟩:=B12.nz g o D hn
      rcases hh with hh|hh
      ·exact m2 hh
      ·exact m1 hh
     ·rcases ff g eo with hh|hh
      ·exact(B12.nz g o D hn).2 hh
      ·have:=B12.free.lt g o D hn
       omega
     ·show Row fe z [.slice (some ⟨g',0,none⟩) (e.out++[r]).length bz,.int .u64 0,.int .i64 pg]
      rw[c3];exact g3
     ·show fe.ownsRow Z 41 1 (.slice (some ⟨g',0,none⟩) (e.out++[r]).length bz) (e.out++[r]).length ((e.out++[r]).map fun(x:Nat)=>Value.int .u64 x)
      rw[c3,List.map_append,←b3];exact e8
     ·rcases List.mem_append.1 hy with hy|hy
      ·exact Y.lim y hy
      ·obtain rfl:=List.mem_singleton.1 hy;exact f7
     ·rw[bp,b1,cm]
     ·show(e.out++[r]).length=k+1
      rw[List.length_append,cj];rfl
     ·exact(fk.trans (O.agree.defers.trans d7)).trans (p7.agree.defers.trans (g6.defers.trans (p5.agree.defers.trans (p4.agree.defers.trans (p3.agree.defers.trans (p2.agree.defers.trans (p1.agree.defers.trans hd))))))).symm
     ·exact(b5.trans (K_T O.keep) fun _ _ h=>h).trans er fun g D hh=>by
       rcases hh with hh|hh
       ·have:=(B12.own.lt g hh).1;omega
       ·exact .inr hh
  ·obtain⟨Y,bp,cj⟩:=(show LyW Q b z Z pg P P.Q3.length e w8 from cb.gh)
   rw[List.drop_length,gH]at bp;have aa:aD (lyT b z) w7 w8:=hK;have b0:∀g,lyT b z g→w.heap.size≤g:=fun g D=>by
    have:=ca.size
    rcases D with rfl|rfl<;>omega
   have gr:z<Z:=by rw[hZ];exact cv.lt
   have ac:¬ lyT b z (W 1).1:=fun D=>by
    have h1:=bt 1 ψ;rw[N]at h1
    rcases D with D|D<;>omega
   have rz:Row w8 (X 1).1 [.slice none 0 0,.int .u64 0,.int .i64 0]:=by
    rw[N];have:Kz w1 w7:=((((((p2.keep.trans p3.keep fun _ _ h=>h).trans p4.keep fun _ _ h=>h).trans p5.keep fun _ _ h=>h).trans af fun _ _ h=>h).trans p7.keep fun _ _ h=>h));exact(x1.keep this (fun h=>h)).keep aa ac
   have d8:a8.defers=[]:=hA.defers.trans (p7.agree.defers.trans (g6.defers.trans (p5.agree.defers.trans (p4.agree.defers.trans (p3.agree.defers.trans (p2.agree.defers.trans (p1.agree.defers.trans hd)))))));have d2:=((cb.has.now (P:=Tryz.prog) 4 w8).row 1 zL (by rw[N];exact x2) rz).row 3 [.sl 49 51 52,.i .u64 (.c 0),.i .i64 (.x 40)] (by rw[bc]) (by rw[bc];exact Y.row);obtain⟨o,ho⟩:∃o,o=fit e.S (pg*4096) 4096:=⟨_,rfl⟩;have he:Q.heap.size≤w8.heap.size:=by
    have:=aa.size;have:Q.heap.size≤w7.heap.size:=(((p4.keep.trans p5.keep fun _ _ h=>h).trans af fun _ _ h=>h).trans p7.keep fun _ _ h=>h).size;omega
   refine EN (T2:=fun g=>g=b) 5 40 2 51 [.one (.i .u64 (.bin .mul .u64 (.cv .u64 (.x 40)) (.c 4096))),.one (.i .u64 (.c 4096))] [.one (.p 2 0)] (.tu [.i .u64 (.x 80),.b (.x 80)]) 80 (fun d _=>d=ryD (o.getD 0) o.isSome 0) (fun _=>true) [(2,.one (.p 1 0)),(9,.one (.p 3 0)),(14,.one (.i .u64 (.x 80))),(15,.one (.b (.x 80)))] [(1,zL),(3,[.sl 49 51 52,.i .u64 (.c 0),.i .i64 (.x 40)])] 4 δ d2 (fun r hr=>?_) (fun g D=>by rw[show g=b from D];exact Y.free.1.lt) ?_ (fun w' bb=>?_) fun κ9 a9 w9 d h8 f1 h5 an u9 k9 g9=>?_
   ·have l0:=bt 0 ψ
    have l1:=bt 1 ψ
    match r,hr with
    | 0,_=>exact .inr fun e=>by have e:(X 0).1=b:=e;omega
    | 1,_=>exact .inr fun e=>by have e:(X 1).1=b:=e;omega
    | 2,_=>exact .inl rfl
    | 3,_=>exact .inr fun e=>by have e:(X 3).1=b:=e;rw[bc]at e;have e:z=b:=e;omega
   ·show Value.func (.func 51) #[] #[.pointer (some ⟨b,0,none⟩)]=.func (.func 51) #[] #[.pointer (some ⟨(X 2).1,(X 2).2+0,none⟩)]
    rw[d0]
   ·show Calls Tryz.prog 51 #[.int .u64 (IntKind.u64.wrap (IntKind.u64.wrap (pg:Int)*4096)),.int .u64 4096,.pointer (some ⟨(X 2).1,(X 2).2+0,none⟩)] w' _
    rw[d0,dE (x:=(pg:Int)) χ,dE χ,show((pg:Int)*4096)=((pg*4096:Nat):Int) by omega];have:=sk (Y.free.keep bb) (by have:=bb.size;omega) (size:=pg*4096) (al:=4096) (by unfold lim;omega) χ (.inl rfl);rw[←ho]at this;exact this.mono fun en be ⟨q1,q2,_⟩=>⟨_,rfl,q1,q2⟩
   subst f1;have ew:κ9 1=W 1:=(u9 1 ψ).trans N;have gw:κ9 3=(z,0):=(u9 3 ψ).trans bc;have eb:Kz w w8:=aV bs aa b0;have cy:Kz w w9:=aV eb k9 fun g D=>by rw[show g=b from D];exact ee
   cases hoo:o with
   | none =>
    subst hoo;refine bQ 1 (fun _=>true) [(73,.one (.b (.not (.x 80)))),(2,.one (.p 1 0))] [(1,zL)] 4 [] hPp δ an fun H c8 L a0 K=>?_
    refine cD true a0 rfl rfl ?_;have ad:H 1=W 1:=(K.upto 1 ψ).trans ew;have bo:Row L (H 1).1 [.slice none 0 0,.int .u64 0,.int .i64 0]:=by
     rw[ad,←N];exact(rz.keep k9 (fun e=>ac (.inl (by rw[←N];exact e)))).keep K.keep (fun h=>h)
    refine nv (CL:={}) 1 1 [] (fun _=>true) [(2,.one (.p 1 0)),(3,.one (.i .i64 (.c (-1)))),(4,.one (.i .i64 (.c 110)))] [(1,zL)] 4 [] δ a0 eU (fun _=>bo.some) (fun _ h=>by cases h) (fun _ _ _ _ _ _ _=>trivial) fun bw c9 V bd cw dt dc _ _=>km ?_
    refine r7 (t:=2) (r:=1) (E:=56) (v := .ag zL) rfl bd.has rfl δ rfl rfl bd.mem.f (dc.defers.trans (K.agree.defers.trans (g9.defers.trans d8))) ?_;rw[hR];have b2:dU P pg=(none, -1,110):=by
     unfold dU;rw[bp];simp only;rw[←ho]
    refine⟨?_,?_⟩
    ·rw[b2];rfl
    ·refine aV (aV cy K.keep fun _ h=>h.elim) dt fun g D=>?_
     rcases D with D|D
     ·exact D.elim
     ·rw[D,cw 1 ψ,ad];exact x3
   | some p =>
    subst hoo;refine bQ 1 (fun _=>true) [(73,.one (.b (.not (.x 80)))),(2,.one (.p 1 0)),(9,.one (.p 3 0)),(14,.one (.i .u64 (.x 80)))] [(1,zL),(3,[.sl 49 51 52,.i .u64 (.c 0),.i .i64 (.x 40)])] 4 [] hPp δ an fun H c8 L a0 K=>?_
    refine cD false a0 rfl rfl (fQ ?_);have ad:H 1=W 1:=(K.upto 1 ψ).trans ew;have b4:H 3=(z,0):=(K.upto 3 ψ).trans gw;have hf:(W 1).1<Q.heap.size:=by rw[←N];exact bt 1 ψ
    have bo:Row L (W 1).1 [.slice none 0 0,.int .u64 0,.int .i64 0]:=by
     have:=(rz.keep k9 (fun e=>ac (.inl (by rw[←N];exact e)))).keep K.keep (fun h=>h)
     rwa[N]at this
    have c7:Row L z [.slice e.oA e.out.length e.oC,.int .u64 0,.int .i64 pg]:=(Y.row.keep k9 (fun h=>by have h:z=b:=h;omega)).keep K.keep (fun h=>h);refine nv (CL:={}) 2 3 [1] (fun _=>true) [(2,.one (.p 1 0)),(9,.one (.p 3 0))] [(1,zL),(3,[.sl 49 51 52,.i .u64 (.x 80),.i .i64 (.x 40)])] 4 [] δ a0 eU (fun _=>by rw[b4];exact c7.some) (fun q U=>by
     obtain rfl:=List.mem_singleton.1 U;rw[ad,b4];exact⟨bo.lt,fun _ e=>by have e:(W 1).1=z:=e;omega⟩) (fun _ _ _ _ _ _ _=>trivial) fun bw c9 V bd cw dt dc _ h9=>?_
    have I:bw 1=W 1:=(cw 1 ψ).trans ad;have c5:bw 3=(z,0):=(cw 3 ψ).trans b4;have bl:aD (fun g=>g=z) L V:=dt.mono fun g _ D=>by
     rcases D with D|D
     ·exact D.elim
     ·rw[c5]at D;exact D
    have fc:=bo.keep bl (fun h=>by have h:(W 1).1=z:=h;omega);refine nv (CL:={}) 1 1 [3] (fun _=>true) [(2,.one (.p 1 0)),(3,.one (.i .i64 (.c (-1)))),(4,.one (.i .i64 (.c 0)))] [(1,[.sl 49 51 52,.i .u64 (.x 80),.i .i64 (.x 40)])] 4 [] δ bd eU (fun _=>by rw[I];exact fc.some) (fun q U=>by
     obtain rfl:=List.mem_singleton.1 U;rw[I,c5];refine⟨?_,fun _ e=>by have e:z=(W 1).1:=e;omega⟩;have:=c7.lt;have:=bl.size;show z<_;omega) (fun _ _ _ _ _ _ _=>trivial) fun bx d3 cx cc g7 gs fm _ _=>km ?_
    have bf:bx 1=W 1:=(g7 1 ψ).trans I;refine r7 (t:=2) (r:=1) (E:=56) (v := .ag [.sl 49 51 52,.i .u64 (.x 80),.i .i64 (.x 40)]) rfl cc.has rfl δ rfl rfl cc.mem.f (fm.defers.trans (dc.defers.trans (K.agree.defers.trans (g9.defers.trans d8)))) ?_;rw[hR];have b2:dU P pg=(some ⟨e.out,p,pg⟩, -1,0):=by
     unfold dU;rw[bp];simp only;rw[←ho]
    have c6:aD (fun g=>g=(W 1).1) V cx:=gs.mono fun g _ D=>by
     rcases D with D|D
     ·exact D.elim
     ·rw[bf]at D;exact D
    refine⟨?_,?_⟩
    ·rw[b2]
     refine⟨.slice e.oA e.out.length e.oC,rfl,?_,Y.lim⟩;have o8:=Y.own;have dk:∀k,(Value.slice e.oA e.out.length e.oC).ownBlock=some k→Z≤k:=fun k hk=>(o8.lt k hk).1
     have o9:=aN o8 k9 fun k hk h=>by have:=dk k hk;have h:k=b:=h;have:=bm.lt;omega
     have g1:=aN o9 K.keep fun k hk h=>h
     have g2:=aN g1 bl fun k hk h=>by have:=dk k hk;have h:k=z:=h;omega
     have e5:=aN g2 c6 fun k hk h=>by have:=dk k hk;have h:k=(W 1).1:=h;have:=bs.size;have:Q.heap.size≤w7.heap.size:=(((p4.keep.trans p5.keep fun _ _ h=>h).trans af fun _ _ h=>h).trans p7.keep fun _ _ h=>h).size;omega
     refine⟨e5.1,?_⟩
     rcases e5.2 with q|⟨g,bz,fi,q1,q2,q3⟩
     ·exact .inl q
     ·exact .inr ⟨g,bz,fi,q1,by have:=bs.size;omega,q3⟩
    ·refine aV (aV (aV cy K.keep fun _ h=>h.elim) bl fun g D=>?_) c6 fun g D=>by rw[show g=(W 1).1 from D];exact x3
     rw[show g=z from D];omega
